/- solver.search.run, walked. solver.Solve and solver.Looks, walked. -/
import Derived.Test.YteinkjhimceljaaGreatDoorT44
import Derived.ScopeJumps
import Derived.WalkMore
namespace Go.Proofs.YteinkjhimceljaaGreatDoor.J
open Go.RowKit Go.Shelf Go.Proofs.YteinkjhimceljaaGreatDoorW.PrintWords Go.Proofs.YteinkjhimceljaaGreatDoorW.PrintLast Go.Proofs.YteinkjhimceljaaGreatDoorW.PrintMore
set_option linter.unusedVariables false
set_option linter.unusedSimpArgs false
theorem scope_once {P : Program} {a : Act} {w : World} {Q : Exit → Act → World → Prop} {X : Code} (l : Nat) (J : Act → World → Prop) (μ : Act → World → Nat)
 (pass : ∀ a w, J a w → X.wp P (Exit.jump l (fun a' w' => J a' w' ∧ μ a' w' < μ a w) Q) a w) (h0 : J a w) : (Code.scope ((Code.label l).seq X)).wp P Q a w := by
 refine wp_scope_jumps l J μ (rest := Code.skip.seq X) (by simp [findLabel]) ?_ ?_
 · refine wp_seq (wp_label ?_)
   exact wp_mono (pass a w h0) (fun e a' w' hq => by
    cases e with
    | goto l' => exact ⟨hq.1, hq.2.1⟩
    | normal => exact hq
    | exit id => exact hq
    | ret => exact hq
    | panic ch => exact hq
    | outgrown => exact hq)
 · exact fun a w h => wp_seq (wp_skip (pass a w h))
theorem act_f {p : Value} (l : List Value) (hl : l.length = 128) (h0 : l.getD 0 undef = p) : ∃ f : Nat → Value, f 0 = p ∧ ({ tmps := l.toArray, defers := [] } : Act) = { tmps := ((List.range 128).map f).toArray, defers := [] } := by
 refine ⟨fun i => l.getD i undef, h0, ?_⟩
 congr 2
 refine List.ext_getElem (by simp [hl]) (fun i h1 h2 => ?_)
 simp [h1]
structure SInv (d : List Int) (stk : List (Int × Int)) (s : Sv.St) : Prop where
 len : d.length = stk.length
 small : ∀ x ∈ d, -60 ≤ x ∧ x ≤ 60
 frames : ∀ p ∈ stk, -60 ≤ p.1 ∧ p.1 ≤ 60 ∧ (p.2 = 1 ∨ p.2 = 2)
 model : s.model = []
 sat : s.sat = false
 looks : s.looks ≤ 2000
structure SRun (w0 W : World) (g : Nat) (vars : Int) (A : Option Addr) (c : Nat) (cls : List (List Int)) (mode : Bool) (more : Nat) (r : Bool × Sv.St) (d : List Int) (stk : List (Int × Int)) (s : Sv.St) (dv kv mv tv : Value) : Prop where
 st : Sst w0 W g vars A c cls d stk s dv kv mv tv
 inv : SInv d stk s
 sum : s.trace.length + stk.length + more ≤ 2 * s.looks
 goes : ∃ k, Sv.mach vars cls k mode d stk s = some r
def looksAt (g : Nat) (w : World) : Nat := match w.cell? ⟨g, 4, none⟩ with | some (.int _ q) => (3000 - q).toNat | _ => 0
theorem looksAt_of {w0 W : World} {g : Nat} {vars : Int} {A : Option Addr} {c : Nat} {cls : List (List Int)} {d : List Int} {stk : List (Int × Int)} {s : Sv.St} {dv kv mv tv : Value} (h : Sst w0 W g vars A c cls d stk s dv kv mv tv) : looksAt g W = (3000 - (s.looks : Int)).toNat := by
 unfold looksAt
 rw [show W.cell? ⟨g, 4, none⟩ = some (.int .i64 (s.looks : Int)) from (h.fld 4).trans rfl]
theorem eq_nil_or_snoc {α : Type} : ∀ l : List α, l = [] ∨ ∃ l' x, l = l' ++ [x]
 | [] => .inl rfl
 | x :: l => .inr (by
  rcases eq_nil_or_snoc l with e | ⟨l', y, e⟩
  · exact ⟨[], x, by rw [e]; rfl⟩
  · exact ⟨x :: l', y, by rw [e]; rfl⟩)
theorem size_put (w : World) (g j : Nat) (v : Value) : Value.slice (some ⟨w.heap.size, 0, none⟩) 1 1 = Value.slice (some ⟨(w.setCell ⟨g, j, none⟩ v).heap.size, 0, none⟩) 1 1 := by
 rw [show (w.setCell ⟨g, j, none⟩ v).heap.size = w.heap.size from (setCells_same g [v] j w).2.2.2]
theorem free_small {vars : Int} {cls : List (List Int)} (hc : Sp.check vars cls = 0) (d : List Int) : -60 ≤ Uk.free vars cls d ∧ Uk.free vars cls d ≤ 60 := by
 have hv := Sp.check_ok hc
 by_cases h : Uk.free vars cls d = 0
 · omega
 · by_cases hok : (Uk.prop vars cls d).2 = 0
   · have := Uk.free_some (Uk.ok_iff.1 hok) h; omega
   · exfalso; apply h; unfold Uk.free; rw [if_pos hok]
theorem info_frame : (Tryz.prog.info? 105).map (fun i => (i.zero, i.size, i.bytes)) = some (some (.agg #[.int .i64 0, .int .i64 0]), 2, 16) := by kernel_rfl
set_option maxHeartbeats 16000000 in
set_option maxRecDepth 100000 in
theorem srun_any {w0 W : World} {g : Nat} {vars : Int} {A : Option Addr} {c : Nat} {cls : List (List Int)} (hck : Sp.check vars cls = 0) (b : Bool) (s9 : Sv.St) {s : Sv.St} {dv kv mv tv : Value}
 (h : SRun w0 W g vars A c cls false 0 (b, s9) [] [] s dv kv mv tv) :
 Calls Tryz.prog 15 #[.pointer (some ⟨g, 0, none⟩)] W fun e w' => e = .returned (.bool b) ∧ ∃ d' stk' dv' kv' mv' tv', Sst w0 w' g vars A c cls d' stk' s9 dv' kv' mv' tv' := by
 have H := Aside0.mk h
 clear h
 go_enter Tryz.func15, Tryz.ntmps15
 go_wp2
 refine scope_once 0 (fun a' w' => (∃ f : Nat → Value, f 0 = .pointer (some ⟨g, 0, none⟩) ∧ a' = { tmps := ((List.range 128).map f).toArray, defers := [] }) ∧ ∃ d stk s dv kv mv tv, Aside0 (SRun w0 w' g vars A c cls false 0 (b, s9) d stk s dv kv mv tv)) (fun a w => looksAt g w) ?pass ⟨act_f _ rfl rfl, _, _, _, _, _, _, _, H⟩
 case pass =>
  rintro a' w' ⟨⟨f, hf0, rfl⟩, d, stk, s, dv, kv, mv, tv, H⟩
  rw [show ((List.range 128).map f).toArray = #[f 0, f 1, f 2, f 3, f 4, f 5, f 6, f 7, f 8, f 9, f 10, f 11, f 12, f 13, f 14, f 15, f 16, f 17, f 18, f 19, f 20, f 21, f 22, f 23, f 24, f 25, f 26, f 27, f 28, f 29, f 30, f 31, f 32, f 33, f 34, f 35, f 36, f 37, f 38, f 39, f 40, f 41, f 42, f 43, f 44, f 45, f 46, f 47, f 48, f 49, f 50, f 51, f 52, f 53, f 54, f 55, f 56, f 57, f 58, f 59, f 60, f 61, f 62, f 63, f 64, f 65, f 66, f 67, f 68, f 69, f 70, f 71, f 72, f 73, f 74, f 75, f 76, f 77, f 78, f 79, f 80, f 81, f 82, f 83, f 84, f 85, f 86, f 87, f 88, f 89, f 90, f 91, f 92, f 93, f 94, f 95, f 96, f 97, f 98, f 99, f 100, f 101, f 102, f 103, f 104, f 105, f 106, f 107, f 108, f 109, f 110, f 111, f 112, f 113, f 114, f 115, f 116, f 117, f 118, f 119, f 120, f 121, f 122, f 123, f 124, f 125, f 126, f 127] from rfl, hf0]
  have hS := H.out.st
  have i6 := H.out.inv.looks
  have e4 : w'.cell? ⟨g, 4, none⟩ = some (.int .i64 (s.looks : Int)) := (hS.fld 4).trans rfl
  have f4 := blk_frozen hS.hg 4
  have hw : IntKind.i64.wrap ((s.looks : Int) + 1) = (s.looks : Int) + 1 := IntWalk.i64_in _ (by omega)
  have ec : ((s.looks + 1 : Nat) : Int) = (s.looks : Int) + 1 := by omega
  have HT := Aside0.mk (show Sst w0 (w'.setCell ⟨g, 4, none⟩ (.int .i64 ((s.looks : Int) + 1))) g vars A c cls d stk s.tick dv kv mv tv from by have h9 := hS.putL (s.looks + 1); rw [ec] at h9; exact h9)
  have x4 : (w'.setCell ⟨g, 4, none⟩ (.int .i64 ((s.looks : Int) + 1))).cell? ⟨g, 4, none⟩ = some (.int .i64 ((s.looks : Int) + 1)) := (HT.out.fld 4).trans (by show some (Value.int .i64 ((s.looks + 1 : Nat) : Int)) = _; rw [ec])
  have HM := Aside0.mk (looksAt_of hS)
  obtain ⟨Ad, cd, ed⟩ := Kd.R_slice hS.hd
  obtain ⟨Ak, ck, ek⟩ := Kd.R_slice hS.hk
  subst ed
  subst ek
  have isum := H.out.sum
  obtain ⟨k, hk⟩ := H.out.goes
  clear hS
  cases k with
  | zero => exact absurd hk (by simp [Sv.mach])
  | succ k =>
   by_cases hsp : 2000 < s.looks + 1
   · rw [Sv.mach_spent hsp] at hk
     injection hk with hk
     injection hk with hk1 hk2
     subst hk1
     have h2000 : (2000 : Int) < (s.looks : Int) + 1 := by omega
     have HE := Aside0.mk (hk2 ▸ HT.out)
     clear hk2
     go_wp2
     simp only [Exit.jump]
     go_ret
     exact ⟨rfl, _, _, _, _, _, _, HE.out⟩
   · have h2000 : ¬ (2000 : Int) < (s.looks : Int) + 1 := by omega
     rcases hp : Uk.prop vars cls d with ⟨l, pe⟩
     have hl60 := Uk.prop_small vars cls d
     rw [hp] at hl60
     simp only at hl60
     obtain ⟨fr, hfr⟩ : ∃ fr, Uk.free vars cls d = fr := ⟨_, rfl⟩
     have i4 := H.out.inv.model
     have i5 := H.out.inv.sat
     by_cases hpe : pe = 0
     · subst hpe
       by_cases hfull : (l.length : Int) = vars
       · rw [Sv.mach_full hsp (by rw [hp]) (by rw [hp]; exact hfull)] at hk
         injection hk with hk
         injection hk with hk1 hk2
         subst hk1
         rw [hp] at hk2
         have HE := Aside0.mk hk2
         have HKN := Aside0.mk (known_yes HT.out l fr hp hfr hfull (by show s.model.length ≤ 1000; rw [i4]; simp) (by omega))
         clear hk2
         go_wp2_with (go_at_call 39; refine HKN.out.mono ?_; rintro e w2 ⟨rfl, mv2, tv2, hS2⟩; have x5 : w2.cell? ⟨g, 5, none⟩ = some (.bool true) := (hS2.fld 5).trans rfl; have HS2 := Aside0.mk hS2; clear hS2)
         simp only [Exit.jump]
         go_ret
         exact ⟨rfl, _, _, _, _, _, _, by rw [← HE.out]; exact HS2.out⟩
       · rw [Sv.mach_go hsp (by rw [hp]) (by rw [hp]; exact hfull), hfr] at hk
         have hfs := free_small hck d
         rw [hfr] at hfs
         have HKN := Aside0.mk (known_no HT.out l 0 fr hp hfr true rfl (fun _ => hfull))
         obtain ⟨ks, hks⟩ : ∃ ks, ks = stk ++ [(fr, (1 : Int))] := ⟨_, rfl⟩
         obtain ⟨ds, hds⟩ : ∃ ds, ds = d ++ [fr] := ⟨_, rfl⟩
         have HKS := Aside0.mk hks
         have HDS := Aside0.mk hds
         have HK := Aside0.mk hk
         have ILEN := Aside0.mk H.out.inv.len
         clear hks hds hk
         go_wp2_with (first
          | (go_at_call 39; refine HKN.out.mono ?_; rintro e w2 ⟨rfl, hS2⟩; have x5 : w2.cell? ⟨g, 5, none⟩ = some (.bool false) := (hS2.fld 5).trans (by show some (Value.bool s.sat) = _; rw [i5]); have x3 : w2.cell? ⟨g, 3, none⟩ = some (.slice Ak stk.length ck) := (hS2.fld 3).trans rfl; have x3f := blk_frozen hS2.hg 3; have x3a : ∀ o, (w2.alloc o).cell? ⟨g, 3, none⟩ = some (.slice Ak stk.length ck) := fun o => pw_cell_below (below_alloc (Below.refl _ w2) o) x3; have HS2 := Aside0.mk hS2; clear hS2 HKN)
          | (at_builtin; refine Kd.R_append (Kd.pair (Kd.int .i64) (Kd.int .i64)) (w0 := w0) w0.heap.size rfl (.tmp 38) (.tmp 41) 57 105 (.agg #[.int .i64 0, .int .i64 0]) 16 rfl Tryz.underlying57 info_frame rfl (by decide) (by omega) (.slice Ak stk.length ck) stk (fr, 1) [.int .i64 fr, .int .i64 1] (fun k => k ≠ g) (fun _ => False) rfl rfl ?aP (fun _ hk => hk.elim) ?aF ?aO ?aB ?aS ?aL ?_; (case aP => exact ⟨[_], [_], rfl, rfl, rfl⟩); (case aF => exact (fun k hk => by have := HS2.out.lt; omega)); (case aO => exact HS2.out.hk); (case aB => exact HS2.out.hb); (case aS => exact HS2.out.hb.size); (case aL => omega); intro v3 w3 hn3 hb3 hg3 hat3; rw [← HKS.out] at hn3; obtain ⟨A3, c3, ev⟩ := Kd.R_slice hn3; subst ev; have k1 := HS2.out.kept (u := .slice Ak stk.length ck) (fun k hk => HS2.out.hk.1 k hk) hg3; have z1 := blk_frozen k1 3; have z2 : w3.cell? ⟨g, 3, none⟩ = some (.slice Ak stk.length ck) := (blk_cell k1 3).trans rfl; have hS3 := HS2.out.putK hn3 hb3 hg3; have y2 : (w3.setCell ⟨g, 3, none⟩ (.slice A3 ks.length c3)).cell? ⟨g, 2, none⟩ = some (.slice Ad d.length cd) := (hS3.fld 2).trans rfl; have y2f := blk_frozen hS3.hg 2; have y2a : ∀ o, ((w3.setCell ⟨g, 3, none⟩ (.slice A3 ks.length c3)).alloc o).cell? ⟨g, 2, none⟩ = some (.slice Ad d.length cd) := fun o => pw_cell_below (below_alloc (Below.refl _ _) o) y2; have HS3 := Aside0.mk hS3; clear hn3 hb3 hg3 hat3 hS3 k1)
          | (at_builtin; refine Kd.R_append (Kd.int .i64) (w0 := w0) w0.heap.size rfl (.tmp 49) (.tmp 51) 56 3 (.int .i64 0) 8 rfl Tryz.underlying56 info_int rfl (by decide) (by omega) (.slice Ad d.length cd) d fr [.int .i64 fr] (fun k => k ≠ g) (fun _ => False) rfl (size_put w3 g 3 (.slice A3 ks.length c3)) ?aP (fun _ hk => hk.elim) ?aF ?aO ?aB ?aS ?aL ?_; (case aP => exact rfl); (case aF => exact (fun k hk => by have := HS3.out.lt; omega)); (case aO => exact HS3.out.hd); (case aB => exact HS3.out.hb); (case aS => exact HS3.out.hb.size); (case aL => have := ILEN.out; omega); intro v4 w4 hn4 hb4 hg4 hat4; rw [← HDS.out] at hn4; obtain ⟨A4, c4, ev⟩ := Kd.R_slice hn4; subst ev; have k1 := HS3.out.kept (u := .slice Ad d.length cd) (fun k hk => HS3.out.hd.1 k hk) hg4; have z3 := blk_frozen k1 2; have z4 : w4.cell? ⟨g, 2, none⟩ = some (.slice Ad d.length cd) := (blk_cell k1 2).trans rfl; have HS4 := Aside0.mk (HS3.out.putD hn4 hb4 hg4 hat4); clear hn4 hb4 hg4 hat4 k1))
         go_step3
         refine ⟨rfl, ⟨act_f _ rfl rfl, _, _, _, _, _, _, _, ⟨⟨HS4.out, ⟨?_, ?_, ?_, i4, i5, ?_⟩, ?_, ⟨k, by rw [HDS.out, HKS.out]; exact HK.out⟩⟩⟩⟩, ?_⟩
         · rw [HDS.out, HKS.out]; simp [ILEN.out]
         · intro x hx
           rw [HDS.out, List.mem_append, List.mem_singleton] at hx
           rcases hx with hx | hx
           · exact H.out.inv.small x hx
           · omega
         · intro p hp
           rw [HKS.out, List.mem_append, List.mem_singleton] at hp
           rcases hp with hp | hp
           · exact H.out.inv.frames p hp
           · subst hp; exact ⟨by omega, by omega, .inl rfl⟩
         · show s.looks + 1 ≤ 2000; omega
         · rw [HKS.out]
           show s.trace.length + (stk ++ [(fr, (1 : Int))]).length + 0 ≤ 2 * (s.looks + 1)
           rw [List.length_append, List.length_singleton]; omega
         · rw [looksAt_of HS4.out, HM.out]
           show (3000 - ((s.looks + 1 : Nat) : Int)).toNat < _
           omega
     · rw [Sv.mach_clash hsp (by rw [hp]; exact hpe)] at hk
       have HKN := Aside0.mk (known_no HT.out l pe fr hp hfr false (beq_eq_false_iff_ne.2 hpe) (fun h => absurd h hpe))
       have HRX := Aside0.mk (show SInv d stk s.tick from ⟨H.out.inv.len, H.out.inv.small, H.out.inv.frames, i4, i5, by show s.looks + 1 ≤ 2000; omega⟩)
       have HK := Aside0.mk hk
       clear hk
       go_wp2_with (go_at_call 39; refine HKN.out.mono ?_; rintro e w2 ⟨rfl, hS2⟩; have HR2 := Aside0.mk (show SRun w0 w2 g vars A c cls true 1 (b, s9) d stk s.tick _ _ mv tv from ⟨hS2, HRX.out, by show s.trace.length + stk.length + 1 ≤ 2 * (s.looks + 1); omega, k, HK.out⟩); clear hS2 HKN)
       clear HT x4 e4 f4 HRX HK hp hfr
       go_loopg [] stk.length (fun gg wq => ∃ d2 stk2 s2 dv2 kv2 mv2 tv2, stk2.length ≤ gg ∧ s2.looks = s.looks + 1 ∧ Aside0 (SRun w0 wq g vars A c cls true 1 (b, s9) d2 stk2 s2 dv2 kv2 mv2 tv2))
       case atStart => exact ⟨d, stk, s.tick, _, _, _, _, Nat.le_refl _, rfl, HR2⟩
       case round =>
        clear HR2
        obtain ⟨d2, stk2, s2, dv2, kv2, mv2, tv2, hlen, hlk, HR⟩ := hrel
        have HLK := Aside0.mk hlk
        clear hlk
        have HL := Aside0.mk (lay_any HR.out.st (by have := HR.out.inv.len; have := HR.out.sum; have := HR.out.inv.looks; omega) HR.out.inv.small (by have := HR.out.sum; have := HR.out.inv.looks; omega))
        obtain ⟨Ak, ck, ek⟩ := Kd.R_slice HR.out.st.hk
        subst ek
        rcases eq_nil_or_snoc stk2 with e | ⟨stk3, p, e⟩
        · subst e
          obtain ⟨k2, hk2⟩ := HR.out.goes
          cases k2 with
          | zero => exact absurd hk2 (by simp [Sv.mach])
          | succ k2 =>
           rw [Sv.mach_end] at hk2
           injection hk2 with hk2
           injection hk2 with hb hs
           subst hb
           have HE := Aside0.mk hs
           clear hs
           go_wp2_with (go_at_call 40; refine HL.out.mono ?_; rintro e w3 ⟨rfl, tv3, hS3⟩; have x3 : w3.cell? ⟨g, 3, none⟩ = some (.slice Ak 0 ck) := (hS3.fld 3).trans rfl; have HS3 := Aside0.mk hS3; clear hS3 HL)
           simp only [Exit.jump]
           go_ret
           exact ⟨rfl, _, _, _, _, _, _, by rw [← HE.out]; exact HS3.out⟩
        · have hl2 : stk2.length = stk3.length + 1 := by rw [e, List.length_append, List.length_singleton]
          obtain ⟨gk, ck', ek, hgk1, hgk2, hgk3⟩ := Kd.R_form HR.out.st.hk (by omega)
          injection ek with ek1 ek2 ek3
          subst ek1
          subst ek3
          have hsum := HR.out.sum
          have hlk9 := HR.out.inv.looks
          generalize hn : stk3.length = n at hl2
          have hn5 : n ≤ 5000 := by omega
          have hw1 : IntKind.i64.wrap (((n : Int) + 1) - 1) = (n : Int) := by rw [show ((n : Int) + 1) - 1 = (n : Int) by omega]; exact IntWalk.i64_in _ (by omega)
          have HSTK := Aside0.mk e
          have HN := Aside0.mk hn
          clear e hn
          rw [hl2] at HL HR
          have HHL := Aside0.mk hl2
          clear hl2 ek2
          go_upto_region 13 with (go_at_call 40; refine HL.out.mono ?_; rintro e w3 ⟨rfl, tv3, hS3⟩; have x3 : w3.cell? ⟨g, 3, none⟩ = some (.slice (some ⟨gk, 0, none⟩) (n + 1) ck) := (hS3.fld 3).trans rfl; have HS3 := Aside0.mk hS3; clear hS3 HL)
          go_cut [5] (fun s5 wc => s5 = .pointer (some ⟨gk, n * 2, none⟩) ∧ Aside0 (Sst w0 wc g vars A c cls d2 stk2 (s2.lay d2) dv2 (.slice (some ⟨gk, 0, none⟩) (n + 1) ck) mv2 tv3))
          case first =>
           have x3d := pw_cell_below (below_drew (Below.refl _ w3)) x3
           have HS3d := Aside0.mk (HS3.out.below (below_drew (Below.refl _ _)))
           go_region
           all_goals (
            go_wp2
            go_meet
            case rel => exact ⟨rfl, HS3d⟩)
          case rest =>
           obtain ⟨rfl, HS4⟩ := hcut
           have hlend : d2.length = n + 1 := by rw [HR.out.inv.len, HHL.out]
           rcases eq_nil_or_snoc d2 with e | ⟨d3, x, e⟩
           · rw [e] at hlend; exact absurd hlend (by simp)
           · have hl3 : d3.length = n := by rw [e, List.length_append, List.length_singleton] at hlend; omega
             obtain ⟨Ad2, cd2, ed⟩ := Kd.R_slice HS4.out.hd
             have hcd := (Kd.R_reads' (ed ▸ HS4.out.hd)).2.1
             subst ed
             rw [hlend] at HS4 hcd
             have HD2 := Aside0.mk e
             have HL3 := Aside0.mk hl3
             clear e hl3 hlend
             have y2 : wc.cell? ⟨g, 2, none⟩ = some (.slice Ad2 (n + 1) cd2) := (HS4.out.fld 2).trans rfl
             have y2f := blk_frozen HS4.out.hg 2
             have y2d := pw_cell_below (below_drew (Below.refl _ wc)) y2
             have HS4d := Aside0.mk (HS4.out.below (below_drew (Below.refl _ _)))
             have y2e := blk_frozen HS4d.out.hg 2
             have HS5 := Aside0.mk (show Sst w0 (wc.drew.setCell ⟨g, 2, none⟩ (.slice Ad2 n cd2)) g vars A c cls d3 stk2 (s2.lay d2) (.slice Ad2 n cd2) (.slice (some ⟨gk, 0, none⟩) (n + 1) ck) mv2 tv3 from HS4d.out.cutD (by
              have h9 := Kd.R_take (m := n) HS4d.out.hd (by rw [HD2.out, List.length_append, HL3.out]; omega)
              rw [HD2.out, ← HL3.out, List.take_left] at h9
              rw [HL3.out] at h9
              exact h9) (by cases Ad2 <;> rfl))
             go_upto_region 14 with (fail)
             go_cut [] (fun wc2 => Aside0 (Sst w0 wc2 g vars A c cls d3 stk2 (s2.lay d2) (.slice Ad2 n cd2) (.slice (some ⟨gk, 0, none⟩) (n + 1) ck) mv2 tv3))
             case first =>
              go_region
              all_goals (
               go_wp2
               go_meet
               case rel => exact HS5)
             case rest =>
              have HS6 := hcut
              clear hcut HS4 HS4d HS5 y2 y2f y2d y2e
              have HPF := HR.out.inv.frames p (by rw [HSTK.out]; simp)
              obtain ⟨p1, p2, p3⟩ := HPF
              have HS7 := Aside0.mk (show Sst w0 wc g vars A c cls d3 (stk3 ++ [p]) (s2.lay d2) (.slice Ad2 n cd2) (.slice (some ⟨gk, 0, none⟩) (n + 1) ck) mv2 tv3 from HSTK.out ▸ HS6.out)
              obtain ⟨k0, k1, k1f⟩ := frame_cells HS7.out.hk HN.out
              obtain ⟨v, m⟩ := p
              simp only at k0 k1 p1 p2 p3
              obtain ⟨kk, hkk⟩ := HR.out.goes
              cases kk with
              | zero => exact absurd hkk (by simp [Sv.mach])
              | succ kk =>
               rcases p3 with p3 | p3
               · subst p3
                 have HKK := Aside0.mk (show Sv.mach vars cls kk false (d3 ++ [-v]) (stk3 ++ [(v, 2)]) (s2.lay d2) = some (b, s9) by rw [HSTK.out, HD2.out, Sv.mach_turn] at hkk; rw [HD2.out]; exact hkk)
                 clear hkk
                 have HS8 := Aside0.mk (HS7.out.frame HN.out 2)
                 have HS8d := Aside0.mk (HS8.out.below (below_drew (Below.refl _ _)))
                 have y2 : (wc.setCell ⟨gk, n * 2 + 1, none⟩ (.int .i64 2)).drew.cell? ⟨g, 2, none⟩ = some (.slice Ad2 n cd2) := (HS8d.out.fld 2).trans rfl
                 have yk := (frame_cells HS8d.out.hk HN.out).1
                 have hneg : IntKind.i64.wrap (-v) = -v := IntWalk.i64_in _ (by omega)
                 obtain ⟨ds, hds⟩ : ∃ ds, ds = d3 ++ [-v] := ⟨_, rfl⟩
                 have HDS := Aside0.mk hds
                 clear hds
                 go_upto_region 17 with (fail)
                 generalize hW8 : wc.setCell ⟨gk, n * 2 + 1, none⟩ (.int .i64 2) = W8 at HS8 HS8d y2 yk ⊢
                 have y2w : W8.cell? ⟨g, 2, none⟩ = some (.slice Ad2 n cd2) := (HS8.out.fld 2).trans rfl
                 have y2a : ∀ o, (W8.alloc o).cell? ⟨g, 2, none⟩ = some (.slice Ad2 n cd2) := fun o => pw_cell_below (below_alloc (Below.refl _ W8) o) y2w
                 go_region_law (refine Kd.R_append_step (Kd.int .i64) (w0 := w0) w0.heap.size rfl (.tmp 104) (.tmp 110) 56 3 (.int .i64 0) 8 rfl Tryz.underlying56 info_int rfl (by decide) (by omega) (.slice Ad2 n cd2) d3 (-v) [.int .i64 (-v)] (fun k => k ≠ g) (fun _ => False) rfl (by first | rfl | exact size_put _ _ _ _) rfl (fun _ hk => hk.elim) (fun k hk => by have := HS8d.out.lt; omega) HS8d.out.hd HS8d.out.hb HS8d.out.hb.size (by have := HL3.out; omega) ?_; intro v9 w9 hn9 hb9 hg9 hat9; rw [← HDS.out] at hn9; obtain ⟨A9, c9, ev⟩ := Kd.R_slice hn9; subst ev; have k1 := HS8d.out.kept (u := .slice Ad2 n cd2) (fun k hk => HS8d.out.hd.1 k hk) hg9; have z3 := blk_frozen k1 2; have z4 : w9.cell? ⟨g, 2, none⟩ = some (.slice Ad2 n cd2) := (blk_cell k1 2).trans rfl; have HS9 := Aside0.mk (HS8d.out.putD hn9 hb9 hg9 hat9); clear hn9 hb9 hg9 hat9 k1)
                 all_goals (
                  go_wp2
                  go_step3
                  refine ⟨rfl, ⟨act_f _ rfl rfl, _, _, _, _, _, _, _, ⟨⟨HS9.out, ⟨?_, ?_, ?_, HR.out.inv.model, HR.out.inv.sat, HR.out.inv.looks⟩, ?_, ⟨kk, by rw [HDS.out]; exact HKK.out⟩⟩⟩⟩, ?_⟩
                  · rw [HDS.out, List.length_append, List.length_append, HL3.out, HN.out]; rfl
                  · intro x' hx'
                    rw [HDS.out, List.mem_append, List.mem_singleton] at hx'
                    rcases hx' with hx' | hx'
                    · exact HR.out.inv.small x' (by rw [HD2.out]; simp [hx'])
                    · omega
                  · intro q hq
                    rw [List.mem_append, List.mem_singleton] at hq
                    rcases hq with hq | hq
                    · exact HR.out.inv.frames q (by rw [HSTK.out]; simp [hq])
                    · subst hq; exact ⟨p1, p2, .inr rfl⟩
                  · show (s2.trace ++ [Pf.turned d2]).length + (stk3 ++ [(v, (2 : Int))]).length + 0 ≤ 2 * s2.looks
                    rw [List.length_append, List.length_append, List.length_singleton, List.length_singleton, HN.out]
                    have := HHL.out
                    omega
                  · rw [looksAt_of HS9.out, HM.out]
                    show (3000 - (s2.looks : Int)).toNat < _
                    have := HLK.out
                    omega)
               · subst p3
                 have HKK := Aside0.mk (show Sv.mach vars cls kk true d3 stk3 (s2.lay d2) = some (b, s9) by rw [HSTK.out, HD2.out, Sv.mach_back] at hkk; rw [HD2.out]; exact hkk)
                 clear hkk
                 have HS7d := Aside0.mk (HS7.out.below (below_drew (Below.refl _ _)))
                 have y3 : wc.drew.cell? ⟨g, 3, none⟩ = some (.slice (some ⟨gk, 0, none⟩) (n + 1) ck) := (HS7d.out.fld 3).trans rfl
                 have y3f := blk_frozen HS7d.out.hg 3
                 have hck1 := (Kd.R_reads' HS7d.out.hk).2.1
                 have HS9 := Aside0.mk (show Sst w0 (wc.drew.setCell ⟨g, 3, none⟩ (.slice (some ⟨gk, 0, none⟩) n ck)) g vars A c cls d3 stk3 (s2.lay d2) (.slice Ad2 n cd2) (.slice (some ⟨gk, 0, none⟩) n ck) mv2 tv3 from HS7d.out.cutK (by
                  have h9 := Kd.R_take (m := n) HS7d.out.hk (by rw [List.length_append, HN.out]; omega)
                  have e9 : (stk3 ++ [(v, (2 : Int))]).take n = stk3 := by rw [← HN.out, List.take_left]
                  rw [e9] at h9
                  exact h9))
                 go_wp2
                 go_region
                 all_goals (
                  go_wp2
                  go_roundg n
                  case measure => have := HHL.out; omega
                  case rel =>
                   refine ⟨d3, stk3, s2.lay d2, _, _, _, _, by rw [HN.out]; omega, HLK.out, ⟨⟨HS9.out, ⟨by rw [HL3.out, HN.out], ?_, ?_, HR.out.inv.model, HR.out.inv.sat, HR.out.inv.looks⟩, ?_, ⟨kk, HKK.out⟩⟩⟩⟩
                   · intro x' hx'
                     exact HR.out.inv.small x' (by rw [HD2.out]; simp [hx'])
                   · intro q hq
                     exact HR.out.inv.frames q (by rw [HSTK.out]; simp [hq])
                   · show (s2.trace ++ [Pf.turned d2]).length + stk3.length + 1 ≤ 2 * s2.looks
                     rw [List.length_append, List.length_singleton, HN.out]
                     have := HHL.out
                     omega)
theorem search_new {w1 : World} {vars : Int} {A : Option Addr} {c : Nat} {cls : List (List Int)} (hr : Kd.C (Kd.slice 3 (Kd.int .i64)) w1 A cls.length cls) (hc : cls.length ≤ c) (hck : Sp.check vars cls = 0) :
 SRun w1 (w1.alloc (.cells #[.int .i64 vars, .slice A cls.length c, .slice none 0 0, .slice none 0 0, .int .i64 0, .bool false, .slice none 0 0, .slice none 0 0] 59)) w1.heap.size vars A c cls false 0 (decide ((Sv.ends vars cls).looks ≤ 2000), Sv.ends vars cls) [] [] Sv.St.zero (.slice none 0 0) (.slice none 0 0) (.slice none 0 0) (.slice none 0 0) :=
 ⟨⟨heap_alloc_new w1 _, Kd.R_nil _ _ _ _ _, Kd.R_nil _ _ _ _ _, Kd.R_nil _ _ _ _ _, Kd.S_nil _ _ _ _ _, Nat.le_refl _, below_alloc (Below.refl _ w1) _, hr, hc⟩,
  ⟨rfl, by simp, by simp, rfl, rfl, Nat.zero_le _⟩, Nat.le_refl _, Sv.mach_ends hck⟩
inductive SolveIs (v : Int) (cls : List (List Int)) : Option (Bool × List Bool × (List (List Int)) × Int) → Prop
 | mk : SolveIs v cls (some (Sv.solve v cls))
theorem SolveIs.some (v : Int) (cls : List (List Int)) : ∃ r, SolveIs v cls r := ⟨_, .mk⟩
noncomputable def solver_Solve.f (a0_0 : Int) (l0_1 : List (List Int)) : Option (Bool × List Bool × (List (List Int)) × Int) := Classical.choose (SolveIs.some a0_0 l0_1)
theorem solver_Solve.f_eq (v : Int) (cls : List (List Int)) : solver_Solve.f v cls = some (Sv.solve v cls) := by
 have h : SolveIs v cls (solver_Solve.f v cls) := Classical.choose_spec (SolveIs.some v cls)
 generalize solver_Solve.f v cls = x at h
 cases h
 rfl
theorem put3 {W : World} {g : Nat} {T : TypeId} {x y z a b c : Value} (h : W.heap[g]? = some (.cells #[x, y, z] T (0, 0))) : (((W.setCell ⟨g, 0, none⟩ a).setCell ⟨g, 1, none⟩ b).setCell ⟨g, 2, none⟩ c).heap[g]? = some (.cells #[a, b, c] T (0, 0)) := by
 have := blk_set (blk_set (blk_set h 0 a) 1 b) 2 c
 simpa using this
theorem below3 {w W : World} {g : Nat} {a b c : Value} (h : Below w.heap.size w W) (hg : w.heap.size ≤ g) : Below w.heap.size w (((W.setCell ⟨g, 0, none⟩ a).setCell ⟨g, 1, none⟩ b).setCell ⟨g, 2, none⟩ c) :=
 ((h.setCell (p := ⟨g, 0, none⟩) hg a).setCell (p := ⟨g, 1, none⟩) hg b).setCell (p := ⟨g, 2, none⟩) hg c
theorem box_two (w : World) (o1 : Obj) (cells : Array Value) (T : TypeId) : ((w.alloc o1).alloc (.cells cells T)).heap[w.heap.size + 1]? = some (.cells cells T (0, 0)) := by
 have h := heap_alloc_new (w.alloc o1) (.cells cells T)
 rw [show (w.alloc o1).heap.size = w.heap.size + 1 by simp] at h
 exact h
set_option maxHeartbeats 4000000 in
set_option maxRecDepth 100000 in
theorem solver_Solve.calls (a0_0 : Int) (A0_1 : Option Addr) (c0_1 : Nat) (l0_1 : List (List Int)) (r1 : Bool) (r2 : List Bool) (r3 : List (List Int)) (r4 : Int) (w : World) (hr0_1 : Kd.C (Kd.slice 3 (Kd.int .i64)) w A0_1 l0_1.length l0_1) (hc0_1 : l0_1.length ≤ c0_1) (h : solver_Solve.f a0_0 l0_1 = some (r1, r2, r3, r4)) :
 Calls Tryz.prog 7 #[.agg #[.int .i64 a0_0, .slice A0_1 l0_1.length c0_1]] w fun e w' => ∃ v1_ v2_ : Value, e = .returned (.tuple #[.agg #[.bool r1, v1_, v2_], .int .i64 r4]) ∧ Kd.R Kd.bool 4 w' w.heap.size (fun _ => True) v1_ r2 ∧ Kd.S (Kd.slice 3 (Kd.int .i64)) 56 w' w.heap.size (fun _ => True) v2_ r3 ∧ Below w.heap.size w w' := by
 rw [solver_Solve.f_eq] at h
 have h := Option.some.inj h
 have hbw := below_alloc (below_alloc (Below.refl _ w) (.cells #[.int .i64 a0_0, .slice A0_1 l0_1.length c0_1] 36)) (.cells #[.bool false, .slice none 0 0, .slice none 0 0] 41)
 have hz2 := box_two w (.cells #[.int .i64 a0_0, .slice A0_1 l0_1.length c0_1] 36) #[.bool false, .slice none 0 0, .slice none 0 0] 41
 have hz1 : ((w.alloc (.cells #[.int .i64 a0_0, .slice A0_1 l0_1.length c0_1] 36)).alloc (.cells #[.bool false, .slice none 0 0, .slice none 0 0] 41)).heap[w.heap.size]? = some (.cells #[.int .i64 a0_0, .slice A0_1 l0_1.length c0_1] 36 (0, 0)) :=
  ((below_alloc (Below.refl _ (w.alloc (.cells #[.int .i64 a0_0, .slice A0_1 l0_1.length c0_1] 36))) _).block w.heap.size (by simp)).trans (heap_alloc_new w _)
 obtain ⟨W0, hW0⟩ : ∃ W0, W0 = (w.alloc (.cells #[.int .i64 a0_0, .slice A0_1 l0_1.length c0_1] 36)).alloc (.cells #[.bool false, .slice none 0 0, .slice none 0 0] 41) := ⟨_, rfl⟩
 have hsz0 : W0.heap.size = w.heap.size + 2 := by rw [hW0]; simp
 rw [← hW0] at hbw hz1 hz2
 have HB0 := Aside0.mk hbw
 have HZ1 := Aside0.mk hz1
 have HZ2 := Aside0.mk hz2
 have HR := Aside0.mk (Kd.C_below hr0_1 hbw)
 have HC := Aside0.mk hc0_1
 have HSZ := Aside0.mk hsz0
 have HCK := Aside0.mk (check_any a0_0 A0_1 c0_1 l0_1 W0 (Kd.C_below hr0_1 hbw))
 unfold Sv.solve at h
 by_cases hk : Sp.check a0_0 l0_1 = 0
 · rw [if_neg (by simp [hk])] at h
   rw [hk] at HCK
   have HCH := Aside0.mk hk
   clear hbw hz1 hz2 hsz0 hr0_1 hc0_1 hk
   by_cases hl : 2000 < (Sv.ends a0_0 l0_1).looks
   · rw [if_pos hl] at h
     injection h with h1 h
     injection h with h2 h
     injection h with h3 h4
     subst h1 h2 h3 h4
     have hd : decide ((Sv.ends a0_0 l0_1).looks ≤ 2000) = false := decide_eq_false (by omega)
     go_enter Tryz.func7, Tryz.ntmps7
     go_wp2_with fail
     rw [← hW0]
     clear hW0
     refine HCK.out.mono ?_
     rintro e w1 ⟨rfl, hb1⟩
     have HZ3 := Aside0.mk ((hb1.block _ (by have := HSZ.out; omega)).trans HZ1.out)
     have HZ4 := Aside0.mk ((hb1.block _ (by have := HSZ.out; omega)).trans HZ2.out)
     have q1 : w1.cell? ⟨w.heap.size, 0, none⟩ = some (.int .i64 a0_0) := (blk_cell HZ3.out 0).trans rfl
     have q2 : w1.cell? ⟨w.heap.size, 1, none⟩ = some (.slice A0_1 l0_1.length c0_1) := (blk_cell HZ3.out 1).trans rfl
     have HRUN := Aside0.mk (search_new (Kd.C_below HR.out hb1) HC.out HCH.out)
     have HB1 := Aside0.mk (below_step HB0.out hb1)
     have hlt : w.heap.size + 1 < w1.heap.size := by have := hb1.size; have := HSZ.out; omega
     clear hb1
     rw [hd] at HRUN
     go_wp2_with (go_at_call 15; refine (srun_any HCH.out _ _ HRUN.out).mono ?_; rintro e w2 ⟨rfl, d', stk', dv', kv', mv', tv', hS⟩; have hZ5 := (hS.hb.block _ hlt).trans HZ4.out; have c0 : w2.cell? ⟨w.heap.size + 1, 0, none⟩ = some (.bool false) := (blk_cell hZ5 0).trans rfl; have c1 : w2.cell? ⟨w.heap.size + 1, 1, none⟩ = some (.slice none 0 0) := (blk_cell hZ5 1).trans rfl; have c2 : w2.cell? ⟨w.heap.size + 1, 2, none⟩ = some (.slice none 0 0) := (blk_cell hZ5 2).trans rfl; have d0 := blk_frozen hZ5 0; have d1 := blk_frozen hZ5 1; have d2 := blk_frozen hZ5 2; have HZ5 := Aside0.mk hZ5; have HB2 := Aside0.mk (below_step HB1.out hS.hb); clear hS hZ5)
     refine bodyPost_ret (results_ct rfl _ _ (w.heap.size + 1) 41 #[.bool false, .slice none 0 0, .slice none 0 0] (0, 0) _ rfl (put3 HZ5.out) Tryz.underlying41 rfl (by kernel_rfl)) rfl ?_
     exact ⟨_, _, rfl, Kd.R_nil _ _ _ _ _, Kd.S_nil _ _ _ _ _, below3 HB2.out (by omega)⟩
   · rw [if_neg hl] at h
     injection h with h1 h
     injection h with h2 h
     injection h with h3 h4
     subst h1 h2 h3 h4
     have hd : decide ((Sv.ends a0_0 l0_1).looks ≤ 2000) = true := decide_eq_true (by omega)
     go_enter Tryz.func7, Tryz.ntmps7
     go_wp2_with fail
     rw [← hW0]
     clear hW0
     refine HCK.out.mono ?_
     rintro e w1 ⟨rfl, hb1⟩
     have HZ3 := Aside0.mk ((hb1.block _ (by have := HSZ.out; omega)).trans HZ1.out)
     have HZ4 := Aside0.mk ((hb1.block _ (by have := HSZ.out; omega)).trans HZ2.out)
     have q1 : w1.cell? ⟨w.heap.size, 0, none⟩ = some (.int .i64 a0_0) := (blk_cell HZ3.out 0).trans rfl
     have q2 : w1.cell? ⟨w.heap.size, 1, none⟩ = some (.slice A0_1 l0_1.length c0_1) := (blk_cell HZ3.out 1).trans rfl
     have HRUN := Aside0.mk (search_new (Kd.C_below HR.out hb1) HC.out HCH.out)
     have HB1 := Aside0.mk (below_step HB0.out hb1)
     have hlt : w.heap.size + 1 < w1.heap.size := by have := hb1.size; have := HSZ.out; omega
     clear hb1
     rw [hd] at HRUN
     go_wp2_with (go_at_call 15; refine (srun_any HCH.out _ _ HRUN.out).mono ?_; rintro e w2 ⟨rfl, d', stk', dv', kv', mv', tv', hS⟩; have hZ5 := (hS.hb.block _ hlt).trans HZ4.out; have x5 : w2.cell? ⟨w1.heap.size, 5, none⟩ = some (.bool (Sv.ends a0_0 l0_1).sat) := (hS.fld 5).trans rfl; have x6 : w2.cell? ⟨w1.heap.size, 6, none⟩ = some mv' := (hS.fld 6).trans rfl; have x7 : w2.cell? ⟨w1.heap.size, 7, none⟩ = some tv' := (hS.fld 7).trans rfl; have c0 : w2.cell? ⟨w.heap.size + 1, 0, none⟩ = some (.bool false) := (blk_cell hZ5 0).trans rfl; have c1 : w2.cell? ⟨w.heap.size + 1, 1, none⟩ = some (.slice none 0 0) := (blk_cell hZ5 1).trans rfl; have c2 : w2.cell? ⟨w.heap.size + 1, 2, none⟩ = some (.slice none 0 0) := (blk_cell hZ5 2).trans rfl; have d0 := blk_frozen hZ5 0; have d1 := blk_frozen hZ5 1; have d2 := blk_frozen hZ5 2; have HZ5 := Aside0.mk hZ5; have HB2 := Aside0.mk (below_step HB1.out hS.hb); have HM := Aside0.mk hS.hm; have HT := Aside0.mk hS.ht; obtain ⟨Am, cm, em⟩ := Kd.R_slice hS.hm; obtain ⟨At, ct, et⟩ := Kd.R_slice (Kd.S_R hS.ht); subst em; subst et; clear hS hZ5)
     refine bodyPost_ret (results_ct rfl _ _ (w.heap.size + 1) 41 #[.bool (Sv.ends a0_0 l0_1).sat, .slice Am (Sv.ends a0_0 l0_1).model.length cm, .slice At (Sv.ends a0_0 l0_1).trace.length ct] (0, 0) _ rfl (put3 HZ5.out) Tryz.underlying41 rfl (by kernel_rfl)) rfl ?_
     refine ⟨_, _, rfl, ?_, ?_, below3 HB2.out (by omega)⟩
     · have h9 := Kd.R_mono (ok' := fun k => k ≠ w.heap.size + 1) (Kd.R_bound HM.out) (fun k hk => by have := hk.2.1; omega)
       exact Kd.R_mono (Kd.R_lower (Kd.R_far (p := ⟨w.heap.size + 1, 2, none⟩) (Kd.R_far (p := ⟨w.heap.size + 1, 1, none⟩) (Kd.R_far (p := ⟨w.heap.size + 1, 0, none⟩) h9 (fun k hk => hk) _) (fun k hk => hk) _) (fun k hk => hk) _) (by omega)) (fun _ _ => trivial)
     · have h9 := Kd.S_mono (ok' := fun k => k ≠ w.heap.size + 1) (Kd.S_bound HT.out) (fun k hk => by have := hk.2.1; omega)
       exact Kd.S_mono (Kd.S_lower (Kd.S_far (p := ⟨w.heap.size + 1, 2, none⟩) (Kd.S_far (p := ⟨w.heap.size + 1, 1, none⟩) (Kd.S_far (p := ⟨w.heap.size + 1, 0, none⟩) h9 (fun k hk => hk) _) (fun k hk => hk) _) (fun k hk => hk) _) (by omega)) (fun _ _ => trivial)
 · rw [if_pos hk] at h
   injection h with h1 h
   injection h with h2 h
   injection h with h3 h4
   subst h1 h2 h3 h4
   have hk1 : (Sp.check a0_0 l0_1 != 0) = true := bne_iff_ne.2 hk
   clear hbw hz1 hz2 hsz0 hr0_1 hc0_1 hk
   generalize Sp.check a0_0 l0_1 = y at hk1 HCK ⊢
   go_enter Tryz.func7, Tryz.ntmps7
   go_wp2_with fail
   rw [← hW0]
   clear hW0
   refine HCK.out.mono ?_
   rintro e w2 ⟨rfl, hb1⟩
   have hZ5 := (hb1.block _ (by have := HSZ.out; omega)).trans HZ2.out
   have c0 : w2.cell? ⟨w.heap.size + 1, 0, none⟩ = some (.bool false) := (blk_cell hZ5 0).trans rfl
   have c1 : w2.cell? ⟨w.heap.size + 1, 1, none⟩ = some (.slice none 0 0) := (blk_cell hZ5 1).trans rfl
   have c2 : w2.cell? ⟨w.heap.size + 1, 2, none⟩ = some (.slice none 0 0) := (blk_cell hZ5 2).trans rfl
   have d0 := blk_frozen hZ5 0
   have d1 := blk_frozen hZ5 1
   have d2 := blk_frozen hZ5 2
   have HZ5 := Aside0.mk hZ5
   have HB2 := Aside0.mk (below_step HB0.out hb1)
   clear hb1 hZ5
   go_wp2
   refine bodyPost_ret (results_ct rfl _ _ (w.heap.size + 1) 41 #[.bool false, .slice none 0 0, .slice none 0 0] (0, 0) _ rfl (put3 HZ5.out) Tryz.underlying41 rfl (by kernel_rfl)) rfl ?_
   exact ⟨_, _, rfl, Kd.R_nil _ _ _ _ _, Kd.S_nil _ _ _ _ _, below3 HB2.out (by omega)⟩
end Go.Proofs.YteinkjhimceljaaGreatDoor.J
