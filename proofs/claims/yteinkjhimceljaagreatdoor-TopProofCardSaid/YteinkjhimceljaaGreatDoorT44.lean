/- The solver's state in memory; lay and known, walked. solver.search.known, where a look is a model's. -/
import Derived.Test.YteinkjhimceljaaGreatDoorT14
import Derived.Test.YteinkjhimceljaaGreatDoorT13
import Derived.Deep.RegionLaw
import Derived.IntWalk
namespace Go.Proofs.YteinkjhimceljaaGreatDoor.J
open Go.RowKit Go.Shelf Go.Proofs.YteinkjhimceljaaGreatDoorW.PrintWords Go.Proofs.YteinkjhimceljaaGreatDoorW.PrintLast Go.Proofs.YteinkjhimceljaaGreatDoorW.PrintMore
set_option linter.unusedVariables false
set_option linter.unusedSimpArgs false
structure Sst (w0 W : World) (g : Nat) (vars : Int) (A : Option Addr) (c : Nat) (cls : List (List Int)) (d : List Int) (stk : List (Int × Int)) (s : Sv.St) (dv kv mv tv : Value) : Prop where
 hg : W.heap[g]? = some (.cells #[.int .i64 vars, .slice A cls.length c, dv, kv, .int .i64 (s.looks : Int), .bool s.sat, mv, tv] 59 (0, 0))
 hd : Kd.R (Kd.int .i64) 3 W w0.heap.size (fun k => k ≠ g) dv d
 hk : Kd.R (Kd.pair (Kd.int .i64) (Kd.int .i64)) 105 W w0.heap.size (fun k => k ≠ g) kv stk
 hm : Kd.R Kd.bool 4 W w0.heap.size (fun k => k ≠ g) mv s.model
 ht : Kd.S (Kd.slice 3 (Kd.int .i64)) 56 W w0.heap.size (fun k => k ≠ g ∧ some k ≠ dv.ownBlock) tv s.trace
 bg : w0.heap.size ≤ g
 hb : Below w0.heap.size w0 W
 hr : Kd.C (Kd.slice 3 (Kd.int .i64)) w0 A cls.length cls
 hc : cls.length ≤ c
section
variable {w0 W w1 : World} {g : Nat} {vars : Int} {A : Option Addr} {c : Nat} {cls : List (List Int)} {d : List Int} {stk : List (Int × Int)} {s : Sv.St} {dv kv mv tv v1 : Value}
theorem Sst.lt (h : Sst w0 W g vars A c cls d stk s dv kv mv tv) : g < W.heap.size := (Array.getElem?_eq_some_iff.1 h.hg).1
theorem Sst.below (h : Sst w0 W g vars A c cls d stk s dv kv mv tv) (hb : Below W.heap.size W w1) : Sst w0 w1 g vars A c cls d stk s dv kv mv tv :=
 ⟨(hb.block g h.lt).trans h.hg, Kd.R_below h.hd hb, Kd.R_below h.hk hb, Kd.R_below h.hm hb, Kd.S_below h.ht hb, h.bg, below_then h.hb h.hb.size hb, h.hr, h.hc⟩
theorem Sst.fld (h : Sst w0 W g vars A c cls d stk s dv kv mv tv) (j : Nat) : W.cell? ⟨g, j, none⟩ = #[.int .i64 vars, .slice A cls.length c, dv, kv, .int .i64 (s.looks : Int), .bool s.sat, mv, tv][j]? := blk_cell h.hg j
theorem Sst.kept (h : Sst w0 W g vars A c cls d stk s dv kv mv tv) {u : Value} (hu : ∀ k, u.ownBlock = some k → k ≠ g) (hgw : W.grownBy w1 u.ownBlock) : w1.heap[g]? = some (.cells #[.int .i64 vars, .slice A cls.length c, dv, kv, .int .i64 (s.looks : Int), .bool s.sat, mv, tv] 59 (0, 0)) :=
 (hgw.block g h.lt (fun e => hu g e.symm rfl)).trans h.hg
theorem cells_set {W : World} {g : Nat} {cells : Array Value} {T : TypeId} (h : W.heap[g]? = some (.cells cells T (0, 0))) (j : Nat) (u : Value) : (W.setCell ⟨g, j, none⟩ u).heap[g]? = some (.cells (cells.setIfInBounds j u) T (0, 0)) := blk_set h j u
theorem Sst.putD (h : Sst w0 W g vars A c cls d stk s dv kv mv tv) {d' : List Int} (hn : Kd.R (Kd.int .i64) 3 w1 w0.heap.size (fun k => k ≠ g) v1 d') (hb : Below w0.heap.size w0 w1) (hgw : W.grownBy w1 dv.ownBlock) (hat : v1.ownBlock = dv.ownBlock ∨ ∃ b, v1.ownBlock = some b ∧ W.heap.size ≤ b) :
 Sst w0 (w1.setCell ⟨g, 2, none⟩ v1) g vars A c cls d' stk s v1 kv mv tv := by
 refine ⟨?_, Kd.R_far hn (fun k hk => hk) v1, Kd.R_far (Kd.R_over h.hk h.hd (by decide) hgw) (fun k hk => hk) v1, Kd.R_far (Kd.R_over h.hm h.hd (by decide) hgw) (fun k hk => hk) v1, Kd.S_far (Kd.S_after h.ht hgw hat) (fun k hk => hk.1) v1, h.bg, hb.setCell (p := ⟨g, 2, none⟩) h.bg v1, h.hr, h.hc⟩
 have := cells_set (h.kept (fun k hk => h.hd.1 k hk) hgw) 2 v1
 simpa using this
theorem Sst.cutD (h : Sst w0 W g vars A c cls d stk s dv kv mv tv) {d' : List Int} (hn : Kd.R (Kd.int .i64) 3 W w0.heap.size (fun k => k ≠ g) v1 d') (he : v1.ownBlock = dv.ownBlock) :
 Sst w0 (W.setCell ⟨g, 2, none⟩ v1) g vars A c cls d' stk s v1 kv mv tv := by
 refine ⟨?_, Kd.R_far hn (fun k hk => hk) v1, Kd.R_far h.hk (fun k hk => hk) v1, Kd.R_far h.hm (fun k hk => hk) v1, Kd.S_far (by rw [he]; exact h.ht) (fun k hk => hk.1) v1, h.bg, h.hb.setCell (p := ⟨g, 2, none⟩) h.bg v1, h.hr, h.hc⟩
 have := cells_set h.hg 2 v1
 simpa using this
theorem Sst.putK (h : Sst w0 W g vars A c cls d stk s dv kv mv tv) {stk' : List (Int × Int)} (hn : Kd.R (Kd.pair (Kd.int .i64) (Kd.int .i64)) 105 w1 w0.heap.size (fun k => k ≠ g) v1 stk') (hb : Below w0.heap.size w0 w1) (hgw : W.grownBy w1 kv.ownBlock) :
 Sst w0 (w1.setCell ⟨g, 3, none⟩ v1) g vars A c cls d stk' s dv v1 mv tv := by
 refine ⟨?_, Kd.R_far (Kd.R_over h.hd h.hk (by decide) hgw) (fun k hk => hk) v1, Kd.R_far hn (fun k hk => hk) v1, Kd.R_far (Kd.R_over h.hm h.hk (by decide) hgw) (fun k hk => hk) v1, Kd.S_far (Kd.S_over' h.ht (Kd.R_typed h.hk) (by decide) hgw) (fun k hk => hk.1) v1, h.bg, hb.setCell (p := ⟨g, 3, none⟩) h.bg v1, h.hr, h.hc⟩
 have := cells_set (h.kept (fun k hk => h.hk.1 k hk) hgw) 3 v1
 simpa using this
theorem Sst.cutK (h : Sst w0 W g vars A c cls d stk s dv kv mv tv) {stk' : List (Int × Int)} (hn : Kd.R (Kd.pair (Kd.int .i64) (Kd.int .i64)) 105 W w0.heap.size (fun k => k ≠ g) v1 stk') :
 Sst w0 (W.setCell ⟨g, 3, none⟩ v1) g vars A c cls d stk' s dv v1 mv tv := by
 refine ⟨?_, Kd.R_far h.hd (fun k hk => hk) v1, Kd.R_far hn (fun k hk => hk) v1, Kd.R_far h.hm (fun k hk => hk) v1, Kd.S_far h.ht (fun k hk => hk.1) v1, h.bg, h.hb.setCell (p := ⟨g, 3, none⟩) h.bg v1, h.hr, h.hc⟩
 have := cells_set h.hg 3 v1
 simpa using this
theorem Sst.putL (h : Sst w0 W g vars A c cls d stk s dv kv mv tv) (n : Nat) :
 Sst w0 (W.setCell ⟨g, 4, none⟩ (.int .i64 (n : Int))) g vars A c cls d stk ⟨n, s.sat, s.model, s.trace⟩ dv kv mv tv := by
 refine ⟨?_, Kd.R_far h.hd (fun k hk => hk) _, Kd.R_far h.hk (fun k hk => hk) _, Kd.R_far h.hm (fun k hk => hk) _, Kd.S_far h.ht (fun k hk => hk.1) _, h.bg, h.hb.setCell (p := ⟨g, 4, none⟩) h.bg _, h.hr, h.hc⟩
 have := cells_set h.hg 4 (.int .i64 (n : Int))
 simpa using this
theorem Sst.putM (h : Sst w0 W g vars A c cls d stk s dv kv mv tv) {m : List Bool} (hn : Kd.R Kd.bool 4 w1 w0.heap.size (fun k => k ≠ g) v1 m) (hb : Below w0.heap.size w0 w1) (hgw : W.grownBy w1 mv.ownBlock) :
 Sst w0 (w1.setCell ⟨g, 6, none⟩ v1) g vars A c cls d stk ⟨s.looks, s.sat, m, s.trace⟩ dv kv v1 tv := by
 refine ⟨?_, Kd.R_far (Kd.R_over h.hd h.hm (by decide) hgw) (fun k hk => hk) v1, Kd.R_far (Kd.R_over h.hk h.hm (by decide) hgw) (fun k hk => hk) v1, Kd.R_far hn (fun k hk => hk) v1, Kd.S_far (Kd.S_over' h.ht (Kd.R_typed h.hm) (by decide) hgw) (fun k hk => hk.1) v1, h.bg, hb.setCell (p := ⟨g, 6, none⟩) h.bg v1, h.hr, h.hc⟩
 have := cells_set (h.kept (fun k hk => h.hm.1 k hk) hgw) 6 v1
 simpa using this
theorem Sst.putT (h : Sst w0 W g vars A c cls d stk s dv kv mv tv) {t : List (List Int)} (hn : Kd.S (Kd.slice 3 (Kd.int .i64)) 56 w1 w0.heap.size (fun k => k ≠ g ∧ some k ≠ dv.ownBlock) v1 t) (hb : Below w0.heap.size w0 w1) (hgw : W.grownBy w1 tv.ownBlock) :
 Sst w0 (w1.setCell ⟨g, 7, none⟩ v1) g vars A c cls d stk ⟨s.looks, s.sat, s.model, t⟩ dv kv mv v1 := by
 have hT := Kd.S_R h.ht
 refine ⟨?_, Kd.R_far (Kd.R_over h.hd hT (by decide) hgw) (fun k hk => hk) v1, Kd.R_far (Kd.R_over h.hk hT (by decide) hgw) (fun k hk => hk) v1, Kd.R_far (Kd.R_over h.hm hT (by decide) hgw) (fun k hk => hk) v1, Kd.S_far hn (fun k hk => hk.1) v1, h.bg, hb.setCell (p := ⟨g, 7, none⟩) h.bg v1, h.hr, h.hc⟩
 have := cells_set (h.kept (fun k hk => (hT.1 k hk).1) hgw) 7 v1
 simpa using this
theorem Sst.putS (h : Sst w0 W g vars A c cls d stk s dv kv mv tv) :
 Sst w0 (W.setCell ⟨g, 5, none⟩ (.bool true)) g vars A c cls d stk ⟨s.looks, true, s.model, s.trace⟩ dv kv mv tv := by
 refine ⟨?_, Kd.R_far h.hd (fun k hk => hk) _, Kd.R_far h.hk (fun k hk => hk) _, Kd.R_far h.hm (fun k hk => hk) _, Kd.S_far h.ht (fun k hk => hk.1) _, h.bg, h.hb.setCell (p := ⟨g, 5, none⟩) h.bg _, h.hr, h.hc⟩
 have := cells_set h.hg 5 (.bool true)
 simpa using this
theorem Sst.noT (h : Sst w0 W g vars A c cls d stk s dv kv mv tv) :
 Sst w0 (W.setCell ⟨g, 7, none⟩ (.slice none 0 0)) g vars A c cls d stk ⟨s.looks, s.sat, s.model, []⟩ dv kv mv (.slice none 0 0) := by
 refine ⟨?_, Kd.R_far h.hd (fun k hk => hk) _, Kd.R_far h.hk (fun k hk => hk) _, Kd.R_far h.hm (fun k hk => hk) _, Kd.S_nil _ _ _ _ _, h.bg, h.hb.setCell (p := ⟨g, 7, none⟩) h.bg _, h.hr, h.hc⟩
 have := cells_set h.hg 7 (.slice none 0 0)
 simpa using this
end
set_option maxHeartbeats 4000000 in
set_option maxRecDepth 100000 in
theorem lay_any {w0 W : World} {g : Nat} {vars : Int} {A : Option Addr} {c : Nat} {cls : List (List Int)} {d : List Int} {stk : List (Int × Int)} {s : Sv.St} {dv kv mv tv : Value}
 (h : Sst w0 W g vars A c cls d stk s dv kv mv tv) (hl : d.length ≤ 100000) (hx : ∀ x ∈ d, -60 ≤ x ∧ x ≤ 60) (ht : s.trace.length ≤ 100000) :
 Calls Tryz.prog 40 #[.pointer (some ⟨g, 0, none⟩)] W fun e w' => e = .returned (.tuple #[]) ∧ ∃ tv', Sst w0 w' g vars A c cls d stk (s.lay d) dv kv mv tv' := by
 have HS := Aside0.mk h
 have HX := Aside0.mk hx
 have HTL := Aside0.mk ht
 have q2 := h.fld 2
 obtain ⟨Ad, cd, ed⟩ := Kd.R_slice h.hd
 have HC := Aside0.mk (Kd.R_reads' (ed ▸ h.hd)).2
 subst ed
 have e2 : W.cell? ⟨g, 2, none⟩ = some (.slice Ad d.length cd) := q2
 clear h hx ht q2
 go_enter Tryz.func40, Tryz.ntmps40
 go_wp2
 go_loopg [2, 10] d.length (fun gg s2 s10 wq => ∃ j : Nat, j ≤ d.length ∧ d.length - j ≤ gg ∧ s10 = .int .i64 (j : Int) ∧ Aside0 (Kd.R (Kd.int .i64) 3 wq W.heap.size (fun _ => True) s2 (Pf.turned (d.take j))) ∧ Aside0 (Below W.heap.size W wq))
 case atStart => exact ⟨0, Nat.zero_le _, by omega, by go_num, ⟨Kd.R_nil _ _ _ _ _⟩, ⟨Below.refl _ _⟩⟩
 case round =>
  obtain ⟨j, hj, hg, rfl, HT, HB⟩ := hrel
  by_cases hjl : j < d.length
  · have hjz : (j : Int) < (d.length : Int) := by omega
    have hxb := HX.out _ (List.getElem_mem hjl)
    obtain ⟨ad, eA, hx⟩ := C_int_at (Kd.C_below HC.out.2 HB.out) j hjl
    subst eA
    have HTK := Aside0.mk (show Pf.turned (d.take (j + 1)) = Pf.turned (d.take j) ++ [-d[j]] by rw [List.take_succ_eq_append_getElem hjl]; unfold Pf.turned; rw [List.map_append]; rfl)
    have HLE := Aside0.mk (show (Pf.turned (d.take j)).length = j by unfold Pf.turned; rw [List.length_map, List.length_take]; omega)
    generalize d[j] = x at hx HTK hxb
    have hneg : IntKind.i64.wrap (-x) = -x := IntWalk.i64_in _ (by omega)
    go_wp2_with (at_builtin; refine Kd.R_append (Kd.int .i64) (w0 := W) W.heap.size rfl (.tmp 14) (.tmp 17) 56 3 (.int .i64 0) 8 rfl Tryz.underlying56 info_int rfl (by decide) (by omega) u2 (Pf.turned (d.take j)) (-x) [.int .i64 (-x)] (fun _ => True) (fun _ => False) rfl rfl ?aP (fun _ hk => hk.elim) ?aF ?aO ?aB ?aS ?aL ?_; (case aP => exact rfl); (case aB => exact HB.out); (case aF => exact (fun _ _ => trivial)); (case aO => exact HT.out); (case aS => exact HB.out.size); (case aL => have h1 := HLE.out; omega); intro v1 w4 hR2 hB2 hg2 hat2; have HT2 := Aside0.mk hR2; have HB2 := Aside0.mk hB2; clear hR2 hB2 hg2 hat2)
    go_roundg (d.length - (j + 1))
    case measure => omega
    case rel => exact ⟨j + 1, by omega, by omega, by go_num, ⟨by rw [HTK.out]; exact HT2.out⟩, HB2⟩
  · have hjz : ¬ (j : Int) < (d.length : Int) := by omega
    have hT9 := HT.out
    rw [List.take_of_length_le (by omega)] at hT9
    have HW := Aside0.mk (HS.out.below HB.out)
    obtain ⟨tc, htc⟩ : ∃ tc, tc = Pf.turned d := ⟨_, rfl⟩
    rw [← htc] at hT9
    have HTC := Aside0.mk htc
    obtain ⟨Ac, cc, ec⟩ := Kd.R_slice hT9
    subst ec
    have e7 : wr.cell? ⟨g, 7, none⟩ = some tv := (HW.out.fld 7).trans rfl
    have f7 := blk_frozen HW.out.hg 7
    have e7a : ∀ o, (wr.alloc o).cell? ⟨g, 7, none⟩ = some tv := fun o => pw_cell_below (below_alloc (Below.refl _ wr) o) e7
    obtain ⟨At, ct, et⟩ := Kd.R_slice (Kd.S_R HW.out.ht)
    subst et
    have HCL := Aside0.mk hT9
    have HP := Aside0.mk (show (Kd.slice 3 (Kd.int .i64)).M wr w0.heap.size (fun k => some k = (Value.slice Ac tc.length cc).ownBlock) tc [.slice Ac tc.length cc] from ⟨_, rfl, Kd.R_tight rfl (Kd.R_lower hT9 HS.out.hb.size)⟩)
    have HOK := Aside0.mk (show ∀ k, some k = (Value.slice Ac tc.length cc).ownBlock → (k ≠ g ∧ some k ≠ (Value.slice Ad d.length cd).ownBlock) ∧ some k ≠ (Value.slice At s.trace.length ct).ownBlock by
     intro k hk
     have h1 := Kd.R_base hT9 k hk.symm
     have h2 := HS.out.lt
     refine ⟨⟨by omega, fun e => ?_⟩, fun e => ?_⟩
     · have := Kd.R_lt HS.out.hd k e.symm; omega
     · have := Kd.R_lt (Kd.S_R HS.out.ht) k e.symm; omega)
    have HOS := Aside0.mk (show Kd.S (Kd.slice 3 (Kd.int .i64)) 56 wr w0.heap.size (fun k => (k ≠ g ∧ some k ≠ (Value.slice Ad d.length cd).ownBlock) ∧ ¬ (some k = (Value.slice Ac tc.length cc).ownBlock)) (.slice At s.trace.length ct) s.trace from Kd.S_mono (Kd.S_old HS.out.ht HB.out) (fun k hk => ⟨hk.1, fun e => by have := Kd.R_base hT9 k e.symm; omega⟩))
    have HFR := Aside0.mk (show ∀ k, wr.heap.size ≤ k → k ≠ g ∧ some k ≠ (Value.slice Ad d.length cd).ownBlock by
     intro k hk
     have h2 := HW.out.lt
     refine ⟨by omega, fun e => ?_⟩
     have := Kd.R_lt HW.out.hd k e.symm; omega)
    obtain ⟨ts, hts⟩ : ∃ ts, ts = s.trace ++ [tc] := ⟨_, rfl⟩
    have HTS := Aside0.mk hts
    clear hT9 htc HT hts
    go_wp2_with (at_builtin; refine Kd.S_append (Kd.slice 3 (Kd.int .i64)) (w0 := w0) w0.heap.size rfl (.tmp 25) (.tmp 27) 34 56 (.slice none 0 0) 24 rfl Tryz.underlying34 info_rows rfl (by decide) (by omega) (.slice At s.trace.length ct) s.trace tc [.slice Ac tc.length cc] (fun k => k ≠ g ∧ some k ≠ (Value.slice Ad d.length cd).ownBlock) (fun k => some k = (Value.slice Ac tc.length cc).ownBlock) rfl rfl HP.out HOK.out HFR.out HOS.out HW.out.hb HW.out.hb.size (by have := HTL.out; omega) ?_; intro v1 w1 hn1 hb1 hg1 hat1; rw [← HTS.out] at hn1; obtain ⟨A9, c9, ev⟩ := Kd.R_slice (Kd.S_R hn1); subst ev; have k1 := HW.out.kept (u := .slice At s.trace.length ct) (fun k hk => ((Kd.S_R HW.out.ht).1 k hk).1) hg1; have z1 := blk_frozen k1 7; have z2 : w1.cell? ⟨g, 7, none⟩ = some (.slice At s.trace.length ct) := (blk_cell k1 7).trans rfl; have HG1 := Aside0.mk (HW.out.putT hn1 hb1 hg1); clear hn1 hb1 hg1 hat1 k1)
    go_end0
    refine ⟨rfl, .slice A9 ts.length c9, ?_⟩
    have e9 : s.lay d = ⟨s.looks, s.sat, s.model, ts⟩ := by rw [HTS.out, HTC.out]; rfl
    rw [e9]
    exact HG1.out
theorem info_bool : (Tryz.prog.info? 4).map (fun i => (i.zero, i.size, i.bytes)) = some (some (.bool false), 1, 1) := by kernel_rfl
set_option maxHeartbeats 4000000 in
set_option maxRecDepth 100000 in
theorem known_no {w0 W : World} {g : Nat} {vars : Int} {A : Option Addr} {c : Nat} {cls : List (List Int)} {d : List Int} {stk : List (Int × Int)} {s : Sv.St} {dv kv mv tv : Value}
 (h : Sst w0 W g vars A c cls d stk s dv kv mv tv) (l : List Int) (pe fr : Int) (hp : Uk.prop vars cls d = (l, pe)) (hf : Uk.free vars cls d = fr) (b : Bool) (hb : (pe == 0) = b) (hno : pe = 0 → ¬ (l.length : Int) = vars) :
 Calls Tryz.prog 39 #[.pointer (some ⟨g, 0, none⟩)] W fun e w' => e = .returned (.tuple #[.int .i64 fr, .bool b]) ∧ Sst w0 w' g vars A c cls d stk s dv kv mv tv := by
 have HS := Aside0.mk h
 obtain ⟨Ad, cd, ed⟩ := Kd.R_slice h.hd
 have HC := Aside0.mk (Kd.R_reads' (ed ▸ h.hd)).2
 have e0 : W.cell? ⟨g, 0, none⟩ = some (.int .i64 vars) := (h.fld 0).trans rfl
 have e1 : W.cell? ⟨g, 1, none⟩ = some (.slice A cls.length c) := (h.fld 1).trans rfl
 have e2 : W.cell? ⟨g, 2, none⟩ = some dv := (h.fld 2).trans rfl
 have HP := Aside0.mk (show unit_Propagate.f vars cls d = some (l, pe) by unfold unit_Propagate.f; rw [hp])
 have HF := Aside0.mk (show unit_Free.f vars cls d = some fr by unfold unit_Free.f; rw [hf])
 subst ed
 clear h hp hf
 have main : (b = true → ((l.length : Int) == vars) = false) := by
  intro h9
  subst h9
  exact beq_eq_false_iff_ne.2 (hno (by simpa using hb))
 clear hno
 have HSd := Aside0.mk (HS.out.below (below_drew (Below.refl _ _)))
 have HCd := Aside0.mk (Kd.C_drew HC.out.2)
 have b0 := pw_cell_below (below_drew (Below.refl _ W)) e0
 have b1 := pw_cell_below (below_drew (Below.refl _ W)) e1
 have b2 := pw_cell_below (below_drew (Below.refl _ W)) e2
 cases b
 all_goals (
  try have t2 := main rfl
  clear main
  go_enter Tryz.func39, Tryz.ntmps39
  go_wp2
  go_region_with (go_at_call 41; refine (unit_Propagate.calls vars _ _ cls _ _ d l pe _ (Kd.C_below HSd.out.hr HSd.out.hb) HS.out.hc HCd.out HC.out.1 HP.out).mono ?_; rintro e w1 ⟨v, rfl, ho, hb1⟩; obtain ⟨Al, cl, rfl, hc1, hc2⟩ := row_reads ho; have HS1 := Aside0.mk (HSd.out.below hb1); have HC1 := Aside0.mk (Kd.C_below HCd.out hb1); have a0 := pw_cell_below hb1 b0; have a1 := pw_cell_below hb1 b1; have a2 := pw_cell_below hb1 b2; clear ho hb1 hc1 hc2 HP))
 all_goals (
  go_wp2
  have HS1d := Aside0.mk (HS1.out.below (below_drew (Below.refl _ _)))
  have HC1d := Aside0.mk (Kd.C_drew HC1.out)
  replace a0 := pw_cell_below (below_drew (Below.refl _ _)) a0
  replace a1 := pw_cell_below (below_drew (Below.refl _ _)) a1
  replace a2 := pw_cell_below (below_drew (Below.refl _ _)) a2
  go_region_with (go_at_call 63; refine (unit_Free.calls vars _ _ cls _ _ d fr _ (Kd.C_below HS1d.out.hr HS1d.out.hb) HS.out.hc HC1d.out HC.out.1 HF.out).mono ?_; rintro e w2 ⟨rfl, hb2⟩; have HS2 := Aside0.mk (HS1d.out.below hb2); clear hb2 HF)
  all_goals (
   go_wp2
   go_ret2
   exact ⟨rfl, HS2.out⟩))
set_option maxHeartbeats 8000000 in
set_option maxRecDepth 100000 in
theorem known_yes {w0 W : World} {g : Nat} {vars : Int} {A : Option Addr} {c : Nat} {cls : List (List Int)} {d : List Int} {stk : List (Int × Int)} {s : Sv.St} {dv kv mv tv : Value}
 (h : Sst w0 W g vars A c cls d stk s dv kv mv tv) (l : List Int) (fr : Int) (hp : Uk.prop vars cls d = (l, 0)) (hf : Uk.free vars cls d = fr) (hyes : (l.length : Int) = vars) (hm : s.model.length ≤ 1000) (hl : l.length ≤ 1000) :
 Calls Tryz.prog 39 #[.pointer (some ⟨g, 0, none⟩)] W fun e w' => e = .returned (.tuple #[.int .i64 fr, .bool true]) ∧ ∃ mv' tv', Sst w0 w' g vars A c cls d stk (s.tell l) dv kv mv' tv' := by
 have HS := Aside0.mk h
 obtain ⟨Ad, cd, ed⟩ := Kd.R_slice h.hd
 have HC := Aside0.mk (Kd.R_reads' (ed ▸ h.hd)).2
 have e0 : W.cell? ⟨g, 0, none⟩ = some (.int .i64 vars) := (h.fld 0).trans rfl
 have e1 : W.cell? ⟨g, 1, none⟩ = some (.slice A cls.length c) := (h.fld 1).trans rfl
 have e2 : W.cell? ⟨g, 2, none⟩ = some dv := (h.fld 2).trans rfl
 have HP := Aside0.mk (show unit_Propagate.f vars cls d = some (l, 0) by unfold unit_Propagate.f; rw [hp])
 have HF := Aside0.mk (show unit_Free.f vars cls d = some fr by unfold unit_Free.f; rw [hf])
 have HM := Aside0.mk hm
 subst ed
 have t2 : ((l.length : Int) == vars) = true := by simp [hyes]
 clear h hp hf hyes hm
 have HSd := Aside0.mk (HS.out.below (below_drew (Below.refl _ _)))
 have HCd := Aside0.mk (Kd.C_drew HC.out.2)
 have b0 := pw_cell_below (below_drew (Below.refl _ W)) e0
 have b1 := pw_cell_below (below_drew (Below.refl _ W)) e1
 have b2 := pw_cell_below (below_drew (Below.refl _ W)) e2
 go_enter Tryz.func39, Tryz.ntmps39
 go_wp2
 go_region_with (go_at_call 41; refine (unit_Propagate.calls vars _ _ cls _ _ d l 0 _ (Kd.C_below HSd.out.hr HSd.out.hb) HS.out.hc HCd.out HC.out.1 HP.out).mono ?_; rintro e w1 ⟨v, rfl, ho, hb1⟩; obtain ⟨Al, cl, rfl, hc1, hc2⟩ := row_reads ho; have HS1 := Aside0.mk (HSd.out.below hb1); have HC1 := Aside0.mk (Kd.C_below HCd.out hb1); have HL1 := Aside0.mk (show Kd.R (Kd.int .i64) 3 w1 w0.heap.size (fun k => k ≠ g) (.slice Al l.length cl) l from Kd.R_mono (Kd.R_lower (Kd.R_bound ho) HSd.out.hb.size) (fun k hk => by have h1 := HSd.out.lt; have h2 := hk.2.1; omega)); have a0 := pw_cell_below hb1 b0; have a1 := pw_cell_below hb1 b1; have a2 := pw_cell_below hb1 b2; clear ho hb1 hc1 hc2 HP)
 all_goals (
  go_wp2
  go_loopg [34] l.length (fun gg s34 wq => ∃ (j : Nat) (mv' : Value), j ≤ l.length ∧ l.length - j ≤ gg ∧ s34 = .int .i64 (j : Int) ∧ Aside0 (Kd.R (Kd.int .i64) 3 wq w0.heap.size (fun k => k ≠ g) (.slice Al l.length cl) l) ∧ Aside0 (Sst w0 wq g vars A c cls d stk ⟨s.looks, s.sat, s.model ++ (l.take j).map (fun x => decide (x > 0)), s.trace⟩ (.slice Ad d.length cd) kv mv' tv))
  case atStart => exact ⟨0, mv, Nat.zero_le _, by omega, by go_num, HL1, ⟨by rw [List.take_zero, List.map_nil, List.append_nil]; exact HS1.out⟩⟩
  case round =>
   clear HS1 HC1 a0 a1 a2
   obtain ⟨j, mv', hj, hg, rfl, HL, HS1⟩ := hrel
   by_cases hjl : j < l.length
   · have hjz : (j : Int) < (l.length : Int) := by omega
     obtain ⟨ad, eA, hx⟩ := C_int_at (Kd.R_reads' HL.out).2.2 j hjl
     subst eA
     have HTK := Aside0.mk (show s.model ++ (l.take (j + 1)).map (fun x => decide (x > 0)) = (s.model ++ (l.take j).map (fun x => decide (x > 0))) ++ [decide (l[j] > 0)] by rw [List.take_succ_eq_append_getElem hjl, List.map_append, List.append_assoc]; rfl)
     have HLE := Aside0.mk (show (s.model ++ (l.take j).map (fun x => decide (x > 0))).length ≤ 2000 by have := HM.out; rw [List.length_append, List.length_map, List.length_take]; omega)
     generalize l[j] = x at hx HTK
     obtain ⟨bx, hbx⟩ : ∃ bx, decide (x > 0) = bx := ⟨_, rfl⟩
     rw [hbx] at HTK
     generalize s.model ++ (l.take j).map (fun x => decide (x > 0)) = ms at HTK HLE HS1
     have e6 : wr.cell? ⟨g, 6, none⟩ = some mv' := (HS1.out.fld 6).trans rfl
     have f6 := blk_frozen HS1.out.hg 6
     have e6a : ∀ o, (wr.alloc o).cell? ⟨g, 6, none⟩ = some mv' := fun o => pw_cell_below (below_alloc (Below.refl _ wr) o) e6
     have hm9 : Kd.R Kd.bool 4 wr w0.heap.size (fun k => k ≠ g) mv' ms := HS1.out.hm
     obtain ⟨Am, cm, em⟩ := Kd.R_slice hm9
     have HM9 := Aside0.mk hm9
     subst em
     obtain ⟨mt, hmt⟩ : ∃ mt, mt = ms ++ [bx] := ⟨_, rfl⟩
     have HMT := Aside0.mk hmt
     clear hm9 hmt
     go_wp2_with (at_builtin; refine Kd.R_append Kd.bool (w0 := w0) w0.heap.size rfl (.tmp 43) (.tmp 46) 39 4 (.bool false) 1 rfl Tryz.underlying39 info_bool rfl (by decide) (by omega) (.slice Am ms.length cm) ms bx [.bool bx] (fun k => k ≠ g) (fun _ => False) rfl rfl ?aP (fun _ hk => hk.elim) ?aF ?aO ?aB ?aS ?aL ?_; (case aP => exact rfl); (case aB => exact HS1.out.hb); (case aF => exact (fun k hk => by have := HS1.out.lt; omega)); (case aO => exact HM9.out); (case aS => exact HS1.out.hb.size); (case aL => have h1 := HLE.out; omega); intro v1 w4 hR2 hB2 hg2 hat2; rw [← HMT.out] at hR2; obtain ⟨A9, c9, ev⟩ := Kd.R_slice hR2; subst ev; have HL2 := Aside0.mk (Kd.R_far (p := ⟨g, 6, none⟩) (Kd.R_over HL.out HM9.out (by decide) hg2) (fun k hk => hk) (.slice A9 mt.length c9)); have k1 := HS1.out.kept (u := .slice Am ms.length cm) (fun k hk => HM9.out.1 k hk) hg2; have z1 := blk_frozen k1 6; have z2 : w4.cell? ⟨g, 6, none⟩ = some (.slice Am ms.length cm) := (blk_cell k1 6).trans rfl; have HS2 := Aside0.mk (HS1.out.putM hR2 hB2 hg2); clear hR2 hB2 hg2 hat2 k1)
     go_roundg (l.length - (j + 1))
     case measure => omega
     case rel => exact ⟨j + 1, _, by omega, by omega, by go_num, HL2, ⟨by rw [HTK.out, ← HMT.out]; exact HS2.out⟩⟩
   · have hjz : ¬ (j : Int) < (l.length : Int) := by omega
     have hS9 := HS1.out
     rw [List.take_of_length_le (by omega)] at hS9
     have HS9 := Aside0.mk hS9
     have x5 : wr.cell? ⟨g, 5, none⟩ = some (.bool s.sat) := (hS9.fld 5).trans rfl
     have x5f := blk_frozen hS9.hg 5
     have hT := hS9.putS
     have x7 : (wr.setCell ⟨g, 5, none⟩ (.bool true)).cell? ⟨g, 7, none⟩ = some tv := (hT.fld 7).trans rfl
     have x7f := blk_frozen hT.hg 7
     have HT9 := Aside0.mk hT.noT
     clear hS9 hT
     go_wp2
     obtain ⟨W10, hW10⟩ : ∃ W10, W10 = (wr.setCell ⟨g, 5, none⟩ (.bool true)).setCell ⟨g, 7, none⟩ (.slice none 0 0) := ⟨_, rfl⟩
     rw [← hW10] at HT9 ⊢
     clear hW10
     have HT10 := Aside0.mk (HT9.out.below (below_drew (Below.refl _ _)))
     have HD10 := Aside0.mk (Kd.R_reads' HT10.out.hd).2
     have y0 : W10.drew.cell? ⟨g, 0, none⟩ = some (.int .i64 vars) := (HT10.out.fld 0).trans rfl
     have y1 : W10.drew.cell? ⟨g, 1, none⟩ = some (.slice A cls.length c) := (HT10.out.fld 1).trans rfl
     have y2 : W10.drew.cell? ⟨g, 2, none⟩ = some (.slice Ad d.length cd) := (HT10.out.fld 2).trans rfl
     clear x5 x5f x7 x7f
     go_region_with (go_at_call 63; refine (unit_Free.calls vars _ _ cls _ _ d fr _ (Kd.C_below HT10.out.hr HT10.out.hb) HS.out.hc HD10.out.2 HD10.out.1 HF.out).mono ?_; rintro e w2 ⟨rfl, hb2⟩; have HS2 := Aside0.mk (HT10.out.below hb2); clear hb2 HF)
     all_goals (
      go_wp2
      go_ret2
      exact ⟨rfl, _, _, HS2.out⟩))
section
variable {W : World} {base gk n ck T : Nat} {ok : Nat → Prop} {stk3 : List (Int × Int)} {p : Int × Int}
theorem frame_split (h : Kd.R (Kd.pair (Kd.int .i64) (Kd.int .i64)) T W base ok (.slice (some ⟨gk, 0, none⟩) (n + 1) ck) (stk3 ++ [p])) (hl : stk3.length = n) :
 ∃ inner0 : List Value, inner0.length = n * 2 ∧ W.ownsRow base T 2 (.slice (some ⟨gk, 0, none⟩) (n + 1) ck) (n + 1) (inner0 ++ [.int .i64 p.1, .int .i64 p.2]) ∧
  Reps ((Kd.pair (Kd.int .i64) (Kd.int .i64)).M W base (fun k => ok k ∧ some k ≠ (Value.slice (some ⟨gk, 0, none⟩) (n + 1) ck).ownBlock)) 2 stk3 inner0 := by
 obtain ⟨h0, inner, ho, hr⟩ := h
 have hlen : inner.length = (n + 1) * 2 := by have := hr.1; rw [List.length_append, List.length_singleton, hl] at this; exact this
 obtain ⟨c0, c1, e, e0, e1⟩ := hr.2 n p (by rw [List.getElem?_append_right (by omega), hl, Nat.sub_self]; rfl)
 have e0 : c0 = [.int .i64 p.1] := e0
 have e1 : c1 = [.int .i64 p.2] := e1
 have hz : (Kd.pair (Kd.int .i64) (Kd.int .i64)).sz = 2 := rfl
 rw [hz] at e
 rw [e0, e1, List.take_of_length_le (by rw [List.length_drop]; omega)] at e
 have hi : inner = inner.take (n * 2) ++ [.int .i64 p.1, .int .i64 p.2] := by
  have := (List.take_append_drop (n * 2) inner).symm
  rw [e] at this
  exact this
 refine ⟨inner.take (n * 2), by rw [List.length_take]; omega, ?_, ?_, ?_⟩
 · rw [← hi]
   rw [List.length_append, List.length_singleton, hl] at ho
   exact ho
 · rw [List.length_take, hl, hlen]; omega
 · intro j q hj
   have hjn : j < n := by have := (List.getElem?_eq_some_iff.1 hj).1; omega
   have := hr.2 j q (by rw [List.getElem?_append_left (by omega)]; exact hj)
   rw [hz] at this
   rw [List.drop_take, List.take_take]
   rw [show min 2 (n * 2 - j * 2) = 2 by omega]
   exact this
theorem frame_cells (h : Kd.R (Kd.pair (Kd.int .i64) (Kd.int .i64)) T W base ok (.slice (some ⟨gk, 0, none⟩) (n + 1) ck) (stk3 ++ [p])) (hl : stk3.length = n) :
 W.cell? ⟨gk, n * 2, none⟩ = some (.int .i64 p.1) ∧ W.cell? ⟨gk, n * 2 + 1, none⟩ = some (.int .i64 p.2) ∧ W.frozen? ⟨gk, n * 2 + 1, none⟩ = false := by
 obtain ⟨inner0, h1, ⟨_, ⟨e2, _⟩ | ⟨g', cap', cur, e2, e3, e4, e5, e6, e7, e8⟩⟩, _⟩ := frame_split h hl
 · exact absurd e2 (by simp)
 · injection e2 with e21 e22 e23
   injection e21 with e21
   injection e21 with e21
   subst e21
   have key : ∀ j, j < (n + 1) * 2 → cur[j]? = (inner0 ++ [.int .i64 p.1, .int .i64 p.2])[j]? := by
    intro j hj
    rw [← e8, List.getElem?_take, if_pos hj, Array.getElem?_toList]
   refine ⟨?_, ?_, blk_frozen e4 _⟩
   · rw [blk_cell e4, key _ (by omega), List.getElem?_append_right (by omega), h1, Nat.sub_self]; rfl
   · rw [blk_cell e4, key _ (by omega), List.getElem?_append_right (by omega), h1, show n * 2 + 1 - n * 2 = 1 by omega]; rfl
theorem frame_put (h : Kd.R (Kd.pair (Kd.int .i64) (Kd.int .i64)) T W base ok (.slice (some ⟨gk, 0, none⟩) (n + 1) ck) (stk3 ++ [p])) (hl : stk3.length = n) (m : Int) :
 Kd.R (Kd.pair (Kd.int .i64) (Kd.int .i64)) T (W.setCell ⟨gk, n * 2 + 1, none⟩ (.int .i64 m)) base ok (.slice (some ⟨gk, 0, none⟩) (n + 1) ck) (stk3 ++ [(p.1, m)]) ∧ W.grownBy (W.setCell ⟨gk, n * 2 + 1, none⟩ (.int .i64 m)) (some gk) := by
 have h0 := h.1
 obtain ⟨inner0, h1, ho, hr⟩ := frame_split h hl
 have hs := ho.stored (n * 2 + 1) (.int .i64 m)
 have e : (inner0 ++ [Value.int .i64 p.1, Value.int .i64 p.2]).set (n * 2 + 1) (Value.int .i64 m) = inner0 ++ [Value.int .i64 p.1, Value.int .i64 m] := by
  rw [List.set_append_right _ _ (by omega), h1, show n * 2 + 1 - n * 2 = 1 by omega]; rfl
 rw [e] at hs
 refine ⟨⟨h0, inner0 ++ [Value.int .i64 p.1, Value.int .i64 m], ?_, ?_⟩, hs.2⟩
 · rw [List.length_append, List.length_singleton, hl]; exact hs.1
 · refine Reps.snoc (hr.imp_ (fun q c hq => hq)) ?_ rfl
   exact ⟨[Value.int .i64 p.1], [Value.int .i64 m], rfl, rfl, rfl⟩
end
theorem Sst.frame {w0 W : World} {g : Nat} {vars : Int} {A : Option Addr} {c : Nat} {cls : List (List Int)} {d : List Int} {s : Sv.St} {dv mv tv : Value} {gk n ck : Nat} {stk3 : List (Int × Int)} {p : Int × Int}
 (h : Sst w0 W g vars A c cls d (stk3 ++ [p]) s dv (.slice (some ⟨gk, 0, none⟩) (n + 1) ck) mv tv) (hl : stk3.length = n) (m : Int) :
 Sst w0 (W.setCell ⟨gk, n * 2 + 1, none⟩ (.int .i64 m)) g vars A c cls d (stk3 ++ [(p.1, m)]) s dv (.slice (some ⟨gk, 0, none⟩) (n + 1) ck) mv tv := by
 obtain ⟨hk, hgw⟩ := frame_put h.hk hl m
 have hgw' : W.grownBy (W.setCell ⟨gk, n * 2 + 1, none⟩ (.int .i64 m)) (Value.slice (some ⟨gk, 0, none⟩) (n + 1) ck).ownBlock := hgw
 have hb : w0.heap.size ≤ gk := Kd.R_base h.hk gk rfl
 refine ⟨h.kept (u := .slice (some ⟨gk, 0, none⟩) (n + 1) ck) (fun k hk => h.hk.1 k hk) hgw', Kd.R_over h.hd h.hk (by decide) hgw', hk, Kd.R_over h.hm h.hk (by decide) hgw', Kd.S_over' h.ht (Kd.R_typed h.hk) (by decide) hgw', h.bg, h.hb.setCell (p := ⟨gk, n * 2 + 1, none⟩) hb _, h.hr, h.hc⟩
end Go.Proofs.YteinkjhimceljaaGreatDoor.J
