/- proof.Step and proof.Check, walked. -/
import Derived.Test.YteinkjhimceljaaGreatDoorT14
import Derived.Test.YteinkjhimceljaaGreatDoorT13
import Derived.Test.YteinkjhimceljaaGreatDoorT05
import Derived.Deep.RegionLaw
import Derived.Lib.LazyBuf
namespace Go.Proofs.YteinkjhimceljaaGreatDoor.J
open Go.RowKit Go.Shelf Go.Proofs.YteinkjhimceljaaGreatDoorW.PrintWords Go.Proofs.YteinkjhimceljaaGreatDoorW.PrintLast Go.Proofs.YteinkjhimceljaaGreatDoorW.PrintMore
set_option linter.unusedVariables false
set_option linter.unusedSimpArgs false
theorem shared_rows {w2 W : World} {A : Option Addr} {n : Nat} {l : List (List Int)} (h : Kd.C (Kd.slice 3 (Kd.int .i64)) w2 A n l) (hb : Below w2.heap.size w2 W) : Kd.F (Kd.slice 3 (Kd.int .i64)) W (fun k => k < w2.heap.size) A n l :=
 Kd.F_below (Kd.C_F (Kd.heap_slice 3 (Kd.heap_int .i64)) h) hb
theorem run_eql_nil_slice' (w : World) (n c : Nat) (a : Option Addr) : (binOp .eql 34 (.slice a n c) (.slice none 0 0)).run Tryz.prog w = .ok (.bool a.isNone) w := run_eql_slice_nil w _ _ a n c Tryz.underlying34
set_option maxHeartbeats 1000000 in
set_option maxRecDepth 100000 in
theorem clone_rows (l : List (List Int)) (A : Option Addr) (c : Nat) (w : World) (okp : Nat → Prop) (hf : Kd.F (Kd.slice 3 (Kd.int .i64)) w okp A l.length l) (hlt : ∀ k, okp k → k < w.heap.size) (hl : l.length ≤ 1000000) :
 Calls Tryz.prog 17 #[.slice A l.length c] w fun e w' => ∃ v, e = .returned v ∧ Kd.N (Kd.slice 3 (Kd.int .i64)) 56 w' w.heap.size (fun k => okp k ∨ w.heap.size ≤ k) v l ∧ Below w.heap.size w w' := by
 have hr := Kd.F_now hf
 cases A with
 | none =>
  have e : l = [] := by
   cases l with
   | nil => rfl
   | cons x t => obtain ⟨ad, he, _⟩ := hr.2.2 (by simp); exact absurd he (by simp)
  subst e
  have hn0 := fun W' n' c' a' => run_eql_nil_slice' W' n' c' a'
  go_enter Tryz.func17, Tryz.ntmps17
  go_wp2
  go_ret
  exact ⟨_, rfl, Kd.N_nil _ _ _ _ _, Below.refl _ _⟩
 | some ad =>
  have HR := Aside0.mk hf
  have HLT := Aside0.mk hlt
  have HLN := Aside0.mk hl
  clear hr hl hf hlt
  have hn0 := fun W' n' c' a' => run_eql_nil_slice' W' n' c' a'
  go_enter Tryz.func17, Tryz.ntmps17
  go_wp2_with (first
   | ((with_reducible refine gate_dst (N := 5) rfl ?_); refine Kd.N_lit (Kd.slice 3 (Kd.int .i64)) (w0 := w) w.heap.size 56 ?hg (N' := 5) ?hd (xs := []) (inner := []) (ok := fun k => okp k ∨ w.heap.size ≤ k) (okp := fun _ => False) ?hr ?hp (fun _ hk => hk.elim) (.inr (Nat.le_refl _)) (Below.refl _ _) (Nat.le_refl _) (by simp) ?_; (case hd => rfl); (case hg => rfl); (case hr => first | (go_simp; done) | (go_simp; rfl)); (case hp => exact Reps.none _ _); intro v5 w5 hn5 hb5 hg5 hat5; obtain ⟨A5, c5, rfl⟩ := Kd.N_slice hn5; have HN5 := Aside0.mk hn5; have HB5 := Aside0.mk hb5; clear hn5 hb5 hg5 hat5)
   | (at_builtin; refine Kd.N_append_rows (Kd.slice 3 (Kd.int .i64)) (w0 := w) w.heap.size rfl (.tmp 5) (.tmp 6) 34 56 (.slice none 0 0) 24 rfl Tryz.underlying34 info_rows rfl (by decide) (by omega) (.slice A5 0 c5) [] l (some ad) l.length c (fun k => okp k ∨ w.heap.size ≤ k) okp rfl rfl HN5.out (Kd.F_below HR.out HB5.out) (fun k hk => ⟨.inl hk, fun e => by have := Kd.N_base HN5.out k e.symm; have := HLT.out k hk; omega⟩) (fun k hk => .inr (Nat.le_trans HB5.out.size hk)) HB5.out HB5.out.size (by have := HLN.out; simp only [List.length_nil]; omega) ?_; intro v6 w6 hn6 hb6 hg6 hat6; rw [List.nil_append] at hn6; have HN6 := Aside0.mk hn6; have HB6 := Aside0.mk hb6; clear hn6 hb6 hg6 hat6))
  go_ret
  exact ⟨_, rfl, HN6.out, HB6.out⟩
theorem check_len {vars : Int} {c : List Int} (h : Sp.check vars [c] = 0) : c.length ≤ 30 := (Sp.check_iff.1 h).2.2 c (by simp)
theorem check_one {vars : Int} {c : List Int} (h : Sp.check vars [c] = 0) : ∀ x ∈ c, -60 ≤ x ∧ x ≤ 60 := fun x hx => by
 obtain ⟨h0, h1, h2⟩ := Sp.check_ok h
 have := Sp.lit_iff.1 (h2 c (by simp) x hx)
 omega
set_option maxHeartbeats 4000000 in
set_option maxRecDepth 100000 in
theorem follows_any (vars : Int) (b : Nat) (A : Option Addr) (cc : Nat) (cls : List (List Int)) (A1 : Option Addr) (c1 : Nat) (c : List Int) (w : World)
 (h0 : w.cell? ⟨b, 0, none⟩ = some (.int .i64 vars)) (h1 : w.cell? ⟨b, 1, none⟩ = some (.slice A cls.length cc)) (hr : Kd.C (Kd.slice 3 (Kd.int .i64)) w A cls.length cls) (hc : cls.length ≤ cc) (hr1 : Kd.C (Kd.int .i64) w A1 c.length c) (hc1 : c.length ≤ c1) (r : Bool) (hf : Pf.follows vars cls c = r) :
 Calls Tryz.prog 18 #[.pointer (some ⟨b, 0, none⟩), .slice A1 c.length c1] w fun e w' => e = .returned (.bool r) ∧ Below w.heap.size w w' := by
 have HR := Aside0.mk hr
 have HC := Aside0.mk hc
 have HR1 := Aside0.mk hr1
 have HC1 := Aside0.mk hc1
 have hm1 : c.length ≤ 9223372036854775807 := hr1.2.1
 clear hr hc hr1 hc1
 go_enter Tryz.func18, Tryz.ntmps18
 go_wp2_with ((with_reducible refine gate_dst (N := 17) rfl ?_); refine Kd.N_lit (Kd.slice 3 (Kd.int .i64)) (w0 := w) w.heap.size 56 ?hg (N' := 17) ?hd (xs := [c]) (inner := [.slice A1 c.length c1]) (ok := fun _ => True) (okp := fun k => k < w.heap.size) ?hr ?hp (fun _ _ => trivial) trivial (Below.refl _ _) (Nat.le_refl _) (by simp) ?_; (case hd => rfl); (case hg => rfl); (case hr => first | (go_simp; done) | (go_simp; rfl)); (case hp => exact Reps.one (shared_row HC1.out HR1.out (Below.refl _ _)) (Reps.none _ _)); intro v5 w5 hn5 hb5 hg5 hat5; obtain ⟨A5, c5, rfl⟩ := Kd.N_slice hn5; have HN5 := Aside0.mk hn5; have HB5 := Aside0.mk hb5; have f0 : ∀ o, (w5.alloc o).cell? ⟨b, 0, none⟩ = some (.int .i64 vars) := fun o => pw_cell_below (below_alloc HB5.out o) h0; have f1 : ∀ o, (w5.alloc o).cell? ⟨b, 1, none⟩ = some (.slice A cls.length cc) := fun o => pw_cell_below (below_alloc HB5.out o) h1; clear hn5 hb5 hg5 hat5)
 obtain ⟨W6, hW6, hb6, hs6, hw6⟩ := boxed_formula w5 vars A5 c5 1
 rw [← hW6]
 have HB6 := Aside0.mk (below_step HB5.out hb6)
 have HW6 := Aside0.mk hw6
 have HN6 := Aside0.mk (Kd.N_reads' (Kd.N_below HN5.out hb6)).2
 clear hW6 hb6 hs6 hw6 f0 f1
 by_cases hk : Sp.check vars cls = 0
 · have HCK := Aside0.mk (check_any vars A cc cls W6 (Kd.C_below HR.out HB6.out))
   rw [hk] at HCK
   obtain ⟨y, hy⟩ : ∃ y, Sp.check vars [c] = y := ⟨_, rfl⟩
   have HY := Aside0.mk (fun W h => check_any vars A5 c5 [c] W h)
   rw [hy] at HY
   by_cases hy0 : y = 0
   · subst hy0
     have HX := Aside0.mk (check_one hy)
     have HM := Aside0.mk (check_len hy)
     have HFO := Aside0.mk (show ((Uk.prop vars cls (Pf.turned c)).2 == 110) = r by
      rw [← hf]; unfold Pf.follows; simp only [hk, hy, true_and]; rfl)
     clear hk hy hf
     go_wp2_with (first
      | (go_at_call 14; refine HCK.out.mono ?_; rintro e w7 ⟨rfl, hb7⟩; obtain ⟨q0, q1, q2⟩ := HW6.out w7 hb7; have HB7 := Aside0.mk (below_step HB6.out hb7); have HN7 := Aside0.mk (Kd.C_below HN6.out.2 hb7); clear HCK hb7 HN6)
      | (go_at_call 14; refine (HY.out _ HN7.out).mono ?_; rintro e w8 ⟨rfl, hb8⟩; have HB8 := Aside0.mk (below_step HB7.out hb8); clear hb8 HN7))
     have g0 := pw_cell_below HB8.out h0
     have g1 := pw_cell_below HB8.out h1
     clear q0 q1 q2 h0 h1
     go_loopg [6, 32] c.length (fun gg s6 s32 wq => ∃ j : Nat, j ≤ c.length ∧ c.length - j ≤ gg ∧ s32 = .int .i64 (j : Int) ∧ Aside0 (Kd.R (Kd.int .i64) 3 wq w8.heap.size (fun _ => True) s6 (Pf.turned (c.take j))) ∧ Aside0 (Below w8.heap.size w8 wq))
     case atStart => exact ⟨0, Nat.zero_le _, by omega, by go_num, ⟨Kd.R_nil _ _ _ _ _⟩, ⟨Below.refl _ _⟩⟩
     case round =>
      obtain ⟨j, hj, hg, rfl, HT, HBT⟩ := hrel
      have HBW := Aside0.mk (below_step HB8.out HBT.out)
      by_cases hjl : j < c.length
      · have hjz : (j : Int) < (c.length : Int) := by omega
        have hxb := HX.out _ (List.getElem_mem hjl)
        obtain ⟨ad, eA, hx⟩ := C_int_at (Kd.C_below HR1.out HBW.out) j hjl
        subst eA
        have HTK := Aside0.mk (show Pf.turned (c.take (j + 1)) = Pf.turned (c.take j) ++ [-c[j]] by rw [List.take_succ_eq_append_getElem hjl]; unfold Pf.turned; rw [List.map_append]; rfl)
        have HLE := Aside0.mk (show (Pf.turned (c.take j)).length = j by unfold Pf.turned; rw [List.length_map, List.length_take]; omega)
        generalize c[j] = x at hx HTK hxb
        have hneg : IntKind.i64.wrap (-x) = -x := IntWalk.i64_in _ (by omega)
        go_wp2_with (at_builtin; refine Kd.R_append (Kd.int .i64) (w0 := w8) w8.heap.size rfl (.tmp 36) (.tmp 39) 56 3 (.int .i64 0) 8 rfl Tryz.underlying56 info_int rfl (by decide) (by omega) u6 (Pf.turned (c.take j)) (-x) [.int .i64 (-x)] (fun _ => True) (fun _ => False) rfl rfl ?aP (fun _ hk => hk.elim) ?aF ?aO ?aB ?aS ?aL ?_; (case aP => exact rfl); (case aB => exact HBT.out); (case aF => exact (fun _ _ => trivial)); (case aO => exact HT.out); (case aS => exact HBT.out.size); (case aL => have h1 := HLE.out; have h2 := HM.out; omega); intro v1 w4 hR2 hB2 hg2 hat2; have HT2 := Aside0.mk hR2; have HBT2 := Aside0.mk hB2; clear hR2 hB2 hg2 hat2)
        go_roundg (c.length - (j + 1))
        case measure => omega
        case rel => exact ⟨j + 1, by omega, by omega, by go_num, ⟨by rw [HTK.out]; exact HT2.out⟩, HBT2⟩
      · have hjz : ¬ (j : Int) < (c.length : Int) := by omega
        have hT9 := HT.out
        rw [List.take_of_length_le (by omega)] at hT9
        obtain ⟨tc, htc⟩ : ∃ tc, tc = Pf.turned c := ⟨_, rfl⟩
        rw [← htc] at hT9 HFO
        obtain ⟨pl, pe, hp⟩ : ∃ pl pe, Uk.prop vars cls tc = (pl, pe) := ⟨_, _, rfl⟩
        rw [hp] at HFO
        have HP1 := Aside0.mk (show unit_Propagate.f vars cls tc = some (pl, pe) by unfold unit_Propagate.f; rw [hp])
        have hfo := HFO.out
        simp only at hfo
        obtain ⟨A8, c8, e8, hC8, hc8⟩ := row_reads hT9
        subst e8
        have HC8 := Aside0.mk hC8
        have HC8c := Aside0.mk hc8
        have e0 := pw_cell_below HBT.out g0
        have e1 := pw_cell_below HBT.out g1
        clear hT9 hC8 hc8 HT hp htc HFO g0 g1
        go_wp2_with (go_at_call 41; refine (unit_Propagate.calls vars _ _ cls _ _ tc pl pe _ (Kd.C_below HR.out HBW.out) HC.out HC8.out HC8c.out HP1.out).mono ?_; rintro e w9 ⟨v, rfl, ho, hb9⟩; obtain ⟨A9, c9, rfl, hc9, hc9c⟩ := row_reads ho; have HB9 := Aside0.mk (below_step HBW.out hb9); clear ho hb9 hc9 hc9c)
        go_ret
        exact ⟨rfl, HB9.out⟩
   · have hy1 : (y != 0) = true := bne_iff_ne.2 hy0
     obtain rfl : r = false := hf.symm.trans (by
      unfold Pf.follows; rw [decide_eq_false_iff_not]; rintro ⟨_, h, _⟩; rw [hy] at h; exact hy0 h)
     clear hk hy hf
     go_wp2_with (first
      | (go_at_call 14; refine HCK.out.mono ?_; rintro e w7 ⟨rfl, hb7⟩; obtain ⟨q0, q1, q2⟩ := HW6.out w7 hb7; have HB7 := Aside0.mk (below_step HB6.out hb7); have HN7 := Aside0.mk (Kd.C_below HN6.out.2 hb7); clear HCK hb7 HN6)
      | (go_at_call 14; refine (HY.out _ HN7.out).mono ?_; rintro e w8 ⟨rfl, hb8⟩; have HB8 := Aside0.mk (below_step HB7.out hb8); clear hb8 HN7))
     go_ret
     exact ⟨rfl, HB8.out⟩
 · obtain ⟨y, hy⟩ : ∃ y, Sp.check vars cls = y := ⟨_, rfl⟩
   have HCK := Aside0.mk (check_any vars A cc cls W6 (Kd.C_below HR.out HB6.out))
   rw [hy] at HCK
   have hy1 : (y != 0) = true := bne_iff_ne.2 (fun e => hk (hy.trans e))
   obtain rfl : r = false := hf.symm.trans (by
    unfold Pf.follows; rw [decide_eq_false_iff_not]; rintro ⟨h, _, _⟩; exact hk h)
   clear hk hy hf
   go_wp2_with (go_at_call 14; refine HCK.out.mono ?_; rintro e w7 ⟨rfl, hb7⟩; have HB7 := Aside0.mk (below_step HB6.out hb7); clear HCK hb7)
   go_ret
   exact ⟨rfl, HB7.out⟩
theorem box2 (w : World) (o1 : Obj) (cells : Array Value) (T : TypeId) : ((w.alloc o1).alloc (.cells cells T)).heap[w.heap.size + 1]? = some (.cells cells T (0, 0)) := by
 have h := heap_alloc_new (w.alloc o1) (.cells cells T)
 rw [show (w.alloc o1).heap.size = w.heap.size + 1 by simp] at h
 exact h
theorem below2 (w : World) (o1 o2 : Obj) : Below w.heap.size w ((w.alloc o1).alloc o2) := below_alloc (below_alloc (Below.refl _ w) o1) o2
theorem rdL_len (l : List (List Int)) (h : 0 < l.length) : (rd_L14 l ((l.length : Int) - 1)).length = (l.getD (l.length - 1) []).length := by
 have e : ((l.length : Int) - 1) = ((l.length - 1 : Nat) : Int) := by omega
 rw [e, rdL_at l (l.length - 1) (by omega), List.getD_eq_getElem?_getD, List.getElem?_eq_getElem (by omega)]; rfl
noncomputable def proof_Check.T9 : Bool × List (List Nat × List Nat) := (true, [([], []), ([], []), ([1], [1]), ([2], [2]), ([3], [3]), ([3], [3]), ([5, 3], [3, 5]), ([4, 6, 3], [3, 4, 6]), ([7, 3], [3, 7]), ([8, 3], [3, 8]), ([9, 3], [3, 9]), ([3, 10], [3, 10]), ([0, 3, 0], [0]), ([11, 12, 0, 1, 2, 3, 4, 5, 6, 7, 8, 9, 10, 11, 12], [11])])
noncomputable def proof_Check.B9 : List Nat := [0, 0, 2, 6, 14, 14, 46, 126, 254, 510, 1022, 2046, 15, 8191]
theorem proof_Check.bits : waitsOk proof_Check.T9.2 proof_Check.B9 = true := by kernel_rfl
theorem proof_Check.tab : rtab .any (opsOf Tryz.f9 11) = proof_Check.T9 := by kernel_rfl
inductive CheckIs (v : Int) (cls tr : List (List Int)) : Option (Int × Bool) → Prop
 | mk : CheckIs v cls tr (if cls.length ≤ 1000000 ∧ tr.length ≤ 1000000 then some (Pf.check v cls tr) else none)
theorem CheckIs.some (v : Int) (cls tr : List (List Int)) : ∃ r, CheckIs v cls tr r := ⟨_, .mk⟩
noncomputable def proof_Check.f (a0_0 : Int) (l0_1 l1 : List (List Int)) : Option (Int × Bool) := Classical.choose (CheckIs.some a0_0 l0_1 l1)
theorem proof_Check.f_eq (v : Int) (cls tr : List (List Int)) : proof_Check.f v cls tr = if cls.length ≤ 1000000 ∧ tr.length ≤ 1000000 then some (Pf.check v cls tr) else none := by
 have h : CheckIs v cls tr (proof_Check.f v cls tr) := Classical.choose_spec (CheckIs.some v cls tr)
 generalize proof_Check.f v cls tr = x at h
 cases h
 rfl
set_option maxHeartbeats 4000000 in
set_option maxRecDepth 100000 in
theorem proof_Check.calls (a0_0 : Int) (A0_1 : Option Addr) (c0_1 : Nat) (l0_1 : List (List Int)) (A1 : Option Addr) (c1 : Nat) (l1 : List (List Int)) (r1 : Int) (r2 : Bool) (w : World) (hr0_1 : Kd.C (Kd.slice 3 (Kd.int .i64)) w A0_1 l0_1.length l0_1) (hc0_1 : l0_1.length ≤ c0_1) (hr1 : Kd.C (Kd.slice 3 (Kd.int .i64)) w A1 l1.length l1) (hc1 : l1.length ≤ c1) (h : proof_Check.f a0_0 l0_1 l1 = some (r1, r2)) :
 Calls Tryz.prog 9 #[.agg #[.int .i64 a0_0, .slice A0_1 l0_1.length c0_1], .slice A1 l1.length c1] w fun e w' => e = .returned (.tuple #[.int .i64 r1, .bool r2]) ∧ Below w.heap.size w w' := by
 rw [proof_Check.f_eq] at h
 split at h
 · rename_i hl
   obtain ⟨W0, hW0, hb0, hs0, hw0⟩ := boxed_formula w a0_0 A0_1 c0_1 l0_1.length
   have HF := Aside0.mk (Option.some.inj h)
   have HR := Aside0.mk hr0_1
   have HR1 := Aside0.mk hr1
   have HC1 := Aside0.mk hc1
   have HLN := Aside0.mk hl
   have HB0 := Aside0.mk hb0
   clear h hr0_1 hr1 hc0_1 hc1 hl
   go_enter Tryz.func9, Tryz.ntmps9
   go_wp2_with (go_at_call 17; refine (clone_rows l0_1 A0_1 c0_1 _ (fun k => k < w.heap.size) (shared_rows HR.out (below2 w _ _)) (fun k hk => Nat.lt_of_lt_of_le hk (below2 w _ _).size) HLN.out.1).mono ?_; rintro e w5 ⟨v5, rfl, hn5, hb5⟩; obtain ⟨A5, c5, rfl⟩ := Kd.N_slice hn5; have z0 := (hb5.block (w.heap.size + 1) (by simp)).trans (box2 w _ _ _); have z1 := blk_frozen z0 1; have z2 : w5.cell? ⟨w.heap.size + 1, 1, none⟩ = some _ := (blk_cell z0 1).trans rfl; have HN5 := Aside0.mk hn5; have HB5 := Aside0.mk (below_step (below2 w _ _) hb5); have Z0 := Aside0.mk z0; clear hn5 hb5 z0)
   have hG := Aside0.mk (show GstT 67 w (w5.setCell ⟨w.heap.size + 1, 1, none⟩ (.slice A5 l0_1.length c5)) (w.heap.size + 1) a0_0 (.slice A5 l0_1.length c5) l0_1 from ⟨by have := blk_set Z0.out 1 (.slice A5 l0_1.length c5); simpa using this, Kd.N_far (Kd.N_mono (Kd.N_lower HN5.out (below2 w _ _).size) (fun k hk => by have := (below2 w (.cells #[.int .i64 a0_0, .slice A0_1 l0_1.length c0_1] 36) (.cells #[.int .i64 a0_0, .slice A0_1 l0_1.length c0_1] 90)).size; simp at hk; show k ≠ w.heap.size + 1; omega)) (fun k hk => hk) _, by omega, HB5.out.setCell (p := ⟨w.heap.size + 1, 1, none⟩) (by simp) _⟩)
   clear HN5 HB5 Z0 z1 z2 hb0 hs0 hw0 hW0 HB0
   generalize hb : w.heap.size + 1 = b at hG ⊢
   obtain ⟨W6, hW6⟩ : ∃ W6, W6 = w5.setCell ⟨b, 1, none⟩ (.slice A5 l0_1.length c5) := ⟨_, rfl⟩
   rw [← hW6] at hG ⊢
   clear hW6
   go_loopg [24] l1.length (fun gg s24 wq => ∃ (j : Nat) (gv : Value), j ≤ l1.length ∧ l1.length - j ≤ gg ∧ s24 = .int .i64 (j : Int) ∧ Aside0 (∀ i, i < j → Pf.goes a0_0 l0_1 l1 i = true) ∧ Aside0 (GstT 67 w wq b a0_0 gv (l0_1 ++ l1.take j)))
   case atStart => exact ⟨0, _, Nat.zero_le _, by omega, by go_num, ⟨fun i hi => absurd hi (Nat.not_lt_zero _)⟩, ⟨by rw [List.take_zero, List.append_nil]; exact hG.out⟩⟩
   case round =>
    clear hG
    obtain ⟨j, gv, hj, hg, rfl, HGO, HG⟩ := hrel
    by_cases hjl : j < l1.length
    · have hjz : (j : Int) < (l1.length : Int) := by omega
      obtain ⟨A7, c7, eg⟩ := Kd.N_slice HG.out.hn
      subst eg
      obtain ⟨ad, A8, c8, eA, hx, hl8, hC8⟩ := at_L14 HR1.out (j : Int) (by omega) (by omega)
      rw [rdL_at l1 j hjl] at hx hl8 hC8
      simp only [Int.toNat_natCast] at hx
      replace hx := pw_cell_below HG.out.hb hx
      subst eA
      have HCC := Aside0.mk (Kd.N_reads' HG.out.hn).2
      have HL8 := Aside0.mk hl8
      have HC8 := Aside0.mk hC8
      have e8 : l1.getD j [] = l1[j] := by rw [List.getD_eq_getElem?_getD, List.getElem?_eq_getElem hjl]; rfl
      have HTK := Aside0.mk (show l0_1 ++ l1.take (j + 1) = (l0_1 ++ l1.take j) ++ [l1[j]] by rw [List.take_succ_eq_append_getElem hjl, List.append_assoc])
      have HGE := Aside0.mk (show Pf.follows a0_0 (l0_1 ++ l1.take j) l1[j] = Pf.goes a0_0 l0_1 l1 j by unfold Pf.goes; rw [e8])
      have HLE := Aside0.mk (show (l0_1 ++ l1.take j).length ≤ 2000000 by have := HLN.out; rw [List.length_append, List.length_take]; omega)
      clear hl8 hC8 e8
      generalize l1[j] = c at hx HL8 HC8 HTK HGE
      generalize hxs : l0_1 ++ l1.take j = xs at HTK HGE HLE HCC HG
      obtain ⟨ys, hys⟩ : ∃ ys, ys = xs ++ [c] := ⟨_, rfl⟩
      have HYS := Aside0.mk hys
      clear hys
      obtain ⟨r, hr⟩ : ∃ r, Pf.goes a0_0 l0_1 l1 j = r := ⟨_, rfl⟩
      rw [hr] at HGE
      cases r with
      | false =>
       have HE := Aside0.mk (HF.out.symm.trans (Pf.check_fails hjl HGO.out hr))
       go_wp2_with (go_at_call 18; refine (follows_any a0_0 b A7 c7 xs A8 c8 c _ HG.out.fld.1 HG.out.fld.2 HCC.out.2 HCC.out.1 (Kd.C_below HC8.out HG.out.hb) HL8.out false HGE.out).mono ?_; rintro e w8 ⟨rfl, hb8⟩; have HB8 := Aside0.mk (below_step HG.out.hb hb8); clear hb8)
       have e9 := HE.out
       injection e9 with e1 e2
       subst e1
       subst e2
       go_ret2
       exact ⟨rfl, HB8.out⟩
      | true =>
       go_wp2_with (first
        | (go_at_call 18; refine (follows_any a0_0 b A7 c7 xs A8 c8 c _ HG.out.fld.1 HG.out.fld.2 HCC.out.2 HCC.out.1 (Kd.C_below HC8.out HG.out.hb) HL8.out true HGE.out).mono ?_; rintro e w8 ⟨rfl, hb8⟩; have HG8 := Aside0.mk (HG.out.below hb8); have HF8 := Aside0.mk (shared_row HL8.out HC8.out HG8.out.hb); obtain ⟨k0, k1⟩ := HG8.out.fld; have k2 := blk_frozen HG8.out.hg 1; have k4 : ∀ o, (w8.alloc o).cell? ⟨b, 1, none⟩ = some (.slice A7 xs.length c7) := fun o => pw_cell_below (below_alloc (Below.refl _ w8) o) k1; clear hb8 hx)
        | (at_builtin; refine Kd.N_append (Kd.slice 3 (Kd.int .i64)) (w0 := w) w.heap.size rfl (.tmp 42) (.tmp 44) 34 56 (.slice none 0 0) 24 rfl Tryz.underlying34 info_rows rfl (by decide) (by omega) (.slice A7 xs.length c7) xs c [.slice A8 c.length c8] (fun k => k ≠ b) (fun k => k < w.heap.size) rfl rfl HF8.out (shared_ok HG8.out) (fresh_ok HG8.out) HG8.out.hn HG8.out.hb HG8.out.hb.size (by have := HLE.out; omega) ?_; intro v1 w1 hn1 hb1 hg1 hat1; rw [← HYS.out] at hn1; obtain ⟨A9, c9, ev⟩ := Kd.N_slice hn1; subst ev; have z1 := blk_frozen (HG8.out.kept hg1) 1; have z2 : w1.cell? ⟨b, 1, none⟩ = some (.slice A7 xs.length c7) := (blk_cell (HG8.out.kept hg1) 1).trans rfl; have HG1 := Aside0.mk (HG8.out.put hn1 hb1 hg1); clear hn1 hb1 hg1 hat1))
       go_roundg (l1.length - (j + 1))
       case measure => omega
       case rel => exact ⟨j + 1, _, by omega, by omega, (by have := HLN.out.2; rw [show wrap64 ((j : Int) + 1) = ((j + 1 : Nat) : Int) by unfold wrap64; omega]), ⟨fun i hi => by
        rcases Nat.lt_or_ge i j with h9 | h9
        · exact HGO.out i h9
        · have h8 : i = j := by omega
          subst h8; exact hr⟩, ⟨by rw [HTK.out, ← HYS.out]; exact HG1.out⟩⟩
    · have hjz : ¬ (j : Int) < (l1.length : Int) := by omega
      have HE := Aside0.mk (HF.out.symm.trans (Pf.check_holds (fun i hi => HGO.out i (by omega))))
      have HBG := Aside0.mk HG.out.hb
      by_cases hl0 : 0 < l1.length
      · have hz0 : decide ((l1.length : Int) > 0) = true := decide_eq_true (by omega)
        have hz1 : IntKind.i64.wrap ((l1.length : Int) - 1) = (l1.length : Int) - 1 := IntWalk.i64_in _ (by have := (Kd.C_max HR1.out); omega)
        have hz2 : (1 : Int) ≤ (l1.length : Int) := by omega
        have hz3 : (l1.length : Int) - 1 < (l1.length : Int) := by omega
        obtain ⟨ad, A8, c8, eA, hx, hl8, hC8⟩ := at_L14 HR1.out ((l1.length : Int) - 1) (by omega) (by omega)
        replace hx := pw_cell_below HBG.out hx
        subst eA
        have e8 : ((l1.length : Int) - 1).toNat = l1.length - 1 := by omega
        have e10 : IntKind.i64.wrap ((l1.length : Int) - 1) = (l1.length : Int) - 1 := hz1
        rw [e8] at hx
        generalize hrow : rd_L14 l1 ((l1.length : Int) - 1) = row at hx
        have hxd := pw_cell_below (below_drew (Below.refl _ _)) hx
        have e9 := HE.out
        rw [decide_eq_true hl0, Bool.true_and] at e9
        injection e9 with f1 f2
        have f3 : ((row.length : Int) == 0) = r2 := by
         rw [f2, ← hrow, rdL_len l1 hl0]
         rcases Nat.eq_zero_or_pos (l1.getD (l1.length - 1) []).length with h | h
         · rw [h]; rfl
         · rw [decide_eq_false (by omega)]; exact beq_eq_false_iff_ne.2 (by omega)
        clear hx f2 hrow
        subst f1
        go_wp2
        refine start_ (n := 14) (S := fun w' => w'.cell? (ad.add (l1.length - 1)) = some (.slice A8 row.length c8)) (ds := []) #[false, false, false, false, false, false, false, false, false, false, false, false, false, false] (by kernel_rfl) rfl rfl (hxd) (fun hHeld => ?_); refine with_tabW proof_Check.tab proof_Check.bits (fun HT_ HW_ => ?_)
        refine pure_ (i := 0) (N := some 53) (v := ?_) (a' := ?_) #[true, false, false, false, false, false, false, false, false, false, false, false, false, false] rfl rfl (any_of HT_.out (by kernel_rfl)) (fun _ _ _ h => h) (Or.inl ⟨by rfl, ?_⟩) ?_ ?_
        rotate_left
        · intro w'
          go_simp
          with_reducible rfl
        rotate_left
        · simp only [Act.put, List.setIfInBounds_toArray, List.set_cons_zero, List.set_cons_succ, i64_w, i32_w]
          rfl
        refine pure_ (i := 1) (N := some 54) (v := ?_) (a' := ?_) #[true, true, false, false, false, false, false, false, false, false, false, false, false, false] rfl rfl (any_of HT_.out (by kernel_rfl)) (fun _ _ _ h => h) (Or.inl ⟨by rfl, ?_⟩) ?_ ?_
        rotate_left
        · intro w'
          go_simp
          with_reducible rfl
        rotate_left
        · simp only [Act.put, List.setIfInBounds_toArray, List.set_cons_zero, List.set_cons_succ, i64_w, i32_w]
          rfl
        refine pure_ (i := 2) (N := some 55) (v := ?_) (a' := ?_) #[true, true, true, false, false, false, false, false, false, false, false, false, false, false] rfl rfl (any_of HT_.out (by kernel_rfl)) (fun _ _ _ h => h) (Or.inl ⟨by rfl, ?_⟩) ?_ ?_
        rotate_left
        · intro w'
          go_simp
          with_reducible rfl
        rotate_left
        · simp only [Act.put, List.setIfInBounds_toArray, List.set_cons_zero, List.set_cons_succ, i64_w, i32_w]
          rfl
        refine pure_ (i := 3) (N := some 56) (v := ?_) (a' := ?_) #[true, true, true, true, false, false, false, false, false, false, false, false, false, false] rfl rfl (any_of HT_.out (by kernel_rfl)) (fun _ _ _ h => h) (Or.inl ⟨by rfl, ?_⟩) ?_ ?_
        rotate_left
        · intro w'
          go_simp
          with_reducible rfl
        rotate_left
        · simp only [Act.put, List.setIfInBounds_toArray, List.set_cons_zero, List.set_cons_succ, i64_w, i32_w]
          rfl
        refine pure_ (i := 4) (N := some 57) (v := ?_) (a' := ?_) #[true, true, true, true, true, false, false, false, false, false, false, false, false, false] rfl rfl (any_of HT_.out (by kernel_rfl)) (fun _ _ _ h => h) (Or.inl ⟨by rfl, ?_⟩) ?_ ?_
        rotate_left
        · intro w'
          go_simp
          with_reducible rfl
        rotate_left
        · simp only [Act.put, List.setIfInBounds_toArray, List.set_cons_zero, List.set_cons_succ, i64_w, i32_w]
          rfl
        refine pure_ (i := 5) (N := some 58) (v := ?_) (a' := ?_) #[true, true, true, true, true, true, false, false, false, false, false, false, false, false] rfl rfl (any_of HT_.out (by kernel_rfl)) (fun _ _ _ h => h) (Or.inl ⟨by rfl, ?_⟩) ?_ ?_
        rotate_left
        · intro w'
          go_simp
          with_reducible rfl
        rotate_left
        · simp only [Act.put, List.setIfInBounds_toArray, List.set_cons_zero, List.set_cons_succ, i64_w, i32_w]
          rfl
        refine pure_ (i := 6) (N := some 59) (v := ?_) (a' := ?_) #[true, true, true, true, true, true, true, false, false, false, false, false, false, false] rfl rfl (any_of HT_.out (by kernel_rfl)) (fun _ _ _ h => h) (Or.inl ⟨by rfl, ?_⟩) ?_ ?_
        rotate_left
        · intro w'
          go_simp
          with_reducible rfl
        rotate_left
        · simp only [Act.put, List.setIfInBounds_toArray, List.set_cons_zero, List.set_cons_succ, i64_w, i32_w]
          rfl
        refine pure_ (i := 7) (N := some 60) (v := ?_) (a' := ?_) #[true, true, true, true, true, true, true, true, false, false, false, false, false, false] rfl rfl (any_of HT_.out (by kernel_rfl)) (fun _ _ _ h => h) (Or.inl ⟨by rfl, ?_⟩) ?_ ?_
        rotate_left
        · intro w'
          go_simp
          with_reducible rfl
        rotate_left
        · simp only [Act.put, List.setIfInBounds_toArray, List.set_cons_zero, List.set_cons_succ, i64_w, i32_w]
          rfl
        refine pure_ (i := 12) (N := some 4) (v := ?_) (a' := ?_) #[true, true, true, true, true, true, true, true, false, false, false, false, true, false] rfl rfl (any_of HT_.out (by kernel_rfl)) (fun _ _ _ h => h) (Or.inl ⟨by rfl, ?_⟩) ?_ ?_
        rotate_left
        · intro w'
          go_simp
          with_reducible rfl
        rotate_left
        · simp only [Act.put, List.setIfInBounds_toArray, List.set_cons_zero, List.set_cons_succ, i64_w, i32_w]
          rfl
        refine take_ (i := 8) (N := some 61) (v := ?_) (a' := ?_) #[true, true, true, true, true, true, true, true, true, false, false, false, true, false] rfl rfl (take_ofW HT_.out HW_.out (by kernel_rfl)) (fun _ _ _ h => h) (Or.inl ⟨by rfl, ?_⟩) hHeld ?_ ?_
        rotate_left
        · intro w' s0
          go_simp
          with_reducible rfl
        rotate_left
        · simp only [Act.put, List.setIfInBounds_toArray, List.set_cons_zero, List.set_cons_succ, i64_w, i32_w]
          rfl
        refine pure_ (i := 9) (N := some 62) (v := ?_) (a' := ?_) #[true, true, true, true, true, true, true, true, true, true, false, false, true, false] rfl rfl (any_of HT_.out (by kernel_rfl)) (fun _ _ _ h => h) (Or.inl ⟨by rfl, ?_⟩) ?_ ?_
        rotate_left
        · intro w'
          go_simp
          with_reducible rfl
        rotate_left
        · simp only [Act.put, List.setIfInBounds_toArray, List.set_cons_zero, List.set_cons_succ, i64_w, i32_w]
          rfl
        refine pure_ (i := 10) (N := some 63) (v := ?_) (a' := ?_) #[true, true, true, true, true, true, true, true, true, true, true, false, true, false] rfl rfl (any_of HT_.out (by kernel_rfl)) (fun _ _ _ h => h) (Or.inl ⟨by rfl, ?_⟩) ?_ ?_
        rotate_left
        · intro w'
          go_simp
          with_reducible rfl
        rotate_left
        · simp only [Act.put, List.setIfInBounds_toArray, List.set_cons_zero, List.set_cons_succ, i64_w, i32_w]
          rfl
        refine pure_ (i := 11) (N := some 64) (v := ?_) (a' := ?_) #[true, true, true, true, true, true, true, true, true, true, true, true, true, false] rfl rfl (any_of HT_.out (by kernel_rfl)) (fun _ _ _ h => h) (Or.inl ⟨by rfl, ?_⟩) ?_ ?_
        rotate_left
        · intro w'
          go_simp
          with_reducible rfl
        rotate_left
        · simp only [Act.put, List.setIfInBounds_toArray, List.set_cons_zero, List.set_cons_succ, i64_w, i32_w]
          rfl
        refine pure_ (i := 13) (N := some 5) (v := ?_) (a' := ?_) #[true, true, true, true, true, true, true, true, true, true, true, true, true, true] rfl rfl (any_of HT_.out (by kernel_rfl)) (fun _ _ _ h => h) (Or.inl ⟨by rfl, ?_⟩) ?_ ?_
        rotate_left
        · intro w'
          go_simp
          with_reducible rfl
        rotate_left
        · simp only [Act.put, List.setIfInBounds_toArray, List.set_cons_zero, List.set_cons_succ, i64_w, i32_w]
          rfl
        refine done_ (done_of HT_.out (by kernel_rfl)) ?_
        (try go_wp2)
        go_ret2
        exact ⟨rfl, below_drew1 HBG.out⟩
      · have hz0 : decide ((l1.length : Int) > 0) = false := decide_eq_false (by omega)
        have e9 := HE.out
        rw [decide_eq_false hl0, Bool.false_and] at e9
        injection e9 with f1 f2
        subst f1
        subst f2
        go_wp2
        refine start_ (n := 14) (S := fun w' => True) (ds := []) #[false, false, false, false, false, false, false, false, false, false, false, false, false, false] (by kernel_rfl) rfl rfl trivial (fun hHeld => ?_); refine with_tabW proof_Check.tab proof_Check.bits (fun HT_ HW_ => ?_)
        refine pure_ (i := 0) (N := some 53) (v := ?_) (a' := ?_) #[true, false, false, false, false, false, false, false, false, false, false, false, false, false] rfl rfl (any_of HT_.out (by kernel_rfl)) (fun _ _ _ h => h) (Or.inl ⟨by rfl, ?_⟩) ?_ ?_
        rotate_left
        · intro w'
          go_simp
          with_reducible rfl
        rotate_left
        · simp only [Act.put, List.setIfInBounds_toArray, List.set_cons_zero, List.set_cons_succ, i64_w, i32_w]
          rfl
        refine pure_ (i := 1) (N := some 54) (v := ?_) (a' := ?_) #[true, true, false, false, false, false, false, false, false, false, false, false, false, false] rfl rfl (any_of HT_.out (by kernel_rfl)) (fun _ _ _ h => h) (Or.inl ⟨by rfl, ?_⟩) ?_ ?_
        rotate_left
        · intro w'
          go_simp
          with_reducible rfl
        rotate_left
        · simp only [Act.put, List.setIfInBounds_toArray, List.set_cons_zero, List.set_cons_succ, i64_w, i32_w]
          rfl
        refine pure_ (i := 2) (N := some 55) (v := ?_) (a' := ?_) #[true, true, true, false, false, false, false, false, false, false, false, false, false, false] rfl rfl (any_of HT_.out (by kernel_rfl)) (fun _ _ _ h => h) (Or.inl ⟨by rfl, ?_⟩) ?_ ?_
        rotate_left
        · intro w'
          go_simp
          with_reducible rfl
        rotate_left
        · simp only [Act.put, List.setIfInBounds_toArray, List.set_cons_zero, List.set_cons_succ, i64_w, i32_w]
          rfl
        refine pure_ (i := 3) (N := some 56) (v := ?_) (a' := ?_) #[true, true, true, true, false, false, false, false, false, false, false, false, false, false] rfl rfl (any_of HT_.out (by kernel_rfl)) (fun _ _ _ h => h) (Or.inl ⟨by rfl, ?_⟩) ?_ ?_
        rotate_left
        · intro w'
          go_simp
          with_reducible rfl
        rotate_left
        · simp only [Act.put, List.setIfInBounds_toArray, List.set_cons_zero, List.set_cons_succ, i64_w, i32_w]
          rfl
        refine pure_ (i := 4) (N := some 57) (v := undef) (a' := ?_) #[true, true, true, true, true, false, false, false, false, false, false, false, false, false] rfl rfl (any_of HT_.out (by kernel_rfl)) (fun _ _ _ h => h) (Or.inr ⟨by rfl, rfl⟩) ?_ ?_
        rotate_left
        · simp only [Act.put, List.setIfInBounds_toArray, List.set_cons_zero, List.set_cons_succ, i64_w, i32_w]
          rfl
        refine pure_ (i := 5) (N := some 58) (v := undef) (a' := ?_) #[true, true, true, true, true, true, false, false, false, false, false, false, false, false] rfl rfl (any_of HT_.out (by kernel_rfl)) (fun _ _ _ h => h) (Or.inr ⟨by rfl, rfl⟩) ?_ ?_
        rotate_left
        · simp only [Act.put, List.setIfInBounds_toArray, List.set_cons_zero, List.set_cons_succ, i64_w, i32_w]
          rfl
        refine pure_ (i := 6) (N := some 59) (v := undef) (a' := ?_) #[true, true, true, true, true, true, true, false, false, false, false, false, false, false] rfl rfl (any_of HT_.out (by kernel_rfl)) (fun _ _ _ h => h) (Or.inr ⟨by rfl, rfl⟩) ?_ ?_
        rotate_left
        · simp only [Act.put, List.setIfInBounds_toArray, List.set_cons_zero, List.set_cons_succ, i64_w, i32_w]
          rfl
        refine pure_ (i := 7) (N := some 60) (v := undef) (a' := ?_) #[true, true, true, true, true, true, true, true, false, false, false, false, false, false] rfl rfl (any_of HT_.out (by kernel_rfl)) (fun _ _ _ h => h) (Or.inr ⟨by rfl, rfl⟩) ?_ ?_
        rotate_left
        · simp only [Act.put, List.setIfInBounds_toArray, List.set_cons_zero, List.set_cons_succ, i64_w, i32_w]
          rfl
        refine pure_ (i := 8) (N := some 61) (v := undef) (a' := ?_) #[true, true, true, true, true, true, true, true, true, false, false, false, false, false] rfl rfl (any_of HT_.out (by kernel_rfl)) (fun _ _ _ h => h) (Or.inr ⟨by rfl, rfl⟩) ?_ ?_
        rotate_left
        · simp only [Act.put, List.setIfInBounds_toArray, List.set_cons_zero, List.set_cons_succ, i64_w, i32_w]
          rfl
        refine pure_ (i := 9) (N := some 62) (v := undef) (a' := ?_) #[true, true, true, true, true, true, true, true, true, true, false, false, false, false] rfl rfl (any_of HT_.out (by kernel_rfl)) (fun _ _ _ h => h) (Or.inr ⟨by rfl, rfl⟩) ?_ ?_
        rotate_left
        · simp only [Act.put, List.setIfInBounds_toArray, List.set_cons_zero, List.set_cons_succ, i64_w, i32_w]
          rfl
        refine pure_ (i := 10) (N := some 63) (v := undef) (a' := ?_) #[true, true, true, true, true, true, true, true, true, true, true, false, false, false] rfl rfl (any_of HT_.out (by kernel_rfl)) (fun _ _ _ h => h) (Or.inr ⟨by rfl, rfl⟩) ?_ ?_
        rotate_left
        · simp only [Act.put, List.setIfInBounds_toArray, List.set_cons_zero, List.set_cons_succ, i64_w, i32_w]
          rfl
        refine pure_ (i := 11) (N := some 64) (v := ?_) (a' := ?_) #[true, true, true, true, true, true, true, true, true, true, true, true, false, false] rfl rfl (any_of HT_.out (by kernel_rfl)) (fun _ _ _ h => h) (Or.inl ⟨by rfl, ?_⟩) ?_ ?_
        rotate_left
        · intro w'
          go_simp
          with_reducible rfl
        rotate_left
        · simp only [Act.put, List.setIfInBounds_toArray, List.set_cons_zero, List.set_cons_succ, i64_w, i32_w]
          rfl
        refine pure_ (i := 12) (N := some 4) (v := ?_) (a' := ?_) #[true, true, true, true, true, true, true, true, true, true, true, true, true, false] rfl rfl (any_of HT_.out (by kernel_rfl)) (fun _ _ _ h => h) (Or.inl ⟨by rfl, ?_⟩) ?_ ?_
        rotate_left
        · intro w'
          go_simp
          with_reducible rfl
        rotate_left
        · simp only [Act.put, List.setIfInBounds_toArray, List.set_cons_zero, List.set_cons_succ, i64_w, i32_w]
          rfl
        refine pure_ (i := 13) (N := some 5) (v := ?_) (a' := ?_) #[true, true, true, true, true, true, true, true, true, true, true, true, true, true] rfl rfl (any_of HT_.out (by kernel_rfl)) (fun _ _ _ h => h) (Or.inl ⟨by rfl, ?_⟩) ?_ ?_
        rotate_left
        · intro w'
          go_simp
          with_reducible rfl
        rotate_left
        · simp only [Act.put, List.setIfInBounds_toArray, List.set_cons_zero, List.set_cons_succ, i64_w, i32_w]
          rfl
        refine done_ (done_of HT_.out (by kernel_rfl)) ?_
        (try go_wp2)
        go_ret2
        exact ⟨rfl, below_drew1 HBG.out⟩
 · exact absurd h (by simp)
end Go.Proofs.YteinkjhimceljaaGreatDoor.J
