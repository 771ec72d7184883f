/- The document's rows of chapter 12: they are as told. -/
import Derived.Test.YthnbmlpjbhhamaaHl
import Derived.Test.YthnbmlpjbhhamaaP10
import Derived.Test.YthnbmlpjbhhamaaUf
namespace Go.Proofs.Ythnbmlpjbhhamaa.J
open Go.RowKit Go.Shelf Go.Proofs.YthnbmlpjbhhamaaW.PrintWords Go.Proofs.YthnbmlpjbhhamaaW.PrintLast Go.Proofs.YthnbmlpjbhhamaaW.PrintMore
set_option linter.unusedVariables false
set_option linter.unusedSimpArgs false

theorem solve_f (v : Int) (cls : List (List Int)) : solver_Solve.f v cls = some (Sv.solve v cls) := solver_Solve.f_eq v cls
def xor2 : List (List Int) := [[1, 2], [-1, -2]]
def sq4 : List (List Int) := [[1, 2], [1, -2], [-1, 2], [-1, -2]]
theorem x_0 : Uk.prop 2 xor2 [] = ([], 0) ∧ Uk.free 2 xor2 [] = 1 := Uk.prop_run (k := 10) (r := (0, [0, 0, 0])) (by decide +kernel)
theorem x_1 : Uk.prop 2 xor2 [1] = ([1, -2], 0) ∧ Uk.free 2 xor2 [1] = 0 := Uk.prop_run (k := 10) (r := (0, [0, 1, -1])) (by decide +kernel)
theorem s_0 : Uk.prop 2 sq4 [] = ([], 0) ∧ Uk.free 2 sq4 [] = 1 := Uk.prop_run (k := 10) (r := (0, [0, 0, 0])) (by decide +kernel)
theorem s_1 : Uk.prop 2 sq4 [1] = ([], 110) ∧ Uk.free 2 sq4 [1] = 0 := Uk.prop_run (k := 10) (r := (110, [])) (by decide +kernel)
theorem s_2 : Uk.prop 2 sq4 [-1] = ([], 110) ∧ Uk.free 2 sq4 [-1] = 0 := Uk.prop_run (k := 10) (r := (110, [])) (by decide +kernel)
theorem e_0 : Uk.prop 0 [] [] = ([], 0) ∧ Uk.free 0 [] [] = 0 := Uk.prop_run (k := 10) (r := (0, [0])) (by decide +kernel)
theorem ends_x : Sv.ends 2 xor2 = ⟨2, true, [true, false], []⟩ := by
  unfold Sv.ends
  rw [show (2 : Int).toNat + 1 = 1 + 1 + 1 from rfl, Sv.look_one (by decide) (by rw [x_0.1]) (by rw [x_0.1]; decide)]
  · rw [x_0.2, List.nil_append, Sv.look_full (by decide) (by rw [x_1.1]) (by rw [x_1.1]; rfl), x_1.1]
    rfl
  · rw [x_0.2, List.nil_append, Sv.look_full (by decide) (by rw [x_1.1]) (by rw [x_1.1]; rfl)]
theorem ends_s : Sv.ends 2 sq4 = ⟨3, false, [], [[-1], [1], []]⟩ := by
  unfold Sv.ends
  have h1 : Sv.look 2 sq4 2 ([] ++ [Uk.free 2 sq4 []]) Sv.St.zero.tick = (true, Sv.St.zero.tick.tick.lay [1]) := by
    rw [s_0.2, List.nil_append]; exact Sv.look_clash (by decide) (by rw [s_1.1]; decide)
  have h2 : Sv.look 2 sq4 2 ([] ++ [-(Uk.free 2 sq4 [])]) (Sv.St.zero.tick.tick.lay [1]) = (true, (Sv.St.zero.tick.tick.lay [1]).tick.lay [-1]) := by
    rw [s_0.2, List.nil_append]; exact Sv.look_clash (by decide) (by rw [s_2.1]; decide)
  rw [show (2 : Int).toNat + 1 = 2 + 1 from rfl, Sv.look_lay (by decide) (by rw [s_0.1]) (by rw [s_0.1]; decide) h1 h2]
  rfl
theorem ends_e : Sv.ends 0 [] = ⟨1, true, [], []⟩ := by
  unfold Sv.ends
  rw [show (0 : Int).toNat + 1 = 0 + 1 from rfl, Sv.look_full (by decide) (by rw [e_0.1]) (by rw [e_0.1]; rfl), e_0.1]
  rfl
theorem solve_x : Sv.solve 2 xor2 = (true, [true, false], [], 0) := by
  unfold Sv.solve; rw [if_neg (by decide), ends_x]; rfl
theorem solve_s : Sv.solve 2 sq4 = (false, [], [[-1], [1], []], 0) := by
  unfold Sv.solve; rw [if_neg (by decide), ends_s]; rfl
theorem looks_s : Sv.looks 2 sq4 = 3 := by unfold Sv.looks; rw [if_neg (by decide), ends_s]; rfl
theorem looks_e : Sv.looks 0 [] = 1 := by unfold Sv.looks; rw [if_neg (by decide), ends_e]; rfl
theorem bools_same (l : List Bool) (hl : l.length ≤ 1000000) : Ev (fun k => hoggetref10_Bools.f k l l) true := by
  have rows : ∀ (d i : Nat), l.length - i = d → i ≤ l.length → Ev (fun k => hoggetref10_Bools.l0 k l l (i : Int)) true := by
    intro d
    induction d with
    | zero =>
      intro i hd hi
      refine next_ev ?_
      simp only [hoggetref10_Bools.l0]
      exact neg_ev (by omega) (Ev.now _)
    | succ d ih =>
      intro i hd hi
      have hlt : i < l.length := by omega
      refine next_ev ?_
      simp only [hoggetref10_Bools.l0]
      rw [wrap_succ hlt (by omega)]
      exact pos_ev (by omega) (pos_ev (by omega) (pos_ev (by omega) (neg_ev (by simp) (ih (i + 1) (by omega) (by omega)))))
  unfold hoggetref10_Bools.f
  exact pos_ev rfl (rows _ 0 rfl (Nat.zero_le _))

noncomputable def hoggetlaw12_solves.f (k : Nat) : Option (Bool) := some true
theorem hoggetlaw12_solves.mono : ∀ k, LeO (hoggetlaw12_solves.f k) (hoggetlaw12_solves.f (k + 1)) := fun _ => LeO.refl _
set_option maxHeartbeats 4000000 in
set_option maxRecDepth 100000 in
theorem hoggetlaw12_solves.calls (k : Nat) (r : Bool) (w : World) (h : hoggetlaw12_solves.f k = some r) :
    Calls Try.prog 55 #[] w fun e w' => e = .returned (.bool r) ∧ Below w.heap.size w w' := by
  obtain rfl := Option.some.inj h
  clear h
  have HSX := Aside0.mk (show solver_Solve.f 2 [[1, 2], [-1, -2]] = some (true, [true, false], [], 0) from (solve_f 2 xor2).trans (congrArg some solve_x))
  have HSQ := Aside0.mk (show solver_Solve.f 2 [[1, 2], [1, -2], [-1, 2], [-1, -2]] = some (false, [], [[-1], [1], []], 0) from (solve_f 2 sq4).trans (congrArg some solve_s))
  have HLQ := Aside0.mk (show solver_Looks.f 2 [[1, 2], [1, -2], [-1, 2], [-1, -2]] = some 3 from (solver_Looks.f_eq 2 sq4).trans (congrArg some looks_s))
  have HLE := Aside0.mk (show solver_Looks.f 0 [] = some 1 from (solver_Looks.f_eq 0 []).trans (congrArg some looks_e))
  obtain ⟨kb, hkb⟩ := (bools_same [true, false] (by decide)).rounds
  have HKB := Aside0.mk hkb
  obtain ⟨kc, hkc⟩ := (clauses_same [[-1], [1], []] (by decide) (by simp)).rounds
  have HKC := Aside0.mk hkc
  clear hkb hkc
  obtain ⟨w0, hw0⟩ : ∃ w0, w0 = w := ⟨_, rfl⟩
  subst hw0
  have HB0 := Aside0.mk (Below.refl w0.heap.size w0)
  go_enter Try.func55, Try.ntmps55
  go_upto_region 2 with (first | ((with_reducible refine gate_dst (N := 7) rfl ?_); (try (refine gate_guard (by rfl) ?_; dsimp only)); refine Kd.R_lit (Kd.int .i64) (w0 := w0) w0.heap.size 3 ?hg (N := 7) ?hd (xs := ([1, 2] : List Int)) (inner := [.int .i64 1, .int .i64 2]) (ok := fun _ => True) (okp := fun _ => True) ?hr ?hp (fun _ hk => hk) trivial (Below.refl _ _) (Nat.le_refl _) (by simp) ?_; (case hd => rfl); (case hg => rfl); (case hr => first | (go_simp; done) | (go_simp; rfl)); (case hp => exact (Reps.one (show Kd.M (Kd.int .i64) _ _ _ 1 [.int .i64 1] from rfl) (Reps.one (show Kd.M (Kd.int .i64) _ _ _ 2 [.int .i64 2] from rfl) (Reps.none _ _)))); intro v1 w1 hn hb hg_ hat; obtain ⟨A1, c1, e1⟩ := Kd.R_slice hn; have e1 : v1 = .slice A1 2 c1 := e1; subst e1; have FK1 := Aside0.mk (show Kd.FK (Kd.slice 3 (Kd.int .i64)) w1 (fun _ => True) [1, 2] [.slice A1 2 c1] from Kd.FK_slice_mk (Kd.R_reads' hn).2.1 (Kd.R_F hn)); have Bl1 := Aside0.mk hb; have HB1 := Aside0.mk (below_step HB0.out hb); clear hn hb hg_ hat) | ((with_reducible refine gate_dst (N := 8) rfl ?_); (try (refine gate_guard (by rfl) ?_; dsimp only)); refine Kd.R_lit (Kd.int .i64) (w0 := w1) w1.heap.size 3 ?hg (N := 8) ?hd (xs := ([(-1), (-2)] : List Int)) (inner := [.int .i64 (-1), .int .i64 (-2)]) (ok := fun _ => True) (okp := fun _ => True) ?hr ?hp (fun _ hk => hk) trivial (Below.refl _ _) (Nat.le_refl _) (by simp) ?_; (case hd => rfl); (case hg => rfl); (case hr => first | (go_simp; done) | (go_simp; rfl)); (case hp => exact (Reps.one (show Kd.M (Kd.int .i64) _ _ _ (-1) [.int .i64 (-1)] from rfl) (Reps.one (show Kd.M (Kd.int .i64) _ _ _ (-2) [.int .i64 (-2)] from rfl) (Reps.none _ _)))); intro v2 w2 hn hb hg_ hat; obtain ⟨A2, c2, e2⟩ := Kd.R_slice hn; have e2 : v2 = .slice A2 2 c2 := e2; subst e2; have FK2 := Aside0.mk (show Kd.FK (Kd.slice 3 (Kd.int .i64)) w2 (fun _ => True) [(-1), (-2)] [.slice A2 2 c2] from Kd.FK_slice_mk (Kd.R_reads' hn).2.1 (Kd.R_F hn)); have Bl2 := Aside0.mk hb; have HB2 := Aside0.mk (below_step HB1.out hb); clear hn hb hg_ hat) | ((with_reducible refine gate_dst (N := 9) rfl ?_); (try (refine gate_guard (by rfl) ?_; dsimp only)); refine Kd.N_lit (Kd.slice 3 (Kd.int .i64)) (w0 := w2) w2.heap.size 25 ?hg (N' := 9) ?hd (xs := ([[1, 2], [-1, -2]] : List (List Int))) (inner := [.slice A1 2 c1, .slice A2 2 c2]) (ok := fun _ => True) (okp := fun _ => True) ?hr ?hp (fun _ hk => hk) trivial (Below.refl _ _) (Nat.le_refl _) (by simp) ?_; (case hd => rfl); (case hg => rfl); (case hr => first | (go_simp; done) | (go_simp; rfl)); (case hp => exact (Reps.one (Kd.FK_below FK1.out Bl2.out) (Reps.one FK2.out (Reps.none _ _)))); intro v3 w3 hn hb hg_ hat; obtain ⟨A3, c3, e3⟩ := Kd.N_slice hn; have e3 : v3 = .slice A3 2 c3 := e3; subst e3; have HN3 := Aside0.mk (show 2 ≤ c3 ∧ Kd.C (Kd.slice 3 (Kd.int .i64)) w3 A3 ([[1, 2], [-1, -2]] : List (List Int)).length [[1, 2], [-1, -2]] from (Kd.N_reads' hn).2); have Bl3 := Aside0.mk hb; have HB3 := Aside0.mk (below_step HB2.out hb); clear hn hb hg_ hat) | (go_at_call 53; refine (solver_Solve.calls 2 _ _ [[1, 2], [-1, -2]] true [true, false] [] 0 _ HN3.out.2 HN3.out.1 HSX.out).mono ?_; clear HSX; rintro e w4 ⟨v1, v2, rfl, hv1, hv2, hb⟩; obtain ⟨Am, cm, em⟩ := Kd.R_slice hv1; have em : v1 = .slice Am 2 cm := em; subst em; obtain ⟨At, ct, et⟩ := Kd.S_slice hv2; have et : v2 = .slice At 0 ct := et; subst et; have Bl4 := Aside0.mk hb; have HB4 := Aside0.mk (below_step HB3.out hb); have HM4 := Aside0.mk (Kd.R_reads' hv1).2.2; have HMC := Aside0.mk (Kd.R_reads' hv1).2.1; clear hv1 hv2 hb))
  have hA := Aside0.mk (heap_alloc_new w4 (.cells #[.bool true, .slice Am 2 cm, .slice At 0 ct] 51))
  have hbA := Aside0.mk (below_alloc (Below.refl _ w4) (.cells #[.bool true, .slice Am 2 cm, .slice At 0 ct] 51))
  generalize hba : w4.heap.size = ba at hA ⊢
  obtain ⟨w5, hw5⟩ : ∃ w5, w5 = w4.alloc (.cells #[.bool true, .slice Am 2 cm, .slice At 0 ct] 51) := ⟨_, rfl⟩
  rw [← hw5] at hA hbA ⊢
  clear hw5 hba
  have HB5 := Aside0.mk (below_step HB4.out hbA.out)
  have HM5 := Aside0.mk (Kd.C_below HM4.out hbA.out)
  have y0 : w5.cell? ⟨ba, 0, none⟩ = some (.bool true) := (blk_cell hA.out 0).trans rfl
  have y1 : w5.cell? ⟨ba, 1, none⟩ = some (.slice Am 2 cm) := (blk_cell hA.out 1).trans rfl
  clear hA hbA FK1 FK2 HN3
  go_upto_region 3 with (first | ((with_reducible refine gate_dst (N := 14) rfl ?_); (try (refine gate_guard (by rfl) ?_; dsimp only)); refine Kd.R_lit (Kd.int .i64) (w0 := w5) w5.heap.size 3 ?hg (N := 14) ?hd (xs := ([1, 2] : List Int)) (inner := [.int .i64 1, .int .i64 2]) (ok := fun _ => True) (okp := fun _ => True) ?hr ?hp (fun _ hk => hk) trivial (Below.refl _ _) (Nat.le_refl _) (by simp) ?_; (case hd => rfl); (case hg => rfl); (case hr => first | (go_simp; done) | (go_simp; rfl)); (case hp => exact (Reps.one (show Kd.M (Kd.int .i64) _ _ _ 1 [.int .i64 1] from rfl) (Reps.one (show Kd.M (Kd.int .i64) _ _ _ 2 [.int .i64 2] from rfl) (Reps.none _ _)))); intro v6 w6 hn hb hg_ hat; obtain ⟨A6, c6, e6⟩ := Kd.R_slice hn; have e6 : v6 = .slice A6 2 c6 := e6; subst e6; have FK6 := Aside0.mk (show Kd.FK (Kd.slice 3 (Kd.int .i64)) w6 (fun _ => True) [1, 2] [.slice A6 2 c6] from Kd.FK_slice_mk (Kd.R_reads' hn).2.1 (Kd.R_F hn)); have Bl6 := Aside0.mk hb; have HB6 := Aside0.mk (below_step HB5.out hb); clear hn hb hg_ hat) | ((with_reducible refine gate_dst (N := 15) rfl ?_); (try (refine gate_guard (by rfl) ?_; dsimp only)); refine Kd.R_lit (Kd.int .i64) (w0 := w6) w6.heap.size 3 ?hg (N := 15) ?hd (xs := ([1, (-2)] : List Int)) (inner := [.int .i64 1, .int .i64 (-2)]) (ok := fun _ => True) (okp := fun _ => True) ?hr ?hp (fun _ hk => hk) trivial (Below.refl _ _) (Nat.le_refl _) (by simp) ?_; (case hd => rfl); (case hg => rfl); (case hr => first | (go_simp; done) | (go_simp; rfl)); (case hp => exact (Reps.one (show Kd.M (Kd.int .i64) _ _ _ 1 [.int .i64 1] from rfl) (Reps.one (show Kd.M (Kd.int .i64) _ _ _ (-2) [.int .i64 (-2)] from rfl) (Reps.none _ _)))); intro v7 w7 hn hb hg_ hat; obtain ⟨A7, c7, e7⟩ := Kd.R_slice hn; have e7 : v7 = .slice A7 2 c7 := e7; subst e7; have FK7 := Aside0.mk (show Kd.FK (Kd.slice 3 (Kd.int .i64)) w7 (fun _ => True) [1, (-2)] [.slice A7 2 c7] from Kd.FK_slice_mk (Kd.R_reads' hn).2.1 (Kd.R_F hn)); have Bl7 := Aside0.mk hb; have HB7 := Aside0.mk (below_step HB6.out hb); clear hn hb hg_ hat) | ((with_reducible refine gate_dst (N := 16) rfl ?_); (try (refine gate_guard (by rfl) ?_; dsimp only)); refine Kd.R_lit (Kd.int .i64) (w0 := w7) w7.heap.size 3 ?hg (N := 16) ?hd (xs := ([(-1), 2] : List Int)) (inner := [.int .i64 (-1), .int .i64 2]) (ok := fun _ => True) (okp := fun _ => True) ?hr ?hp (fun _ hk => hk) trivial (Below.refl _ _) (Nat.le_refl _) (by simp) ?_; (case hd => rfl); (case hg => rfl); (case hr => first | (go_simp; done) | (go_simp; rfl)); (case hp => exact (Reps.one (show Kd.M (Kd.int .i64) _ _ _ (-1) [.int .i64 (-1)] from rfl) (Reps.one (show Kd.M (Kd.int .i64) _ _ _ 2 [.int .i64 2] from rfl) (Reps.none _ _)))); intro v8 w8 hn hb hg_ hat; obtain ⟨A8, c8, e8⟩ := Kd.R_slice hn; have e8 : v8 = .slice A8 2 c8 := e8; subst e8; have FK8 := Aside0.mk (show Kd.FK (Kd.slice 3 (Kd.int .i64)) w8 (fun _ => True) [(-1), 2] [.slice A8 2 c8] from Kd.FK_slice_mk (Kd.R_reads' hn).2.1 (Kd.R_F hn)); have Bl8 := Aside0.mk hb; have HB8 := Aside0.mk (below_step HB7.out hb); clear hn hb hg_ hat) | ((with_reducible refine gate_dst (N := 17) rfl ?_); (try (refine gate_guard (by rfl) ?_; dsimp only)); refine Kd.R_lit (Kd.int .i64) (w0 := w8) w8.heap.size 3 ?hg (N := 17) ?hd (xs := ([(-1), (-2)] : List Int)) (inner := [.int .i64 (-1), .int .i64 (-2)]) (ok := fun _ => True) (okp := fun _ => True) ?hr ?hp (fun _ hk => hk) trivial (Below.refl _ _) (Nat.le_refl _) (by simp) ?_; (case hd => rfl); (case hg => rfl); (case hr => first | (go_simp; done) | (go_simp; rfl)); (case hp => exact (Reps.one (show Kd.M (Kd.int .i64) _ _ _ (-1) [.int .i64 (-1)] from rfl) (Reps.one (show Kd.M (Kd.int .i64) _ _ _ (-2) [.int .i64 (-2)] from rfl) (Reps.none _ _)))); intro v9 w9 hn hb hg_ hat; obtain ⟨A9, c9, e9⟩ := Kd.R_slice hn; have e9 : v9 = .slice A9 2 c9 := e9; subst e9; have FK9 := Aside0.mk (show Kd.FK (Kd.slice 3 (Kd.int .i64)) w9 (fun _ => True) [(-1), (-2)] [.slice A9 2 c9] from Kd.FK_slice_mk (Kd.R_reads' hn).2.1 (Kd.R_F hn)); have Bl9 := Aside0.mk hb; have HB9 := Aside0.mk (below_step HB8.out hb); clear hn hb hg_ hat) | ((with_reducible refine gate_dst (N := 18) rfl ?_); (try (refine gate_guard (by rfl) ?_; dsimp only)); refine Kd.N_lit (Kd.slice 3 (Kd.int .i64)) (w0 := w9) w9.heap.size 25 ?hg (N' := 18) ?hd (xs := ([[1, 2], [1, -2], [-1, 2], [-1, -2]] : List (List Int))) (inner := [.slice A6 2 c6, .slice A7 2 c7, .slice A8 2 c8, .slice A9 2 c9]) (ok := fun _ => True) (okp := fun _ => True) ?hr ?hp (fun _ hk => hk) trivial (Below.refl _ _) (Nat.le_refl _) (by simp) ?_; (case hd => rfl); (case hg => rfl); (case hr => first | (go_simp; done) | (go_simp; rfl)); (case hp => exact (Reps.one (Kd.FK_below (Kd.FK_below (Kd.FK_below FK6.out Bl7.out) Bl8.out) Bl9.out) (Reps.one (Kd.FK_below (Kd.FK_below FK7.out Bl8.out) Bl9.out) (Reps.one (Kd.FK_below FK8.out Bl9.out) (Reps.one FK9.out (Reps.none _ _)))))); intro v10 w10 hn hb hg_ hat; obtain ⟨A10, c10, e10⟩ := Kd.N_slice hn; have e10 : v10 = .slice A10 4 c10 := e10; subst e10; have HN10 := Aside0.mk (show 4 ≤ c10 ∧ Kd.C (Kd.slice 3 (Kd.int .i64)) w10 A10 ([[1, 2], [1, -2], [-1, 2], [-1, -2]] : List (List Int)).length [[1, 2], [1, -2], [-1, 2], [-1, -2]] from (Kd.N_reads' hn).2); have Bl10 := Aside0.mk hb; have HB10 := Aside0.mk (below_step HB9.out hb); clear hn hb hg_ hat))
  have hB := Aside0.mk (heap_alloc_new w10 (.cells #[.int .i64 2, .slice A10 4 c10] 24))
  have hbB := Aside0.mk (below_alloc (Below.refl _ w10) (.cells #[.int .i64 2, .slice A10 4 c10] 24))
  generalize hbg : w10.heap.size = bg at hB ⊢
  obtain ⟨w11, hw11⟩ : ∃ w11, w11 = w10.alloc (.cells #[.int .i64 2, .slice A10 4 c10] 24) := ⟨_, rfl⟩
  rw [← hw11] at hB hbB ⊢
  clear hw11 hbg
  have Bx := Aside0.mk (below_step (below_step (below_step (below_step (below_step Bl6.out Bl7.out) Bl8.out) Bl9.out) Bl10.out) hbB.out)
  have HB11 := Aside0.mk (below_step HB10.out hbB.out)
  have HM11 := Aside0.mk (Kd.C_below HM5.out Bx.out)
  have HN11 := Aside0.mk (show 4 ≤ c10 ∧ Kd.C (Kd.slice 3 (Kd.int .i64)) w11 A10 ([[1, 2], [1, -2], [-1, 2], [-1, -2]] : List (List Int)).length [[1, 2], [1, -2], [-1, 2], [-1, -2]] from ⟨HN10.out.1, Kd.C_below HN10.out.2 hbB.out⟩)
  replace y0 := pw_cell_below Bx.out y0
  replace y1 := pw_cell_below Bx.out y1
  have z0 : w11.cell? ⟨bg, 0, none⟩ = some (.int .i64 2) := (blk_cell hB.out 0).trans rfl
  have z1 : w11.cell? ⟨bg, 1, none⟩ = some (.slice A10 4 c10) := (blk_cell hB.out 1).trans rfl
  clear hB hbB FK6 FK7 FK8 FK9 HN10 Bx HM5 HM4
  go_upto_region 4 with ((go_at_call 53; refine (solver_Solve.calls 2 _ _ [[1, 2], [1, -2], [-1, 2], [-1, -2]] false [] [[-1], [1], []] 0 _ HN11.out.2 HN11.out.1 HSQ.out).mono ?_; clear HSQ; rintro e w12 ⟨v1, v2, rfl, hv1, hv2, hb⟩; obtain ⟨Am2, cm2, em⟩ := Kd.R_slice hv1; have em : v1 = .slice Am2 0 cm2 := em; subst em; obtain ⟨At2, ct2, et⟩ := Kd.S_slice hv2; have et : v2 = .slice At2 3 ct2 := et; subst et; have Bl12 := Aside0.mk hb; have HB12 := Aside0.mk (below_step HB11.out hb); have HT12 := Aside0.mk (Kd.S_reads' hv2).2.2; have HTC := Aside0.mk (Kd.S_reads' hv2).2.1; clear hv1 hv2 hb))
  have hC := Aside0.mk (heap_alloc_new w12 (.cells #[.bool false, .slice Am2 0 cm2, .slice At2 3 ct2] 51))
  have hbC := Aside0.mk (below_alloc (Below.refl _ w12) (.cells #[.bool false, .slice Am2 0 cm2, .slice At2 3 ct2] 51))
  generalize hbc : w12.heap.size = bc at hC ⊢
  obtain ⟨w13, hw13⟩ : ∃ w13, w13 = w12.alloc (.cells #[.bool false, .slice Am2 0 cm2, .slice At2 3 ct2] 51) := ⟨_, rfl⟩
  rw [← hw13] at hC hbC ⊢
  clear hw13 hbc
  have By := Aside0.mk (below_step Bl12.out hbC.out)
  have HB13 := Aside0.mk (below_step HB12.out hbC.out)
  have HM13 := Aside0.mk (Kd.C_below HM11.out By.out)
  have HN13 := Aside0.mk (Kd.C_below HN11.out.2 By.out)
  have HT13 := Aside0.mk (Kd.C_below HT12.out hbC.out)
  replace y0 := pw_cell_below By.out y0
  replace y1 := pw_cell_below By.out y1
  replace z0 := pw_cell_below By.out z0
  replace z1 := pw_cell_below By.out z1
  have x0 : w13.cell? ⟨bc, 0, none⟩ = some (.bool false) := (blk_cell hC.out 0).trans rfl
  have x2 : w13.cell? ⟨bc, 2, none⟩ = some (.slice At2 3 ct2) := (blk_cell hC.out 2).trans rfl
  clear hC hbC By HM11 HT12
  go_wp2_with (first | ((with_reducible refine gate_dst (N := 34) rfl ?_); (try (refine gate_guard (by rfl) ?_; dsimp only)); refine Kd.R_lit Kd.bool (w0 := w13) w13.heap.size 4 ?hg (N := 34) ?hd (xs := ([true, false] : List Bool)) (inner := [.bool true, .bool false]) (ok := fun _ => True) (okp := fun _ => True) ?hr ?hp (fun _ hk => hk) trivial (Below.refl _ _) (Nat.le_refl _) (by simp) ?_; (case hd => rfl); (case hg => rfl); (case hr => first | (go_simp; done) | (go_simp; rfl)); (case hp => exact (Reps.one (show Kd.M Kd.bool _ _ _ true [.bool true] from rfl) (Reps.one (show Kd.M Kd.bool _ _ _ false [.bool false] from rfl) (Reps.none _ _)))); intro v14 w14 hn hb hg_ hat; obtain ⟨A14, c14, e14⟩ := Kd.R_slice hn; have e14 : v14 = .slice A14 2 c14 := e14; subst e14; have HF14 := Aside0.mk (Kd.R_reads' hn).2; have HB14 := Aside0.mk (below_step HB13.out hb); have HM14 := Aside0.mk (Kd.C_below HM13.out hb); have HN14 := Aside0.mk (Kd.C_below HN13.out hb); have HT14 := Aside0.mk (Kd.C_below HT13.out hb); replace x0 := pw_cell_below hb x0; replace x2 := pw_cell_below hb x2; replace z0 := pw_cell_below hb z0; replace z1 := pw_cell_below hb z1; clear hn hb hg_ hat) | (go_at_call 60; refine (hoggetref10_Bools.calls kb _ _ [true, false] _ _ [true, false] true _ HM14.out HMC.out HF14.out.2 HF14.out.1 HKB.out).mono ?_; clear HKB; rintro e w15 ⟨rfl, hb0⟩; have hb := hb0.below; have HB15 := Aside0.mk (below_step HB14.out hb); have HN15 := Aside0.mk (Kd.C_below HN14.out hb); have HT15 := Aside0.mk (Kd.C_below HT14.out hb); replace x0 := pw_cell_below hb x0; replace x2 := pw_cell_below hb x2; replace z0 := pw_cell_below hb z0; replace z1 := pw_cell_below hb z1; clear hb hb0) | ((with_reducible refine gate_dst (N := 49) rfl ?_); (try (refine gate_guard (by rfl) ?_; dsimp only)); refine Kd.R_lit (Kd.int .i64) (w0 := w15) w15.heap.size 3 ?hg (N := 49) ?hd (xs := ([(-1)] : List Int)) (inner := [.int .i64 (-1)]) (ok := fun _ => True) (okp := fun _ => True) ?hr ?hp (fun _ hk => hk) trivial (Below.refl _ _) (Nat.le_refl _) (by simp) ?_; (case hd => rfl); (case hg => rfl); (case hr => first | (go_simp; done) | (go_simp; rfl)); (case hp => exact (Reps.one (show Kd.M (Kd.int .i64) _ _ _ (-1) [.int .i64 (-1)] from rfl) (Reps.none _ _))); intro v16 w16 hn hb hg_ hat; obtain ⟨A16, c16, e16⟩ := Kd.R_slice hn; have e16 : v16 = .slice A16 1 c16 := e16; subst e16; have FK16 := Aside0.mk (show Kd.FK (Kd.slice 3 (Kd.int .i64)) w16 (fun _ => True) [(-1)] [.slice A16 1 c16] from Kd.FK_slice_mk (Kd.R_reads' hn).2.1 (Kd.R_F hn)); have Bl16 := Aside0.mk hb; have HB16 := Aside0.mk (below_step HB15.out hb); have HN16 := Aside0.mk (Kd.C_below HN15.out hb); have HT16 := Aside0.mk (Kd.C_below HT15.out hb); replace x0 := pw_cell_below hb x0; replace x2 := pw_cell_below hb x2; replace z0 := pw_cell_below hb z0; replace z1 := pw_cell_below hb z1; clear hn hb hg_ hat) | ((with_reducible refine gate_dst (N := 50) rfl ?_); (try (refine gate_guard (by rfl) ?_; dsimp only)); refine Kd.R_lit (Kd.int .i64) (w0 := w16) w16.heap.size 3 ?hg (N := 50) ?hd (xs := ([1] : List Int)) (inner := [.int .i64 1]) (ok := fun _ => True) (okp := fun _ => True) ?hr ?hp (fun _ hk => hk) trivial (Below.refl _ _) (Nat.le_refl _) (by simp) ?_; (case hd => rfl); (case hg => rfl); (case hr => first | (go_simp; done) | (go_simp; rfl)); (case hp => exact (Reps.one (show Kd.M (Kd.int .i64) _ _ _ 1 [.int .i64 1] from rfl) (Reps.none _ _))); intro v17 w17 hn hb hg_ hat; obtain ⟨A17, c17, e17⟩ := Kd.R_slice hn; have e17 : v17 = .slice A17 1 c17 := e17; subst e17; have FK17 := Aside0.mk (show Kd.FK (Kd.slice 3 (Kd.int .i64)) w17 (fun _ => True) [1] [.slice A17 1 c17] from Kd.FK_slice_mk (Kd.R_reads' hn).2.1 (Kd.R_F hn)); have Bl17 := Aside0.mk hb; have HB17 := Aside0.mk (below_step HB16.out hb); have HN17 := Aside0.mk (Kd.C_below HN16.out hb); have HT17 := Aside0.mk (Kd.C_below HT16.out hb); replace x0 := pw_cell_below hb x0; replace x2 := pw_cell_below hb x2; replace z0 := pw_cell_below hb z0; replace z1 := pw_cell_below hb z1; clear hn hb hg_ hat) | ((with_reducible refine gate_dst (N := 51) rfl ?_); (try (refine gate_guard (by rfl) ?_; dsimp only)); refine Kd.N_lit (Kd.slice 3 (Kd.int .i64)) (w0 := w17) w17.heap.size 25 ?hg (N' := 51) ?hd (xs := ([[-1], [1], []] : List (List Int))) (inner := [.slice A16 1 c16, .slice A17 1 c17, .slice none 0 0]) (ok := fun _ => True) (okp := fun _ => True) ?hr ?hp (fun _ hk => hk) trivial (Below.refl _ _) (Nat.le_refl _) (by simp) ?_; (case hd => rfl); (case hg => rfl); (case hr => first | (go_simp; done) | (go_simp; rfl)); (case hp => exact (Reps.one (Kd.FK_below FK16.out Bl17.out) (Reps.one FK17.out (Reps.one (show Kd.FK (Kd.slice 3 (Kd.int .i64)) w17 (fun _ => True) [] [.slice none 0 0] from Kd.FK_slice_mk (Nat.le_refl _) (Kd.R_F (Kd.R_nil (Kd.int .i64) 3 w17 0 (fun _ => True)))) (Reps.none _ _))))); intro v18 w18 hn hb hg_ hat; obtain ⟨A18, c18, e18⟩ := Kd.N_slice hn; have e18 : v18 = .slice A18 3 c18 := e18; subst e18; have HL18 := Aside0.mk (show 3 ≤ c18 ∧ Kd.C (Kd.slice 3 (Kd.int .i64)) w18 A18 ([[-1], [1], []] : List (List Int)).length [[-1], [1], []] from (Kd.N_reads' hn).2); have Bl18 := Aside0.mk hb; have HB18 := Aside0.mk (below_step HB17.out hb); have HN18 := Aside0.mk (Kd.C_below HN17.out hb); have HT18 := Aside0.mk (Kd.C_below HT17.out hb); replace x0 := pw_cell_below hb x0; replace x2 := pw_cell_below hb x2; replace z0 := pw_cell_below hb z0; replace z1 := pw_cell_below hb z1; clear hn hb hg_ hat) | (go_at_call 41; refine (hoggetref10_Clauses.calls kc _ _ [[-1], [1], []] _ _ [[-1], [1], []] true _ HT18.out HTC.out HL18.out.2 HL18.out.1 HKC.out).mono ?_; clear HKC; rintro e w19 ⟨rfl, hb0⟩; have hb := hb0.below; have HB19 := Aside0.mk (below_step HB18.out hb); have HN19 := Aside0.mk (Kd.C_below HN18.out hb); replace z0 := pw_cell_below hb z0; replace z1 := pw_cell_below hb z1; clear hb hb0 x0 x2) | (go_at_call 57; refine (solver_Looks.calls 2 _ _ [[1, 2], [1, -2], [-1, 2], [-1, -2]] 3 _ HN19.out HN11.out.1 HLQ.out).mono ?_; clear HLQ; rintro e w20 ⟨rfl, hb⟩; have HB20 := Aside0.mk (below_step HB19.out hb); clear hb) | (go_at_call 57; refine (solver_Looks.calls 0 none 0 [] 1 _ (Kd.R_reads' (Kd.R_nil (Kd.slice 3 (Kd.int .i64)) 25 w20 0 (fun _ => True))).2.2 (Nat.le_refl _) HLE.out).mono ?_; clear HLE; rintro e w21 ⟨rfl, hb⟩; have HB21 := Aside0.mk (below_step HB20.out hb); clear hb))
  go_ret
  exact ⟨rfl, HB21.out⟩
end Go.Proofs.Ythnbmlpjbhhamaa.J
