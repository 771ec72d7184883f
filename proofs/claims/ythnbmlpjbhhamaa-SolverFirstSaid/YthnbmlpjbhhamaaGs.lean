/- The walks of hoggetlaw12_SolverFirst, hoggetlaw12_SolverModels, by the print over this seat. -/
import Derived.Test.YthnbmlpjbhhamaaJ0
import Derived.Test.YthnbmlpjbhhamaaGL
import Derived.Test.YthnbmlpjbhhamaaGa
import Derived.Test.YthnbmlpjbhhamaaGq
import Derived.Test.YthnbmlpjbhhamaaGr
import Derived.Test.YthnbmlpjbhhamaaHb
import Derived.Test.YthnbmlpjbhhamaaHl
namespace Go.Proofs.Ythnbmlpjbhhamaa.J
open Go.RowKit Go.Proofs.YthnbmlpjbhhamaaW.PrintWords Go.Proofs.YthnbmlpjbhhamaaW.PrintLast Go.Proofs.YthnbmlpjbhhamaaW.PrintMore
attribute [local go_sem] max2_int min2_int max_two min_two max_three min_three max_four min_four   -- for this text's walks alone
set_option linter.unusedVariables false
set_option linter.unusedSimpArgs false

/-! ### hoggetlaw12_SolverFirst: function 14 -/
noncomputable def hoggetlaw12_SolverFirst.j0 : Nat → Bool → Int → List (List Int) → Option (Bool)
  | 0, _, _, _ => none
  | k + 1, x13, x703000, x703001 => if x13 = true then (some true) else ((solver_Solve.f x703000 x703001).bind fun bt705 => ((hoggetref12_First.f k x703000 x703001).bind fun bt714 => (if bt705.2.2.2 = 0 then ((hoggetlaw12_solves.f k).bind fun t718 => (if t718 = true then (if (bt705.1 == bt714.2) = true then (if bt714.2 = true then ((hoggetref10_Bools.f k bt705.2.1 bt714.1).bind fun t719 => (if t719 = true then (some true) else (none))) else (some ((bt705.2.1.length : Int) == 0))) else (none)) else (none))) else ((hoggetlaw12_solves.f k).bind fun t720 => (if t720 = true then (some (bt705.2.2.2 == 120)) else (none))))))
noncomputable def hoggetlaw12_SolverFirst.f (k : Nat) (a0_0 : Int) (l0_1 : List (List Int)) : Option (Bool) := (hoggetlaw12_large.f k a0_0 l0_1 8).bind fun t703 => (if t703 = true then (hoggetlaw12_SolverFirst.j0 k true a0_0 l0_1) else ((clause_Check.f a0_0 l0_1).bind fun t704 => (hoggetlaw12_SolverFirst.j0 k (t704 != 0) a0_0 l0_1)))
theorem hoggetlaw12_SolverFirst.mono_l : ∀ k, (∀ y0 y1 y2, LeO (hoggetlaw12_SolverFirst.j0 k y0 y1 y2) (hoggetlaw12_SolverFirst.j0 (k + 1) y0 y1 y2))
  | 0 => fun _ _ _ r h => by simp [hoggetlaw12_SolverFirst.j0] at h
  | k + 1 => by
    have ih0 := hoggetlaw12_SolverFirst.mono_l k
    · intro y0 y1 y2
      unfold hoggetlaw12_SolverFirst.j0
      repeat' first
      | (with_reducible exact ih0 _ _ _)
      | (with_reducible exact hoggetlaw12_large.mono _ _ _ _)
      | (with_reducible exact hoggetlaw12_solves.mono _)
      | (with_reducible exact hoggetref10_Bools.mono _ _ _)
      | (with_reducible exact hoggetref12_First.mono _ _ _)
      | (with_reducible exact LeO.refl _)
      | (with_reducible exact LeO.none _)
      | (with_reducible refine LeO.ite ?_ ?_)
      | (with_reducible refine LeO.bind ?_ (fun _ => ?_))
      | exact ih0 _ _ _
      | exact hoggetlaw12_large.mono _ _ _ _
      | exact hoggetlaw12_solves.mono _
      | exact hoggetref10_Bools.mono _ _ _
      | exact hoggetref12_First.mono _ _ _
      | exact LeO.none _
      | refine LeO.ite ?_ ?_
      | refine LeO.bind ?_ (fun _ => ?_)
theorem hoggetlaw12_SolverFirst.mono : ∀ a0 a1 k, LeO (hoggetlaw12_SolverFirst.f k a0 a1) (hoggetlaw12_SolverFirst.f (k + 1) a0 a1) := by
  intro a0 a1 k
  have ih0 := hoggetlaw12_SolverFirst.mono_l k
  unfold hoggetlaw12_SolverFirst.f
  repeat' first
      | (with_reducible exact ih0 _ _ _)
      | (with_reducible exact hoggetlaw12_large.mono _ _ _ _)
      | (with_reducible exact hoggetlaw12_solves.mono _)
      | (with_reducible exact hoggetref10_Bools.mono _ _ _)
      | (with_reducible exact hoggetref12_First.mono _ _ _)
      | (with_reducible exact LeO.refl _)
      | (with_reducible exact LeO.none _)
      | (with_reducible refine LeO.ite ?_ ?_)
      | (with_reducible refine LeO.bind ?_ (fun _ => ?_))
      | exact ih0 _ _ _
      | exact hoggetlaw12_large.mono _ _ _ _
      | exact hoggetlaw12_solves.mono _
      | exact hoggetref10_Bools.mono _ _ _
      | exact hoggetref12_First.mono _ _ _
      | exact LeO.none _
      | refine LeO.ite ?_ ?_
      | refine LeO.bind ?_ (fun _ => ?_)
set_option maxHeartbeats 8000000 in
set_option maxRecDepth 100000 in
theorem hoggetlaw12_SolverFirst.calls (k : Nat) (a0_0 : Int) (A0_1 : Option Addr) (c0_1 : Nat) (l0_1 : List (List Int)) (r : Bool) (w : World) (hr0_1 : Kd.C (Kd.slice 3 (Kd.int .i64)) w A0_1 l0_1.length l0_1) (hc0_1 : l0_1.length ≤ c0_1) (h : hoggetlaw12_SolverFirst.f k a0_0 l0_1 = some r) :
    Calls Try.prog 14 #[.agg #[.int .i64 a0_0, .slice A0_1 l0_1.length c0_1]] w fun e w' => e = .returned (.bool r) ∧ Below w.heap.size w w' := by
  have hu24 := Try.underlying24
  have hu51 := Try.underlying51
  have HR0_1 := Aside0.mk hr0_1
  have HC0_1 := Aside0.mk hc0_1
  clear hr0_1 hc0_1
  have HB := Aside0.mk (Below.refl w.heap.size w)
  have H : ((hoggetlaw12_large.f k a0_0 l0_1 8).bind fun t703 => (if t703 = true then (hoggetlaw12_SolverFirst.j0 k true a0_0 l0_1) else ((clause_Check.f a0_0 l0_1).bind fun t704 => (hoggetlaw12_SolverFirst.j0 k (t704 != 0) a0_0 l0_1)))) = some r := h
  clear h
  have HC2 := Aside0.mk H
  clear H
  go_enter Try.func14, Try.ntmps14
  go_upto_region 1 with (first | ((with_reducible refine gate_dst (N := 1) rfl ?_); (try (refine gate_guard (by rfl) ?_; dsimp only)); refine box_event ?hg (N := 1) ?hd (cs := #[.int .i64 a0_0, .slice A0_1 l0_1.length c0_1]) (t := 24) ?hr ?_; (case hd => rfl); (case hg => rfl); (case hr => first | (go_simp; done) | (go_simp; rfl)); intro gb702 hg w3 hbox hb; have n0_ := Aside0.mk (below_step (by repeat (first | (with_reducible first | exact HB.out | apply below_alloc | apply pw_below_drewN | apply below_drew1) | exact HB.out)) hb); have n1_ := Aside0.mk (hbox); have n2_ := Aside0.mk ((by rw [hg]; exact (below_size (by repeat (first | (with_reducible first | exact HB.out | apply below_alloc | apply pw_below_drewN | apply below_drew1) | exact HB.out))) : w.heap.size ≤ gb702)); have n3_ := Aside0.mk ((by rw [hg]; exact (below_size (by repeat (first | (with_reducible first | exact HB.out | apply below_alloc | apply pw_below_drewN | apply below_drew1) | exact HB.out))) : w.heap.size ≤ gb702)); clear HB; have HB := n0_; have BK702 := n1_; have GW702 := n2_; have GE702 := n3_; clear n0_ n1_ n2_ n3_; clear hb hbox hg))
  (try simp only [Act.put, List.setIfInBounds_toArray, List.set_cons_zero, List.set_cons_succ])
  go_cut [13] (fun v13 wc => ∃ (kq : Nat) (x13_1 : Bool), v13 = .bool x13_1 ∧ Aside0 (hoggetlaw12_SolverFirst.j0 kq x13_1 a0_0 l0_1 = some r) ∧ Aside0 (kq ≤ k) ∧ Aside0 (wc.heap[gb702]? = some (.cells #[.int .i64 a0_0, (.slice A0_1 l0_1.length c0_1)] 24 (0, 0))) ∧ Aside0 (Below w.heap.size w wc))
  case first =>
    have H := HC2.out
    clear HC2
    replace H := Option.bind_eq_some_iff.mp H
    obtain ⟨t703, A40, H⟩ := H
    replace H : (if t703 = true then (hoggetlaw12_SolverFirst.j0 k true a0_0 l0_1) else ((clause_Check.f a0_0 l0_1).bind fun t704 => (hoggetlaw12_SolverFirst.j0 k (t704 != 0) a0_0 l0_1))) = some r := H
    have A4 := Aside0.mk A40
    clear A40
    by_cases c5 : t703 = true
    · subst c5
      have H1 : (hoggetlaw12_SolverFirst.j0 k true a0_0 l0_1) = some r := by rw [if_pos rfl] at H; exact H
      clear H
      have H := H1
      clear H1
      have H' := Aside0.mk H
      clear H
      have hcz6_0 : w3.cell? ⟨gb702, 0, none⟩ = some (.int .i64 a0_0) := (blk_cell BK702.out 0).trans rfl
      have hcz6_1 : w3.cell? ⟨gb702, 1, none⟩ = some (.slice A0_1 l0_1.length c0_1) := (blk_cell BK702.out 1).trans rfl
      have hfz6_0 := blk_frozen BK702.out 0
      have hfz6_1 := blk_frozen BK702.out 1
      go_wp2_with (first | ((with_reducible refine gate_callee (f := 52) rfl ?_); refine goesL_ (some 8) rfl rfl Try.func52 (by kernel_rfl) rfl #[.agg #[.int .i64 a0_0, .slice A0_1 l0_1.length c0_1], .int .i64 8] rfl (by (try simp only [List.map_toArray, List.map_cons, List.map_nil]); first | done | rfl | (simp only [List.length_drop, List.length_take]; rfl)) ?_; (with_reducible refine (hoggetlaw12_large.calls k a0_0 _ _ l0_1 8 true _ ?side1 ?side2 A4.out).mono ?_); (case side1 => repeat (first | exact (Kd.C_below HR0_1.out HB.out) | (with_reducible refine Kd.C_alloc ?_ _) | (with_reducible refine Kd.C_drewN ?_ _) | (with_reducible refine Kd.C_drew ?_))); (case side2 => exact HC0_1.out); rintro e w7 ⟨rfl, hb⟩; refine ⟨_, rfl, ?_⟩; have n0_ := Aside0.mk (blk_below (g := gb702) (o := .cells #[.int .i64 a0_0, .slice A0_1 l0_1.length c0_1] 24 (0, 0)) (by (with_reducible repeat (first | refine blk_drewN ?_ _ | refine blk_drew ?_ | refine blk_alloc ?_ _)); exact BK702.out) hb); have n1_ := Aside0.mk (below_step (by repeat (first | (with_reducible first | exact HB.out | apply below_alloc | apply pw_below_drewN | apply below_drew1 | refine below_set ?_ GE702.out) | exact HB.out)) hb); clear BK702; clear HB; have BK702 := n0_; have HB := n1_; clear n0_ n1_; (try clear hb); (try clear hb2); (try clear hk); (try clear hi)))
      go_meet
      case rel => exact ⟨_, (true), (by first | rfl | (simp; done) | (simp [*]; done)), H', ⟨by first | omega | exact Nat.le_refl _⟩, ⟨by (with_reducible repeat (first | refine blk_drewN ?_ _ | refine blk_drew ?_ | refine blk_alloc ?_ _)); exact BK702.out⟩, ⟨by repeat (first | (with_reducible first | exact HB.out | apply below_alloc | apply pw_below_drewN | apply below_drew1 | refine below_set ?_ GE702.out) | exact HB.out)⟩⟩
    · replace c5 := Bool.eq_false_iff.mpr c5
      subst c5
      have H1 : ((clause_Check.f a0_0 l0_1).bind fun t704 => (hoggetlaw12_SolverFirst.j0 k (t704 != 0) a0_0 l0_1)) = some r := by rw [if_neg (show ¬ (false = true) by decide)] at H; exact H
      clear H
      have H := H1
      clear H1
      replace H := Option.bind_eq_some_iff.mp H
      obtain ⟨t704, A80, H⟩ := H
      replace H : (hoggetlaw12_SolverFirst.j0 k (t704 != 0) a0_0 l0_1) = some r := H
      have A8 := Aside0.mk A80
      clear A80
      have H' := Aside0.mk H
      clear H
      have hcz9_0 : w3.cell? ⟨gb702, 0, none⟩ = some (.int .i64 a0_0) := (blk_cell BK702.out 0).trans rfl
      have hcz9_1 : w3.cell? ⟨gb702, 1, none⟩ = some (.slice A0_1 l0_1.length c0_1) := (blk_cell BK702.out 1).trans rfl
      have hfz9_0 := blk_frozen BK702.out 0
      have hfz9_1 := blk_frozen BK702.out 1
      go_wp2_with (first | ((with_reducible refine gate_callee (f := 52) rfl ?_); refine goesL_ (some 8) rfl rfl Try.func52 (by kernel_rfl) rfl #[.agg #[.int .i64 a0_0, .slice A0_1 l0_1.length c0_1], .int .i64 8] rfl (by (try simp only [List.map_toArray, List.map_cons, List.map_nil]); first | done | rfl | (simp only [List.length_drop, List.length_take]; rfl)) ?_; (with_reducible refine (hoggetlaw12_large.calls k a0_0 _ _ l0_1 8 false _ ?side1 ?side2 A4.out).mono ?_); (case side1 => repeat (first | exact (Kd.C_below HR0_1.out HB.out) | (with_reducible refine Kd.C_alloc ?_ _) | (with_reducible refine Kd.C_drewN ?_ _) | (with_reducible refine Kd.C_drew ?_))); (case side2 => exact HC0_1.out); rintro e w10 ⟨rfl, hb⟩; refine ⟨_, rfl, ?_⟩; have n0_ := Aside0.mk (blk_below (g := gb702) (o := .cells #[.int .i64 a0_0, .slice A0_1 l0_1.length c0_1] 24 (0, 0)) (by (with_reducible repeat (first | refine blk_drewN ?_ _ | refine blk_drew ?_ | refine blk_alloc ?_ _)); exact BK702.out) hb); have n1_ := Aside0.mk (below_step (by repeat (first | (with_reducible first | exact HB.out | apply below_alloc | apply pw_below_drewN | apply below_drew1 | refine below_set ?_ GE702.out) | exact HB.out)) hb); clear BK702; clear HB; have BK702 := n0_; have HB := n1_; clear n0_ n1_; (try clear hb); (try clear hb2); (try clear hk); (try clear hi); have hcz11_0 : w10.cell? ⟨gb702, 0, none⟩ = some (.int .i64 a0_0) := (blk_cell BK702.out 0).trans rfl; have hcz11_1 : w10.cell? ⟨gb702, 1, none⟩ = some (.slice A0_1 l0_1.length c0_1) := (blk_cell BK702.out 1).trans rfl; have hfz11_0 := blk_frozen BK702.out 0; have hfz11_1 := blk_frozen BK702.out 1) | (go_at_call 44; (with_reducible refine (clause_Check.calls a0_0 _ _ l0_1 t704 _ ?side1 ?side2 A8.out).mono ?_); (case side1 => repeat (first | exact (Kd.C_below HR0_1.out HB.out) | (with_reducible refine Kd.C_alloc ?_ _) | (with_reducible refine Kd.C_drewN ?_ _) | (with_reducible refine Kd.C_drew ?_))); (case side2 => exact HC0_1.out); rintro e w12 ⟨rfl, hb⟩; have n0_ := Aside0.mk (blk_below (g := gb702) (o := .cells #[.int .i64 a0_0, .slice A0_1 l0_1.length c0_1] 24 (0, 0)) (by (with_reducible repeat (first | refine blk_drewN ?_ _ | refine blk_drew ?_ | refine blk_alloc ?_ _)); exact BK702.out) hb); have n1_ := Aside0.mk (below_step (by repeat (first | (with_reducible first | exact HB.out | apply below_alloc | apply pw_below_drewN | apply below_drew1 | refine below_set ?_ GE702.out) | exact HB.out)) hb); clear BK702; clear HB; have BK702 := n0_; have HB := n1_; clear n0_ n1_; (try clear hb); (try clear hb2); (try clear hk); (try clear hi)))
      go_meet
      case rel => exact ⟨_, ((t704 != 0)), (by first | rfl | (simp; done) | (simp [*]; done)), H', ⟨by first | omega | exact Nat.le_refl _⟩, ⟨by (with_reducible repeat (first | refine blk_drewN ?_ _ | refine blk_drew ?_ | refine blk_alloc ?_ _)); exact BK702.out⟩, ⟨by repeat (first | (with_reducible first | exact HB.out | apply below_alloc | apply pw_below_drewN | apply below_drew1 | refine below_set ?_ GE702.out) | exact HB.out)⟩⟩
  case rest =>
    clear HC2
    try clear c1
    try clear p2
    try clear c5
    try clear hcz11_0
    try clear hcz11_1
    try clear hcz6_0
    try clear hcz6_1
    try clear hcz9_0
    try clear hcz9_1
    try clear hfz11_0
    try clear hfz11_1
    try clear hfz6_0
    try clear hfz6_1
    try clear hfz9_0
    try clear hfz9_1
    obtain ⟨kq, x13_1, rfl, HA, HJ1, BK702, HB⟩ := hcut
    cases kq with
    | zero => exact absurd HA.out (by simp [hoggetlaw12_SolverFirst.j0])
    | succ kj1 =>
      have H := HA.out
      clear HA
      simp only [hoggetlaw12_SolverFirst.j0] at H
      by_cases c13 : x13_1 = true
      · subst c13
        have H1 : (some true) = some r := by rw [if_pos rfl] at H; exact H
        clear H
        have H := H1
        clear H1
        obtain rfl := Option.some.inj H
        go_wp2
        go_ret
        exact ⟨by first | rfl | (simp [errW_none, errW_some] <;> rfl) | (simp [*, errW_none, errW_some] <;> rfl), by repeat (first | (with_reducible first | exact HB.out | apply below_alloc | apply pw_below_drewN | apply below_drew1 | refine below_set ?_ GE702.out) | exact HB.out)⟩
      · replace c13 := Bool.eq_false_iff.mpr c13
        subst c13
        have H1 : ((solver_Solve.f a0_0 l0_1).bind fun bt705 => ((hoggetref12_First.f kj1 a0_0 l0_1).bind fun bt714 => (if bt705.2.2.2 = 0 then ((hoggetlaw12_solves.f kj1).bind fun t718 => (if t718 = true then (if (bt705.1 == bt714.2) = true then (if bt714.2 = true then ((hoggetref10_Bools.f kj1 bt705.2.1 bt714.1).bind fun t719 => (if t719 = true then (some true) else (none))) else (some ((bt705.2.1.length : Int) == 0))) else (none)) else (none))) else ((hoggetlaw12_solves.f kj1).bind fun t720 => (if t720 = true then (some (bt705.2.2.2 == 120)) else (none)))))) = some r := by rw [if_neg (show ¬ (false = true) by decide)] at H; exact H
        clear H
        have H := H1
        clear H1
        replace H := Option.bind_eq_some_iff.mp H
        obtain ⟨⟨t705, t706, t709, t712⟩, A140, H⟩ := H
        replace H : ((hoggetref12_First.f kj1 a0_0 l0_1).bind fun bt714 => (if t712 = 0 then ((hoggetlaw12_solves.f kj1).bind fun t718 => (if t718 = true then (if (t705 == bt714.2) = true then (if bt714.2 = true then ((hoggetref10_Bools.f kj1 t706 bt714.1).bind fun t719 => (if t719 = true then (some true) else (none))) else (some ((t706.length : Int) == 0))) else (none)) else (none))) else ((hoggetlaw12_solves.f kj1).bind fun t720 => (if t720 = true then (some (t712 == 120)) else (none))))) = some r := H
        have A14 := Aside0.mk A140
        clear A140
        replace H := Option.bind_eq_some_iff.mp H
        obtain ⟨⟨t714, t717⟩, A150, H⟩ := H
        replace H : (if t712 = 0 then ((hoggetlaw12_solves.f kj1).bind fun t718 => (if t718 = true then (if (t705 == t717) = true then (if t717 = true then ((hoggetref10_Bools.f kj1 t706 t714).bind fun t719 => (if t719 = true then (some true) else (none))) else (some ((t706.length : Int) == 0))) else (none)) else (none))) else ((hoggetlaw12_solves.f kj1).bind fun t720 => (if t720 = true then (some (t712 == 120)) else (none)))) = some r := H
        have A15 := Aside0.mk A150
        clear A150
        by_cases c16 : t712 = 0
        · rw [if_pos c16] at H
          have c16b0 : (t712 == 0) = true := beq_iff_eq.mpr c16
          have c16b1 : (t712 != 0) = false := bne_eq_false_iff_eq.mpr c16
          clear c16
          replace H := Option.bind_eq_some_iff.mp H
          obtain ⟨t718, A170, H⟩ := H
          replace H : (if t718 = true then (if (t705 == t717) = true then (if t717 = true then ((hoggetref10_Bools.f kj1 t706 t714).bind fun t719 => (if t719 = true then (some true) else (none))) else (some ((t706.length : Int) == 0))) else (none)) else (none)) = some r := H
          have A17 := Aside0.mk A170
          clear A170
          by_cases c18 : t718 = true
          · subst c18
            have H1 : (if (t705 == t717) = true then (if t717 = true then ((hoggetref10_Bools.f kj1 t706 t714).bind fun t719 => (if t719 = true then (some true) else (none))) else (some ((t706.length : Int) == 0))) else (none)) = some r := by rw [if_pos rfl] at H; exact H
            clear H
            have H := H1
            clear H1
            by_cases c19 : (t705 == t717) = true
            · rw [if_pos c19] at H
              have c19b0 : (t705 == t717) = true := c19
              (try (have c19b1 : decide (t705 = t717) = true := by simpa using c19))
              (try (have c19b2 : (t705 == t717) = true := by simpa using c19))
              clear c19
              by_cases c20 : t717 = true
              · subst c20
                have H1 : ((hoggetref10_Bools.f kj1 t706 t714).bind fun t719 => (if t719 = true then (some true) else (none))) = some r := by rw [if_pos rfl] at H; exact H
                clear H
                have H := H1
                clear H1
                replace H := Option.bind_eq_some_iff.mp H
                obtain ⟨t719, A210, H⟩ := H
                replace H : (if t719 = true then (some true) else (none)) = some r := H
                have A21 := Aside0.mk A210
                clear A210
                by_cases c22 : t719 = true
                · subst c22
                  have H1 : (some true) = some r := by rw [if_pos rfl] at H; exact H
                  clear H
                  have H := H1
                  clear H1
                  obtain rfl := Option.some.inj H
                  have hcz23_0 : wc.cell? ⟨gb702, 0, none⟩ = some (.int .i64 a0_0) := (blk_cell BK702.out 0).trans rfl
                  have hcz23_1 : wc.cell? ⟨gb702, 1, none⟩ = some (.slice A0_1 l0_1.length c0_1) := (blk_cell BK702.out 1).trans rfl
                  have hfz23_0 := blk_frozen BK702.out 0
                  have hfz23_1 := blk_frozen BK702.out 1
                  go_wp2_with (first | ((with_reducible refine gate_callee (f := 53) rfl ?_); refine goesL_ (some 16) rfl rfl Try.func53 (by kernel_rfl) rfl #[.agg #[.int .i64 a0_0, .slice A0_1 l0_1.length c0_1]] rfl (by (try simp only [List.map_toArray, List.map_cons, List.map_nil]); first | done | rfl | (simp only [List.length_drop, List.length_take]; rfl)) ?_; (with_reducible refine (solver_Solve.calls a0_0 _ _ l0_1 t705 t706 t709 t712 _ ?side1 ?side2 A14.out).mono ?_); (case side1 => repeat (first | exact (Kd.C_below HR0_1.out HB.out) | (with_reducible refine Kd.C_alloc ?_ _) | (with_reducible refine Kd.C_drewN ?_ _) | (with_reducible refine Kd.C_drew ?_))); (case side2 => exact HC0_1.out); rintro e w24 ⟨v707, v710, rfl, ho0, ho1, hb⟩; refine ⟨_, rfl, ?_⟩; have n0_ := Aside0.mk (Kd.R_lower ho0 (below_size (by repeat (first | (with_reducible first | exact HB.out | apply below_alloc | apply pw_below_drewN | apply below_drew1 | refine below_set ?_ GE702.out) | exact HB.out)))); have n1_ := Aside0.mk (Kd.S_lower ho1 (below_size (by repeat (first | (with_reducible first | exact HB.out | apply below_alloc | apply pw_below_drewN | apply below_drew1 | refine below_set ?_ GE702.out) | exact HB.out)))); have n2_ := Aside0.mk (blk_below (g := gb702) (o := .cells #[.int .i64 a0_0, .slice A0_1 l0_1.length c0_1] 24 (0, 0)) (by (with_reducible repeat (first | refine blk_drewN ?_ _ | refine blk_drew ?_ | refine blk_alloc ?_ _)); exact BK702.out) hb); have n3_ := Aside0.mk (below_step (by repeat (first | (with_reducible first | exact HB.out | apply below_alloc | apply pw_below_drewN | apply below_drew1 | refine below_set ?_ GE702.out) | exact HB.out)) hb); clear BK702; clear HB; have HO708 := n0_; have HO711 := n1_; have BK702 := n2_; have HB := n3_; clear n0_ n1_ n2_ n3_; (try clear hb); (try clear hb2); (try clear hk); (try clear hi); (try clear ho0); (try clear ho1)) | ((with_reducible refine gate_dst (N := 3) rfl ?_); (try (refine gate_guard (by rfl) ?_; dsimp only)); refine box_event ?hg (N := 3) ?hd (cs := #[.bool false, .slice none 0 0, .slice none 0 0]) (t := 51) ?hr ?_; (case hd => rfl); (case hg => rfl); (case hr => first | (go_simp; done) | (go_simp; rfl)); intro gb713 hg w25 hbox hb; have n0_ := Aside0.mk (Kd.R_below (by (with_reducible repeat (first | apply Kd.R_alloc | apply Kd.R_drewN | apply Kd.R_drew)); exact HO708.out) hb); have n1_ := Aside0.mk (Kd.S_below (by (with_reducible repeat (first | apply Kd.S_alloc | apply Kd.S_drewN | apply Kd.S_drew)); exact HO711.out) hb); have n2_ := Aside0.mk (blk_below (g := gb702) (o := .cells #[.int .i64 a0_0, .slice A0_1 l0_1.length c0_1] 24 (0, 0)) (by (with_reducible repeat (first | refine blk_drewN ?_ _ | refine blk_drew ?_ | refine blk_alloc ?_ _)); exact BK702.out) hb); have n3_ := Aside0.mk (below_step (by repeat (first | (with_reducible first | exact HB.out | apply below_alloc | apply pw_below_drewN | apply below_drew1 | refine below_set ?_ GE702.out) | exact HB.out)) hb); have n4_ := Aside0.mk (hbox); have n5_ := Aside0.mk ((by rw [hg]; exact (below_size (by repeat (first | (with_reducible first | exact HB.out | apply below_alloc | apply pw_below_drewN | apply below_drew1 | refine below_set ?_ GE702.out) | exact HB.out))) : w.heap.size ≤ gb713)); have n6_ := Aside0.mk ((by rw [hg]; exact (below_size (by repeat (first | (with_reducible first | exact HB.out | apply below_alloc | apply pw_below_drewN | apply below_drew1 | refine below_set ?_ GE702.out) | exact HB.out))) : w.heap.size ≤ gb713)); have n7_ := Aside0.mk ((by rw [hg]; exact Nat.ne_of_lt (blk_lt (g := gb702) (o := .cells #[.int .i64 a0_0, .slice A0_1 l0_1.length c0_1] 24 (0, 0)) (by (with_reducible repeat (first | refine blk_drewN ?_ _ | refine blk_drew ?_ | refine blk_alloc ?_ _)); exact BK702.out)) : gb702 ≠ gb713)); have n8_ := Aside0.mk ((by rw [hg]; exact Nat.ne_of_gt (blk_lt (g := gb702) (o := .cells #[.int .i64 a0_0, .slice A0_1 l0_1.length c0_1] 24 (0, 0)) (by (with_reducible repeat (first | refine blk_drewN ?_ _ | refine blk_drew ?_ | refine blk_alloc ?_ _)); exact BK702.out)) : gb713 ≠ gb702)); clear HO708; clear HO711; clear BK702; clear HB; have HO708 := n0_; have HO711 := n1_; have BK702 := n2_; have HB := n3_; have BK713 := n4_; have GW713 := n5_; have GE713 := n6_; have NB702_713 := n7_; have NB713_702 := n8_; clear n0_ n1_ n2_ n3_ n4_ n5_ n6_ n7_ n8_; clear hb hbox hg; have hnb26 := NB713_702.out; have hnc26 := NB702_713.out; have hcz27_0 : w25.cell? ⟨gb713, 0, none⟩ = some (.bool false) := (blk_cell BK713.out 0).trans rfl; have hcz27_1 : w25.cell? ⟨gb713, 1, none⟩ = some (.slice none 0 0) := (blk_cell BK713.out 1).trans rfl; have hcz27_2 : w25.cell? ⟨gb713, 2, none⟩ = some (.slice none 0 0) := (blk_cell BK713.out 2).trans rfl; have hfz27_0 := blk_frozen BK713.out 0; have hfz27_1 := blk_frozen BK713.out 1; have hfz27_2 := blk_frozen BK713.out 2; obtain ⟨Ao28, co28, eo28⟩ := Kd.R_slice HO708.out; subst eo28; obtain ⟨Ao29, co29, eo29⟩ := Kd.S_slice HO711.out; subst eo29; have hcz30_0 : w25.cell? ⟨gb702, 0, none⟩ = some (.int .i64 a0_0) := (blk_cell BK702.out 0).trans rfl; have hcz30_1 : w25.cell? ⟨gb702, 1, none⟩ = some (.slice A0_1 l0_1.length c0_1) := (blk_cell BK702.out 1).trans rfl; have hfz30_0 := blk_frozen BK702.out 0; have hfz30_1 := blk_frozen BK702.out 1) | ((with_reducible refine gate_callee (f := 59) rfl ?_); refine goesL_ (some 21) rfl rfl Try.func59 (by kernel_rfl) rfl #[.agg #[.int .i64 a0_0, .slice A0_1 l0_1.length c0_1]] rfl (by (try simp only [List.map_toArray, List.map_cons, List.map_nil]); first | done | rfl | (simp only [List.length_drop, List.length_take]; rfl)) ?_; (with_reducible refine (hoggetref12_First.calls kj1 a0_0 _ _ l0_1 t714 true _ ?side1 ?side2 A15.out).mono ?_); (case side1 => exact Kd.C_below HR0_1.out (by repeat (first | (with_reducible first | exact HB.out | apply below_alloc | apply pw_below_drewN | apply below_drew1 | refine below_set ?_ GE702.out | refine below_set ?_ GE713.out) | exact HB.out))); (case side2 => exact HC0_1.out); rintro e w31 ⟨v715, rfl, ho0, hb⟩; refine ⟨_, rfl, ?_⟩; have n0_ := Aside0.mk (Kd.R_elder' (by (with_reducible repeat (first | apply Kd.R_alloc | apply Kd.R_drewN | apply Kd.R_drew)); exact (Kd.R_mono (Kd.R_far (p := ⟨gb713, 2, none⟩) (Kd.R_far (p := ⟨gb713, 1, none⟩) (Kd.R_far (p := ⟨gb713, 0, none⟩) (Kd.R_types HO708.out BK713.out (by decide)) (fun _ hk => hk.2) (.bool t705)) (fun _ hk => hk.2) (.slice Ao28 t706.length co28)) (fun _ hk => hk.2) (.slice Ao29 t709.length co29)) (fun _ h_ => h_.1))) (Kd.R_base ho0) hb); have n1_ := Aside0.mk (Kd.S_below (by (with_reducible repeat (first | apply Kd.S_alloc | apply Kd.S_drewN | apply Kd.S_drew)); exact (Kd.S_mono (Kd.S_far (p := ⟨gb713, 2, none⟩) (Kd.S_far (p := ⟨gb713, 1, none⟩) (Kd.S_far (p := ⟨gb713, 0, none⟩) (Kd.S_types HO711.out BK713.out (by decide)) (fun _ hk => hk.2) (.bool t705)) (fun _ hk => hk.2) (.slice Ao28 t706.length co28)) (fun _ hk => hk.2) (.slice Ao29 t709.length co29)) (fun _ h_ => h_.1))) hb); have n2_ := Aside0.mk (Kd.R_lower (Kd.R_new' ho0 (Kd.R_lt (by (with_reducible repeat (first | apply Kd.R_alloc | apply Kd.R_drewN | apply Kd.R_drew)); exact (Kd.R_mono (Kd.R_far (p := ⟨gb713, 2, none⟩) (Kd.R_far (p := ⟨gb713, 1, none⟩) (Kd.R_far (p := ⟨gb713, 0, none⟩) (Kd.R_types HO708.out BK713.out (by decide)) (fun _ hk => hk.2) (.bool t705)) (fun _ hk => hk.2) (.slice Ao28 t706.length co28)) (fun _ hk => hk.2) (.slice Ao29 t709.length co29)) (fun _ h_ => h_.1))))) (below_size (by repeat (first | (with_reducible first | exact HB.out | apply below_alloc | apply pw_below_drewN | apply below_drew1 | refine below_set ?_ GE702.out | refine below_set ?_ GE713.out) | exact HB.out)))); have n3_ := Aside0.mk (blk_below (g := gb702) (o := .cells #[.int .i64 a0_0, .slice A0_1 l0_1.length c0_1] 24 (0, 0)) (by (with_reducible repeat (first | refine blk_drewN ?_ _ | refine blk_drew ?_ | refine blk_alloc ?_ _)); refine blk_far ?_ NB702_713.out _; (with_reducible repeat (first | refine blk_drewN ?_ _ | refine blk_drew ?_ | refine blk_alloc ?_ _)); refine blk_far ?_ NB702_713.out _; (with_reducible repeat (first | refine blk_drewN ?_ _ | refine blk_drew ?_ | refine blk_alloc ?_ _)); refine blk_far ?_ NB702_713.out _; (with_reducible repeat (first | refine blk_drewN ?_ _ | refine blk_drew ?_ | refine blk_alloc ?_ _)); exact BK702.out) hb); have n4_ := Aside0.mk (blk_below (g := gb713) (o := .cells #[.bool t705, .slice Ao28 t706.length co28, .slice Ao29 t709.length co29] 51 (0, 0)) (by (with_reducible repeat (first | refine blk_drewN ?_ _ | refine blk_drew ?_ | refine blk_alloc ?_ _)); refine blk_put (cs := #[.bool t705, .slice Ao28 t706.length co28, .slice none 0 0]) ?_ 2 _ rfl; (with_reducible repeat (first | refine blk_drewN ?_ _ | refine blk_drew ?_ | refine blk_alloc ?_ _)); refine blk_put (cs := #[.bool t705, .slice none 0 0, .slice none 0 0]) ?_ 1 _ rfl; (with_reducible repeat (first | refine blk_drewN ?_ _ | refine blk_drew ?_ | refine blk_alloc ?_ _)); refine blk_put (cs := #[.bool false, .slice none 0 0, .slice none 0 0]) ?_ 0 _ rfl; (with_reducible repeat (first | refine blk_drewN ?_ _ | refine blk_drew ?_ | refine blk_alloc ?_ _)); exact BK713.out) hb); have n5_ := Aside0.mk (below_step (by repeat (first | (with_reducible first | exact HB.out | apply below_alloc | apply pw_below_drewN | apply below_drew1 | refine below_set ?_ GE702.out | refine below_set ?_ GE713.out) | exact HB.out)) hb); clear HO708; clear HO711; clear BK702; clear BK713; clear HB; have HO708 := n0_; have HO711 := n1_; have HO716 := n2_; have BK702 := n3_; have BK713 := n4_; have HB := n5_; clear n0_ n1_ n2_ n3_ n4_ n5_; (try clear hb); (try clear hb2); (try clear hk); (try clear hi); (try clear ho0)) | ((with_reducible refine gate_callee (f := 55) rfl ?_); refine goesL_ (some 31) rfl rfl Try.func55 (by kernel_rfl) rfl #[] rfl (by (try simp only [List.map_toArray, List.map_cons, List.map_nil]); first | done | rfl | (simp only [List.length_drop, List.length_take]; rfl)) ?_; (with_reducible refine (hoggetlaw12_solves.calls kj1  true _ A17.out).mono ?_); rintro e w32 ⟨rfl, hb⟩; refine ⟨_, rfl, ?_⟩; have n0_ := Aside0.mk (Kd.R_below (by (with_reducible repeat (first | apply Kd.R_alloc | apply Kd.R_drewN | apply Kd.R_drew)); exact HO708.out) hb); have n1_ := Aside0.mk (Kd.S_below (by (with_reducible repeat (first | apply Kd.S_alloc | apply Kd.S_drewN | apply Kd.S_drew)); exact HO711.out) hb); have n2_ := Aside0.mk (Kd.R_below (by (with_reducible repeat (first | apply Kd.R_alloc | apply Kd.R_drewN | apply Kd.R_drew)); exact HO716.out) hb); have n3_ := Aside0.mk (blk_below (g := gb702) (o := .cells #[.int .i64 a0_0, .slice A0_1 l0_1.length c0_1] 24 (0, 0)) (by (with_reducible repeat (first | refine blk_drewN ?_ _ | refine blk_drew ?_ | refine blk_alloc ?_ _)); exact BK702.out) hb); have n4_ := Aside0.mk (blk_below (g := gb713) (o := .cells #[.bool t705, .slice Ao28 t706.length co28, .slice Ao29 t709.length co29] 51 (0, 0)) (by (with_reducible repeat (first | refine blk_drewN ?_ _ | refine blk_drew ?_ | refine blk_alloc ?_ _)); exact BK713.out) hb); have n5_ := Aside0.mk (below_step (by repeat (first | (with_reducible first | exact HB.out | apply below_alloc | apply pw_below_drewN | apply below_drew1 | refine below_set ?_ GE702.out | refine below_set ?_ GE713.out) | exact HB.out)) hb); clear HO708; clear HO711; clear HO716; clear BK702; clear BK713; clear HB; have HO708 := n0_; have HO711 := n1_; have HO716 := n2_; have BK702 := n3_; have BK713 := n4_; have HB := n5_; clear n0_ n1_ n2_ n3_ n4_ n5_; (try clear hb); (try clear hb2); (try clear hk); (try clear hi); have hcz33_0 : w32.cell? ⟨gb713, 0, none⟩ = some (.bool t705) := (blk_cell BK713.out 0).trans rfl; have hcz33_1 : w32.cell? ⟨gb713, 1, none⟩ = some (.slice Ao28 t706.length co28) := (blk_cell BK713.out 1).trans rfl; have hcz33_2 : w32.cell? ⟨gb713, 2, none⟩ = some (.slice Ao29 t709.length co29) := (blk_cell BK713.out 2).trans rfl; have hfz33_0 := blk_frozen BK713.out 0; have hfz33_1 := blk_frozen BK713.out 1; have hfz33_2 := blk_frozen BK713.out 2; obtain ⟨Ao34, co34, eo34⟩ := Kd.R_slice HO716.out; subst eo34) | (go_at_call 60; (with_reducible refine (hoggetref10_Bools.calls kj1 _ _ t706 _ _ t714 true _ ?side1 ?side2 ?side3 ?side4 A21.out).mono ?_); (case side1 => repeat (first | exact (Kd.R_reads' HO708.out).2.2 | (with_reducible refine Kd.C_alloc ?_ _) | (with_reducible refine Kd.C_drewN ?_ _) | (with_reducible refine Kd.C_drew ?_))); (case side2 => exact (Kd.R_reads' HO708.out).2.1); (case side3 => repeat (first | exact (Kd.R_reads' HO716.out).2.2 | (with_reducible refine Kd.C_alloc ?_ _) | (with_reducible refine Kd.C_drewN ?_ _) | (with_reducible refine Kd.C_drew ?_))); (case side4 => exact (Kd.R_reads' HO716.out).2.1); rintro e w' ⟨rfl, ⟨nd, rfl⟩⟩))
                  go_ret
                  exact ⟨by first | rfl | (simp [errW_none, errW_some] <;> rfl) | (simp [*, errW_none, errW_some] <;> rfl), by repeat (first | (with_reducible first | exact HB.out | apply below_alloc | apply pw_below_drewN | apply below_drew1 | refine below_set ?_ GE702.out | refine below_set ?_ GE713.out) | exact HB.out)⟩
                · replace c22 := Bool.eq_false_iff.mpr c22
                  subst c22
                  have H1 : (none) = some r := by rw [if_neg (show ¬ (false = true) by decide)] at H; exact H
                  clear H
                  have H := H1
                  clear H1
                  cases H
              · replace c20 := Bool.eq_false_iff.mpr c20
                subst c20
                have H1 : (some ((t706.length : Int) == 0)) = some r := by rw [if_neg (show ¬ (false = true) by decide)] at H; exact H
                clear H
                have H := H1
                clear H1
                obtain rfl := Option.some.inj H
                have hcz47_0 : wc.cell? ⟨gb702, 0, none⟩ = some (.int .i64 a0_0) := (blk_cell BK702.out 0).trans rfl
                have hcz47_1 : wc.cell? ⟨gb702, 1, none⟩ = some (.slice A0_1 l0_1.length c0_1) := (blk_cell BK702.out 1).trans rfl
                have hfz47_0 := blk_frozen BK702.out 0
                have hfz47_1 := blk_frozen BK702.out 1
                go_wp2_with (first | ((with_reducible refine gate_callee (f := 53) rfl ?_); refine goesL_ (some 16) rfl rfl Try.func53 (by kernel_rfl) rfl #[.agg #[.int .i64 a0_0, .slice A0_1 l0_1.length c0_1]] rfl (by (try simp only [List.map_toArray, List.map_cons, List.map_nil]); first | done | rfl | (simp only [List.length_drop, List.length_take]; rfl)) ?_; (with_reducible refine (solver_Solve.calls a0_0 _ _ l0_1 t705 t706 t709 t712 _ ?side1 ?side2 A14.out).mono ?_); (case side1 => repeat (first | exact (Kd.C_below HR0_1.out HB.out) | (with_reducible refine Kd.C_alloc ?_ _) | (with_reducible refine Kd.C_drewN ?_ _) | (with_reducible refine Kd.C_drew ?_))); (case side2 => exact HC0_1.out); rintro e w48 ⟨v707, v710, rfl, ho0, ho1, hb⟩; refine ⟨_, rfl, ?_⟩; have n0_ := Aside0.mk (Kd.R_lower ho0 (below_size (by repeat (first | (with_reducible first | exact HB.out | apply below_alloc | apply pw_below_drewN | apply below_drew1 | refine below_set ?_ GE702.out) | exact HB.out)))); have n1_ := Aside0.mk (Kd.S_lower ho1 (below_size (by repeat (first | (with_reducible first | exact HB.out | apply below_alloc | apply pw_below_drewN | apply below_drew1 | refine below_set ?_ GE702.out) | exact HB.out)))); have n2_ := Aside0.mk (blk_below (g := gb702) (o := .cells #[.int .i64 a0_0, .slice A0_1 l0_1.length c0_1] 24 (0, 0)) (by (with_reducible repeat (first | refine blk_drewN ?_ _ | refine blk_drew ?_ | refine blk_alloc ?_ _)); exact BK702.out) hb); have n3_ := Aside0.mk (below_step (by repeat (first | (with_reducible first | exact HB.out | apply below_alloc | apply pw_below_drewN | apply below_drew1 | refine below_set ?_ GE702.out) | exact HB.out)) hb); clear BK702; clear HB; have HO708 := n0_; have HO711 := n1_; have BK702 := n2_; have HB := n3_; clear n0_ n1_ n2_ n3_; (try clear hb); (try clear hb2); (try clear hk); (try clear hi); (try clear ho0); (try clear ho1)) | ((with_reducible refine gate_dst (N := 3) rfl ?_); (try (refine gate_guard (by rfl) ?_; dsimp only)); refine box_event ?hg (N := 3) ?hd (cs := #[.bool false, .slice none 0 0, .slice none 0 0]) (t := 51) ?hr ?_; (case hd => rfl); (case hg => rfl); (case hr => first | (go_simp; done) | (go_simp; rfl)); intro gb713 hg w49 hbox hb; have n0_ := Aside0.mk (Kd.R_below (by (with_reducible repeat (first | apply Kd.R_alloc | apply Kd.R_drewN | apply Kd.R_drew)); exact HO708.out) hb); have n1_ := Aside0.mk (Kd.S_below (by (with_reducible repeat (first | apply Kd.S_alloc | apply Kd.S_drewN | apply Kd.S_drew)); exact HO711.out) hb); have n2_ := Aside0.mk (blk_below (g := gb702) (o := .cells #[.int .i64 a0_0, .slice A0_1 l0_1.length c0_1] 24 (0, 0)) (by (with_reducible repeat (first | refine blk_drewN ?_ _ | refine blk_drew ?_ | refine blk_alloc ?_ _)); exact BK702.out) hb); have n3_ := Aside0.mk (below_step (by repeat (first | (with_reducible first | exact HB.out | apply below_alloc | apply pw_below_drewN | apply below_drew1 | refine below_set ?_ GE702.out) | exact HB.out)) hb); have n4_ := Aside0.mk (hbox); have n5_ := Aside0.mk ((by rw [hg]; exact (below_size (by repeat (first | (with_reducible first | exact HB.out | apply below_alloc | apply pw_below_drewN | apply below_drew1 | refine below_set ?_ GE702.out) | exact HB.out))) : w.heap.size ≤ gb713)); have n6_ := Aside0.mk ((by rw [hg]; exact (below_size (by repeat (first | (with_reducible first | exact HB.out | apply below_alloc | apply pw_below_drewN | apply below_drew1 | refine below_set ?_ GE702.out) | exact HB.out))) : w.heap.size ≤ gb713)); have n7_ := Aside0.mk ((by rw [hg]; exact Nat.ne_of_lt (blk_lt (g := gb702) (o := .cells #[.int .i64 a0_0, .slice A0_1 l0_1.length c0_1] 24 (0, 0)) (by (with_reducible repeat (first | refine blk_drewN ?_ _ | refine blk_drew ?_ | refine blk_alloc ?_ _)); exact BK702.out)) : gb702 ≠ gb713)); have n8_ := Aside0.mk ((by rw [hg]; exact Nat.ne_of_gt (blk_lt (g := gb702) (o := .cells #[.int .i64 a0_0, .slice A0_1 l0_1.length c0_1] 24 (0, 0)) (by (with_reducible repeat (first | refine blk_drewN ?_ _ | refine blk_drew ?_ | refine blk_alloc ?_ _)); exact BK702.out)) : gb713 ≠ gb702)); clear HO708; clear HO711; clear BK702; clear HB; have HO708 := n0_; have HO711 := n1_; have BK702 := n2_; have HB := n3_; have BK713 := n4_; have GW713 := n5_; have GE713 := n6_; have NB702_713 := n7_; have NB713_702 := n8_; clear n0_ n1_ n2_ n3_ n4_ n5_ n6_ n7_ n8_; clear hb hbox hg; have hnb50 := NB713_702.out; have hnc50 := NB702_713.out; have hcz51_0 : w49.cell? ⟨gb713, 0, none⟩ = some (.bool false) := (blk_cell BK713.out 0).trans rfl; have hcz51_1 : w49.cell? ⟨gb713, 1, none⟩ = some (.slice none 0 0) := (blk_cell BK713.out 1).trans rfl; have hcz51_2 : w49.cell? ⟨gb713, 2, none⟩ = some (.slice none 0 0) := (blk_cell BK713.out 2).trans rfl; have hfz51_0 := blk_frozen BK713.out 0; have hfz51_1 := blk_frozen BK713.out 1; have hfz51_2 := blk_frozen BK713.out 2; obtain ⟨Ao52, co52, eo52⟩ := Kd.R_slice HO708.out; subst eo52; obtain ⟨Ao53, co53, eo53⟩ := Kd.S_slice HO711.out; subst eo53; have hcz54_0 : w49.cell? ⟨gb702, 0, none⟩ = some (.int .i64 a0_0) := (blk_cell BK702.out 0).trans rfl; have hcz54_1 : w49.cell? ⟨gb702, 1, none⟩ = some (.slice A0_1 l0_1.length c0_1) := (blk_cell BK702.out 1).trans rfl; have hfz54_0 := blk_frozen BK702.out 0; have hfz54_1 := blk_frozen BK702.out 1) | ((with_reducible refine gate_callee (f := 59) rfl ?_); refine goesL_ (some 21) rfl rfl Try.func59 (by kernel_rfl) rfl #[.agg #[.int .i64 a0_0, .slice A0_1 l0_1.length c0_1]] rfl (by (try simp only [List.map_toArray, List.map_cons, List.map_nil]); first | done | rfl | (simp only [List.length_drop, List.length_take]; rfl)) ?_; (with_reducible refine (hoggetref12_First.calls kj1 a0_0 _ _ l0_1 t714 false _ ?side1 ?side2 A15.out).mono ?_); (case side1 => exact Kd.C_below HR0_1.out (by repeat (first | (with_reducible first | exact HB.out | apply below_alloc | apply pw_below_drewN | apply below_drew1 | refine below_set ?_ GE702.out | refine below_set ?_ GE713.out) | exact HB.out))); (case side2 => exact HC0_1.out); rintro e w55 ⟨v715, rfl, ho0, hb⟩; refine ⟨_, rfl, ?_⟩; have n0_ := Aside0.mk (Kd.R_elder' (by (with_reducible repeat (first | apply Kd.R_alloc | apply Kd.R_drewN | apply Kd.R_drew)); exact (Kd.R_mono (Kd.R_far (p := ⟨gb713, 2, none⟩) (Kd.R_far (p := ⟨gb713, 1, none⟩) (Kd.R_far (p := ⟨gb713, 0, none⟩) (Kd.R_types HO708.out BK713.out (by decide)) (fun _ hk => hk.2) (.bool t705)) (fun _ hk => hk.2) (.slice Ao52 t706.length co52)) (fun _ hk => hk.2) (.slice Ao53 t709.length co53)) (fun _ h_ => h_.1))) (Kd.R_base ho0) hb); have n1_ := Aside0.mk (Kd.S_below (by (with_reducible repeat (first | apply Kd.S_alloc | apply Kd.S_drewN | apply Kd.S_drew)); exact (Kd.S_mono (Kd.S_far (p := ⟨gb713, 2, none⟩) (Kd.S_far (p := ⟨gb713, 1, none⟩) (Kd.S_far (p := ⟨gb713, 0, none⟩) (Kd.S_types HO711.out BK713.out (by decide)) (fun _ hk => hk.2) (.bool t705)) (fun _ hk => hk.2) (.slice Ao52 t706.length co52)) (fun _ hk => hk.2) (.slice Ao53 t709.length co53)) (fun _ h_ => h_.1))) hb); have n2_ := Aside0.mk (Kd.R_lower (Kd.R_new' ho0 (Kd.R_lt (by (with_reducible repeat (first | apply Kd.R_alloc | apply Kd.R_drewN | apply Kd.R_drew)); exact (Kd.R_mono (Kd.R_far (p := ⟨gb713, 2, none⟩) (Kd.R_far (p := ⟨gb713, 1, none⟩) (Kd.R_far (p := ⟨gb713, 0, none⟩) (Kd.R_types HO708.out BK713.out (by decide)) (fun _ hk => hk.2) (.bool t705)) (fun _ hk => hk.2) (.slice Ao52 t706.length co52)) (fun _ hk => hk.2) (.slice Ao53 t709.length co53)) (fun _ h_ => h_.1))))) (below_size (by repeat (first | (with_reducible first | exact HB.out | apply below_alloc | apply pw_below_drewN | apply below_drew1 | refine below_set ?_ GE702.out | refine below_set ?_ GE713.out) | exact HB.out)))); have n3_ := Aside0.mk (blk_below (g := gb702) (o := .cells #[.int .i64 a0_0, .slice A0_1 l0_1.length c0_1] 24 (0, 0)) (by (with_reducible repeat (first | refine blk_drewN ?_ _ | refine blk_drew ?_ | refine blk_alloc ?_ _)); refine blk_far ?_ NB702_713.out _; (with_reducible repeat (first | refine blk_drewN ?_ _ | refine blk_drew ?_ | refine blk_alloc ?_ _)); refine blk_far ?_ NB702_713.out _; (with_reducible repeat (first | refine blk_drewN ?_ _ | refine blk_drew ?_ | refine blk_alloc ?_ _)); refine blk_far ?_ NB702_713.out _; (with_reducible repeat (first | refine blk_drewN ?_ _ | refine blk_drew ?_ | refine blk_alloc ?_ _)); exact BK702.out) hb); have n4_ := Aside0.mk (blk_below (g := gb713) (o := .cells #[.bool t705, .slice Ao52 t706.length co52, .slice Ao53 t709.length co53] 51 (0, 0)) (by (with_reducible repeat (first | refine blk_drewN ?_ _ | refine blk_drew ?_ | refine blk_alloc ?_ _)); refine blk_put (cs := #[.bool t705, .slice Ao52 t706.length co52, .slice none 0 0]) ?_ 2 _ rfl; (with_reducible repeat (first | refine blk_drewN ?_ _ | refine blk_drew ?_ | refine blk_alloc ?_ _)); refine blk_put (cs := #[.bool t705, .slice none 0 0, .slice none 0 0]) ?_ 1 _ rfl; (with_reducible repeat (first | refine blk_drewN ?_ _ | refine blk_drew ?_ | refine blk_alloc ?_ _)); refine blk_put (cs := #[.bool false, .slice none 0 0, .slice none 0 0]) ?_ 0 _ rfl; (with_reducible repeat (first | refine blk_drewN ?_ _ | refine blk_drew ?_ | refine blk_alloc ?_ _)); exact BK713.out) hb); have n5_ := Aside0.mk (below_step (by repeat (first | (with_reducible first | exact HB.out | apply below_alloc | apply pw_below_drewN | apply below_drew1 | refine below_set ?_ GE702.out | refine below_set ?_ GE713.out) | exact HB.out)) hb); clear HO708; clear HO711; clear BK702; clear BK713; clear HB; have HO708 := n0_; have HO711 := n1_; have HO716 := n2_; have BK702 := n3_; have BK713 := n4_; have HB := n5_; clear n0_ n1_ n2_ n3_ n4_ n5_; (try clear hb); (try clear hb2); (try clear hk); (try clear hi); (try clear ho0)) | ((with_reducible refine gate_callee (f := 55) rfl ?_); refine goesL_ (some 31) rfl rfl Try.func55 (by kernel_rfl) rfl #[] rfl (by (try simp only [List.map_toArray, List.map_cons, List.map_nil]); first | done | rfl | (simp only [List.length_drop, List.length_take]; rfl)) ?_; (with_reducible refine (hoggetlaw12_solves.calls kj1  true _ A17.out).mono ?_); rintro e w56 ⟨rfl, hb⟩; refine ⟨_, rfl, ?_⟩; have n0_ := Aside0.mk (Kd.R_below (by (with_reducible repeat (first | apply Kd.R_alloc | apply Kd.R_drewN | apply Kd.R_drew)); exact HO708.out) hb); have n1_ := Aside0.mk (Kd.S_below (by (with_reducible repeat (first | apply Kd.S_alloc | apply Kd.S_drewN | apply Kd.S_drew)); exact HO711.out) hb); have n2_ := Aside0.mk (Kd.R_below (by (with_reducible repeat (first | apply Kd.R_alloc | apply Kd.R_drewN | apply Kd.R_drew)); exact HO716.out) hb); have n3_ := Aside0.mk (blk_below (g := gb702) (o := .cells #[.int .i64 a0_0, .slice A0_1 l0_1.length c0_1] 24 (0, 0)) (by (with_reducible repeat (first | refine blk_drewN ?_ _ | refine blk_drew ?_ | refine blk_alloc ?_ _)); exact BK702.out) hb); have n4_ := Aside0.mk (blk_below (g := gb713) (o := .cells #[.bool t705, .slice Ao52 t706.length co52, .slice Ao53 t709.length co53] 51 (0, 0)) (by (with_reducible repeat (first | refine blk_drewN ?_ _ | refine blk_drew ?_ | refine blk_alloc ?_ _)); exact BK713.out) hb); have n5_ := Aside0.mk (below_step (by repeat (first | (with_reducible first | exact HB.out | apply below_alloc | apply pw_below_drewN | apply below_drew1 | refine below_set ?_ GE702.out | refine below_set ?_ GE713.out) | exact HB.out)) hb); clear HO708; clear HO711; clear HO716; clear BK702; clear BK713; clear HB; have HO708 := n0_; have HO711 := n1_; have HO716 := n2_; have BK702 := n3_; have BK713 := n4_; have HB := n5_; clear n0_ n1_ n2_ n3_ n4_ n5_; (try clear hb); (try clear hb2); (try clear hk); (try clear hi); have hcz57_0 : w56.cell? ⟨gb713, 0, none⟩ = some (.bool t705) := (blk_cell BK713.out 0).trans rfl; have hcz57_1 : w56.cell? ⟨gb713, 1, none⟩ = some (.slice Ao52 t706.length co52) := (blk_cell BK713.out 1).trans rfl; have hcz57_2 : w56.cell? ⟨gb713, 2, none⟩ = some (.slice Ao53 t709.length co53) := (blk_cell BK713.out 2).trans rfl; have hfz57_0 := blk_frozen BK713.out 0; have hfz57_1 := blk_frozen BK713.out 1; have hfz57_2 := blk_frozen BK713.out 2))
                go_ret
                exact ⟨by first | rfl | (simp [errW_none, errW_some] <;> rfl) | (simp [*, errW_none, errW_some] <;> rfl), by repeat (first | (with_reducible first | exact HB.out | apply below_alloc | apply pw_below_drewN | apply below_drew1 | refine below_set ?_ GE702.out | refine below_set ?_ GE713.out) | exact HB.out)⟩
            · rw [if_neg c19] at H
              have c19b0 : (t705 == t717) = false := by simpa using c19
              (try (have c19b1 : decide (t705 = t717) = false := by simpa using c19))
              (try (have c19b2 : (t705 == t717) = false := by simpa using c19))
              (try (have c19b3 : ¬ (t705 = t717) := by simpa using c19))
              clear c19
              cases H
          · replace c18 := Bool.eq_false_iff.mpr c18
            subst c18
            have H1 : (none) = some r := by rw [if_neg (show ¬ (false = true) by decide)] at H; exact H
            clear H
            have H := H1
            clear H1
            cases H
        · rw [if_neg c16] at H
          have c16b0 : (t712 == 0) = false := beq_eq_false_iff_ne.mpr c16
          have c16b1 : (t712 != 0) = true := bne_iff_ne.mpr c16
          replace H := Option.bind_eq_some_iff.mp H
          obtain ⟨t720, A790, H⟩ := H
          replace H : (if t720 = true then (some (t712 == 120)) else (none)) = some r := H
          have A79 := Aside0.mk A790
          clear A790
          by_cases c80 : t720 = true
          · subst c80
            have H1 : (some (t712 == 120)) = some r := by rw [if_pos rfl] at H; exact H
            clear H
            have H := H1
            clear H1
            obtain rfl := Option.some.inj H
            have hcz81_0 : wc.cell? ⟨gb702, 0, none⟩ = some (.int .i64 a0_0) := (blk_cell BK702.out 0).trans rfl
            have hcz81_1 : wc.cell? ⟨gb702, 1, none⟩ = some (.slice A0_1 l0_1.length c0_1) := (blk_cell BK702.out 1).trans rfl
            have hfz81_0 := blk_frozen BK702.out 0
            have hfz81_1 := blk_frozen BK702.out 1
            go_wp2_with (first | ((with_reducible refine gate_callee (f := 53) rfl ?_); refine goesL_ (some 16) rfl rfl Try.func53 (by kernel_rfl) rfl #[.agg #[.int .i64 a0_0, .slice A0_1 l0_1.length c0_1]] rfl (by (try simp only [List.map_toArray, List.map_cons, List.map_nil]); first | done | rfl | (simp only [List.length_drop, List.length_take]; rfl)) ?_; (with_reducible refine (solver_Solve.calls a0_0 _ _ l0_1 t705 t706 t709 t712 _ ?side1 ?side2 A14.out).mono ?_); (case side1 => repeat (first | exact (Kd.C_below HR0_1.out HB.out) | (with_reducible refine Kd.C_alloc ?_ _) | (with_reducible refine Kd.C_drewN ?_ _) | (with_reducible refine Kd.C_drew ?_))); (case side2 => exact HC0_1.out); rintro e w82 ⟨v707, v710, rfl, ho0, ho1, hb⟩; refine ⟨_, rfl, ?_⟩; have n0_ := Aside0.mk (Kd.R_lower ho0 (below_size (by repeat (first | (with_reducible first | exact HB.out | apply below_alloc | apply pw_below_drewN | apply below_drew1 | refine below_set ?_ GE702.out) | exact HB.out)))); have n1_ := Aside0.mk (Kd.S_lower ho1 (below_size (by repeat (first | (with_reducible first | exact HB.out | apply below_alloc | apply pw_below_drewN | apply below_drew1 | refine below_set ?_ GE702.out) | exact HB.out)))); have n2_ := Aside0.mk (blk_below (g := gb702) (o := .cells #[.int .i64 a0_0, .slice A0_1 l0_1.length c0_1] 24 (0, 0)) (by (with_reducible repeat (first | refine blk_drewN ?_ _ | refine blk_drew ?_ | refine blk_alloc ?_ _)); exact BK702.out) hb); have n3_ := Aside0.mk (below_step (by repeat (first | (with_reducible first | exact HB.out | apply below_alloc | apply pw_below_drewN | apply below_drew1 | refine below_set ?_ GE702.out) | exact HB.out)) hb); clear BK702; clear HB; have HO708 := n0_; have HO711 := n1_; have BK702 := n2_; have HB := n3_; clear n0_ n1_ n2_ n3_; (try clear hb); (try clear hb2); (try clear hk); (try clear hi); (try clear ho0); (try clear ho1)) | ((with_reducible refine gate_dst (N := 3) rfl ?_); (try (refine gate_guard (by rfl) ?_; dsimp only)); refine box_event ?hg (N := 3) ?hd (cs := #[.bool false, .slice none 0 0, .slice none 0 0]) (t := 51) ?hr ?_; (case hd => rfl); (case hg => rfl); (case hr => first | (go_simp; done) | (go_simp; rfl)); intro gb713 hg w83 hbox hb; have n0_ := Aside0.mk (Kd.R_below (by (with_reducible repeat (first | apply Kd.R_alloc | apply Kd.R_drewN | apply Kd.R_drew)); exact HO708.out) hb); have n1_ := Aside0.mk (Kd.S_below (by (with_reducible repeat (first | apply Kd.S_alloc | apply Kd.S_drewN | apply Kd.S_drew)); exact HO711.out) hb); have n2_ := Aside0.mk (blk_below (g := gb702) (o := .cells #[.int .i64 a0_0, .slice A0_1 l0_1.length c0_1] 24 (0, 0)) (by (with_reducible repeat (first | refine blk_drewN ?_ _ | refine blk_drew ?_ | refine blk_alloc ?_ _)); exact BK702.out) hb); have n3_ := Aside0.mk (below_step (by repeat (first | (with_reducible first | exact HB.out | apply below_alloc | apply pw_below_drewN | apply below_drew1 | refine below_set ?_ GE702.out) | exact HB.out)) hb); have n4_ := Aside0.mk (hbox); have n5_ := Aside0.mk ((by rw [hg]; exact (below_size (by repeat (first | (with_reducible first | exact HB.out | apply below_alloc | apply pw_below_drewN | apply below_drew1 | refine below_set ?_ GE702.out) | exact HB.out))) : w.heap.size ≤ gb713)); have n6_ := Aside0.mk ((by rw [hg]; exact (below_size (by repeat (first | (with_reducible first | exact HB.out | apply below_alloc | apply pw_below_drewN | apply below_drew1 | refine below_set ?_ GE702.out) | exact HB.out))) : w.heap.size ≤ gb713)); have n7_ := Aside0.mk ((by rw [hg]; exact Nat.ne_of_lt (blk_lt (g := gb702) (o := .cells #[.int .i64 a0_0, .slice A0_1 l0_1.length c0_1] 24 (0, 0)) (by (with_reducible repeat (first | refine blk_drewN ?_ _ | refine blk_drew ?_ | refine blk_alloc ?_ _)); exact BK702.out)) : gb702 ≠ gb713)); have n8_ := Aside0.mk ((by rw [hg]; exact Nat.ne_of_gt (blk_lt (g := gb702) (o := .cells #[.int .i64 a0_0, .slice A0_1 l0_1.length c0_1] 24 (0, 0)) (by (with_reducible repeat (first | refine blk_drewN ?_ _ | refine blk_drew ?_ | refine blk_alloc ?_ _)); exact BK702.out)) : gb713 ≠ gb702)); clear HO708; clear HO711; clear BK702; clear HB; have HO708 := n0_; have HO711 := n1_; have BK702 := n2_; have HB := n3_; have BK713 := n4_; have GW713 := n5_; have GE713 := n6_; have NB702_713 := n7_; have NB713_702 := n8_; clear n0_ n1_ n2_ n3_ n4_ n5_ n6_ n7_ n8_; clear hb hbox hg; have hnb84 := NB713_702.out; have hnc84 := NB702_713.out; have hcz85_0 : w83.cell? ⟨gb713, 0, none⟩ = some (.bool false) := (blk_cell BK713.out 0).trans rfl; have hcz85_1 : w83.cell? ⟨gb713, 1, none⟩ = some (.slice none 0 0) := (blk_cell BK713.out 1).trans rfl; have hcz85_2 : w83.cell? ⟨gb713, 2, none⟩ = some (.slice none 0 0) := (blk_cell BK713.out 2).trans rfl; have hfz85_0 := blk_frozen BK713.out 0; have hfz85_1 := blk_frozen BK713.out 1; have hfz85_2 := blk_frozen BK713.out 2; obtain ⟨Ao86, co86, eo86⟩ := Kd.R_slice HO708.out; subst eo86; obtain ⟨Ao87, co87, eo87⟩ := Kd.S_slice HO711.out; subst eo87; have hcz88_0 : w83.cell? ⟨gb702, 0, none⟩ = some (.int .i64 a0_0) := (blk_cell BK702.out 0).trans rfl; have hcz88_1 : w83.cell? ⟨gb702, 1, none⟩ = some (.slice A0_1 l0_1.length c0_1) := (blk_cell BK702.out 1).trans rfl; have hfz88_0 := blk_frozen BK702.out 0; have hfz88_1 := blk_frozen BK702.out 1) | ((with_reducible refine gate_callee (f := 59) rfl ?_); refine goesL_ (some 21) rfl rfl Try.func59 (by kernel_rfl) rfl #[.agg #[.int .i64 a0_0, .slice A0_1 l0_1.length c0_1]] rfl (by (try simp only [List.map_toArray, List.map_cons, List.map_nil]); first | done | rfl | (simp only [List.length_drop, List.length_take]; rfl)) ?_; (with_reducible refine (hoggetref12_First.calls kj1 a0_0 _ _ l0_1 t714 t717 _ ?side1 ?side2 A15.out).mono ?_); (case side1 => exact Kd.C_below HR0_1.out (by repeat (first | (with_reducible first | exact HB.out | apply below_alloc | apply pw_below_drewN | apply below_drew1 | refine below_set ?_ GE702.out | refine below_set ?_ GE713.out) | exact HB.out))); (case side2 => exact HC0_1.out); rintro e w89 ⟨v715, rfl, ho0, hb⟩; refine ⟨_, rfl, ?_⟩; have n0_ := Aside0.mk (Kd.R_elder' (by (with_reducible repeat (first | apply Kd.R_alloc | apply Kd.R_drewN | apply Kd.R_drew)); exact (Kd.R_mono (Kd.R_far (p := ⟨gb713, 2, none⟩) (Kd.R_far (p := ⟨gb713, 1, none⟩) (Kd.R_far (p := ⟨gb713, 0, none⟩) (Kd.R_types HO708.out BK713.out (by decide)) (fun _ hk => hk.2) (.bool t705)) (fun _ hk => hk.2) (.slice Ao86 t706.length co86)) (fun _ hk => hk.2) (.slice Ao87 t709.length co87)) (fun _ h_ => h_.1))) (Kd.R_base ho0) hb); have n1_ := Aside0.mk (Kd.S_below (by (with_reducible repeat (first | apply Kd.S_alloc | apply Kd.S_drewN | apply Kd.S_drew)); exact (Kd.S_mono (Kd.S_far (p := ⟨gb713, 2, none⟩) (Kd.S_far (p := ⟨gb713, 1, none⟩) (Kd.S_far (p := ⟨gb713, 0, none⟩) (Kd.S_types HO711.out BK713.out (by decide)) (fun _ hk => hk.2) (.bool t705)) (fun _ hk => hk.2) (.slice Ao86 t706.length co86)) (fun _ hk => hk.2) (.slice Ao87 t709.length co87)) (fun _ h_ => h_.1))) hb); have n2_ := Aside0.mk (Kd.R_lower (Kd.R_new' ho0 (Kd.R_lt (by (with_reducible repeat (first | apply Kd.R_alloc | apply Kd.R_drewN | apply Kd.R_drew)); exact (Kd.R_mono (Kd.R_far (p := ⟨gb713, 2, none⟩) (Kd.R_far (p := ⟨gb713, 1, none⟩) (Kd.R_far (p := ⟨gb713, 0, none⟩) (Kd.R_types HO708.out BK713.out (by decide)) (fun _ hk => hk.2) (.bool t705)) (fun _ hk => hk.2) (.slice Ao86 t706.length co86)) (fun _ hk => hk.2) (.slice Ao87 t709.length co87)) (fun _ h_ => h_.1))))) (below_size (by repeat (first | (with_reducible first | exact HB.out | apply below_alloc | apply pw_below_drewN | apply below_drew1 | refine below_set ?_ GE702.out | refine below_set ?_ GE713.out) | exact HB.out)))); have n3_ := Aside0.mk (blk_below (g := gb702) (o := .cells #[.int .i64 a0_0, .slice A0_1 l0_1.length c0_1] 24 (0, 0)) (by (with_reducible repeat (first | refine blk_drewN ?_ _ | refine blk_drew ?_ | refine blk_alloc ?_ _)); refine blk_far ?_ NB702_713.out _; (with_reducible repeat (first | refine blk_drewN ?_ _ | refine blk_drew ?_ | refine blk_alloc ?_ _)); refine blk_far ?_ NB702_713.out _; (with_reducible repeat (first | refine blk_drewN ?_ _ | refine blk_drew ?_ | refine blk_alloc ?_ _)); refine blk_far ?_ NB702_713.out _; (with_reducible repeat (first | refine blk_drewN ?_ _ | refine blk_drew ?_ | refine blk_alloc ?_ _)); exact BK702.out) hb); have n4_ := Aside0.mk (blk_below (g := gb713) (o := .cells #[.bool t705, .slice Ao86 t706.length co86, .slice Ao87 t709.length co87] 51 (0, 0)) (by (with_reducible repeat (first | refine blk_drewN ?_ _ | refine blk_drew ?_ | refine blk_alloc ?_ _)); refine blk_put (cs := #[.bool t705, .slice Ao86 t706.length co86, .slice none 0 0]) ?_ 2 _ rfl; (with_reducible repeat (first | refine blk_drewN ?_ _ | refine blk_drew ?_ | refine blk_alloc ?_ _)); refine blk_put (cs := #[.bool t705, .slice none 0 0, .slice none 0 0]) ?_ 1 _ rfl; (with_reducible repeat (first | refine blk_drewN ?_ _ | refine blk_drew ?_ | refine blk_alloc ?_ _)); refine blk_put (cs := #[.bool false, .slice none 0 0, .slice none 0 0]) ?_ 0 _ rfl; (with_reducible repeat (first | refine blk_drewN ?_ _ | refine blk_drew ?_ | refine blk_alloc ?_ _)); exact BK713.out) hb); have n5_ := Aside0.mk (below_step (by repeat (first | (with_reducible first | exact HB.out | apply below_alloc | apply pw_below_drewN | apply below_drew1 | refine below_set ?_ GE702.out | refine below_set ?_ GE713.out) | exact HB.out)) hb); clear HO708; clear HO711; clear BK702; clear BK713; clear HB; have HO708 := n0_; have HO711 := n1_; have HO716 := n2_; have BK702 := n3_; have BK713 := n4_; have HB := n5_; clear n0_ n1_ n2_ n3_ n4_ n5_; (try clear hb); (try clear hb2); (try clear hk); (try clear hi); (try clear ho0)) | ((with_reducible refine gate_callee (f := 55) rfl ?_); refine goesL_ (some 26) rfl rfl Try.func55 (by kernel_rfl) rfl #[] rfl (by (try simp only [List.map_toArray, List.map_cons, List.map_nil]); first | done | rfl | (simp only [List.length_drop, List.length_take]; rfl)) ?_; (with_reducible refine (hoggetlaw12_solves.calls kj1  true _ A79.out).mono ?_); rintro e w90 ⟨rfl, hb⟩; refine ⟨_, rfl, ?_⟩; have n0_ := Aside0.mk (Kd.R_below (by (with_reducible repeat (first | apply Kd.R_alloc | apply Kd.R_drewN | apply Kd.R_drew)); exact HO708.out) hb); have n1_ := Aside0.mk (Kd.S_below (by (with_reducible repeat (first | apply Kd.S_alloc | apply Kd.S_drewN | apply Kd.S_drew)); exact HO711.out) hb); have n2_ := Aside0.mk (Kd.R_below (by (with_reducible repeat (first | apply Kd.R_alloc | apply Kd.R_drewN | apply Kd.R_drew)); exact HO716.out) hb); have n3_ := Aside0.mk (blk_below (g := gb702) (o := .cells #[.int .i64 a0_0, .slice A0_1 l0_1.length c0_1] 24 (0, 0)) (by (with_reducible repeat (first | refine blk_drewN ?_ _ | refine blk_drew ?_ | refine blk_alloc ?_ _)); exact BK702.out) hb); have n4_ := Aside0.mk (blk_below (g := gb713) (o := .cells #[.bool t705, .slice Ao86 t706.length co86, .slice Ao87 t709.length co87] 51 (0, 0)) (by (with_reducible repeat (first | refine blk_drewN ?_ _ | refine blk_drew ?_ | refine blk_alloc ?_ _)); exact BK713.out) hb); have n5_ := Aside0.mk (below_step (by repeat (first | (with_reducible first | exact HB.out | apply below_alloc | apply pw_below_drewN | apply below_drew1 | refine below_set ?_ GE702.out | refine below_set ?_ GE713.out) | exact HB.out)) hb); clear HO708; clear HO711; clear HO716; clear BK702; clear BK713; clear HB; have HO708 := n0_; have HO711 := n1_; have HO716 := n2_; have BK702 := n3_; have BK713 := n4_; have HB := n5_; clear n0_ n1_ n2_ n3_ n4_ n5_; (try clear hb); (try clear hb2); (try clear hk); (try clear hi)))
            go_ret
            exact ⟨by first | rfl | (simp [errW_none, errW_some] <;> rfl) | (simp [*, errW_none, errW_some] <;> rfl), by repeat (first | (with_reducible first | exact HB.out | apply below_alloc | apply pw_below_drewN | apply below_drew1 | refine below_set ?_ GE702.out | refine below_set ?_ GE713.out) | exact HB.out)⟩
          · replace c80 := Bool.eq_false_iff.mpr c80
            subst c80
            have H1 : (none) = some r := by rw [if_neg (show ¬ (false = true) by decide)] at H; exact H
            clear H
            have H := H1
            clear H1
            cases H

/-! ### hoggetlaw12_SolverModels: function 18 -/
mutual
noncomputable def hoggetlaw12_SolverModels.j0 : Nat → List Bool → Bool → Int → List (List Int) → Option (Bool)
  | 0, _, _, _, _ => none
  | k + 1, x1, x13, x760000, x760001 => if x13 = true then (some true) else ((solver_Solve.f x760000 x760001).bind fun bt761 => (if bt761.2.2.2 = 0 then (if bt761.1 = true then ((clause_Sat.f x760000 x760001 bt761.2.1).bind fun t772 => (hoggetlaw12_SolverModels.j1 k x1 (!t772) x760000 x760001 bt761.1 bt761.2.1 bt761.2.2.1)) else (hoggetlaw12_SolverModels.j1 k x1 false x760000 x760001 bt761.1 bt761.2.1 bt761.2.2.1)) else ((hoggetlaw12_solves.f k).bind fun t770 => (if t770 = true then (if bt761.1 = true then (none) else (if bt761.2.2.2 = 120 then (some true) else ((clause_Check.f x760000 x760001).bind fun t771 => (some (bt761.2.2.2 == t771))))) else (none)))))
noncomputable def hoggetlaw12_SolverModels.j1 : Nat → List Bool → Bool → Int → List (List Int) → Bool → List Bool → List (List Int) → Option (Bool)
  | 0, _, _, _, _, _, _, _ => none
  | k + 1, x1, x45, x760000, x760001, x770000, x770001, x770002 => if x45 = true then (none) else ((hoggetlaw12_solves.f k).bind fun t773 => (if t773 = true then ((clause_Sat.f x760000 x760001 x1).bind fun t774 => (if t774 = true then (if x770000 = true then (some (((x770002.length : Int) == 0) == x770000)) else (none)) else (some (((x770002.length : Int) == 0) == x770000)))) else (none)))
end
noncomputable def hoggetlaw12_SolverModels.f (k : Nat) (a0_0 : Int) (l0_1 : List (List Int)) (l1 : List Bool) : Option (Bool) := (hoggetlaw12_large.f k a0_0 l0_1 12).bind fun t760 => (if t760 = true then (hoggetlaw12_SolverModels.j0 k l1 true a0_0 l0_1) else (hoggetlaw12_SolverModels.j0 k l1 (decide ((l1.length : Int) > 100)) a0_0 l0_1))
theorem hoggetlaw12_SolverModels.mono_l : ∀ k, (∀ y0 y1 y2 y3, LeO (hoggetlaw12_SolverModels.j0 k y0 y1 y2 y3) (hoggetlaw12_SolverModels.j0 (k + 1) y0 y1 y2 y3)) ∧ (∀ y0 y1 y2 y3 y4 y5 y6, LeO (hoggetlaw12_SolverModels.j1 k y0 y1 y2 y3 y4 y5 y6) (hoggetlaw12_SolverModels.j1 (k + 1) y0 y1 y2 y3 y4 y5 y6))
  | 0 => ⟨fun _ _ _ _ r h => by simp [hoggetlaw12_SolverModels.j0] at h, fun _ _ _ _ _ _ _ r h => by simp [hoggetlaw12_SolverModels.j1] at h⟩
  | k + 1 => by
    obtain ⟨ih0, ih1⟩ := hoggetlaw12_SolverModels.mono_l k
    refine ⟨?_, ?_⟩
    · intro y0 y1 y2 y3
      unfold hoggetlaw12_SolverModels.j0
      repeat' first
      | (with_reducible exact ih0 _ _ _ _)
      | (with_reducible exact ih1 _ _ _ _ _ _ _)
      | (with_reducible exact hoggetlaw12_large.mono _ _ _ _)
      | (with_reducible exact hoggetlaw12_solves.mono _)
      | (with_reducible exact LeO.refl _)
      | (with_reducible exact LeO.none _)
      | (with_reducible refine LeO.ite ?_ ?_)
      | (with_reducible refine LeO.bind ?_ (fun _ => ?_))
      | exact ih0 _ _ _ _
      | exact ih1 _ _ _ _ _ _ _
      | exact hoggetlaw12_large.mono _ _ _ _
      | exact hoggetlaw12_solves.mono _
      | exact LeO.none _
      | refine LeO.ite ?_ ?_
      | refine LeO.bind ?_ (fun _ => ?_)
    · intro y0 y1 y2 y3 y4 y5 y6
      unfold hoggetlaw12_SolverModels.j1
      repeat' first
      | (with_reducible exact ih0 _ _ _ _)
      | (with_reducible exact ih1 _ _ _ _ _ _ _)
      | (with_reducible exact hoggetlaw12_large.mono _ _ _ _)
      | (with_reducible exact hoggetlaw12_solves.mono _)
      | (with_reducible exact LeO.refl _)
      | (with_reducible exact LeO.none _)
      | (with_reducible refine LeO.ite ?_ ?_)
      | (with_reducible refine LeO.bind ?_ (fun _ => ?_))
      | exact ih0 _ _ _ _
      | exact ih1 _ _ _ _ _ _ _
      | exact hoggetlaw12_large.mono _ _ _ _
      | exact hoggetlaw12_solves.mono _
      | exact LeO.none _
      | refine LeO.ite ?_ ?_
      | refine LeO.bind ?_ (fun _ => ?_)
theorem hoggetlaw12_SolverModels.mono : ∀ a0 a1 a2 k, LeO (hoggetlaw12_SolverModels.f k a0 a1 a2) (hoggetlaw12_SolverModels.f (k + 1) a0 a1 a2) := by
  intro a0 a1 a2 k
  obtain ⟨ih0, ih1⟩ := hoggetlaw12_SolverModels.mono_l k
  unfold hoggetlaw12_SolverModels.f
  repeat' first
      | (with_reducible exact ih0 _ _ _ _)
      | (with_reducible exact ih1 _ _ _ _ _ _ _)
      | (with_reducible exact hoggetlaw12_large.mono _ _ _ _)
      | (with_reducible exact hoggetlaw12_solves.mono _)
      | (with_reducible exact LeO.refl _)
      | (with_reducible exact LeO.none _)
      | (with_reducible refine LeO.ite ?_ ?_)
      | (with_reducible refine LeO.bind ?_ (fun _ => ?_))
      | exact ih0 _ _ _ _
      | exact ih1 _ _ _ _ _ _ _
      | exact hoggetlaw12_large.mono _ _ _ _
      | exact hoggetlaw12_solves.mono _
      | exact LeO.none _
      | refine LeO.ite ?_ ?_
      | refine LeO.bind ?_ (fun _ => ?_)
set_option maxHeartbeats 8000000 in
set_option maxRecDepth 100000 in
theorem hoggetlaw12_SolverModels.calls (k : Nat) (a0_0 : Int) (A0_1 : Option Addr) (c0_1 : Nat) (l0_1 : List (List Int)) (A1 : Option Addr) (c1 : Nat) (l1 : List Bool) (r : Bool) (w : World) (hr0_1 : Kd.C (Kd.slice 3 (Kd.int .i64)) w A0_1 l0_1.length l0_1) (hc0_1 : l0_1.length ≤ c0_1) (hr1 : Kd.C Kd.bool w A1 l1.length l1) (hc1 : l1.length ≤ c1) (h : hoggetlaw12_SolverModels.f k a0_0 l0_1 l1 = some r) :
    Calls Try.prog 18 #[.agg #[.int .i64 a0_0, .slice A0_1 l0_1.length c0_1], .slice A1 l1.length c1] w fun e w' => e = .returned (.bool r) ∧ Below w.heap.size w w' := by
  have hu24 := Try.underlying24
  have hu51 := Try.underlying51
  have HR0_1 := Aside0.mk hr0_1
  have HC0_1 := Aside0.mk hc0_1
  clear hr0_1 hc0_1
  have HR1 := Aside0.mk hr1
  have HC1 := Aside0.mk hc1
  clear hr1 hc1
  have HB := Aside0.mk (Below.refl w.heap.size w)
  have H : ((hoggetlaw12_large.f k a0_0 l0_1 12).bind fun t760 => (if t760 = true then (hoggetlaw12_SolverModels.j0 k l1 true a0_0 l0_1) else (hoggetlaw12_SolverModels.j0 k l1 (decide ((l1.length : Int) > 100)) a0_0 l0_1))) = some r := h
  clear h
  have HC3 := Aside0.mk H
  clear H
  go_enter Try.func18, Try.ntmps18
  go_upto_region 1 with (first | ((with_reducible refine gate_dst (N := 2) rfl ?_); (try (refine gate_guard (by rfl) ?_; dsimp only)); refine box_event ?hg (N := 2) ?hd (cs := #[.int .i64 a0_0, .slice A0_1 l0_1.length c0_1]) (t := 24) ?hr ?_; (case hd => rfl); (case hg => rfl); (case hr => first | (go_simp; done) | (go_simp; rfl)); intro gb759 hg w4 hbox hb; have n0_ := Aside0.mk (below_step (by repeat (first | (with_reducible first | exact HB.out | apply below_alloc | apply pw_below_drewN | apply below_drew1) | exact HB.out)) hb); have n1_ := Aside0.mk (hbox); have n2_ := Aside0.mk ((by rw [hg]; exact (below_size (by repeat (first | (with_reducible first | exact HB.out | apply below_alloc | apply pw_below_drewN | apply below_drew1) | exact HB.out))) : w.heap.size ≤ gb759)); have n3_ := Aside0.mk ((by rw [hg]; exact (below_size (by repeat (first | (with_reducible first | exact HB.out | apply below_alloc | apply pw_below_drewN | apply below_drew1) | exact HB.out))) : w.heap.size ≤ gb759)); clear HB; have HB := n0_; have BK759 := n1_; have GW759 := n2_; have GE759 := n3_; clear n0_ n1_ n2_ n3_; clear hb hbox hg))
  (try simp only [Act.put, List.setIfInBounds_toArray, List.set_cons_zero, List.set_cons_succ])
  go_cut [13] (fun v13 wc => ∃ (kq : Nat) (x13_2 : Bool), v13 = .bool x13_2 ∧ Aside0 (hoggetlaw12_SolverModels.j0 kq l1 x13_2 a0_0 l0_1 = some r) ∧ Aside0 (kq ≤ k) ∧ Aside0 (wc.heap[gb759]? = some (.cells #[.int .i64 a0_0, (.slice A0_1 l0_1.length c0_1)] 24 (0, 0))) ∧ Aside0 (Below w.heap.size w wc))
  case first =>
    have H := HC3.out
    clear HC3
    replace H := Option.bind_eq_some_iff.mp H
    obtain ⟨t760, A50, H⟩ := H
    replace H : (if t760 = true then (hoggetlaw12_SolverModels.j0 k l1 true a0_0 l0_1) else (hoggetlaw12_SolverModels.j0 k l1 (decide ((l1.length : Int) > 100)) a0_0 l0_1)) = some r := H
    have A5 := Aside0.mk A50
    clear A50
    by_cases c6 : t760 = true
    · subst c6
      have H1 : (hoggetlaw12_SolverModels.j0 k l1 true a0_0 l0_1) = some r := by rw [if_pos rfl] at H; exact H
      clear H
      have H := H1
      clear H1
      have H' := Aside0.mk H
      clear H
      have hcz7_0 : w4.cell? ⟨gb759, 0, none⟩ = some (.int .i64 a0_0) := (blk_cell BK759.out 0).trans rfl
      have hcz7_1 : w4.cell? ⟨gb759, 1, none⟩ = some (.slice A0_1 l0_1.length c0_1) := (blk_cell BK759.out 1).trans rfl
      have hfz7_0 := blk_frozen BK759.out 0
      have hfz7_1 := blk_frozen BK759.out 1
      go_wp2_with (first | ((with_reducible refine gate_callee (f := 52) rfl ?_); refine goesL_ (some 8) rfl rfl Try.func52 (by kernel_rfl) rfl #[.agg #[.int .i64 a0_0, .slice A0_1 l0_1.length c0_1], .int .i64 12] rfl (by (try simp only [List.map_toArray, List.map_cons, List.map_nil]); first | done | rfl | (simp only [List.length_drop, List.length_take]; rfl)) ?_; (with_reducible refine (hoggetlaw12_large.calls k a0_0 _ _ l0_1 12 true _ ?side1 ?side2 A5.out).mono ?_); (case side1 => repeat (first | exact (Kd.C_below HR0_1.out HB.out) | (with_reducible refine Kd.C_alloc ?_ _) | (with_reducible refine Kd.C_drewN ?_ _) | (with_reducible refine Kd.C_drew ?_))); (case side2 => exact HC0_1.out); rintro e w8 ⟨rfl, hb⟩; refine ⟨_, rfl, ?_⟩; have n0_ := Aside0.mk (blk_below (g := gb759) (o := .cells #[.int .i64 a0_0, .slice A0_1 l0_1.length c0_1] 24 (0, 0)) (by (with_reducible repeat (first | refine blk_drewN ?_ _ | refine blk_drew ?_ | refine blk_alloc ?_ _)); exact BK759.out) hb); have n1_ := Aside0.mk (below_step (by repeat (first | (with_reducible first | exact HB.out | apply below_alloc | apply pw_below_drewN | apply below_drew1 | refine below_set ?_ GE759.out) | exact HB.out)) hb); clear BK759; clear HB; have BK759 := n0_; have HB := n1_; clear n0_ n1_; (try clear hb); (try clear hb2); (try clear hk); (try clear hi)))
      go_meet
      case rel => exact ⟨_, (true), (by first | rfl | (simp; done) | (simp [*]; done)), H', ⟨by first | omega | exact Nat.le_refl _⟩, ⟨by (with_reducible repeat (first | refine blk_drewN ?_ _ | refine blk_drew ?_ | refine blk_alloc ?_ _)); exact BK759.out⟩, ⟨by repeat (first | (with_reducible first | exact HB.out | apply below_alloc | apply pw_below_drewN | apply below_drew1 | refine below_set ?_ GE759.out) | exact HB.out)⟩⟩
    · replace c6 := Bool.eq_false_iff.mpr c6
      subst c6
      have H1 : (hoggetlaw12_SolverModels.j0 k l1 (decide ((l1.length : Int) > 100)) a0_0 l0_1) = some r := by rw [if_neg (show ¬ (false = true) by decide)] at H; exact H
      clear H
      have H := H1
      clear H1
      have H' := Aside0.mk H
      clear H
      have hcz9_0 : w4.cell? ⟨gb759, 0, none⟩ = some (.int .i64 a0_0) := (blk_cell BK759.out 0).trans rfl
      have hcz9_1 : w4.cell? ⟨gb759, 1, none⟩ = some (.slice A0_1 l0_1.length c0_1) := (blk_cell BK759.out 1).trans rfl
      have hfz9_0 := blk_frozen BK759.out 0
      have hfz9_1 := blk_frozen BK759.out 1
      go_wp2_with (first | ((with_reducible refine gate_callee (f := 52) rfl ?_); refine goesL_ (some 8) rfl rfl Try.func52 (by kernel_rfl) rfl #[.agg #[.int .i64 a0_0, .slice A0_1 l0_1.length c0_1], .int .i64 12] rfl (by (try simp only [List.map_toArray, List.map_cons, List.map_nil]); first | done | rfl | (simp only [List.length_drop, List.length_take]; rfl)) ?_; (with_reducible refine (hoggetlaw12_large.calls k a0_0 _ _ l0_1 12 false _ ?side1 ?side2 A5.out).mono ?_); (case side1 => repeat (first | exact (Kd.C_below HR0_1.out HB.out) | (with_reducible refine Kd.C_alloc ?_ _) | (with_reducible refine Kd.C_drewN ?_ _) | (with_reducible refine Kd.C_drew ?_))); (case side2 => exact HC0_1.out); rintro e w10 ⟨rfl, hb⟩; refine ⟨_, rfl, ?_⟩; have n0_ := Aside0.mk (blk_below (g := gb759) (o := .cells #[.int .i64 a0_0, .slice A0_1 l0_1.length c0_1] 24 (0, 0)) (by (with_reducible repeat (first | refine blk_drewN ?_ _ | refine blk_drew ?_ | refine blk_alloc ?_ _)); exact BK759.out) hb); have n1_ := Aside0.mk (below_step (by repeat (first | (with_reducible first | exact HB.out | apply below_alloc | apply pw_below_drewN | apply below_drew1 | refine below_set ?_ GE759.out) | exact HB.out)) hb); clear BK759; clear HB; have BK759 := n0_; have HB := n1_; clear n0_ n1_; (try clear hb); (try clear hb2); (try clear hk); (try clear hi)))
      go_meet
      case rel => exact ⟨_, (decide ((l1.length : Int) > 100)), (by first | rfl | (simp; done) | (simp [*]; done)), H', ⟨by first | omega | exact Nat.le_refl _⟩, ⟨by (with_reducible repeat (first | refine blk_drewN ?_ _ | refine blk_drew ?_ | refine blk_alloc ?_ _)); exact BK759.out⟩, ⟨by repeat (first | (with_reducible first | exact HB.out | apply below_alloc | apply pw_below_drewN | apply below_drew1 | refine below_set ?_ GE759.out) | exact HB.out)⟩⟩
  case rest =>
    clear HC3
    try clear c1
    try clear p2
    try clear c5
    try clear c6
    try clear hcz7_0
    try clear hcz7_1
    try clear hcz9_0
    try clear hcz9_1
    try clear hfz7_0
    try clear hfz7_1
    try clear hfz9_0
    try clear hfz9_1
    obtain ⟨kq, x13_2, rfl, HA, HJ2, BK759, HB⟩ := hcut
    cases kq with
    | zero => exact absurd HA.out (by simp [hoggetlaw12_SolverModels.j0])
    | succ kj2 =>
      have H := HA.out
      clear HA
      simp only [hoggetlaw12_SolverModels.j0] at H
      by_cases c11 : x13_2 = true
      · subst c11
        have H1 : (some true) = some r := by rw [if_pos rfl] at H; exact H
        clear H
        have H := H1
        clear H1
        obtain rfl := Option.some.inj H
        go_wp2
        go_ret
        exact ⟨by first | rfl | (simp [errW_none, errW_some] <;> rfl) | (simp [*, errW_none, errW_some] <;> rfl), by repeat (first | (with_reducible first | exact HB.out | apply below_alloc | apply pw_below_drewN | apply below_drew1 | refine below_set ?_ GE759.out) | exact HB.out)⟩
      · replace c11 := Bool.eq_false_iff.mpr c11
        subst c11
        have H1 : ((solver_Solve.f a0_0 l0_1).bind fun bt761 => (if bt761.2.2.2 = 0 then (if bt761.1 = true then ((clause_Sat.f a0_0 l0_1 bt761.2.1).bind fun t772 => (hoggetlaw12_SolverModels.j1 kj2 l1 (!t772) a0_0 l0_1 bt761.1 bt761.2.1 bt761.2.2.1)) else (hoggetlaw12_SolverModels.j1 kj2 l1 false a0_0 l0_1 bt761.1 bt761.2.1 bt761.2.2.1)) else ((hoggetlaw12_solves.f kj2).bind fun t770 => (if t770 = true then (if bt761.1 = true then (none) else (if bt761.2.2.2 = 120 then (some true) else ((clause_Check.f a0_0 l0_1).bind fun t771 => (some (bt761.2.2.2 == t771))))) else (none))))) = some r := by rw [if_neg (show ¬ (false = true) by decide)] at H; exact H
        clear H
        have H := H1
        clear H1
        replace H := Option.bind_eq_some_iff.mp H
        obtain ⟨⟨t761, t762, t765, t768⟩, A120, H⟩ := H
        replace H : (if t768 = 0 then (if t761 = true then ((clause_Sat.f a0_0 l0_1 t762).bind fun t772 => (hoggetlaw12_SolverModels.j1 kj2 l1 (!t772) a0_0 l0_1 t761 t762 t765)) else (hoggetlaw12_SolverModels.j1 kj2 l1 false a0_0 l0_1 t761 t762 t765)) else ((hoggetlaw12_solves.f kj2).bind fun t770 => (if t770 = true then (if t761 = true then (none) else (if t768 = 120 then (some true) else ((clause_Check.f a0_0 l0_1).bind fun t771 => (some (t768 == t771))))) else (none)))) = some r := H
        have A12 := Aside0.mk A120
        clear A120
        by_cases c13 : t768 = 0
        · rw [if_pos c13] at H
          have c13b0 : (t768 == 0) = true := beq_iff_eq.mpr c13
          have c13b1 : (t768 != 0) = false := bne_eq_false_iff_eq.mpr c13
          clear c13
          have HC14 := Aside0.mk H
          clear H
          have hcz15_0 : wc.cell? ⟨gb759, 0, none⟩ = some (.int .i64 a0_0) := (blk_cell BK759.out 0).trans rfl
          have hcz15_1 : wc.cell? ⟨gb759, 1, none⟩ = some (.slice A0_1 l0_1.length c0_1) := (blk_cell BK759.out 1).trans rfl
          have hfz15_0 := blk_frozen BK759.out 0
          have hfz15_1 := blk_frozen BK759.out 1
          go_upto_region 6 with (first | ((with_reducible refine gate_callee (f := 53) rfl ?_); refine goesL_ (some 16) rfl rfl Try.func53 (by kernel_rfl) rfl #[.agg #[.int .i64 a0_0, .slice A0_1 l0_1.length c0_1]] rfl (by (try simp only [List.map_toArray, List.map_cons, List.map_nil]); first | done | rfl | (simp only [List.length_drop, List.length_take]; rfl)) ?_; (with_reducible refine (solver_Solve.calls a0_0 _ _ l0_1 t761 t762 t765 t768 _ ?side1 ?side2 A12.out).mono ?_); (case side1 => repeat (first | exact (Kd.C_below HR0_1.out HB.out) | (with_reducible refine Kd.C_alloc ?_ _) | (with_reducible refine Kd.C_drewN ?_ _) | (with_reducible refine Kd.C_drew ?_))); (case side2 => exact HC0_1.out); rintro e w16 ⟨v763, v766, rfl, ho0, ho1, hb⟩; refine ⟨_, rfl, ?_⟩; have n0_ := Aside0.mk (Kd.R_lower ho0 (below_size (by repeat (first | (with_reducible first | exact HB.out | apply below_alloc | apply pw_below_drewN | apply below_drew1 | refine below_set ?_ GE759.out) | exact HB.out)))); have n1_ := Aside0.mk (Kd.S_lower ho1 (below_size (by repeat (first | (with_reducible first | exact HB.out | apply below_alloc | apply pw_below_drewN | apply below_drew1 | refine below_set ?_ GE759.out) | exact HB.out)))); have n2_ := Aside0.mk (blk_below (g := gb759) (o := .cells #[.int .i64 a0_0, .slice A0_1 l0_1.length c0_1] 24 (0, 0)) (by (with_reducible repeat (first | refine blk_drewN ?_ _ | refine blk_drew ?_ | refine blk_alloc ?_ _)); exact BK759.out) hb); have n3_ := Aside0.mk (below_step (by repeat (first | (with_reducible first | exact HB.out | apply below_alloc | apply pw_below_drewN | apply below_drew1 | refine below_set ?_ GE759.out) | exact HB.out)) hb); clear BK759; clear HB; have HO764 := n0_; have HO767 := n1_; have BK759 := n2_; have HB := n3_; clear n0_ n1_ n2_ n3_; (try clear hb); (try clear hb2); (try clear hk); (try clear hi); (try clear ho0); (try clear ho1)) | ((with_reducible refine gate_dst (N := 5) rfl ?_); (try (refine gate_guard (by rfl) ?_; dsimp only)); refine box_event ?hg (N := 5) ?hd (cs := #[.bool false, .slice none 0 0, .slice none 0 0]) (t := 51) ?hr ?_; (case hd => rfl); (case hg => rfl); (case hr => first | (go_simp; done) | (go_simp; rfl)); intro gb769 hg w17 hbox hb; have n0_ := Aside0.mk (Kd.R_below (by (with_reducible repeat (first | apply Kd.R_alloc | apply Kd.R_drewN | apply Kd.R_drew)); exact HO764.out) hb); have n1_ := Aside0.mk (Kd.S_below (by (with_reducible repeat (first | apply Kd.S_alloc | apply Kd.S_drewN | apply Kd.S_drew)); exact HO767.out) hb); have n2_ := Aside0.mk (blk_below (g := gb759) (o := .cells #[.int .i64 a0_0, .slice A0_1 l0_1.length c0_1] 24 (0, 0)) (by (with_reducible repeat (first | refine blk_drewN ?_ _ | refine blk_drew ?_ | refine blk_alloc ?_ _)); exact BK759.out) hb); have n3_ := Aside0.mk (below_step (by repeat (first | (with_reducible first | exact HB.out | apply below_alloc | apply pw_below_drewN | apply below_drew1 | refine below_set ?_ GE759.out) | exact HB.out)) hb); have n4_ := Aside0.mk (hbox); have n5_ := Aside0.mk ((by rw [hg]; exact (below_size (by repeat (first | (with_reducible first | exact HB.out | apply below_alloc | apply pw_below_drewN | apply below_drew1 | refine below_set ?_ GE759.out) | exact HB.out))) : w.heap.size ≤ gb769)); have n6_ := Aside0.mk ((by rw [hg]; exact (below_size (by repeat (first | (with_reducible first | exact HB.out | apply below_alloc | apply pw_below_drewN | apply below_drew1 | refine below_set ?_ GE759.out) | exact HB.out))) : w.heap.size ≤ gb769)); have n7_ := Aside0.mk ((by rw [hg]; exact Nat.ne_of_lt (blk_lt (g := gb759) (o := .cells #[.int .i64 a0_0, .slice A0_1 l0_1.length c0_1] 24 (0, 0)) (by (with_reducible repeat (first | refine blk_drewN ?_ _ | refine blk_drew ?_ | refine blk_alloc ?_ _)); exact BK759.out)) : gb759 ≠ gb769)); have n8_ := Aside0.mk ((by rw [hg]; exact Nat.ne_of_gt (blk_lt (g := gb759) (o := .cells #[.int .i64 a0_0, .slice A0_1 l0_1.length c0_1] 24 (0, 0)) (by (with_reducible repeat (first | refine blk_drewN ?_ _ | refine blk_drew ?_ | refine blk_alloc ?_ _)); exact BK759.out)) : gb769 ≠ gb759)); clear HO764; clear HO767; clear BK759; clear HB; have HO764 := n0_; have HO767 := n1_; have BK759 := n2_; have HB := n3_; have BK769 := n4_; have GW769 := n5_; have GE769 := n6_; have NB759_769 := n7_; have NB769_759 := n8_; clear n0_ n1_ n2_ n3_ n4_ n5_ n6_ n7_ n8_; clear hb hbox hg; have hnb18 := NB769_759.out; have hnc18 := NB759_769.out; have hcz19_0 : w17.cell? ⟨gb769, 0, none⟩ = some (.bool false) := (blk_cell BK769.out 0).trans rfl; have hcz19_1 : w17.cell? ⟨gb769, 1, none⟩ = some (.slice none 0 0) := (blk_cell BK769.out 1).trans rfl; have hcz19_2 : w17.cell? ⟨gb769, 2, none⟩ = some (.slice none 0 0) := (blk_cell BK769.out 2).trans rfl; have hfz19_0 := blk_frozen BK769.out 0; have hfz19_1 := blk_frozen BK769.out 1; have hfz19_2 := blk_frozen BK769.out 2; obtain ⟨Ao20, co20, eo20⟩ := Kd.R_slice HO764.out; subst eo20; obtain ⟨Ao21, co21, eo21⟩ := Kd.S_slice HO767.out; subst eo21))
          (try simp only [Act.put, List.setIfInBounds_toArray, List.set_cons_zero, List.set_cons_succ])
          go_cut [45] (fun v45 wc => ∃ (kq : Nat) (x45_13 : Bool), v45 = .bool x45_13 ∧ Aside0 (hoggetlaw12_SolverModels.j1 kq l1 x45_13 a0_0 l0_1 t761 t762 t765 = some r) ∧ Aside0 (kq ≤ kj2) ∧ Aside0 (Kd.R Kd.bool 4 wc w.heap.size (fun _ => True) (.slice Ao20 t762.length co20) t762) ∧ Aside0 (Kd.S (Kd.slice 3 (Kd.int .i64)) 25 wc w.heap.size (fun _ => True) (.slice Ao21 t765.length co21) t765) ∧ Aside0 (wc.heap[gb759]? = some (.cells #[.int .i64 a0_0, (.slice A0_1 l0_1.length c0_1)] 24 (0, 0))) ∧ Aside0 (wc.heap[gb769]? = some (.cells #[.bool t761, (.slice Ao20 t762.length co20), (.slice Ao21 t765.length co21)] 51 (0, 0))) ∧ Aside0 (Below w.heap.size w wc))
          case first =>
            have H := HC14.out
            clear HC14
            by_cases c22 : t761 = true
            · subst c22
              have H1 : ((clause_Sat.f a0_0 l0_1 t762).bind fun t772 => (hoggetlaw12_SolverModels.j1 kj2 l1 (!t772) a0_0 l0_1 true t762 t765)) = some r := by rw [if_pos rfl] at H; exact H
              clear H
              have H := H1
              clear H1
              replace H := Option.bind_eq_some_iff.mp H
              obtain ⟨t772, A230, H⟩ := H
              replace H : (hoggetlaw12_SolverModels.j1 kj2 l1 (!t772) a0_0 l0_1 true t762 t765) = some r := H
              have A23 := Aside0.mk A230
              clear A230
              have H' := Aside0.mk H
              clear H
              have hnb24 := NB769_759.out
              have hnc24 := NB759_769.out
              have hcz25_0 : w17.cell? ⟨gb769, 0, none⟩ = some (.bool false) := (blk_cell BK769.out 0).trans rfl
              have hcz25_1 : w17.cell? ⟨gb769, 1, none⟩ = some (.slice none 0 0) := (blk_cell BK769.out 1).trans rfl
              have hcz25_2 : w17.cell? ⟨gb769, 2, none⟩ = some (.slice none 0 0) := (blk_cell BK769.out 2).trans rfl
              have hfz25_0 := blk_frozen BK769.out 0
              have hfz25_1 := blk_frozen BK769.out 1
              have hfz25_2 := blk_frozen BK769.out 2
              have hcz26_0 : w17.cell? ⟨gb759, 0, none⟩ = some (.int .i64 a0_0) := (blk_cell BK759.out 0).trans rfl
              have hcz26_1 : w17.cell? ⟨gb759, 1, none⟩ = some (.slice A0_1 l0_1.length c0_1) := (blk_cell BK759.out 1).trans rfl
              have hfz26_0 := blk_frozen BK759.out 0
              have hfz26_1 := blk_frozen BK759.out 1
              go_wp2_with (first | (go_at_call 43; (with_reducible refine (clause_Sat.calls a0_0 _ _ l0_1 _ _ t762 t772 _ ?side1 ?side2 ?side3 ?side4 A23.out).mono ?_); (case side1 => exact Kd.C_below HR0_1.out (by repeat (first | (with_reducible first | exact HB.out | apply below_alloc | apply pw_below_drewN | apply below_drew1 | refine below_set ?_ GE759.out | refine below_set ?_ GE769.out) | exact HB.out))); (case side2 => exact HC0_1.out); (case side3 => refine (Kd.R_reads' (e := 4) (base := w.heap.size) (ok := fun k_ => True) (n := t762.length) (c := co20) ?_).2.2; exact (by (with_reducible repeat (first | apply Kd.R_alloc | apply Kd.R_drewN | apply Kd.R_drew)); exact (Kd.R_mono (Kd.R_far (p := ⟨gb769, 2, none⟩) (Kd.R_far (p := ⟨gb769, 1, none⟩) (Kd.R_far (p := ⟨gb769, 0, none⟩) (Kd.R_types HO764.out BK769.out (by decide)) (fun _ hk => hk.2) (.bool true)) (fun _ hk => hk.2) (.slice Ao20 t762.length co20)) (fun _ hk => hk.2) (.slice Ao21 t765.length co21)) (fun _ h_ => h_.1)))); (case side4 => exact (Kd.R_reads' HO764.out).2.1); rintro e w27 ⟨rfl, hb⟩; have n0_ := Aside0.mk (Kd.R_below (by (with_reducible repeat (first | apply Kd.R_alloc | apply Kd.R_drewN | apply Kd.R_drew)); exact (Kd.R_mono (Kd.R_far (p := ⟨gb769, 2, none⟩) (Kd.R_far (p := ⟨gb769, 1, none⟩) (Kd.R_far (p := ⟨gb769, 0, none⟩) (Kd.R_types HO764.out BK769.out (by decide)) (fun _ hk => hk.2) (.bool true)) (fun _ hk => hk.2) (.slice Ao20 t762.length co20)) (fun _ hk => hk.2) (.slice Ao21 t765.length co21)) (fun _ h_ => h_.1))) hb); have n1_ := Aside0.mk (Kd.S_below (by (with_reducible repeat (first | apply Kd.S_alloc | apply Kd.S_drewN | apply Kd.S_drew)); exact (Kd.S_mono (Kd.S_far (p := ⟨gb769, 2, none⟩) (Kd.S_far (p := ⟨gb769, 1, none⟩) (Kd.S_far (p := ⟨gb769, 0, none⟩) (Kd.S_types HO767.out BK769.out (by decide)) (fun _ hk => hk.2) (.bool true)) (fun _ hk => hk.2) (.slice Ao20 t762.length co20)) (fun _ hk => hk.2) (.slice Ao21 t765.length co21)) (fun _ h_ => h_.1))) hb); have n2_ := Aside0.mk (blk_below (g := gb759) (o := .cells #[.int .i64 a0_0, .slice A0_1 l0_1.length c0_1] 24 (0, 0)) (by (with_reducible repeat (first | refine blk_drewN ?_ _ | refine blk_drew ?_ | refine blk_alloc ?_ _)); refine blk_far ?_ NB759_769.out _; (with_reducible repeat (first | refine blk_drewN ?_ _ | refine blk_drew ?_ | refine blk_alloc ?_ _)); refine blk_far ?_ NB759_769.out _; (with_reducible repeat (first | refine blk_drewN ?_ _ | refine blk_drew ?_ | refine blk_alloc ?_ _)); refine blk_far ?_ NB759_769.out _; (with_reducible repeat (first | refine blk_drewN ?_ _ | refine blk_drew ?_ | refine blk_alloc ?_ _)); exact BK759.out) hb); have n3_ := Aside0.mk (blk_below (g := gb769) (o := .cells #[.bool true, .slice Ao20 t762.length co20, .slice Ao21 t765.length co21] 51 (0, 0)) (by (with_reducible repeat (first | refine blk_drewN ?_ _ | refine blk_drew ?_ | refine blk_alloc ?_ _)); refine blk_put (cs := #[.bool true, .slice Ao20 t762.length co20, .slice none 0 0]) ?_ 2 _ rfl; (with_reducible repeat (first | refine blk_drewN ?_ _ | refine blk_drew ?_ | refine blk_alloc ?_ _)); refine blk_put (cs := #[.bool true, .slice none 0 0, .slice none 0 0]) ?_ 1 _ rfl; (with_reducible repeat (first | refine blk_drewN ?_ _ | refine blk_drew ?_ | refine blk_alloc ?_ _)); refine blk_put (cs := #[.bool false, .slice none 0 0, .slice none 0 0]) ?_ 0 _ rfl; (with_reducible repeat (first | refine blk_drewN ?_ _ | refine blk_drew ?_ | refine blk_alloc ?_ _)); exact BK769.out) hb); have n4_ := Aside0.mk (below_step (by repeat (first | (with_reducible first | exact HB.out | apply below_alloc | apply pw_below_drewN | apply below_drew1 | refine below_set ?_ GE759.out | refine below_set ?_ GE769.out) | exact HB.out)) hb); clear HO764; clear HO767; clear BK759; clear BK769; clear HB; have HO764 := n0_; have HO767 := n1_; have BK759 := n2_; have BK769 := n3_; have HB := n4_; clear n0_ n1_ n2_ n3_ n4_; (try clear hb); (try clear hb2); (try clear hk); (try clear hi)))
              go_meet
              case rel => exact ⟨_, (!t772), (by first | rfl | (simp; done) | (simp [*]; done)), H', ⟨by have := HJ2.out; first | omega | exact Nat.le_refl _⟩, ⟨by (with_reducible repeat (first | apply Kd.R_alloc | apply Kd.R_drewN | apply Kd.R_drew)); exact HO764.out⟩, ⟨by (with_reducible repeat (first | apply Kd.S_alloc | apply Kd.S_drewN | apply Kd.S_drew)); exact HO767.out⟩, ⟨by (with_reducible repeat (first | refine blk_drewN ?_ _ | refine blk_drew ?_ | refine blk_alloc ?_ _)); exact BK759.out⟩, ⟨by (with_reducible repeat (first | refine blk_drewN ?_ _ | refine blk_drew ?_ | refine blk_alloc ?_ _)); exact BK769.out⟩, ⟨by repeat (first | (with_reducible first | exact HB.out | apply below_alloc | apply pw_below_drewN | apply below_drew1 | refine below_set ?_ GE759.out | refine below_set ?_ GE769.out) | exact HB.out)⟩⟩
            · replace c22 := Bool.eq_false_iff.mpr c22
              subst c22
              have H1 : (hoggetlaw12_SolverModels.j1 kj2 l1 false a0_0 l0_1 false t762 t765) = some r := by rw [if_neg (show ¬ (false = true) by decide)] at H; exact H
              clear H
              have H := H1
              clear H1
              have H' := Aside0.mk H
              clear H
              have hnb28 := NB769_759.out
              have hnc28 := NB759_769.out
              have hcz29_0 : w17.cell? ⟨gb769, 0, none⟩ = some (.bool false) := (blk_cell BK769.out 0).trans rfl
              have hcz29_1 : w17.cell? ⟨gb769, 1, none⟩ = some (.slice none 0 0) := (blk_cell BK769.out 1).trans rfl
              have hcz29_2 : w17.cell? ⟨gb769, 2, none⟩ = some (.slice none 0 0) := (blk_cell BK769.out 2).trans rfl
              have hfz29_0 := blk_frozen BK769.out 0
              have hfz29_1 := blk_frozen BK769.out 1
              have hfz29_2 := blk_frozen BK769.out 2
              go_wp2
              go_meet
              case rel => exact ⟨_, (false), (by first | rfl | (simp; done) | (simp [*]; done)), H', ⟨by have := HJ2.out; first | omega | exact Nat.le_refl _⟩, ⟨by (with_reducible repeat (first | apply Kd.R_alloc | apply Kd.R_drewN | apply Kd.R_drew)); exact Kd.R_mono (Kd.R_far (p := ⟨gb769, 2, none⟩) (Kd.R_far (p := ⟨gb769, 1, none⟩) (Kd.R_far (p := ⟨gb769, 0, none⟩) (Kd.R_types HO764.out BK769.out (by decide)) (fun _ hk => hk.2) (.bool false)) (fun _ hk => hk.2) (.slice Ao20 t762.length co20)) (fun _ hk => hk.2) (.slice Ao21 t765.length co21)) (fun _ hk => trivial)⟩, ⟨by (with_reducible repeat (first | apply Kd.S_alloc | apply Kd.S_drewN | apply Kd.S_drew)); exact Kd.S_mono (Kd.S_far (p := ⟨gb769, 2, none⟩) (Kd.S_far (p := ⟨gb769, 1, none⟩) (Kd.S_far (p := ⟨gb769, 0, none⟩) (Kd.S_types HO767.out BK769.out (by decide)) (fun _ hk => hk.2) (.bool false)) (fun _ hk => hk.2) (.slice Ao20 t762.length co20)) (fun _ hk => hk.2) (.slice Ao21 t765.length co21)) (fun _ hk => trivial)⟩, ⟨by (with_reducible repeat (first | refine blk_drewN ?_ _ | refine blk_drew ?_ | refine blk_alloc ?_ _)); refine blk_far ?_ NB759_769.out _; (with_reducible repeat (first | refine blk_drewN ?_ _ | refine blk_drew ?_ | refine blk_alloc ?_ _)); refine blk_far ?_ NB759_769.out _; (with_reducible repeat (first | refine blk_drewN ?_ _ | refine blk_drew ?_ | refine blk_alloc ?_ _)); refine blk_far ?_ NB759_769.out _; (with_reducible repeat (first | refine blk_drewN ?_ _ | refine blk_drew ?_ | refine blk_alloc ?_ _)); exact BK759.out⟩, ⟨by (with_reducible repeat (first | refine blk_drewN ?_ _ | refine blk_drew ?_ | refine blk_alloc ?_ _)); refine blk_put (cs := #[.bool false, .slice Ao20 t762.length co20, .slice none 0 0]) ?_ 2 _ rfl; (with_reducible repeat (first | refine blk_drewN ?_ _ | refine blk_drew ?_ | refine blk_alloc ?_ _)); refine blk_put (cs := #[.bool false, .slice none 0 0, .slice none 0 0]) ?_ 1 _ rfl; (with_reducible repeat (first | refine blk_drewN ?_ _ | refine blk_drew ?_ | refine blk_alloc ?_ _)); refine blk_put (cs := #[.bool false, .slice none 0 0, .slice none 0 0]) ?_ 0 _ rfl; (with_reducible repeat (first | refine blk_drewN ?_ _ | refine blk_drew ?_ | refine blk_alloc ?_ _)); exact BK769.out⟩, ⟨by repeat (first | (with_reducible first | exact HB.out | apply below_alloc | apply pw_below_drewN | apply below_drew1 | refine below_set ?_ GE759.out | refine below_set ?_ GE769.out) | exact HB.out)⟩⟩
          case rest =>
            clear HC14
            try clear c1
            try clear c2
            try clear p2
            try clear c5
            try clear c6
            try clear c11
            try clear c13
            try clear c13b0
            try clear c13b1
            try clear c18
            try clear c22
            try clear c24
            try clear c28
            try clear hcz15_0
            try clear hcz15_1
            try clear hcz19_0
            try clear hcz19_1
            try clear hcz19_2
            try clear hcz25_0
            try clear hcz25_1
            try clear hcz25_2
            try clear hcz26_0
            try clear hcz26_1
            try clear hcz29_0
            try clear hcz29_1
            try clear hcz29_2
            try clear hcz7_0
            try clear hcz7_1
            try clear hcz9_0
            try clear hcz9_1
            try clear hfz15_0
            try clear hfz15_1
            try clear hfz19_0
            try clear hfz19_1
            try clear hfz19_2
            try clear hfz25_0
            try clear hfz25_1
            try clear hfz25_2
            try clear hfz26_0
            try clear hfz26_1
            try clear hfz29_0
            try clear hfz29_1
            try clear hfz29_2
            try clear hfz7_0
            try clear hfz7_1
            try clear hfz9_0
            try clear hfz9_1
            try clear p2
            obtain ⟨kq, x45_13, rfl, HA, HJ13, HO_770001, HO_770002, BK759, BK769, HB⟩ := hcut
            cases kq with
            | zero => exact absurd HA.out (by simp [hoggetlaw12_SolverModels.j1])
            | succ kj13 =>
              have H := HA.out
              clear HA
              simp only [hoggetlaw12_SolverModels.j1] at H
              by_cases c30 : x45_13 = true
              · subst c30
                have H1 : (none) = some r := by rw [if_pos rfl] at H; exact H
                clear H
                have H := H1
                clear H1
                cases H
              · replace c30 := Bool.eq_false_iff.mpr c30
                subst c30
                have H1 : ((hoggetlaw12_solves.f kj13).bind fun t773 => (if t773 = true then ((clause_Sat.f a0_0 l0_1 l1).bind fun t774 => (if t774 = true then (if t761 = true then (some (((t765.length : Int) == 0) == t761)) else (none)) else (some (((t765.length : Int) == 0) == t761)))) else (none))) = some r := by rw [if_neg (show ¬ (false = true) by decide)] at H; exact H
                clear H
                have H := H1
                clear H1
                replace H := Option.bind_eq_some_iff.mp H
                obtain ⟨t773, A310, H⟩ := H
                replace H : (if t773 = true then ((clause_Sat.f a0_0 l0_1 l1).bind fun t774 => (if t774 = true then (if t761 = true then (some (((t765.length : Int) == 0) == t761)) else (none)) else (some (((t765.length : Int) == 0) == t761)))) else (none)) = some r := H
                have A31 := Aside0.mk A310
                clear A310
                by_cases c32 : t773 = true
                · subst c32
                  have H1 : ((clause_Sat.f a0_0 l0_1 l1).bind fun t774 => (if t774 = true then (if t761 = true then (some (((t765.length : Int) == 0) == t761)) else (none)) else (some (((t765.length : Int) == 0) == t761)))) = some r := by rw [if_pos rfl] at H; exact H
                  clear H
                  have H := H1
                  clear H1
                  replace H := Option.bind_eq_some_iff.mp H
                  obtain ⟨t774, A330, H⟩ := H
                  replace H : (if t774 = true then (if t761 = true then (some (((t765.length : Int) == 0) == t761)) else (none)) else (some (((t765.length : Int) == 0) == t761))) = some r := H
                  have A33 := Aside0.mk A330
                  clear A330
                  by_cases c34 : t774 = true
                  · subst c34
                    have H1 : (if t761 = true then (some (((t765.length : Int) == 0) == t761)) else (none)) = some r := by rw [if_pos rfl] at H; exact H
                    clear H
                    have H := H1
                    clear H1
                    by_cases c35 : t761 = true
                    · subst c35
                      have H1 : (some (((t765.length : Int) == 0) == true)) = some r := by rw [if_pos rfl] at H; exact H
                      clear H
                      have H := H1
                      clear H1
                      obtain rfl := Option.some.inj H
                      go_wp2_with (first | ((with_reducible refine gate_callee (f := 55) rfl ?_); refine goesL_ (some 46) rfl rfl Try.func55 (by kernel_rfl) rfl #[] rfl (by (try simp only [List.map_toArray, List.map_cons, List.map_nil]); first | done | rfl | (simp only [List.length_drop, List.length_take]; rfl)) ?_; (with_reducible refine (hoggetlaw12_solves.calls kj13  true _ A31.out).mono ?_); rintro e w36 ⟨rfl, hb⟩; refine ⟨_, rfl, ?_⟩; have n0_ := Aside0.mk (Kd.R_below (by (with_reducible repeat (first | apply Kd.R_alloc | apply Kd.R_drewN | apply Kd.R_drew)); exact HO_770001.out) hb); have n1_ := Aside0.mk (Kd.S_below (by (with_reducible repeat (first | apply Kd.S_alloc | apply Kd.S_drewN | apply Kd.S_drew)); exact HO_770002.out) hb); have n2_ := Aside0.mk (blk_below (g := gb759) (o := .cells #[.int .i64 a0_0, .slice A0_1 l0_1.length c0_1] 24 (0, 0)) (by (with_reducible repeat (first | refine blk_drewN ?_ _ | refine blk_drew ?_ | refine blk_alloc ?_ _)); exact BK759.out) hb); have n3_ := Aside0.mk (blk_below (g := gb769) (o := .cells #[.bool true, .slice Ao20 t762.length co20, .slice Ao21 t765.length co21] 51 (0, 0)) (by (with_reducible repeat (first | refine blk_drewN ?_ _ | refine blk_drew ?_ | refine blk_alloc ?_ _)); exact BK769.out) hb); have n4_ := Aside0.mk (below_step (by repeat (first | (with_reducible first | exact HB.out | apply below_alloc | apply pw_below_drewN | apply below_drew1 | refine below_set ?_ GE759.out | refine below_set ?_ GE769.out) | exact HB.out)) hb); clear HO_770001; clear HO_770002; clear BK759; clear BK769; clear HB; have HO_770001 := n0_; have HO_770002 := n1_; have BK759 := n2_; have BK769 := n3_; have HB := n4_; clear n0_ n1_ n2_ n3_ n4_; (try clear hb); (try clear hb2); (try clear hk); (try clear hi); have hnb37 := NB759_769.out; have hnc37 := NB769_759.out; have hcz38_0 : w36.cell? ⟨gb759, 0, none⟩ = some (.int .i64 a0_0) := (blk_cell BK759.out 0).trans rfl; have hcz38_1 : w36.cell? ⟨gb759, 1, none⟩ = some (.slice A0_1 l0_1.length c0_1) := (blk_cell BK759.out 1).trans rfl; have hfz38_0 := blk_frozen BK759.out 0; have hfz38_1 := blk_frozen BK759.out 1) | (go_at_call 43; (with_reducible refine (clause_Sat.calls a0_0 _ _ l0_1 _ _ l1 true _ ?side1 ?side2 ?side3 ?side4 A33.out).mono ?_); (case side1 => repeat (first | exact (Kd.C_below HR0_1.out HB.out) | (with_reducible refine Kd.C_alloc ?_ _) | (with_reducible refine Kd.C_drewN ?_ _) | (with_reducible refine Kd.C_drew ?_))); (case side2 => exact HC0_1.out); (case side3 => repeat (first | exact (Kd.C_below HR1.out HB.out) | (with_reducible refine Kd.C_alloc ?_ _) | (with_reducible refine Kd.C_drewN ?_ _) | (with_reducible refine Kd.C_drew ?_))); (case side4 => exact HC1.out); rintro e w39 ⟨rfl, hb⟩; have n0_ := Aside0.mk (Kd.R_below (by (with_reducible repeat (first | apply Kd.R_alloc | apply Kd.R_drewN | apply Kd.R_drew)); exact HO_770001.out) hb); have n1_ := Aside0.mk (Kd.S_below (by (with_reducible repeat (first | apply Kd.S_alloc | apply Kd.S_drewN | apply Kd.S_drew)); exact HO_770002.out) hb); have n2_ := Aside0.mk (blk_below (g := gb759) (o := .cells #[.int .i64 a0_0, .slice A0_1 l0_1.length c0_1] 24 (0, 0)) (by (with_reducible repeat (first | refine blk_drewN ?_ _ | refine blk_drew ?_ | refine blk_alloc ?_ _)); exact BK759.out) hb); have n3_ := Aside0.mk (blk_below (g := gb769) (o := .cells #[.bool true, .slice Ao20 t762.length co20, .slice Ao21 t765.length co21] 51 (0, 0)) (by (with_reducible repeat (first | refine blk_drewN ?_ _ | refine blk_drew ?_ | refine blk_alloc ?_ _)); exact BK769.out) hb); have n4_ := Aside0.mk (below_step (by repeat (first | (with_reducible first | exact HB.out | apply below_alloc | apply pw_below_drewN | apply below_drew1 | refine below_set ?_ GE759.out | refine below_set ?_ GE769.out) | exact HB.out)) hb); clear HO_770001; clear HO_770002; clear BK759; clear BK769; clear HB; have HO_770001 := n0_; have HO_770002 := n1_; have BK759 := n2_; have BK769 := n3_; have HB := n4_; clear n0_ n1_ n2_ n3_ n4_; (try clear hb); (try clear hb2); (try clear hk); (try clear hi); have hcz40_0 : w39.cell? ⟨gb769, 0, none⟩ = some (.bool true) := (blk_cell BK769.out 0).trans rfl; have hcz40_1 : w39.cell? ⟨gb769, 1, none⟩ = some (.slice Ao20 t762.length co20) := (blk_cell BK769.out 1).trans rfl; have hcz40_2 : w39.cell? ⟨gb769, 2, none⟩ = some (.slice Ao21 t765.length co21) := (blk_cell BK769.out 2).trans rfl; have hfz40_0 := blk_frozen BK769.out 0; have hfz40_1 := blk_frozen BK769.out 1; have hfz40_2 := blk_frozen BK769.out 2))
                      go_ret
                      exact ⟨by first | rfl | (simp [errW_none, errW_some] <;> rfl) | (simp [*, errW_none, errW_some] <;> rfl), by repeat (first | (with_reducible first | exact HB.out | apply below_alloc | apply pw_below_drewN | apply below_drew1 | refine below_set ?_ GE759.out | refine below_set ?_ GE769.out) | exact HB.out)⟩
                    · replace c35 := Bool.eq_false_iff.mpr c35
                      subst c35
                      have H1 : (none) = some r := by rw [if_neg (show ¬ (false = true) by decide)] at H; exact H
                      clear H
                      have H := H1
                      clear H1
                      cases H
                  · replace c34 := Bool.eq_false_iff.mpr c34
                    subst c34
                    have H1 : (some (((t765.length : Int) == 0) == t761)) = some r := by rw [if_neg (show ¬ (false = true) by decide)] at H; exact H
                    clear H
                    have H := H1
                    clear H1
                    obtain rfl := Option.some.inj H
                    go_wp2_with (first | ((with_reducible refine gate_callee (f := 55) rfl ?_); refine goesL_ (some 46) rfl rfl Try.func55 (by kernel_rfl) rfl #[] rfl (by (try simp only [List.map_toArray, List.map_cons, List.map_nil]); first | done | rfl | (simp only [List.length_drop, List.length_take]; rfl)) ?_; (with_reducible refine (hoggetlaw12_solves.calls kj13  true _ A31.out).mono ?_); rintro e w46 ⟨rfl, hb⟩; refine ⟨_, rfl, ?_⟩; have n0_ := Aside0.mk (Kd.R_below (by (with_reducible repeat (first | apply Kd.R_alloc | apply Kd.R_drewN | apply Kd.R_drew)); exact HO_770001.out) hb); have n1_ := Aside0.mk (Kd.S_below (by (with_reducible repeat (first | apply Kd.S_alloc | apply Kd.S_drewN | apply Kd.S_drew)); exact HO_770002.out) hb); have n2_ := Aside0.mk (blk_below (g := gb759) (o := .cells #[.int .i64 a0_0, .slice A0_1 l0_1.length c0_1] 24 (0, 0)) (by (with_reducible repeat (first | refine blk_drewN ?_ _ | refine blk_drew ?_ | refine blk_alloc ?_ _)); exact BK759.out) hb); have n3_ := Aside0.mk (blk_below (g := gb769) (o := .cells #[.bool t761, .slice Ao20 t762.length co20, .slice Ao21 t765.length co21] 51 (0, 0)) (by (with_reducible repeat (first | refine blk_drewN ?_ _ | refine blk_drew ?_ | refine blk_alloc ?_ _)); exact BK769.out) hb); have n4_ := Aside0.mk (below_step (by repeat (first | (with_reducible first | exact HB.out | apply below_alloc | apply pw_below_drewN | apply below_drew1 | refine below_set ?_ GE759.out | refine below_set ?_ GE769.out) | exact HB.out)) hb); clear HO_770001; clear HO_770002; clear BK759; clear BK769; clear HB; have HO_770001 := n0_; have HO_770002 := n1_; have BK759 := n2_; have BK769 := n3_; have HB := n4_; clear n0_ n1_ n2_ n3_ n4_; (try clear hb); (try clear hb2); (try clear hk); (try clear hi); have hnb47 := NB759_769.out; have hnc47 := NB769_759.out; have hcz48_0 : w46.cell? ⟨gb759, 0, none⟩ = some (.int .i64 a0_0) := (blk_cell BK759.out 0).trans rfl; have hcz48_1 : w46.cell? ⟨gb759, 1, none⟩ = some (.slice A0_1 l0_1.length c0_1) := (blk_cell BK759.out 1).trans rfl; have hfz48_0 := blk_frozen BK759.out 0; have hfz48_1 := blk_frozen BK759.out 1) | (go_at_call 43; (with_reducible refine (clause_Sat.calls a0_0 _ _ l0_1 _ _ l1 false _ ?side1 ?side2 ?side3 ?side4 A33.out).mono ?_); (case side1 => repeat (first | exact (Kd.C_below HR0_1.out HB.out) | (with_reducible refine Kd.C_alloc ?_ _) | (with_reducible refine Kd.C_drewN ?_ _) | (with_reducible refine Kd.C_drew ?_))); (case side2 => exact HC0_1.out); (case side3 => repeat (first | exact (Kd.C_below HR1.out HB.out) | (with_reducible refine Kd.C_alloc ?_ _) | (with_reducible refine Kd.C_drewN ?_ _) | (with_reducible refine Kd.C_drew ?_))); (case side4 => exact HC1.out); rintro e w49 ⟨rfl, hb⟩; have n0_ := Aside0.mk (Kd.R_below (by (with_reducible repeat (first | apply Kd.R_alloc | apply Kd.R_drewN | apply Kd.R_drew)); exact HO_770001.out) hb); have n1_ := Aside0.mk (Kd.S_below (by (with_reducible repeat (first | apply Kd.S_alloc | apply Kd.S_drewN | apply Kd.S_drew)); exact HO_770002.out) hb); have n2_ := Aside0.mk (blk_below (g := gb759) (o := .cells #[.int .i64 a0_0, .slice A0_1 l0_1.length c0_1] 24 (0, 0)) (by (with_reducible repeat (first | refine blk_drewN ?_ _ | refine blk_drew ?_ | refine blk_alloc ?_ _)); exact BK759.out) hb); have n3_ := Aside0.mk (blk_below (g := gb769) (o := .cells #[.bool t761, .slice Ao20 t762.length co20, .slice Ao21 t765.length co21] 51 (0, 0)) (by (with_reducible repeat (first | refine blk_drewN ?_ _ | refine blk_drew ?_ | refine blk_alloc ?_ _)); exact BK769.out) hb); have n4_ := Aside0.mk (below_step (by repeat (first | (with_reducible first | exact HB.out | apply below_alloc | apply pw_below_drewN | apply below_drew1 | refine below_set ?_ GE759.out | refine below_set ?_ GE769.out) | exact HB.out)) hb); clear HO_770001; clear HO_770002; clear BK759; clear BK769; clear HB; have HO_770001 := n0_; have HO_770002 := n1_; have BK759 := n2_; have BK769 := n3_; have HB := n4_; clear n0_ n1_ n2_ n3_ n4_; (try clear hb); (try clear hb2); (try clear hk); (try clear hi); have hcz50_0 : w49.cell? ⟨gb769, 0, none⟩ = some (.bool t761) := (blk_cell BK769.out 0).trans rfl; have hcz50_1 : w49.cell? ⟨gb769, 1, none⟩ = some (.slice Ao20 t762.length co20) := (blk_cell BK769.out 1).trans rfl; have hcz50_2 : w49.cell? ⟨gb769, 2, none⟩ = some (.slice Ao21 t765.length co21) := (blk_cell BK769.out 2).trans rfl; have hfz50_0 := blk_frozen BK769.out 0; have hfz50_1 := blk_frozen BK769.out 1; have hfz50_2 := blk_frozen BK769.out 2))
                    go_ret
                    exact ⟨by first | rfl | (simp [errW_none, errW_some] <;> rfl) | (simp [*, errW_none, errW_some] <;> rfl), by repeat (first | (with_reducible first | exact HB.out | apply below_alloc | apply pw_below_drewN | apply below_drew1 | refine below_set ?_ GE759.out | refine below_set ?_ GE769.out) | exact HB.out)⟩
                · replace c32 := Bool.eq_false_iff.mpr c32
                  subst c32
                  have H1 : (none) = some r := by rw [if_neg (show ¬ (false = true) by decide)] at H; exact H
                  clear H
                  have H := H1
                  clear H1
                  cases H
        · rw [if_neg c13] at H
          have c13b0 : (t768 == 0) = false := beq_eq_false_iff_ne.mpr c13
          have c13b1 : (t768 != 0) = true := bne_iff_ne.mpr c13
          replace H := Option.bind_eq_some_iff.mp H
          obtain ⟨t770, A520, H⟩ := H
          replace H : (if t770 = true then (if t761 = true then (none) else (if t768 = 120 then (some true) else ((clause_Check.f a0_0 l0_1).bind fun t771 => (some (t768 == t771))))) else (none)) = some r := H
          have A52 := Aside0.mk A520
          clear A520
          by_cases c53 : t770 = true
          · subst c53
            have H1 : (if t761 = true then (none) else (if t768 = 120 then (some true) else ((clause_Check.f a0_0 l0_1).bind fun t771 => (some (t768 == t771))))) = some r := by rw [if_pos rfl] at H; exact H
            clear H
            have H := H1
            clear H1
            by_cases c54 : t761 = true
            · subst c54
              have H1 : (none) = some r := by rw [if_pos rfl] at H; exact H
              clear H
              have H := H1
              clear H1
              cases H
            · replace c54 := Bool.eq_false_iff.mpr c54
              subst c54
              have H1 : (if t768 = 120 then (some true) else ((clause_Check.f a0_0 l0_1).bind fun t771 => (some (t768 == t771)))) = some r := by rw [if_neg (show ¬ (false = true) by decide)] at H; exact H
              clear H
              have H := H1
              clear H1
              by_cases c64 : t768 = 120
              · rw [if_pos c64] at H
                have c64b0 : (t768 == 120) = true := beq_iff_eq.mpr c64
                have c64b1 : (t768 != 120) = false := bne_eq_false_iff_eq.mpr c64
                clear c64
                obtain rfl := Option.some.inj H
                have hcz65_0 : wc.cell? ⟨gb759, 0, none⟩ = some (.int .i64 a0_0) := (blk_cell BK759.out 0).trans rfl
                have hcz65_1 : wc.cell? ⟨gb759, 1, none⟩ = some (.slice A0_1 l0_1.length c0_1) := (blk_cell BK759.out 1).trans rfl
                have hfz65_0 := blk_frozen BK759.out 0
                have hfz65_1 := blk_frozen BK759.out 1
                go_wp2_with (first | ((with_reducible refine gate_callee (f := 53) rfl ?_); refine goesL_ (some 16) rfl rfl Try.func53 (by kernel_rfl) rfl #[.agg #[.int .i64 a0_0, .slice A0_1 l0_1.length c0_1]] rfl (by (try simp only [List.map_toArray, List.map_cons, List.map_nil]); first | done | rfl | (simp only [List.length_drop, List.length_take]; rfl)) ?_; (with_reducible refine (solver_Solve.calls a0_0 _ _ l0_1 false t762 t765 t768 _ ?side1 ?side2 A12.out).mono ?_); (case side1 => repeat (first | exact (Kd.C_below HR0_1.out HB.out) | (with_reducible refine Kd.C_alloc ?_ _) | (with_reducible refine Kd.C_drewN ?_ _) | (with_reducible refine Kd.C_drew ?_))); (case side2 => exact HC0_1.out); rintro e w66 ⟨v763, v766, rfl, ho0, ho1, hb⟩; refine ⟨_, rfl, ?_⟩; have n0_ := Aside0.mk (Kd.R_lower ho0 (below_size (by repeat (first | (with_reducible first | exact HB.out | apply below_alloc | apply pw_below_drewN | apply below_drew1 | refine below_set ?_ GE759.out) | exact HB.out)))); have n1_ := Aside0.mk (Kd.S_lower ho1 (below_size (by repeat (first | (with_reducible first | exact HB.out | apply below_alloc | apply pw_below_drewN | apply below_drew1 | refine below_set ?_ GE759.out) | exact HB.out)))); have n2_ := Aside0.mk (blk_below (g := gb759) (o := .cells #[.int .i64 a0_0, .slice A0_1 l0_1.length c0_1] 24 (0, 0)) (by (with_reducible repeat (first | refine blk_drewN ?_ _ | refine blk_drew ?_ | refine blk_alloc ?_ _)); exact BK759.out) hb); have n3_ := Aside0.mk (below_step (by repeat (first | (with_reducible first | exact HB.out | apply below_alloc | apply pw_below_drewN | apply below_drew1 | refine below_set ?_ GE759.out) | exact HB.out)) hb); clear BK759; clear HB; have HO764 := n0_; have HO767 := n1_; have BK759 := n2_; have HB := n3_; clear n0_ n1_ n2_ n3_; (try clear hb); (try clear hb2); (try clear hk); (try clear hi); (try clear ho0); (try clear ho1)) | ((with_reducible refine gate_dst (N := 5) rfl ?_); (try (refine gate_guard (by rfl) ?_; dsimp only)); refine box_event ?hg (N := 5) ?hd (cs := #[.bool false, .slice none 0 0, .slice none 0 0]) (t := 51) ?hr ?_; (case hd => rfl); (case hg => rfl); (case hr => first | (go_simp; done) | (go_simp; rfl)); intro gb769 hg w67 hbox hb; have n0_ := Aside0.mk (Kd.R_below (by (with_reducible repeat (first | apply Kd.R_alloc | apply Kd.R_drewN | apply Kd.R_drew)); exact HO764.out) hb); have n1_ := Aside0.mk (Kd.S_below (by (with_reducible repeat (first | apply Kd.S_alloc | apply Kd.S_drewN | apply Kd.S_drew)); exact HO767.out) hb); have n2_ := Aside0.mk (blk_below (g := gb759) (o := .cells #[.int .i64 a0_0, .slice A0_1 l0_1.length c0_1] 24 (0, 0)) (by (with_reducible repeat (first | refine blk_drewN ?_ _ | refine blk_drew ?_ | refine blk_alloc ?_ _)); exact BK759.out) hb); have n3_ := Aside0.mk (below_step (by repeat (first | (with_reducible first | exact HB.out | apply below_alloc | apply pw_below_drewN | apply below_drew1 | refine below_set ?_ GE759.out) | exact HB.out)) hb); have n4_ := Aside0.mk (hbox); have n5_ := Aside0.mk ((by rw [hg]; exact (below_size (by repeat (first | (with_reducible first | exact HB.out | apply below_alloc | apply pw_below_drewN | apply below_drew1 | refine below_set ?_ GE759.out) | exact HB.out))) : w.heap.size ≤ gb769)); have n6_ := Aside0.mk ((by rw [hg]; exact (below_size (by repeat (first | (with_reducible first | exact HB.out | apply below_alloc | apply pw_below_drewN | apply below_drew1 | refine below_set ?_ GE759.out) | exact HB.out))) : w.heap.size ≤ gb769)); have n7_ := Aside0.mk ((by rw [hg]; exact Nat.ne_of_lt (blk_lt (g := gb759) (o := .cells #[.int .i64 a0_0, .slice A0_1 l0_1.length c0_1] 24 (0, 0)) (by (with_reducible repeat (first | refine blk_drewN ?_ _ | refine blk_drew ?_ | refine blk_alloc ?_ _)); exact BK759.out)) : gb759 ≠ gb769)); have n8_ := Aside0.mk ((by rw [hg]; exact Nat.ne_of_gt (blk_lt (g := gb759) (o := .cells #[.int .i64 a0_0, .slice A0_1 l0_1.length c0_1] 24 (0, 0)) (by (with_reducible repeat (first | refine blk_drewN ?_ _ | refine blk_drew ?_ | refine blk_alloc ?_ _)); exact BK759.out)) : gb769 ≠ gb759)); clear HO764; clear HO767; clear BK759; clear HB; have HO764 := n0_; have HO767 := n1_; have BK759 := n2_; have HB := n3_; have BK769 := n4_; have GW769 := n5_; have GE769 := n6_; have NB759_769 := n7_; have NB769_759 := n8_; clear n0_ n1_ n2_ n3_ n4_ n5_ n6_ n7_ n8_; clear hb hbox hg; have hnb68 := NB769_759.out; have hnc68 := NB759_769.out; have hcz69_0 : w67.cell? ⟨gb769, 0, none⟩ = some (.bool false) := (blk_cell BK769.out 0).trans rfl; have hcz69_1 : w67.cell? ⟨gb769, 1, none⟩ = some (.slice none 0 0) := (blk_cell BK769.out 1).trans rfl; have hcz69_2 : w67.cell? ⟨gb769, 2, none⟩ = some (.slice none 0 0) := (blk_cell BK769.out 2).trans rfl; have hfz69_0 := blk_frozen BK769.out 0; have hfz69_1 := blk_frozen BK769.out 1; have hfz69_2 := blk_frozen BK769.out 2; obtain ⟨Ao70, co70, eo70⟩ := Kd.R_slice HO764.out; subst eo70; obtain ⟨Ao71, co71, eo71⟩ := Kd.S_slice HO767.out; subst eo71) | ((with_reducible refine gate_callee (f := 55) rfl ?_); refine goesL_ (some 21) rfl rfl Try.func55 (by kernel_rfl) rfl #[] rfl (by (try simp only [List.map_toArray, List.map_cons, List.map_nil]); first | done | rfl | (simp only [List.length_drop, List.length_take]; rfl)) ?_; (with_reducible refine (hoggetlaw12_solves.calls kj2  true _ A52.out).mono ?_); rintro e w72 ⟨rfl, hb⟩; refine ⟨_, rfl, ?_⟩; have n0_ := Aside0.mk (Kd.R_below (by (with_reducible repeat (first | apply Kd.R_alloc | apply Kd.R_drewN | apply Kd.R_drew)); exact (Kd.R_mono (Kd.R_far (p := ⟨gb769, 2, none⟩) (Kd.R_far (p := ⟨gb769, 1, none⟩) (Kd.R_far (p := ⟨gb769, 0, none⟩) (Kd.R_types HO764.out BK769.out (by decide)) (fun _ hk => hk.2) (.bool false)) (fun _ hk => hk.2) (.slice Ao70 t762.length co70)) (fun _ hk => hk.2) (.slice Ao71 t765.length co71)) (fun _ h_ => h_.1))) hb); have n1_ := Aside0.mk (Kd.S_below (by (with_reducible repeat (first | apply Kd.S_alloc | apply Kd.S_drewN | apply Kd.S_drew)); exact (Kd.S_mono (Kd.S_far (p := ⟨gb769, 2, none⟩) (Kd.S_far (p := ⟨gb769, 1, none⟩) (Kd.S_far (p := ⟨gb769, 0, none⟩) (Kd.S_types HO767.out BK769.out (by decide)) (fun _ hk => hk.2) (.bool false)) (fun _ hk => hk.2) (.slice Ao70 t762.length co70)) (fun _ hk => hk.2) (.slice Ao71 t765.length co71)) (fun _ h_ => h_.1))) hb); have n2_ := Aside0.mk (blk_below (g := gb759) (o := .cells #[.int .i64 a0_0, .slice A0_1 l0_1.length c0_1] 24 (0, 0)) (by (with_reducible repeat (first | refine blk_drewN ?_ _ | refine blk_drew ?_ | refine blk_alloc ?_ _)); refine blk_far ?_ NB759_769.out _; (with_reducible repeat (first | refine blk_drewN ?_ _ | refine blk_drew ?_ | refine blk_alloc ?_ _)); refine blk_far ?_ NB759_769.out _; (with_reducible repeat (first | refine blk_drewN ?_ _ | refine blk_drew ?_ | refine blk_alloc ?_ _)); refine blk_far ?_ NB759_769.out _; (with_reducible repeat (first | refine blk_drewN ?_ _ | refine blk_drew ?_ | refine blk_alloc ?_ _)); exact BK759.out) hb); have n3_ := Aside0.mk (blk_below (g := gb769) (o := .cells #[.bool false, .slice Ao70 t762.length co70, .slice Ao71 t765.length co71] 51 (0, 0)) (by (with_reducible repeat (first | refine blk_drewN ?_ _ | refine blk_drew ?_ | refine blk_alloc ?_ _)); refine blk_put (cs := #[.bool false, .slice Ao70 t762.length co70, .slice none 0 0]) ?_ 2 _ rfl; (with_reducible repeat (first | refine blk_drewN ?_ _ | refine blk_drew ?_ | refine blk_alloc ?_ _)); refine blk_put (cs := #[.bool false, .slice none 0 0, .slice none 0 0]) ?_ 1 _ rfl; (with_reducible repeat (first | refine blk_drewN ?_ _ | refine blk_drew ?_ | refine blk_alloc ?_ _)); refine blk_put (cs := #[.bool false, .slice none 0 0, .slice none 0 0]) ?_ 0 _ rfl; (with_reducible repeat (first | refine blk_drewN ?_ _ | refine blk_drew ?_ | refine blk_alloc ?_ _)); exact BK769.out) hb); have n4_ := Aside0.mk (below_step (by repeat (first | (with_reducible first | exact HB.out | apply below_alloc | apply pw_below_drewN | apply below_drew1 | refine below_set ?_ GE759.out | refine below_set ?_ GE769.out) | exact HB.out)) hb); clear HO764; clear HO767; clear BK759; clear BK769; clear HB; have HO764 := n0_; have HO767 := n1_; have BK759 := n2_; have BK769 := n3_; have HB := n4_; clear n0_ n1_ n2_ n3_ n4_; (try clear hb); (try clear hb2); (try clear hk); (try clear hi); have hcz73_0 : w72.cell? ⟨gb769, 0, none⟩ = some (.bool false) := (blk_cell BK769.out 0).trans rfl; have hcz73_1 : w72.cell? ⟨gb769, 1, none⟩ = some (.slice Ao70 t762.length co70) := (blk_cell BK769.out 1).trans rfl; have hcz73_2 : w72.cell? ⟨gb769, 2, none⟩ = some (.slice Ao71 t765.length co71) := (blk_cell BK769.out 2).trans rfl; have hfz73_0 := blk_frozen BK769.out 0; have hfz73_1 := blk_frozen BK769.out 1; have hfz73_2 := blk_frozen BK769.out 2))
                go_ret
                exact ⟨by first | rfl | (simp [errW_none, errW_some] <;> rfl) | (simp [*, errW_none, errW_some] <;> rfl), by repeat (first | (with_reducible first | exact HB.out | apply below_alloc | apply pw_below_drewN | apply below_drew1 | refine below_set ?_ GE759.out | refine below_set ?_ GE769.out) | exact HB.out)⟩
              · rw [if_neg c64] at H
                have c64b0 : (t768 == 120) = false := beq_eq_false_iff_ne.mpr c64
                have c64b1 : (t768 != 120) = true := bne_iff_ne.mpr c64
                replace H := Option.bind_eq_some_iff.mp H
                obtain ⟨t771, A740, H⟩ := H
                replace H : (some (t768 == t771)) = some r := H
                have A74 := Aside0.mk A740
                clear A740
                obtain rfl := Option.some.inj H
                have hcz75_0 : wc.cell? ⟨gb759, 0, none⟩ = some (.int .i64 a0_0) := (blk_cell BK759.out 0).trans rfl
                have hcz75_1 : wc.cell? ⟨gb759, 1, none⟩ = some (.slice A0_1 l0_1.length c0_1) := (blk_cell BK759.out 1).trans rfl
                have hfz75_0 := blk_frozen BK759.out 0
                have hfz75_1 := blk_frozen BK759.out 1
                go_wp2_with (first | ((with_reducible refine gate_callee (f := 53) rfl ?_); refine goesL_ (some 16) rfl rfl Try.func53 (by kernel_rfl) rfl #[.agg #[.int .i64 a0_0, .slice A0_1 l0_1.length c0_1]] rfl (by (try simp only [List.map_toArray, List.map_cons, List.map_nil]); first | done | rfl | (simp only [List.length_drop, List.length_take]; rfl)) ?_; (with_reducible refine (solver_Solve.calls a0_0 _ _ l0_1 false t762 t765 t768 _ ?side1 ?side2 A12.out).mono ?_); (case side1 => repeat (first | exact (Kd.C_below HR0_1.out HB.out) | (with_reducible refine Kd.C_alloc ?_ _) | (with_reducible refine Kd.C_drewN ?_ _) | (with_reducible refine Kd.C_drew ?_))); (case side2 => exact HC0_1.out); rintro e w76 ⟨v763, v766, rfl, ho0, ho1, hb⟩; refine ⟨_, rfl, ?_⟩; have n0_ := Aside0.mk (Kd.R_lower ho0 (below_size (by repeat (first | (with_reducible first | exact HB.out | apply below_alloc | apply pw_below_drewN | apply below_drew1 | refine below_set ?_ GE759.out) | exact HB.out)))); have n1_ := Aside0.mk (Kd.S_lower ho1 (below_size (by repeat (first | (with_reducible first | exact HB.out | apply below_alloc | apply pw_below_drewN | apply below_drew1 | refine below_set ?_ GE759.out) | exact HB.out)))); have n2_ := Aside0.mk (blk_below (g := gb759) (o := .cells #[.int .i64 a0_0, .slice A0_1 l0_1.length c0_1] 24 (0, 0)) (by (with_reducible repeat (first | refine blk_drewN ?_ _ | refine blk_drew ?_ | refine blk_alloc ?_ _)); exact BK759.out) hb); have n3_ := Aside0.mk (below_step (by repeat (first | (with_reducible first | exact HB.out | apply below_alloc | apply pw_below_drewN | apply below_drew1 | refine below_set ?_ GE759.out) | exact HB.out)) hb); clear BK759; clear HB; have HO764 := n0_; have HO767 := n1_; have BK759 := n2_; have HB := n3_; clear n0_ n1_ n2_ n3_; (try clear hb); (try clear hb2); (try clear hk); (try clear hi); (try clear ho0); (try clear ho1)) | ((with_reducible refine gate_dst (N := 5) rfl ?_); (try (refine gate_guard (by rfl) ?_; dsimp only)); refine box_event ?hg (N := 5) ?hd (cs := #[.bool false, .slice none 0 0, .slice none 0 0]) (t := 51) ?hr ?_; (case hd => rfl); (case hg => rfl); (case hr => first | (go_simp; done) | (go_simp; rfl)); intro gb769 hg w77 hbox hb; have n0_ := Aside0.mk (Kd.R_below (by (with_reducible repeat (first | apply Kd.R_alloc | apply Kd.R_drewN | apply Kd.R_drew)); exact HO764.out) hb); have n1_ := Aside0.mk (Kd.S_below (by (with_reducible repeat (first | apply Kd.S_alloc | apply Kd.S_drewN | apply Kd.S_drew)); exact HO767.out) hb); have n2_ := Aside0.mk (blk_below (g := gb759) (o := .cells #[.int .i64 a0_0, .slice A0_1 l0_1.length c0_1] 24 (0, 0)) (by (with_reducible repeat (first | refine blk_drewN ?_ _ | refine blk_drew ?_ | refine blk_alloc ?_ _)); exact BK759.out) hb); have n3_ := Aside0.mk (below_step (by repeat (first | (with_reducible first | exact HB.out | apply below_alloc | apply pw_below_drewN | apply below_drew1 | refine below_set ?_ GE759.out) | exact HB.out)) hb); have n4_ := Aside0.mk (hbox); have n5_ := Aside0.mk ((by rw [hg]; exact (below_size (by repeat (first | (with_reducible first | exact HB.out | apply below_alloc | apply pw_below_drewN | apply below_drew1 | refine below_set ?_ GE759.out) | exact HB.out))) : w.heap.size ≤ gb769)); have n6_ := Aside0.mk ((by rw [hg]; exact (below_size (by repeat (first | (with_reducible first | exact HB.out | apply below_alloc | apply pw_below_drewN | apply below_drew1 | refine below_set ?_ GE759.out) | exact HB.out))) : w.heap.size ≤ gb769)); have n7_ := Aside0.mk ((by rw [hg]; exact Nat.ne_of_lt (blk_lt (g := gb759) (o := .cells #[.int .i64 a0_0, .slice A0_1 l0_1.length c0_1] 24 (0, 0)) (by (with_reducible repeat (first | refine blk_drewN ?_ _ | refine blk_drew ?_ | refine blk_alloc ?_ _)); exact BK759.out)) : gb759 ≠ gb769)); have n8_ := Aside0.mk ((by rw [hg]; exact Nat.ne_of_gt (blk_lt (g := gb759) (o := .cells #[.int .i64 a0_0, .slice A0_1 l0_1.length c0_1] 24 (0, 0)) (by (with_reducible repeat (first | refine blk_drewN ?_ _ | refine blk_drew ?_ | refine blk_alloc ?_ _)); exact BK759.out)) : gb769 ≠ gb759)); clear HO764; clear HO767; clear BK759; clear HB; have HO764 := n0_; have HO767 := n1_; have BK759 := n2_; have HB := n3_; have BK769 := n4_; have GW769 := n5_; have GE769 := n6_; have NB759_769 := n7_; have NB769_759 := n8_; clear n0_ n1_ n2_ n3_ n4_ n5_ n6_ n7_ n8_; clear hb hbox hg; have hnb78 := NB769_759.out; have hnc78 := NB759_769.out; have hcz79_0 : w77.cell? ⟨gb769, 0, none⟩ = some (.bool false) := (blk_cell BK769.out 0).trans rfl; have hcz79_1 : w77.cell? ⟨gb769, 1, none⟩ = some (.slice none 0 0) := (blk_cell BK769.out 1).trans rfl; have hcz79_2 : w77.cell? ⟨gb769, 2, none⟩ = some (.slice none 0 0) := (blk_cell BK769.out 2).trans rfl; have hfz79_0 := blk_frozen BK769.out 0; have hfz79_1 := blk_frozen BK769.out 1; have hfz79_2 := blk_frozen BK769.out 2; obtain ⟨Ao80, co80, eo80⟩ := Kd.R_slice HO764.out; subst eo80; obtain ⟨Ao81, co81, eo81⟩ := Kd.S_slice HO767.out; subst eo81) | ((with_reducible refine gate_callee (f := 55) rfl ?_); refine goesL_ (some 21) rfl rfl Try.func55 (by kernel_rfl) rfl #[] rfl (by (try simp only [List.map_toArray, List.map_cons, List.map_nil]); first | done | rfl | (simp only [List.length_drop, List.length_take]; rfl)) ?_; (with_reducible refine (hoggetlaw12_solves.calls kj2  true _ A52.out).mono ?_); rintro e w82 ⟨rfl, hb⟩; refine ⟨_, rfl, ?_⟩; have n0_ := Aside0.mk (Kd.R_below (by (with_reducible repeat (first | apply Kd.R_alloc | apply Kd.R_drewN | apply Kd.R_drew)); exact (Kd.R_mono (Kd.R_far (p := ⟨gb769, 2, none⟩) (Kd.R_far (p := ⟨gb769, 1, none⟩) (Kd.R_far (p := ⟨gb769, 0, none⟩) (Kd.R_types HO764.out BK769.out (by decide)) (fun _ hk => hk.2) (.bool false)) (fun _ hk => hk.2) (.slice Ao80 t762.length co80)) (fun _ hk => hk.2) (.slice Ao81 t765.length co81)) (fun _ h_ => h_.1))) hb); have n1_ := Aside0.mk (Kd.S_below (by (with_reducible repeat (first | apply Kd.S_alloc | apply Kd.S_drewN | apply Kd.S_drew)); exact (Kd.S_mono (Kd.S_far (p := ⟨gb769, 2, none⟩) (Kd.S_far (p := ⟨gb769, 1, none⟩) (Kd.S_far (p := ⟨gb769, 0, none⟩) (Kd.S_types HO767.out BK769.out (by decide)) (fun _ hk => hk.2) (.bool false)) (fun _ hk => hk.2) (.slice Ao80 t762.length co80)) (fun _ hk => hk.2) (.slice Ao81 t765.length co81)) (fun _ h_ => h_.1))) hb); have n2_ := Aside0.mk (blk_below (g := gb759) (o := .cells #[.int .i64 a0_0, .slice A0_1 l0_1.length c0_1] 24 (0, 0)) (by (with_reducible repeat (first | refine blk_drewN ?_ _ | refine blk_drew ?_ | refine blk_alloc ?_ _)); refine blk_far ?_ NB759_769.out _; (with_reducible repeat (first | refine blk_drewN ?_ _ | refine blk_drew ?_ | refine blk_alloc ?_ _)); refine blk_far ?_ NB759_769.out _; (with_reducible repeat (first | refine blk_drewN ?_ _ | refine blk_drew ?_ | refine blk_alloc ?_ _)); refine blk_far ?_ NB759_769.out _; (with_reducible repeat (first | refine blk_drewN ?_ _ | refine blk_drew ?_ | refine blk_alloc ?_ _)); exact BK759.out) hb); have n3_ := Aside0.mk (blk_below (g := gb769) (o := .cells #[.bool false, .slice Ao80 t762.length co80, .slice Ao81 t765.length co81] 51 (0, 0)) (by (with_reducible repeat (first | refine blk_drewN ?_ _ | refine blk_drew ?_ | refine blk_alloc ?_ _)); refine blk_put (cs := #[.bool false, .slice Ao80 t762.length co80, .slice none 0 0]) ?_ 2 _ rfl; (with_reducible repeat (first | refine blk_drewN ?_ _ | refine blk_drew ?_ | refine blk_alloc ?_ _)); refine blk_put (cs := #[.bool false, .slice none 0 0, .slice none 0 0]) ?_ 1 _ rfl; (with_reducible repeat (first | refine blk_drewN ?_ _ | refine blk_drew ?_ | refine blk_alloc ?_ _)); refine blk_put (cs := #[.bool false, .slice none 0 0, .slice none 0 0]) ?_ 0 _ rfl; (with_reducible repeat (first | refine blk_drewN ?_ _ | refine blk_drew ?_ | refine blk_alloc ?_ _)); exact BK769.out) hb); have n4_ := Aside0.mk (below_step (by repeat (first | (with_reducible first | exact HB.out | apply below_alloc | apply pw_below_drewN | apply below_drew1 | refine below_set ?_ GE759.out | refine below_set ?_ GE769.out) | exact HB.out)) hb); clear HO764; clear HO767; clear BK759; clear BK769; clear HB; have HO764 := n0_; have HO767 := n1_; have BK759 := n2_; have BK769 := n3_; have HB := n4_; clear n0_ n1_ n2_ n3_ n4_; (try clear hb); (try clear hb2); (try clear hk); (try clear hi); have hcz83_0 : w82.cell? ⟨gb769, 0, none⟩ = some (.bool false) := (blk_cell BK769.out 0).trans rfl; have hcz83_1 : w82.cell? ⟨gb769, 1, none⟩ = some (.slice Ao80 t762.length co80) := (blk_cell BK769.out 1).trans rfl; have hcz83_2 : w82.cell? ⟨gb769, 2, none⟩ = some (.slice Ao81 t765.length co81) := (blk_cell BK769.out 2).trans rfl; have hfz83_0 := blk_frozen BK769.out 0; have hfz83_1 := blk_frozen BK769.out 1; have hfz83_2 := blk_frozen BK769.out 2; have hcz84_0 : w82.cell? ⟨gb759, 0, none⟩ = some (.int .i64 a0_0) := (blk_cell BK759.out 0).trans rfl; have hcz84_1 : w82.cell? ⟨gb759, 1, none⟩ = some (.slice A0_1 l0_1.length c0_1) := (blk_cell BK759.out 1).trans rfl; have hfz84_0 := blk_frozen BK759.out 0; have hfz84_1 := blk_frozen BK759.out 1) | (go_at_call 44; (with_reducible refine (clause_Check.calls a0_0 _ _ l0_1 t771 _ ?side1 ?side2 A74.out).mono ?_); (case side1 => repeat (first | exact (Kd.C_below HR0_1.out HB.out) | (with_reducible refine Kd.C_alloc ?_ _) | (with_reducible refine Kd.C_drewN ?_ _) | (with_reducible refine Kd.C_drew ?_))); (case side2 => exact HC0_1.out); rintro e w85 ⟨rfl, hb⟩; have n0_ := Aside0.mk (Kd.R_below (by (with_reducible repeat (first | apply Kd.R_alloc | apply Kd.R_drewN | apply Kd.R_drew)); exact HO764.out) hb); have n1_ := Aside0.mk (Kd.S_below (by (with_reducible repeat (first | apply Kd.S_alloc | apply Kd.S_drewN | apply Kd.S_drew)); exact HO767.out) hb); have n2_ := Aside0.mk (blk_below (g := gb759) (o := .cells #[.int .i64 a0_0, .slice A0_1 l0_1.length c0_1] 24 (0, 0)) (by (with_reducible repeat (first | refine blk_drewN ?_ _ | refine blk_drew ?_ | refine blk_alloc ?_ _)); exact BK759.out) hb); have n3_ := Aside0.mk (blk_below (g := gb769) (o := .cells #[.bool false, .slice Ao80 t762.length co80, .slice Ao81 t765.length co81] 51 (0, 0)) (by (with_reducible repeat (first | refine blk_drewN ?_ _ | refine blk_drew ?_ | refine blk_alloc ?_ _)); exact BK769.out) hb); have n4_ := Aside0.mk (below_step (by repeat (first | (with_reducible first | exact HB.out | apply below_alloc | apply pw_below_drewN | apply below_drew1 | refine below_set ?_ GE759.out | refine below_set ?_ GE769.out) | exact HB.out)) hb); clear HO764; clear HO767; clear BK759; clear BK769; clear HB; have HO764 := n0_; have HO767 := n1_; have BK759 := n2_; have BK769 := n3_; have HB := n4_; clear n0_ n1_ n2_ n3_ n4_; (try clear hb); (try clear hb2); (try clear hk); (try clear hi)))
                go_ret
                exact ⟨by first | rfl | (simp [errW_none, errW_some] <;> rfl) | (simp [*, errW_none, errW_some] <;> rfl), by repeat (first | (with_reducible first | exact HB.out | apply below_alloc | apply pw_below_drewN | apply below_drew1 | refine below_set ?_ GE759.out | refine below_set ?_ GE769.out) | exact HB.out)⟩
          · replace c53 := Bool.eq_false_iff.mpr c53
            subst c53
            have H1 : (none) = some r := by rw [if_neg (show ¬ (false = true) by decide)] at H; exact H
            clear H
            have H := H1
            clear H1
            cases H

end Go.Proofs.Ythnbmlpjbhhamaa.J
