/- The walks of hoggetlaw12_SolverSolves, by the print over this seat. -/
import Derived.Test.YthnbmlpjbhhamaaJ0
import Derived.Test.YthnbmlpjbhhamaaGa
import Derived.Test.YthnbmlpjbhhamaaGq
import Derived.Test.YthnbmlpjbhhamaaHi
import Derived.Test.YthnbmlpjbhhamaaHj
import Derived.Test.YthnbmlpjbhhamaaHl
namespace Go.Proofs.Ythnbmlpjbhhamaa.J
open Go.RowKit Go.Proofs.YthnbmlpjbhhamaaW.PrintWords Go.Proofs.YthnbmlpjbhhamaaW.PrintLast Go.Proofs.YthnbmlpjbhhamaaW.PrintMore
attribute [local go_sem] max2_int min2_int max_two min_two max_three min_three max_four min_four   -- for this text's walks alone
set_option linter.unusedVariables false
set_option linter.unusedSimpArgs false

/-! ### hoggetlaw12_SolverSolves: function 13 -/
noncomputable def hoggetlaw12_SolverSolves.f (k : Nat) (a0_0 : Int) (l0_1 : List (List Int)) : Option (Bool) := (hoggetlaw12_large.f k a0_0 l0_1 12).bind fun t639 => (if t639 = true then (some true) else ((hoggetref10_OwnAll.f k l0_1).bind fun t640 => ((solver_Solve.f a0_0 l0_1).bind fun bt644 => ((hoggetref12_Solve.f a0_0 t640).bind fun bt653 => ((hoggetlaw12_solves.f k).bind fun t662 => (if t662 = true then (if bt644.2.2.2 = bt653.2.2.2 then ((hoggetref12_Same.f k bt644.1 bt644.2.1 bt644.2.2.1 bt653.1 bt653.2.1 bt653.2.2.1).bind fun t663 => (if t663 = true then ((solver_Looks.f a0_0 l0_1).bind fun t664 => ((hoggetref12_Looks.f a0_0 t640).bind fun t665 => (if t664 = t665 then ((hoggetref10_Clauses.f k l0_1 t640).bind fun t666 => (some t666)) else (none)))) else (none))) else (none)) else (none)))))))
theorem hoggetlaw12_SolverSolves.mono : ∀ a0 a1 k, LeO (hoggetlaw12_SolverSolves.f k a0 a1) (hoggetlaw12_SolverSolves.f (k + 1) a0 a1) := by
  intro a0 a1 k
  unfold hoggetlaw12_SolverSolves.f
  repeat' first
      | (with_reducible exact hoggetlaw12_large.mono _ _ _ _)
      | (with_reducible exact hoggetlaw12_solves.mono _)
      | (with_reducible exact hoggetref10_Clauses.mono _ _ _)
      | (with_reducible exact hoggetref10_OwnAll.mono _ _)
      | (with_reducible exact hoggetref12_Same.mono _ _ _ _ _ _ _)
      | (with_reducible exact LeO.refl _)
      | (with_reducible exact LeO.none _)
      | (with_reducible refine LeO.ite ?_ ?_)
      | (with_reducible refine LeO.bind ?_ (fun _ => ?_))
      | exact hoggetlaw12_large.mono _ _ _ _
      | exact hoggetlaw12_solves.mono _
      | exact hoggetref10_Clauses.mono _ _ _
      | exact hoggetref10_OwnAll.mono _ _
      | exact hoggetref12_Same.mono _ _ _ _ _ _ _
      | exact LeO.none _
      | refine LeO.ite ?_ ?_
      | refine LeO.bind ?_ (fun _ => ?_)
noncomputable def hoggetlaw12_SolverSolves.T3 : Bool × List (List Nat × List Nat) := (true, [([], []), ([0], [0]), ([], []), ([2], [2]), ([3], [3]), ([1, 4], [1, 4]), ([], []), ([6, 5, 4, 0, 1, 2, 3, 4, 5, 6], [5, 6])])
noncomputable def hoggetlaw12_SolverSolves.B3 : List Nat := [0, 1, 0, 4, 12, 31, 0, 127]
theorem hoggetlaw12_SolverSolves.tab3 : rtab .any (opsOf Try.f13 3) = hoggetlaw12_SolverSolves.T3 := by kernel_rfl
theorem hoggetlaw12_SolverSolves.bits3 : waitsOk hoggetlaw12_SolverSolves.T3.2 hoggetlaw12_SolverSolves.B3 = true := by kernel_rfl
noncomputable def hoggetlaw12_SolverSolves.T6 : Bool × List (List Nat × List Nat) := (true, [([], []), ([0, 0], [0]), ([1], [1]), ([1], [1]), ([2, 3, 1], [1, 2, 3]), ([1, 4], [1, 4]), ([5, 1], [5]), ([6], [6]), ([6], [6]), ([7, 8, 6, 6], [6, 7, 8]), ([6, 9], [6, 9]), ([10, 9], [10]), ([11], [11]), ([12, 11, 11], [11, 12]), ([11], [11]), ([14, 13, 11], [11, 14]), ([13, 15, 11], [11, 13, 15]), ([11, 16], [11, 16]), ([17, 15], [17]), ([18], [18]), ([19, 18], [18, 19]), ([18], [18]), ([21, 18], [18, 21]), ([20, 22, 18, 18], [18, 20, 22]), ([18, 23], [18, 23]), ([24, 23, 0, 1, 2, 3, 4, 5, 6, 7, 8, 9, 10, 11, 12, 13, 14, 15, 16, 17, 18, 19, 20, 21, 22, 23, 24], [24])])
noncomputable def hoggetlaw12_SolverSolves.B6 : List Nat := [0, 1, 3, 3, 15, 31, 63, 127, 127, 511, 1023, 2047, 4095, 8191, 4095, 32767, 65535, 131071, 262143, 524287, 1048575, 524287, 2621439, 8388607, 16777215, 33554431]
theorem hoggetlaw12_SolverSolves.tab6 : rtab .any (opsOf Try.f13 6) = hoggetlaw12_SolverSolves.T6 := by kernel_rfl
theorem hoggetlaw12_SolverSolves.bits6 : waitsOk hoggetlaw12_SolverSolves.T6.2 hoggetlaw12_SolverSolves.B6 = true := by kernel_rfl
set_option maxHeartbeats 8000000 in
set_option maxRecDepth 100000 in
theorem hoggetlaw12_SolverSolves.calls (k : Nat) (a0_0 : Int) (A0_1 : Option Addr) (c0_1 : Nat) (l0_1 : List (List Int)) (r : Bool) (w : World) (hr0_1 : Kd.C (Kd.slice 3 (Kd.int .i64)) w A0_1 l0_1.length l0_1) (hc0_1 : l0_1.length ≤ c0_1) (h : hoggetlaw12_SolverSolves.f k a0_0 l0_1 = some r) :
    Calls Try.prog 13 #[.agg #[.int .i64 a0_0, .slice A0_1 l0_1.length c0_1]] w fun e w' => e = .returned (.bool r) ∧ Below w.heap.size w w' := by
  have hu24 := Try.underlying24
  have hu51 := Try.underlying51
  have HR0_1 := Aside0.mk hr0_1
  have HC0_1 := Aside0.mk hc0_1
  clear hr0_1 hc0_1
  have HB := Aside0.mk (Below.refl w.heap.size w)
  have H : ((hoggetlaw12_large.f k a0_0 l0_1 12).bind fun t639 => (if t639 = true then (some true) else ((hoggetref10_OwnAll.f k l0_1).bind fun t640 => ((solver_Solve.f a0_0 l0_1).bind fun bt644 => ((hoggetref12_Solve.f a0_0 t640).bind fun bt653 => ((hoggetlaw12_solves.f k).bind fun t662 => (if t662 = true then (if bt644.2.2.2 = bt653.2.2.2 then ((hoggetref12_Same.f k bt644.1 bt644.2.1 bt644.2.2.1 bt653.1 bt653.2.1 bt653.2.2.1).bind fun t663 => (if t663 = true then ((solver_Looks.f a0_0 l0_1).bind fun t664 => ((hoggetref12_Looks.f a0_0 t640).bind fun t665 => (if t664 = t665 then ((hoggetref10_Clauses.f k l0_1 t640).bind fun t666 => (some t666)) else (none)))) else (none))) else (none)) else (none)))))))) = some r := h
  clear h
  replace H := Option.bind_eq_some_iff.mp H
  obtain ⟨t639, A20, H⟩ := H
  replace H : (if t639 = true then (some true) else ((hoggetref10_OwnAll.f k l0_1).bind fun t640 => ((solver_Solve.f a0_0 l0_1).bind fun bt644 => ((hoggetref12_Solve.f a0_0 t640).bind fun bt653 => ((hoggetlaw12_solves.f k).bind fun t662 => (if t662 = true then (if bt644.2.2.2 = bt653.2.2.2 then ((hoggetref12_Same.f k bt644.1 bt644.2.1 bt644.2.2.1 bt653.1 bt653.2.1 bt653.2.2.1).bind fun t663 => (if t663 = true then ((solver_Looks.f a0_0 l0_1).bind fun t664 => ((hoggetref12_Looks.f a0_0 t640).bind fun t665 => (if t664 = t665 then ((hoggetref10_Clauses.f k l0_1 t640).bind fun t666 => (some t666)) else (none)))) else (none))) else (none)) else (none))))))) = some r := H
  have A2 := Aside0.mk A20
  clear A20
  by_cases c3 : t639 = true
  · subst c3
    have H1 : (some true) = some r := by rw [if_pos rfl] at H; exact H
    clear H
    have H := H1
    clear H1
    obtain rfl := Option.some.inj H
    go_enter Try.func13, Try.ntmps13
    go_wp2_with (first | ((with_reducible refine gate_dst (N := 1) rfl ?_); refine box_event ?hg (N := 1) ?hd (cs := #[.int .i64 a0_0, .slice A0_1 l0_1.length c0_1]) (t := 24) ?hr ?_; (case hd => rfl); (case hg => rfl); (case hr => first | (go_simp; done) | (go_simp; rfl)); intro gb638 hg w4 hbox hb; have n0_ := Aside0.mk (below_step (by repeat (first | (with_reducible first | exact HB.out | apply below_alloc | apply pw_below_drewN | apply below_drew1) | exact HB.out)) hb); have n1_ := Aside0.mk (hbox); have n2_ := Aside0.mk ((by rw [hg]; exact (below_size (by repeat (first | (with_reducible first | exact HB.out | apply below_alloc | apply pw_below_drewN | apply below_drew1) | exact HB.out))) : w.heap.size ≤ gb638)); have n3_ := Aside0.mk ((by rw [hg]; exact (below_size (by repeat (first | (with_reducible first | exact HB.out | apply below_alloc | apply pw_below_drewN | apply below_drew1) | exact HB.out))) : w.heap.size ≤ gb638)); clear HB; have HB := n0_; have BK638 := n1_; have GW638 := n2_; have GE638 := n3_; clear n0_ n1_ n2_ n3_; clear hb hbox hg; have hcz5_0 : w4.cell? ⟨gb638, 0, none⟩ = some (.int .i64 a0_0) := (blk_cell BK638.out 0).trans rfl; have hcz5_1 : w4.cell? ⟨gb638, 1, none⟩ = some (.slice A0_1 l0_1.length c0_1) := (blk_cell BK638.out 1).trans rfl; have hfz5_0 := blk_frozen BK638.out 0; have hfz5_1 := blk_frozen BK638.out 1) | ((with_reducible refine gate_callee (f := 52) rfl ?_); refine goesL_ (some 9) rfl rfl Try.func52 (by kernel_rfl) rfl #[.agg #[.int .i64 a0_0, .slice A0_1 l0_1.length c0_1], .int .i64 12] rfl (by (try simp only [List.map_toArray, List.map_cons, List.map_nil]); first | done | rfl | (simp only [List.length_drop, List.length_take]; rfl)) ?_; (with_reducible refine (hoggetlaw12_large.calls k a0_0 _ _ l0_1 12 true _ ?side1 ?side2 A2.out).mono ?_); (case side1 => repeat (first | exact (Kd.C_below HR0_1.out HB.out) | (with_reducible refine Kd.C_alloc ?_ _) | (with_reducible refine Kd.C_drewN ?_ _) | (with_reducible refine Kd.C_drew ?_))); (case side2 => exact HC0_1.out); rintro e w6 ⟨rfl, hb⟩; refine ⟨_, rfl, ?_⟩; have n0_ := Aside0.mk (blk_below (g := gb638) (o := .cells #[.int .i64 a0_0, .slice A0_1 l0_1.length c0_1] 24 (0, 0)) (by (with_reducible repeat (first | refine blk_drewN ?_ _ | refine blk_drew ?_ | refine blk_alloc ?_ _)); exact BK638.out) hb); have n1_ := Aside0.mk (below_step (by repeat (first | (with_reducible first | exact HB.out | apply below_alloc | apply pw_below_drewN | apply below_drew1 | refine below_set ?_ GE638.out) | exact HB.out)) hb); clear BK638; clear HB; have BK638 := n0_; have HB := n1_; clear n0_ n1_; (try clear hb); (try clear hb2); (try clear hk); (try clear hi)))
    go_ret
    exact ⟨by first | rfl | (simp [errW_none, errW_some] <;> rfl) | (simp [*, errW_none, errW_some] <;> rfl), by repeat (first | (with_reducible first | exact HB.out | apply below_alloc | apply pw_below_drewN | apply below_drew1 | refine below_set ?_ GE638.out) | exact HB.out)⟩
  · replace c3 := Bool.eq_false_iff.mpr c3
    subst c3
    have H1 : ((hoggetref10_OwnAll.f k l0_1).bind fun t640 => ((solver_Solve.f a0_0 l0_1).bind fun bt644 => ((hoggetref12_Solve.f a0_0 t640).bind fun bt653 => ((hoggetlaw12_solves.f k).bind fun t662 => (if t662 = true then (if bt644.2.2.2 = bt653.2.2.2 then ((hoggetref12_Same.f k bt644.1 bt644.2.1 bt644.2.2.1 bt653.1 bt653.2.1 bt653.2.2.1).bind fun t663 => (if t663 = true then ((solver_Looks.f a0_0 l0_1).bind fun t664 => ((hoggetref12_Looks.f a0_0 t640).bind fun t665 => (if t664 = t665 then ((hoggetref10_Clauses.f k l0_1 t640).bind fun t666 => (some t666)) else (none)))) else (none))) else (none)) else (none)))))) = some r := by rw [if_neg (show ¬ (false = true) by decide)] at H; exact H
    clear H
    have H := H1
    clear H1
    replace H := Option.bind_eq_some_iff.mp H
    obtain ⟨t640, A70, H⟩ := H
    replace H : ((solver_Solve.f a0_0 l0_1).bind fun bt644 => ((hoggetref12_Solve.f a0_0 t640).bind fun bt653 => ((hoggetlaw12_solves.f k).bind fun t662 => (if t662 = true then (if bt644.2.2.2 = bt653.2.2.2 then ((hoggetref12_Same.f k bt644.1 bt644.2.1 bt644.2.2.1 bt653.1 bt653.2.1 bt653.2.2.1).bind fun t663 => (if t663 = true then ((solver_Looks.f a0_0 l0_1).bind fun t664 => ((hoggetref12_Looks.f a0_0 t640).bind fun t665 => (if t664 = t665 then ((hoggetref10_Clauses.f k l0_1 t640).bind fun t666 => (some t666)) else (none)))) else (none))) else (none)) else (none))))) = some r := H
    have A7 := Aside0.mk A70
    clear A70
    replace H := Option.bind_eq_some_iff.mp H
    obtain ⟨⟨t644, t645, t648, t651⟩, A80, H⟩ := H
    replace H : ((hoggetref12_Solve.f a0_0 t640).bind fun bt653 => ((hoggetlaw12_solves.f k).bind fun t662 => (if t662 = true then (if t651 = bt653.2.2.2 then ((hoggetref12_Same.f k t644 t645 t648 bt653.1 bt653.2.1 bt653.2.2.1).bind fun t663 => (if t663 = true then ((solver_Looks.f a0_0 l0_1).bind fun t664 => ((hoggetref12_Looks.f a0_0 t640).bind fun t665 => (if t664 = t665 then ((hoggetref10_Clauses.f k l0_1 t640).bind fun t666 => (some t666)) else (none)))) else (none))) else (none)) else (none)))) = some r := H
    have A8 := Aside0.mk A80
    clear A80
    replace H := Option.bind_eq_some_iff.mp H
    obtain ⟨⟨t653, t654, t657, t660⟩, A90, H⟩ := H
    replace H : ((hoggetlaw12_solves.f k).bind fun t662 => (if t662 = true then (if t651 = t660 then ((hoggetref12_Same.f k t644 t645 t648 t653 t654 t657).bind fun t663 => (if t663 = true then ((solver_Looks.f a0_0 l0_1).bind fun t664 => ((hoggetref12_Looks.f a0_0 t640).bind fun t665 => (if t664 = t665 then ((hoggetref10_Clauses.f k l0_1 t640).bind fun t666 => (some t666)) else (none)))) else (none))) else (none)) else (none))) = some r := H
    have A9 := Aside0.mk A90
    clear A90
    replace H := Option.bind_eq_some_iff.mp H
    obtain ⟨t662, A100, H⟩ := H
    replace H : (if t662 = true then (if t651 = t660 then ((hoggetref12_Same.f k t644 t645 t648 t653 t654 t657).bind fun t663 => (if t663 = true then ((solver_Looks.f a0_0 l0_1).bind fun t664 => ((hoggetref12_Looks.f a0_0 t640).bind fun t665 => (if t664 = t665 then ((hoggetref10_Clauses.f k l0_1 t640).bind fun t666 => (some t666)) else (none)))) else (none))) else (none)) else (none)) = some r := H
    have A10 := Aside0.mk A100
    clear A100
    by_cases c11 : t662 = true
    · subst c11
      have H1 : (if t651 = t660 then ((hoggetref12_Same.f k t644 t645 t648 t653 t654 t657).bind fun t663 => (if t663 = true then ((solver_Looks.f a0_0 l0_1).bind fun t664 => ((hoggetref12_Looks.f a0_0 t640).bind fun t665 => (if t664 = t665 then ((hoggetref10_Clauses.f k l0_1 t640).bind fun t666 => (some t666)) else (none)))) else (none))) else (none)) = some r := by rw [if_pos rfl] at H; exact H
      clear H
      have H := H1
      clear H1
      by_cases c12 : t651 = t660
      · rw [if_pos c12] at H
        have c12b0 : (t651 == t660) = true := beq_iff_eq.mpr c12
        have c12b1 : (t651 != t660) = false := bne_eq_false_iff_eq.mpr c12
        clear c12
        replace H := Option.bind_eq_some_iff.mp H
        obtain ⟨t663, A130, H⟩ := H
        replace H : (if t663 = true then ((solver_Looks.f a0_0 l0_1).bind fun t664 => ((hoggetref12_Looks.f a0_0 t640).bind fun t665 => (if t664 = t665 then ((hoggetref10_Clauses.f k l0_1 t640).bind fun t666 => (some t666)) else (none)))) else (none)) = some r := H
        have A13 := Aside0.mk A130
        clear A130
        by_cases c14 : t663 = true
        · subst c14
          have H1 : ((solver_Looks.f a0_0 l0_1).bind fun t664 => ((hoggetref12_Looks.f a0_0 t640).bind fun t665 => (if t664 = t665 then ((hoggetref10_Clauses.f k l0_1 t640).bind fun t666 => (some t666)) else (none)))) = some r := by rw [if_pos rfl] at H; exact H
          clear H
          have H := H1
          clear H1
          replace H := Option.bind_eq_some_iff.mp H
          obtain ⟨t664, A150, H⟩ := H
          replace H : ((hoggetref12_Looks.f a0_0 t640).bind fun t665 => (if t664 = t665 then ((hoggetref10_Clauses.f k l0_1 t640).bind fun t666 => (some t666)) else (none))) = some r := H
          have A15 := Aside0.mk A150
          clear A150
          replace H := Option.bind_eq_some_iff.mp H
          obtain ⟨t665, A160, H⟩ := H
          replace H : (if t664 = t665 then ((hoggetref10_Clauses.f k l0_1 t640).bind fun t666 => (some t666)) else (none)) = some r := H
          have A16 := Aside0.mk A160
          clear A160
          by_cases c17 : t664 = t665
          · rw [if_pos c17] at H
            have c17b0 : (t664 == t665) = true := beq_iff_eq.mpr c17
            have c17b1 : (t664 != t665) = false := bne_eq_false_iff_eq.mpr c17
            clear c17
            replace H := Option.bind_eq_some_iff.mp H
            obtain ⟨t666, A180, H⟩ := H
            replace H : (some t666) = some r := H
            have A18 := Aside0.mk A180
            clear A180
            obtain rfl := Option.some.inj H
            go_enter Try.func13, Try.ntmps13
            try go_wp2_with (first | ((with_reducible refine gate_dst (N := 1) rfl ?_); refine box_event ?hg (N := 1) ?hd (cs := #[.int .i64 a0_0, .slice A0_1 l0_1.length c0_1]) (t := 24) ?hr ?_; (case hd => rfl); (case hg => rfl); (case hr => first | (go_simp; done) | (go_simp; rfl)); intro gb638 hg w19 hbox hb; have n0_ := Aside0.mk (below_step (by repeat (first | (with_reducible first | exact HB.out | apply below_alloc | apply pw_below_drewN | apply below_drew1) | exact HB.out)) hb); have n1_ := Aside0.mk (hbox); have n2_ := Aside0.mk ((by rw [hg]; exact (below_size (by repeat (first | (with_reducible first | exact HB.out | apply below_alloc | apply pw_below_drewN | apply below_drew1) | exact HB.out))) : w.heap.size ≤ gb638)); have n3_ := Aside0.mk ((by rw [hg]; exact (below_size (by repeat (first | (with_reducible first | exact HB.out | apply below_alloc | apply pw_below_drewN | apply below_drew1) | exact HB.out))) : w.heap.size ≤ gb638)); clear HB; have HB := n0_; have BK638 := n1_; have GW638 := n2_; have GE638 := n3_; clear n0_ n1_ n2_ n3_; clear hb hbox hg; have hcz20_0 : w19.cell? ⟨gb638, 0, none⟩ = some (.int .i64 a0_0) := (blk_cell BK638.out 0).trans rfl; have hcz20_1 : w19.cell? ⟨gb638, 1, none⟩ = some (.slice A0_1 l0_1.length c0_1) := (blk_cell BK638.out 1).trans rfl; have hfz20_0 := blk_frozen BK638.out 0; have hfz20_1 := blk_frozen BK638.out 1) | ((with_reducible refine gate_callee (f := 52) rfl ?_); refine goesL_ (some 9) rfl rfl Try.func52 (by kernel_rfl) rfl #[.agg #[.int .i64 a0_0, .slice A0_1 l0_1.length c0_1], .int .i64 12] rfl (by (try simp only [List.map_toArray, List.map_cons, List.map_nil]); first | done | rfl | (simp only [List.length_drop, List.length_take]; rfl)) ?_; (with_reducible refine (hoggetlaw12_large.calls k a0_0 _ _ l0_1 12 false _ ?side1 ?side2 A2.out).mono ?_); (case side1 => repeat (first | exact (Kd.C_below HR0_1.out HB.out) | (with_reducible refine Kd.C_alloc ?_ _) | (with_reducible refine Kd.C_drewN ?_ _) | (with_reducible refine Kd.C_drew ?_))); (case side2 => exact HC0_1.out); rintro e w21 ⟨rfl, hb⟩; refine ⟨_, rfl, ?_⟩; have n0_ := Aside0.mk (blk_below (g := gb638) (o := .cells #[.int .i64 a0_0, .slice A0_1 l0_1.length c0_1] 24 (0, 0)) (by (with_reducible repeat (first | refine blk_drewN ?_ _ | refine blk_drew ?_ | refine blk_alloc ?_ _)); exact BK638.out) hb); have n1_ := Aside0.mk (below_step (by repeat (first | (with_reducible first | exact HB.out | apply below_alloc | apply pw_below_drewN | apply below_drew1 | refine below_set ?_ GE638.out) | exact HB.out)) hb); clear BK638; clear HB; have BK638 := n0_; have HB := n1_; clear n0_ n1_; (try clear hb); (try clear hb2); (try clear hk); (try clear hi)))
            have n0_ := Aside0.mk (blk_drew BK638.out)
            have n1_ := Aside0.mk (below_drew1 HB.out)
            clear BK638
            clear HB
            have BK638 := n0_
            have HB := n1_
            clear n0_ n1_
            refine start_ (n := 8) (S := fun w' => w'.cell? ⟨gb638, 0, none⟩ = some (.int .i64 a0_0) ∧ w'.cell? ⟨gb638, 1, none⟩ = some (.slice A0_1 l0_1.length c0_1)) (ds := []) #[false, false, false, false, false, false, false, false] (by kernel_rfl) rfl rfl ⟨(blk_cell BK638.out 0).trans rfl, (blk_cell BK638.out 1).trans rfl⟩ (fun hHeld => ?_); refine with_tabW hoggetlaw12_SolverSolves.tab3 hoggetlaw12_SolverSolves.bits3 (fun HT_ HW_ => ?_)
            generalize w21.drew = w22 at BK638 HB hHeld ⊢
            refine pure_ (i := 0) (N := some 10) (v := ?_) (a' := ?_) #[true, false, false, false, false, false, false, false] rfl rfl (any_of HT_.out (by kernel_rfl)) (fun _ _ _ h => h) (Or.inl ⟨by rfl, ?_⟩) ?_ ?_
            rotate_left
            · intro w'
              go_simp
              with_reducible rfl
            rotate_left
            · simp only [Act.put, List.setIfInBounds_toArray, List.set_cons_zero, List.set_cons_succ, i64_w, i32_w]
              rfl
            refine pure_ (i := 2) (N := some 12) (v := ?_) (a' := ?_) #[true, false, true, false, false, false, false, false] rfl rfl (any_of HT_.out (by kernel_rfl)) (fun _ _ _ h => h) (Or.inl ⟨by rfl, ?_⟩) ?_ ?_
            rotate_left
            · intro w'
              go_simp
              with_reducible rfl
            rotate_left
            · simp only [Act.put, List.setIfInBounds_toArray, List.set_cons_zero, List.set_cons_succ, i64_w, i32_w]
              rfl
            refine take_ (i := 1) (N := some 11) (v := ?_) (a' := ?_) #[true, true, true, false, false, false, false, false] rfl rfl (take_ofW HT_.out HW_.out (by kernel_rfl)) (fun _ _ _ h => h) (Or.inl ⟨by rfl, ?_⟩) hHeld ?_ ?_
            rotate_left
            · rintro w' ⟨s0, s1⟩
              go_simp
              with_reducible rfl
            rotate_left
            · simp only [Act.put, List.setIfInBounds_toArray, List.set_cons_zero, List.set_cons_succ, i64_w, i32_w]
              rfl
            refine take_ (i := 3) (N := some 13) (v := ?_) (a' := ?_) #[true, true, true, true, false, false, false, false] rfl rfl (take_ofW HT_.out HW_.out (by kernel_rfl)) (fun _ _ _ h => h) (Or.inl ⟨by rfl, ?_⟩) hHeld ?_ ?_
            rotate_left
            · rintro w' ⟨s0, s1⟩
              go_simp
              with_reducible rfl
            rotate_left
            · simp only [Act.put, List.setIfInBounds_toArray, List.set_cons_zero, List.set_cons_succ, i64_w, i32_w]
              rfl
            refine join_ (σ := Value × Nat) 1 #[true, true, true, true, true, true, true, false] (fun s_ => [(14, s_.1), (3, .pointer (some ⟨s_.2, 0, none⟩)), (15, .agg #[.int .i64 a0_0, s_.1])]) (fun s_ w' => (w'.cell? ⟨gb638, 0, none⟩ = some (.int .i64 a0_0) ∧ w'.cell? ⟨gb638, 1, none⟩ = some (.slice A0_1 l0_1.length c0_1)) ∧ (Kd.S (Kd.slice 3 (Kd.int .i64)) 25 w' w.heap.size (fun _ => True) s_.1 t640) ∧ (w'.heap[gb638]? = some (.cells #[.int .i64 a0_0, .slice A0_1 l0_1.length c0_1] 24 (0, 0))) ∧ (w'.heap[s_.2]? = some (.cells #[.int .i64 0, .slice none 0 0] 24 (0, 0))) ∧ (w.heap.size ≤ s_.2) ∧ (w.heap.size ≤ s_.2) ∧ (gb638 ≠ s_.2) ∧ (s_.2 ≠ gb638) ∧ (Below w.heap.size w w')) ?_ ?_
            rotate_left
            · intro hCont
              refine two_ (i := 4) (j := 6) (Ni := some 14) (Nj := some 3) #[true, true, true, true, true, false, false, false] #[true, true, true, true, false, false, true, false] rfl rfl rfl rfl (two_of HT_.out (by kernel_rfl)) (by decide) (by decide) (fun K hK => ?_) (fun K hK => ?_)
              · skip
                refine goes_ Try.func33 (by kernel_rfl) rfl #[.slice A0_1 l0_1.length c0_1] (by rfl) rfl rfl (by (try simp only [List.map_toArray, List.map_cons, List.map_nil]); first | done | rfl | (simp only [List.length_drop, List.length_take]; rfl)) ?_
                with_reducible refine (hoggetref10_OwnAll.calls k _ _ l0_1 t640 _ ?side1 ?side2 A7.out).mono ?_
                (case side1 => repeat (first | exact (Kd.C_below HR0_1.out HB.out) | (with_reducible refine Kd.C_alloc ?_ _) | (with_reducible refine Kd.C_drewN ?_ _) | (with_reducible refine Kd.C_drew ?_)))
                (case side2 => exact HC0_1.out)
                rintro e w23 ⟨v641, rfl, ho0, hb⟩
                refine ⟨_, rfl, ?_⟩
                have n0_ := Aside0.mk (Kd.S_lower ho0 (below_size (by repeat (first | (with_reducible first | exact HB.out | apply below_alloc | apply pw_below_drewN | apply below_drew1 | refine below_set ?_ GE638.out) | exact HB.out))))
                have n1_ := Aside0.mk (blk_below (g := gb638) (o := .cells #[.int .i64 a0_0, .slice A0_1 l0_1.length c0_1] 24 (0, 0)) (by (with_reducible repeat (first | refine blk_drewN ?_ _ | refine blk_drew ?_ | refine blk_alloc ?_ _)); exact BK638.out) hb)
                have n2_ := Aside0.mk (below_step (by repeat (first | (with_reducible first | exact HB.out | apply below_alloc | apply pw_below_drewN | apply below_drew1 | refine below_set ?_ GE638.out) | exact HB.out)) hb)
                clear BK638
                clear HB
                have HO642 := n0_
                have BK638 := n1_
                have HB := n2_
                clear n0_ n1_ n2_
                (try clear hb)
                (try clear hb2)
                (try clear hk)
                (try clear hi)
                (try clear ho0)
                obtain ⟨Ao24, co24, eo24⟩ := Kd.S_slice HO642.out
                (first | subst eo24 | (injection eo24 with f1_ f2_ f3_; have f4_ := f1_.symm; have f5_ := f3_.symm; clear f1_ f2_ f3_; subst f4_; subst f5_))
                refine hK.out _ _ ⟨(blk_cell BK638.out 0).trans rfl, (blk_cell BK638.out 1).trans rfl⟩ (fun hHeld => ?_)
                clear hK K
                refine norm_ (a' := ?_) ?_ ?_
                rotate_left
                · show Act.put _ (some 14) _ = _
                  simp only [Act.put, List.setIfInBounds_toArray, List.set_cons_zero, List.set_cons_succ, i64_w, i32_w]
                  rfl
                refine pure_ (i := 5) (N := some 15) (v := ?_) (a' := ?_) #[true, true, true, true, true, true, false, false] rfl rfl (any_of HT_.out (by kernel_rfl)) (fun _ _ _ h => h) (Or.inl ⟨by rfl, ?_⟩) ?_ ?_
                rotate_left
                · intro w'
                  go_simp
                  with_reducible rfl
                rotate_left
                · simp only [Act.put, List.setIfInBounds_toArray, List.set_cons_zero, List.set_cons_succ, i64_w, i32_w]
                  rfl
                refine one_ (i := 6) (N := some 3) #[true, true, true, true, true, true, true, false] rfl rfl (one_of HT_.out (by kernel_rfl)) (by decide) (fun K hK => ?_)
                refine box_step ?hg (N := 3) ?hd (cs := #[.int .i64 0, .slice none 0 0]) (t := 24) ?hr ?_; (case hd => rfl); (case hg => rfl); (case hr => first | (go_simp; done) | (go_simp; rfl))
                intro gb643 hg w25 hbox hb
                have n0_ := Aside0.mk (Kd.S_below (by (with_reducible repeat (first | apply Kd.S_alloc | apply Kd.S_drewN | apply Kd.S_drew)); exact HO642.out) hb)
                have n1_ := Aside0.mk (blk_below (g := gb638) (o := .cells #[.int .i64 a0_0, .slice A0_1 l0_1.length c0_1] 24 (0, 0)) (by (with_reducible repeat (first | refine blk_drewN ?_ _ | refine blk_drew ?_ | refine blk_alloc ?_ _)); exact BK638.out) hb)
                have n2_ := Aside0.mk (below_step (by repeat (first | (with_reducible first | exact HB.out | apply below_alloc | apply pw_below_drewN | apply below_drew1 | refine below_set ?_ GE638.out) | exact HB.out)) hb)
                have n3_ := Aside0.mk (hbox)
                have n4_ := Aside0.mk ((by rw [hg]; exact (below_size (by repeat (first | (with_reducible first | exact HB.out | apply below_alloc | apply pw_below_drewN | apply below_drew1 | refine below_set ?_ GE638.out) | exact HB.out))) : w.heap.size ≤ gb643))
                have n5_ := Aside0.mk ((by rw [hg]; exact (below_size (by repeat (first | (with_reducible first | exact HB.out | apply below_alloc | apply pw_below_drewN | apply below_drew1 | refine below_set ?_ GE638.out) | exact HB.out))) : w.heap.size ≤ gb643))
                have n6_ := Aside0.mk ((by rw [hg]; exact Nat.ne_of_lt (blk_lt (g := gb638) (o := .cells #[.int .i64 a0_0, .slice A0_1 l0_1.length c0_1] 24 (0, 0)) (by (with_reducible repeat (first | refine blk_drewN ?_ _ | refine blk_drew ?_ | refine blk_alloc ?_ _)); exact BK638.out)) : gb638 ≠ gb643))
                have n7_ := Aside0.mk ((by rw [hg]; exact Nat.ne_of_gt (blk_lt (g := gb638) (o := .cells #[.int .i64 a0_0, .slice A0_1 l0_1.length c0_1] 24 (0, 0)) (by (with_reducible repeat (first | refine blk_drewN ?_ _ | refine blk_drew ?_ | refine blk_alloc ?_ _)); exact BK638.out)) : gb643 ≠ gb638))
                clear HO642
                clear BK638
                clear HB
                have HO642 := n0_
                have BK638 := n1_
                have HB := n2_
                have BK643 := n3_
                have GW643 := n4_
                have GE643 := n5_
                have NB638_643 := n6_
                have NB643_638 := n7_
                clear n0_ n1_ n2_ n3_ n4_ n5_ n6_ n7_
                clear hb hbox hg
                refine hK.out _ _ ⟨(blk_cell BK638.out 0).trans rfl, (blk_cell BK638.out 1).trans rfl⟩ (fun hHeld => ?_)
                clear hK K
                refine norm_ (a' := ?_) ?_ ?_
                rotate_left
                · show Act.put _ (some 3) _ = _
                  simp only [Act.put, List.setIfInBounds_toArray, List.set_cons_zero, List.set_cons_succ, i64_w, i32_w]
                  rfl
                exact norm_ (by simp only [putAll, Act.put, List.setIfInBounds_toArray, List.set_cons_zero, List.set_cons_succ]) (hCont (.slice Ao24 t640.length co24, gb643) _ ⟨hHeld, (by (with_reducible repeat (first | apply Kd.S_alloc | apply Kd.S_drewN | apply Kd.S_drew)); exact HO642.out), (by (with_reducible repeat (first | refine blk_drewN ?_ _ | refine blk_drew ?_ | refine blk_alloc ?_ _)); exact BK638.out), (by (with_reducible repeat (first | refine blk_drewN ?_ _ | refine blk_drew ?_ | refine blk_alloc ?_ _)); exact BK643.out), GW643.out, GE643.out, NB638_643.out, NB643_638.out, (by repeat (first | (with_reducible first | exact HB.out | apply below_alloc | apply pw_below_drewN | apply below_drew1 | refine below_set ?_ GE638.out | refine below_set ?_ GE643.out) | exact HB.out))⟩)
              · skip
                refine box_step ?hg (N := 3) ?hd (cs := #[.int .i64 0, .slice none 0 0]) (t := 24) ?hr ?_; (case hd => rfl); (case hg => rfl); (case hr => first | (go_simp; done) | (go_simp; rfl))
                intro gb643 hg w23 hbox hb
                have n0_ := Aside0.mk (blk_below (g := gb638) (o := .cells #[.int .i64 a0_0, .slice A0_1 l0_1.length c0_1] 24 (0, 0)) (by (with_reducible repeat (first | refine blk_drewN ?_ _ | refine blk_drew ?_ | refine blk_alloc ?_ _)); exact BK638.out) hb)
                have n1_ := Aside0.mk (below_step (by repeat (first | (with_reducible first | exact HB.out | apply below_alloc | apply pw_below_drewN | apply below_drew1 | refine below_set ?_ GE638.out) | exact HB.out)) hb)
                have n2_ := Aside0.mk (hbox)
                have n3_ := Aside0.mk ((by rw [hg]; exact (below_size (by repeat (first | (with_reducible first | exact HB.out | apply below_alloc | apply pw_below_drewN | apply below_drew1 | refine below_set ?_ GE638.out) | exact HB.out))) : w.heap.size ≤ gb643))
                have n4_ := Aside0.mk ((by rw [hg]; exact (below_size (by repeat (first | (with_reducible first | exact HB.out | apply below_alloc | apply pw_below_drewN | apply below_drew1 | refine below_set ?_ GE638.out) | exact HB.out))) : w.heap.size ≤ gb643))
                have n5_ := Aside0.mk ((by rw [hg]; exact Nat.ne_of_lt (blk_lt (g := gb638) (o := .cells #[.int .i64 a0_0, .slice A0_1 l0_1.length c0_1] 24 (0, 0)) (by (with_reducible repeat (first | refine blk_drewN ?_ _ | refine blk_drew ?_ | refine blk_alloc ?_ _)); exact BK638.out)) : gb638 ≠ gb643))
                have n6_ := Aside0.mk ((by rw [hg]; exact Nat.ne_of_gt (blk_lt (g := gb638) (o := .cells #[.int .i64 a0_0, .slice A0_1 l0_1.length c0_1] 24 (0, 0)) (by (with_reducible repeat (first | refine blk_drewN ?_ _ | refine blk_drew ?_ | refine blk_alloc ?_ _)); exact BK638.out)) : gb643 ≠ gb638))
                clear BK638
                clear HB
                have BK638 := n0_
                have HB := n1_
                have BK643 := n2_
                have GW643 := n3_
                have GE643 := n4_
                have NB638_643 := n5_
                have NB643_638 := n6_
                clear n0_ n1_ n2_ n3_ n4_ n5_ n6_
                clear hb hbox hg
                refine hK.out _ _ ⟨(blk_cell BK638.out 0).trans rfl, (blk_cell BK638.out 1).trans rfl⟩ (fun hHeld => ?_)
                clear hK K
                refine norm_ (a' := ?_) ?_ ?_
                rotate_left
                · show Act.put _ (some 3) _ = _
                  simp only [Act.put, List.setIfInBounds_toArray, List.set_cons_zero, List.set_cons_succ, i64_w, i32_w]
                  rfl
                refine one_ (i := 4) (N := some 14) #[true, true, true, true, true, false, true, false] rfl rfl (one_of HT_.out (by kernel_rfl)) (by decide) (fun K hK => ?_)
                refine goes_ Try.func33 (by kernel_rfl) rfl #[.slice A0_1 l0_1.length c0_1] (by rfl) rfl rfl (by (try simp only [List.map_toArray, List.map_cons, List.map_nil]); first | done | rfl | (simp only [List.length_drop, List.length_take]; rfl)) ?_
                with_reducible refine (hoggetref10_OwnAll.calls k _ _ l0_1 t640 _ ?side1 ?side2 A7.out).mono ?_
                (case side1 => repeat (first | exact (Kd.C_below HR0_1.out HB.out) | (with_reducible refine Kd.C_alloc ?_ _) | (with_reducible refine Kd.C_drewN ?_ _) | (with_reducible refine Kd.C_drew ?_)))
                (case side2 => exact HC0_1.out)
                rintro e w24 ⟨v641, rfl, ho0, hb⟩
                refine ⟨_, rfl, ?_⟩
                have n0_ := Aside0.mk (Kd.S_lower ho0 (below_size (by repeat (first | (with_reducible first | exact HB.out | apply below_alloc | apply pw_below_drewN | apply below_drew1 | refine below_set ?_ GE638.out | refine below_set ?_ GE643.out) | exact HB.out))))
                have n1_ := Aside0.mk (blk_below (g := gb638) (o := .cells #[.int .i64 a0_0, .slice A0_1 l0_1.length c0_1] 24 (0, 0)) (by (with_reducible repeat (first | refine blk_drewN ?_ _ | refine blk_drew ?_ | refine blk_alloc ?_ _)); exact BK638.out) hb)
                have n2_ := Aside0.mk (blk_below (g := gb643) (o := .cells #[.int .i64 0, .slice none 0 0] 24 (0, 0)) (by (with_reducible repeat (first | refine blk_drewN ?_ _ | refine blk_drew ?_ | refine blk_alloc ?_ _)); exact BK643.out) hb)
                have n3_ := Aside0.mk (below_step (by repeat (first | (with_reducible first | exact HB.out | apply below_alloc | apply pw_below_drewN | apply below_drew1 | refine below_set ?_ GE638.out | refine below_set ?_ GE643.out) | exact HB.out)) hb)
                clear BK638
                clear BK643
                clear HB
                have HO642 := n0_
                have BK638 := n1_
                have BK643 := n2_
                have HB := n3_
                clear n0_ n1_ n2_ n3_
                (try clear hb)
                (try clear hb2)
                (try clear hk)
                (try clear hi)
                (try clear ho0)
                obtain ⟨Ao25, co25, eo25⟩ := Kd.S_slice HO642.out
                (first | subst eo25 | (injection eo25 with f1_ f2_ f3_; have f4_ := f1_.symm; have f5_ := f3_.symm; clear f1_ f2_ f3_; subst f4_; subst f5_))
                refine hK.out _ _ ⟨(blk_cell BK638.out 0).trans rfl, (blk_cell BK638.out 1).trans rfl⟩ (fun hHeld => ?_)
                clear hK K
                refine norm_ (a' := ?_) ?_ ?_
                rotate_left
                · show Act.put _ (some 14) _ = _
                  simp only [Act.put, List.setIfInBounds_toArray, List.set_cons_zero, List.set_cons_succ, i64_w, i32_w]
                  rfl
                refine pure_ (i := 5) (N := some 15) (v := ?_) (a' := ?_) #[true, true, true, true, true, true, true, false] rfl rfl (any_of HT_.out (by kernel_rfl)) (fun _ _ _ h => h) (Or.inl ⟨by rfl, ?_⟩) ?_ ?_
                rotate_left
                · intro w'
                  go_simp
                  with_reducible rfl
                rotate_left
                · simp only [Act.put, List.setIfInBounds_toArray, List.set_cons_zero, List.set_cons_succ, i64_w, i32_w]
                  rfl
                exact norm_ (by simp only [putAll, Act.put, List.setIfInBounds_toArray, List.set_cons_zero, List.set_cons_succ]) (hCont (.slice Ao25 t640.length co25, gb643) _ ⟨hHeld, (by (with_reducible repeat (first | apply Kd.S_alloc | apply Kd.S_drewN | apply Kd.S_drew)); exact HO642.out), (by (with_reducible repeat (first | refine blk_drewN ?_ _ | refine blk_drew ?_ | refine blk_alloc ?_ _)); exact BK638.out), (by (with_reducible repeat (first | refine blk_drewN ?_ _ | refine blk_drew ?_ | refine blk_alloc ?_ _)); exact BK643.out), GW643.out, GE643.out, NB638_643.out, NB643_638.out, (by repeat (first | (with_reducible first | exact HB.out | apply below_alloc | apply pw_below_drewN | apply below_drew1 | refine below_set ?_ GE638.out | refine below_set ?_ GE643.out) | exact HB.out))⟩)
            rintro ⟨v641, gb643⟩ w26 ⟨hS_, h0_, h1_, h2_, h3_, h4_, h5_, h6_, h7_⟩
            have n0_ : Aside0 (Kd.S (Kd.slice 3 (Kd.int .i64)) 25 w26 w.heap.size (fun _ => True) v641 t640) := ⟨h0_⟩
            have n1_ : Aside0 (w26.heap[gb638]? = some (.cells #[.int .i64 a0_0, .slice A0_1 l0_1.length c0_1] 24 (0, 0))) := ⟨h1_⟩
            have n2_ : Aside0 (w26.heap[gb643]? = some (.cells #[.int .i64 0, .slice none 0 0] 24 (0, 0))) := ⟨h2_⟩
            have n3_ : Aside0 (w.heap.size ≤ gb643) := ⟨h3_⟩
            have n4_ : Aside0 (w.heap.size ≤ gb643) := ⟨h4_⟩
            have n5_ : Aside0 (gb638 ≠ gb643) := ⟨h5_⟩
            have n6_ : Aside0 (gb643 ≠ gb638) := ⟨h6_⟩
            have n7_ : Aside0 (Below w.heap.size w w26) := ⟨h7_⟩
            clear BK638
            clear HB
            clear h0_ h1_ h2_ h3_ h4_ h5_ h6_ h7_
            have HO642 := n0_
            have BK638 := n1_
            have BK643 := n2_
            have GW643 := n3_
            have GE643 := n4_
            have NB638_643 := n5_
            have NB643_638 := n6_
            have HB := n7_
            clear n0_ n1_ n2_ n3_ n4_ n5_ n6_ n7_
            have hHeld : w26.cell? ⟨gb638, 0, none⟩ = some (.int .i64 a0_0) ∧ w26.cell? ⟨gb638, 1, none⟩ = some (.slice A0_1 l0_1.length c0_1) := hS_
            obtain ⟨Ao27, co27, eo27⟩ := Kd.S_slice HO642.out
            (first | subst eo27 | (injection eo27 with f1_ f2_ f3_; have f4_ := f1_.symm; have f5_ := f3_.symm; clear f1_ f2_ f3_; subst f4_; subst f5_))
            refine norm_ (a' := ?_) ?_ ?_
            rotate_left
            · simp only [putAll, Act.put, List.setIfInBounds_toArray, List.set_cons_zero, List.set_cons_succ]
              rfl
            refine one_ (i := 7) (N := none) #[true, true, true, true, true, true, true, true] rfl rfl (one_of HT_.out (by kernel_rfl)) (by decide) (fun K hK => ?_)
            have hs28 : w26.cell? ⟨gb643, 0, none⟩ = some (.int .i64 0) := (blk_cell BK643.out 0).trans rfl
            have hfs28 := blk_frozen BK643.out 0
            have hns28_0 := NB638_643.out
            have hms28_0 := NB643_638.out
            have hs29 : w26.cell? ⟨gb643, 1, none⟩ = some (.slice none 0 0) := (blk_cell BK643.out 1).trans rfl
            have hfs29 := blk_frozen BK643.out 1
            have hns29_0 := NB638_643.out
            have hms29_0 := NB643_638.out
            refine skip_ (w1 := ?_) (by rfl) rfl ?_ ?_
            rotate_left
            · go_simp
              rfl
            refine hK.out _ _ ⟨((cell_far (p := ⟨gb643, _, none⟩) NB638_643.out _).trans (((cell_far (p := ⟨gb643, _, none⟩) NB638_643.out _).trans (hHeld.1)))), ((cell_far (p := ⟨gb643, _, none⟩) NB638_643.out _).trans (((cell_far (p := ⟨gb643, _, none⟩) NB638_643.out _).trans (hHeld.2))))⟩ (fun hHeld => ?_)
            clear hK K
            refine done_ (done_of HT_.out (by kernel_rfl)) ?_
            have hnb30 := NB638_643.out
            have hnc30 := NB643_638.out
            have hcz31_0 : w26.cell? ⟨gb638, 0, none⟩ = some (.int .i64 a0_0) := (blk_cell BK638.out 0).trans rfl
            have hcz31_1 : w26.cell? ⟨gb638, 1, none⟩ = some (.slice A0_1 l0_1.length c0_1) := (blk_cell BK638.out 1).trans rfl
            have hfz31_0 := blk_frozen BK638.out 0
            have hfz31_1 := blk_frozen BK638.out 1
            try go_wp2_with (first | ((with_reducible refine gate_callee (f := 53) rfl ?_); refine goesL_ (some 18) rfl rfl Try.func53 (by kernel_rfl) rfl #[.agg #[.int .i64 a0_0, .slice A0_1 l0_1.length c0_1]] rfl (by (try simp only [List.map_toArray, List.map_cons, List.map_nil]); first | done | rfl | (simp only [List.length_drop, List.length_take]; rfl)) ?_; (with_reducible refine (solver_Solve.calls a0_0 _ _ l0_1 t644 t645 t648 t651 _ ?side1 ?side2 A8.out).mono ?_); (case side1 => exact Kd.C_below HR0_1.out (by repeat (first | (with_reducible first | exact HB.out | apply below_alloc | apply pw_below_drewN | apply below_drew1 | refine below_set ?_ GE638.out | refine below_set ?_ GE643.out) | exact HB.out))); (case side2 => exact HC0_1.out); rintro e w32 ⟨v646, v649, rfl, ho0, ho1, hb⟩; refine ⟨_, rfl, ?_⟩; have n0_ := Aside0.mk (Kd.S_elder' (by (with_reducible repeat (first | apply Kd.S_alloc | apply Kd.S_drewN | apply Kd.S_drew)); exact (Kd.S_mono (Kd.S_far (p := ⟨gb643, 1, none⟩) (Kd.S_far (p := ⟨gb643, 0, none⟩) (Kd.S_types HO642.out BK643.out (by decide)) (fun _ hk => hk.2) (.int .i64 a0_0)) (fun _ hk => hk.2) (.slice Ao27 t640.length co27)) (fun _ h_ => h_.1))) (Kd.S_base ho1) hb); have n1_ := Aside0.mk (Kd.R_lower ho0 (below_size (by repeat (first | (with_reducible first | exact HB.out | apply below_alloc | apply pw_below_drewN | apply below_drew1 | refine below_set ?_ GE638.out | refine below_set ?_ GE643.out) | exact HB.out)))); have n2_ := Aside0.mk (Kd.S_lower (Kd.S_new' ho1 (Kd.S_lt (by (with_reducible repeat (first | apply Kd.S_alloc | apply Kd.S_drewN | apply Kd.S_drew)); exact (Kd.S_mono (Kd.S_far (p := ⟨gb643, 1, none⟩) (Kd.S_far (p := ⟨gb643, 0, none⟩) (Kd.S_types HO642.out BK643.out (by decide)) (fun _ hk => hk.2) (.int .i64 a0_0)) (fun _ hk => hk.2) (.slice Ao27 t640.length co27)) (fun _ h_ => h_.1))))) (below_size (by repeat (first | (with_reducible first | exact HB.out | apply below_alloc | apply pw_below_drewN | apply below_drew1 | refine below_set ?_ GE638.out | refine below_set ?_ GE643.out) | exact HB.out)))); have n3_ := Aside0.mk (blk_below (g := gb638) (o := .cells #[.int .i64 a0_0, .slice A0_1 l0_1.length c0_1] 24 (0, 0)) (by (with_reducible repeat (first | refine blk_drewN ?_ _ | refine blk_drew ?_ | refine blk_alloc ?_ _)); refine blk_far ?_ NB638_643.out _; (with_reducible repeat (first | refine blk_drewN ?_ _ | refine blk_drew ?_ | refine blk_alloc ?_ _)); refine blk_far ?_ NB638_643.out _; (with_reducible repeat (first | refine blk_drewN ?_ _ | refine blk_drew ?_ | refine blk_alloc ?_ _)); exact BK638.out) hb); have n4_ := Aside0.mk (blk_below (g := gb643) (o := .cells #[.int .i64 a0_0, .slice Ao27 t640.length co27] 24 (0, 0)) (by (with_reducible repeat (first | refine blk_drewN ?_ _ | refine blk_drew ?_ | refine blk_alloc ?_ _)); refine blk_put (cs := #[.int .i64 a0_0, .slice none 0 0]) ?_ 1 _ rfl; (with_reducible repeat (first | refine blk_drewN ?_ _ | refine blk_drew ?_ | refine blk_alloc ?_ _)); refine blk_put (cs := #[.int .i64 0, .slice none 0 0]) ?_ 0 _ rfl; (with_reducible repeat (first | refine blk_drewN ?_ _ | refine blk_drew ?_ | refine blk_alloc ?_ _)); exact BK643.out) hb); have n5_ := Aside0.mk (below_step (by repeat (first | (with_reducible first | exact HB.out | apply below_alloc | apply pw_below_drewN | apply below_drew1 | refine below_set ?_ GE638.out | refine below_set ?_ GE643.out) | exact HB.out)) hb); clear HO642; clear BK638; clear BK643; clear HB; have HO642 := n0_; have HO647 := n1_; have HO650 := n2_; have BK638 := n3_; have BK643 := n4_; have HB := n5_; clear n0_ n1_ n2_ n3_ n4_ n5_; (try clear hb); (try clear hb2); (try clear hk); (try clear hi); (try clear ho0); (try clear ho1)) | ((with_reducible refine gate_dst (N := 4) rfl ?_); refine box_event ?hg (N := 4) ?hd (cs := #[.bool false, .slice none 0 0, .slice none 0 0]) (t := 51) ?hr ?_; (case hd => rfl); (case hg => rfl); (case hr => first | (go_simp; done) | (go_simp; rfl)); intro gb652 hg w33 hbox hb; have n0_ := Aside0.mk (Kd.S_below (by (with_reducible repeat (first | apply Kd.S_alloc | apply Kd.S_drewN | apply Kd.S_drew)); exact HO642.out) hb); have n1_ := Aside0.mk (Kd.R_below (by (with_reducible repeat (first | apply Kd.R_alloc | apply Kd.R_drewN | apply Kd.R_drew)); exact HO647.out) hb); have n2_ := Aside0.mk (Kd.S_below (by (with_reducible repeat (first | apply Kd.S_alloc | apply Kd.S_drewN | apply Kd.S_drew)); exact HO650.out) hb); have n3_ := Aside0.mk (blk_below (g := gb638) (o := .cells #[.int .i64 a0_0, .slice A0_1 l0_1.length c0_1] 24 (0, 0)) (by (with_reducible repeat (first | refine blk_drewN ?_ _ | refine blk_drew ?_ | refine blk_alloc ?_ _)); exact BK638.out) hb); have n4_ := Aside0.mk (blk_below (g := gb643) (o := .cells #[.int .i64 a0_0, .slice Ao27 t640.length co27] 24 (0, 0)) (by (with_reducible repeat (first | refine blk_drewN ?_ _ | refine blk_drew ?_ | refine blk_alloc ?_ _)); exact BK643.out) hb); have n5_ := Aside0.mk (below_step (by repeat (first | (with_reducible first | exact HB.out | apply below_alloc | apply pw_below_drewN | apply below_drew1 | refine below_set ?_ GE638.out | refine below_set ?_ GE643.out) | exact HB.out)) hb); have n6_ := Aside0.mk (hbox); have n7_ := Aside0.mk ((by rw [hg]; exact (below_size (by repeat (first | (with_reducible first | exact HB.out | apply below_alloc | apply pw_below_drewN | apply below_drew1 | refine below_set ?_ GE638.out | refine below_set ?_ GE643.out) | exact HB.out))) : w.heap.size ≤ gb652)); have n8_ := Aside0.mk ((by rw [hg]; exact (below_size (by repeat (first | (with_reducible first | exact HB.out | apply below_alloc | apply pw_below_drewN | apply below_drew1 | refine below_set ?_ GE638.out | refine below_set ?_ GE643.out) | exact HB.out))) : w.heap.size ≤ gb652)); have n9_ := Aside0.mk ((by rw [hg]; exact Nat.ne_of_lt (blk_lt (g := gb638) (o := .cells #[.int .i64 a0_0, .slice A0_1 l0_1.length c0_1] 24 (0, 0)) (by (with_reducible repeat (first | refine blk_drewN ?_ _ | refine blk_drew ?_ | refine blk_alloc ?_ _)); exact BK638.out)) : gb638 ≠ gb652)); have n10_ := Aside0.mk ((by rw [hg]; exact Nat.ne_of_gt (blk_lt (g := gb638) (o := .cells #[.int .i64 a0_0, .slice A0_1 l0_1.length c0_1] 24 (0, 0)) (by (with_reducible repeat (first | refine blk_drewN ?_ _ | refine blk_drew ?_ | refine blk_alloc ?_ _)); exact BK638.out)) : gb652 ≠ gb638)); have n11_ := Aside0.mk ((by rw [hg]; exact Nat.ne_of_lt (blk_lt (g := gb643) (o := .cells #[.int .i64 a0_0, .slice Ao27 t640.length co27] 24 (0, 0)) (by (with_reducible repeat (first | refine blk_drewN ?_ _ | refine blk_drew ?_ | refine blk_alloc ?_ _)); exact BK643.out)) : gb643 ≠ gb652)); have n12_ := Aside0.mk ((by rw [hg]; exact Nat.ne_of_gt (blk_lt (g := gb643) (o := .cells #[.int .i64 a0_0, .slice Ao27 t640.length co27] 24 (0, 0)) (by (with_reducible repeat (first | refine blk_drewN ?_ _ | refine blk_drew ?_ | refine blk_alloc ?_ _)); exact BK643.out)) : gb652 ≠ gb643)); clear HO642; clear HO647; clear HO650; clear BK638; clear BK643; clear HB; have HO642 := n0_; have HO647 := n1_; have HO650 := n2_; have BK638 := n3_; have BK643 := n4_; have HB := n5_; have BK652 := n6_; have GW652 := n7_; have GE652 := n8_; have NB638_652 := n9_; have NB652_638 := n10_; have NB643_652 := n11_; have NB652_643 := n12_; clear n0_ n1_ n2_ n3_ n4_ n5_ n6_ n7_ n8_ n9_ n10_ n11_ n12_; clear hb hbox hg; have hnb34 := NB652_638.out; have hnc34 := NB638_652.out; have hnb35 := NB652_643.out; have hnc35 := NB643_652.out; have hcz36_0 : w33.cell? ⟨gb652, 0, none⟩ = some (.bool false) := (blk_cell BK652.out 0).trans rfl; have hcz36_1 : w33.cell? ⟨gb652, 1, none⟩ = some (.slice none 0 0) := (blk_cell BK652.out 1).trans rfl; have hcz36_2 : w33.cell? ⟨gb652, 2, none⟩ = some (.slice none 0 0) := (blk_cell BK652.out 2).trans rfl; have hfz36_0 := blk_frozen BK652.out 0; have hfz36_1 := blk_frozen BK652.out 1; have hfz36_2 := blk_frozen BK652.out 2; obtain ⟨Ao37, co37, eo37⟩ := Kd.R_slice HO647.out; subst eo37; obtain ⟨Ao38, co38, eo38⟩ := Kd.S_slice HO650.out; subst eo38; have hcz39_0 : w33.cell? ⟨gb643, 0, none⟩ = some (.int .i64 a0_0) := (blk_cell BK643.out 0).trans rfl; have hcz39_1 : w33.cell? ⟨gb643, 1, none⟩ = some (.slice Ao27 t640.length co27) := (blk_cell BK643.out 1).trans rfl; have hfz39_0 := blk_frozen BK643.out 0; have hfz39_1 := blk_frozen BK643.out 1) | ((with_reducible refine gate_callee (f := 54) rfl ?_); refine goesL_ (some 23) rfl rfl Try.func54 (by kernel_rfl) rfl #[.agg #[.int .i64 a0_0, .slice Ao27 t640.length co27]] rfl (by (try simp only [List.map_toArray, List.map_cons, List.map_nil]); first | done | rfl | (simp only [List.length_drop, List.length_take]; rfl)) ?_; (with_reducible refine (hoggetref12_Solve.calls a0_0 _ _ t640 t653 t654 t657 t660 _ ?side1 ?side2 A9.out).mono ?_); (case side1 => refine (Kd.S_reads' (e := 25) (base := w.heap.size) (ok := fun k_ => (True ∧ some k_ ≠ (.slice Ao38 t648.length co38 : Value).ownBlock)) (n := t640.length) (c := co27) ?_).2.2; exact (by (with_reducible repeat (first | apply Kd.S_alloc | apply Kd.S_drewN | apply Kd.S_drew)); exact (Kd.S_mono (Kd.S_far (p := ⟨gb652, 2, none⟩) (Kd.S_far (p := ⟨gb652, 1, none⟩) (Kd.S_far (p := ⟨gb652, 0, none⟩) (Kd.S_types HO642.out BK652.out (by decide)) (fun _ hk => hk.2) (.bool t644)) (fun _ hk => hk.2) (.slice Ao37 t645.length co37)) (fun _ hk => hk.2) (.slice Ao38 t648.length co38)) (fun _ h_ => h_.1)))); (case side2 => exact (Kd.S_reads' HO642.out).2.1); rintro e w40 ⟨v655, v658, rfl, ho0, ho1, hb⟩; refine ⟨_, rfl, ?_⟩; have n0_ := Aside0.mk (Kd.S_elder' (by (with_reducible repeat (first | apply Kd.S_alloc | apply Kd.S_drewN | apply Kd.S_drew)); exact (Kd.S_mono (Kd.S_far (p := ⟨gb652, 2, none⟩) (Kd.S_far (p := ⟨gb652, 1, none⟩) (Kd.S_far (p := ⟨gb652, 0, none⟩) (Kd.S_types HO642.out BK652.out (by decide)) (fun _ hk => hk.2) (.bool t644)) (fun _ hk => hk.2) (.slice Ao37 t645.length co37)) (fun _ hk => hk.2) (.slice Ao38 t648.length co38)) (fun _ h_ => h_.1))) (Kd.S_base ho1) hb); have n1_ := Aside0.mk (Kd.R_elder' (by (with_reducible repeat (first | apply Kd.R_alloc | apply Kd.R_drewN | apply Kd.R_drew)); exact (Kd.R_mono (Kd.R_far (p := ⟨gb652, 2, none⟩) (Kd.R_far (p := ⟨gb652, 1, none⟩) (Kd.R_far (p := ⟨gb652, 0, none⟩) (Kd.R_types HO647.out BK652.out (by decide)) (fun _ hk => hk.2) (.bool t644)) (fun _ hk => hk.2) (.slice Ao37 t645.length co37)) (fun _ hk => hk.2) (.slice Ao38 t648.length co38)) (fun _ h_ => h_.1))) (Kd.R_base ho0) hb); have n2_ := Aside0.mk (Kd.S_elder' (by (with_reducible repeat (first | apply Kd.S_alloc | apply Kd.S_drewN | apply Kd.S_drew)); exact (Kd.S_mono (Kd.S_far (p := ⟨gb652, 2, none⟩) (Kd.S_far (p := ⟨gb652, 1, none⟩) (Kd.S_far (p := ⟨gb652, 0, none⟩) (Kd.S_types HO650.out BK652.out (by decide)) (fun _ hk => hk.2) (.bool t644)) (fun _ hk => hk.2) (.slice Ao37 t645.length co37)) (fun _ hk => hk.2) (.slice Ao38 t648.length co38)) (fun _ h_ => h_.1))) (Kd.S_base ho1) hb); have n3_ := Aside0.mk (Kd.R_lower (Kd.R_new' ho0 (Kd.R_lt (by (with_reducible repeat (first | apply Kd.R_alloc | apply Kd.R_drewN | apply Kd.R_drew)); exact (Kd.R_mono (Kd.R_far (p := ⟨gb652, 2, none⟩) (Kd.R_far (p := ⟨gb652, 1, none⟩) (Kd.R_far (p := ⟨gb652, 0, none⟩) (Kd.R_types HO647.out BK652.out (by decide)) (fun _ hk => hk.2) (.bool t644)) (fun _ hk => hk.2) (.slice Ao37 t645.length co37)) (fun _ hk => hk.2) (.slice Ao38 t648.length co38)) (fun _ h_ => h_.1))))) (below_size (by repeat (first | (with_reducible first | exact HB.out | apply below_alloc | apply pw_below_drewN | apply below_drew1 | refine below_set ?_ GE638.out | refine below_set ?_ GE643.out | refine below_set ?_ GE652.out) | exact HB.out)))); have n4_ := Aside0.mk (Kd.S_lower (Kd.S_new' (Kd.S_new' ho1 (Kd.S_lt (by (with_reducible repeat (first | apply Kd.S_alloc | apply Kd.S_drewN | apply Kd.S_drew)); exact (Kd.S_mono (Kd.S_far (p := ⟨gb652, 2, none⟩) (Kd.S_far (p := ⟨gb652, 1, none⟩) (Kd.S_far (p := ⟨gb652, 0, none⟩) (Kd.S_types HO642.out BK652.out (by decide)) (fun _ hk => hk.2) (.bool t644)) (fun _ hk => hk.2) (.slice Ao37 t645.length co37)) (fun _ hk => hk.2) (.slice Ao38 t648.length co38)) (fun _ h_ => h_.1))))) (Kd.S_lt (by (with_reducible repeat (first | apply Kd.S_alloc | apply Kd.S_drewN | apply Kd.S_drew)); exact (Kd.S_mono (Kd.S_far (p := ⟨gb652, 2, none⟩) (Kd.S_far (p := ⟨gb652, 1, none⟩) (Kd.S_far (p := ⟨gb652, 0, none⟩) (Kd.S_types HO650.out BK652.out (by decide)) (fun _ hk => hk.2) (.bool t644)) (fun _ hk => hk.2) (.slice Ao37 t645.length co37)) (fun _ hk => hk.2) (.slice Ao38 t648.length co38)) (fun _ h_ => h_.1))))) (below_size (by repeat (first | (with_reducible first | exact HB.out | apply below_alloc | apply pw_below_drewN | apply below_drew1 | refine below_set ?_ GE638.out | refine below_set ?_ GE643.out | refine below_set ?_ GE652.out) | exact HB.out)))); have n5_ := Aside0.mk (blk_below (g := gb638) (o := .cells #[.int .i64 a0_0, .slice A0_1 l0_1.length c0_1] 24 (0, 0)) (by (with_reducible repeat (first | refine blk_drewN ?_ _ | refine blk_drew ?_ | refine blk_alloc ?_ _)); refine blk_far ?_ NB638_652.out _; (with_reducible repeat (first | refine blk_drewN ?_ _ | refine blk_drew ?_ | refine blk_alloc ?_ _)); refine blk_far ?_ NB638_652.out _; (with_reducible repeat (first | refine blk_drewN ?_ _ | refine blk_drew ?_ | refine blk_alloc ?_ _)); refine blk_far ?_ NB638_652.out _; (with_reducible repeat (first | refine blk_drewN ?_ _ | refine blk_drew ?_ | refine blk_alloc ?_ _)); exact BK638.out) hb); have n6_ := Aside0.mk (blk_below (g := gb643) (o := .cells #[.int .i64 a0_0, .slice Ao27 t640.length co27] 24 (0, 0)) (by (with_reducible repeat (first | refine blk_drewN ?_ _ | refine blk_drew ?_ | refine blk_alloc ?_ _)); refine blk_far ?_ NB643_652.out _; (with_reducible repeat (first | refine blk_drewN ?_ _ | refine blk_drew ?_ | refine blk_alloc ?_ _)); refine blk_far ?_ NB643_652.out _; (with_reducible repeat (first | refine blk_drewN ?_ _ | refine blk_drew ?_ | refine blk_alloc ?_ _)); refine blk_far ?_ NB643_652.out _; (with_reducible repeat (first | refine blk_drewN ?_ _ | refine blk_drew ?_ | refine blk_alloc ?_ _)); exact BK643.out) hb); have n7_ := Aside0.mk (blk_below (g := gb652) (o := .cells #[.bool t644, .slice Ao37 t645.length co37, .slice Ao38 t648.length co38] 51 (0, 0)) (by (with_reducible repeat (first | refine blk_drewN ?_ _ | refine blk_drew ?_ | refine blk_alloc ?_ _)); refine blk_put (cs := #[.bool t644, .slice Ao37 t645.length co37, .slice none 0 0]) ?_ 2 _ rfl; (with_reducible repeat (first | refine blk_drewN ?_ _ | refine blk_drew ?_ | refine blk_alloc ?_ _)); refine blk_put (cs := #[.bool t644, .slice none 0 0, .slice none 0 0]) ?_ 1 _ rfl; (with_reducible repeat (first | refine blk_drewN ?_ _ | refine blk_drew ?_ | refine blk_alloc ?_ _)); refine blk_put (cs := #[.bool false, .slice none 0 0, .slice none 0 0]) ?_ 0 _ rfl; (with_reducible repeat (first | refine blk_drewN ?_ _ | refine blk_drew ?_ | refine blk_alloc ?_ _)); exact BK652.out) hb); have n8_ := Aside0.mk (below_step (by repeat (first | (with_reducible first | exact HB.out | apply below_alloc | apply pw_below_drewN | apply below_drew1 | refine below_set ?_ GE638.out | refine below_set ?_ GE643.out | refine below_set ?_ GE652.out) | exact HB.out)) hb); clear HO642; clear HO647; clear HO650; clear BK638; clear BK643; clear BK652; clear HB; have HO642 := n0_; have HO647 := n1_; have HO650 := n2_; have HO656 := n3_; have HO659 := n4_; have BK638 := n5_; have BK643 := n6_; have BK652 := n7_; have HB := n8_; clear n0_ n1_ n2_ n3_ n4_ n5_ n6_ n7_ n8_; (try clear hb); (try clear hb2); (try clear hk); (try clear hi); (try clear ho0); (try clear ho1)) | ((with_reducible refine gate_dst (N := 6) rfl ?_); refine box_event ?hg (N := 6) ?hd (cs := #[.bool false, .slice none 0 0, .slice none 0 0]) (t := 51) ?hr ?_; (case hd => rfl); (case hg => rfl); (case hr => first | (go_simp; done) | (go_simp; rfl)); intro gb661 hg w41 hbox hb; have n0_ := Aside0.mk (Kd.S_below (by (with_reducible repeat (first | apply Kd.S_alloc | apply Kd.S_drewN | apply Kd.S_drew)); exact HO642.out) hb); have n1_ := Aside0.mk (Kd.R_below (by (with_reducible repeat (first | apply Kd.R_alloc | apply Kd.R_drewN | apply Kd.R_drew)); exact HO647.out) hb); have n2_ := Aside0.mk (Kd.S_below (by (with_reducible repeat (first | apply Kd.S_alloc | apply Kd.S_drewN | apply Kd.S_drew)); exact HO650.out) hb); have n3_ := Aside0.mk (Kd.R_below (by (with_reducible repeat (first | apply Kd.R_alloc | apply Kd.R_drewN | apply Kd.R_drew)); exact HO656.out) hb); have n4_ := Aside0.mk (Kd.S_below (by (with_reducible repeat (first | apply Kd.S_alloc | apply Kd.S_drewN | apply Kd.S_drew)); exact HO659.out) hb); have n5_ := Aside0.mk (blk_below (g := gb638) (o := .cells #[.int .i64 a0_0, .slice A0_1 l0_1.length c0_1] 24 (0, 0)) (by (with_reducible repeat (first | refine blk_drewN ?_ _ | refine blk_drew ?_ | refine blk_alloc ?_ _)); exact BK638.out) hb); have n6_ := Aside0.mk (blk_below (g := gb643) (o := .cells #[.int .i64 a0_0, .slice Ao27 t640.length co27] 24 (0, 0)) (by (with_reducible repeat (first | refine blk_drewN ?_ _ | refine blk_drew ?_ | refine blk_alloc ?_ _)); exact BK643.out) hb); have n7_ := Aside0.mk (blk_below (g := gb652) (o := .cells #[.bool t644, .slice Ao37 t645.length co37, .slice Ao38 t648.length co38] 51 (0, 0)) (by (with_reducible repeat (first | refine blk_drewN ?_ _ | refine blk_drew ?_ | refine blk_alloc ?_ _)); exact BK652.out) hb); have n8_ := Aside0.mk (below_step (by repeat (first | (with_reducible first | exact HB.out | apply below_alloc | apply pw_below_drewN | apply below_drew1 | refine below_set ?_ GE638.out | refine below_set ?_ GE643.out | refine below_set ?_ GE652.out) | exact HB.out)) hb); have n9_ := Aside0.mk (hbox); have n10_ := Aside0.mk ((by rw [hg]; exact (below_size (by repeat (first | (with_reducible first | exact HB.out | apply below_alloc | apply pw_below_drewN | apply below_drew1 | refine below_set ?_ GE638.out | refine below_set ?_ GE643.out | refine below_set ?_ GE652.out) | exact HB.out))) : w.heap.size ≤ gb661)); have n11_ := Aside0.mk ((by rw [hg]; exact (below_size (by repeat (first | (with_reducible first | exact HB.out | apply below_alloc | apply pw_below_drewN | apply below_drew1 | refine below_set ?_ GE638.out | refine below_set ?_ GE643.out | refine below_set ?_ GE652.out) | exact HB.out))) : w.heap.size ≤ gb661)); have n12_ := Aside0.mk ((by rw [hg]; exact Nat.ne_of_lt (blk_lt (g := gb638) (o := .cells #[.int .i64 a0_0, .slice A0_1 l0_1.length c0_1] 24 (0, 0)) (by (with_reducible repeat (first | refine blk_drewN ?_ _ | refine blk_drew ?_ | refine blk_alloc ?_ _)); exact BK638.out)) : gb638 ≠ gb661)); have n13_ := Aside0.mk ((by rw [hg]; exact Nat.ne_of_gt (blk_lt (g := gb638) (o := .cells #[.int .i64 a0_0, .slice A0_1 l0_1.length c0_1] 24 (0, 0)) (by (with_reducible repeat (first | refine blk_drewN ?_ _ | refine blk_drew ?_ | refine blk_alloc ?_ _)); exact BK638.out)) : gb661 ≠ gb638)); have n14_ := Aside0.mk ((by rw [hg]; exact Nat.ne_of_lt (blk_lt (g := gb643) (o := .cells #[.int .i64 a0_0, .slice Ao27 t640.length co27] 24 (0, 0)) (by (with_reducible repeat (first | refine blk_drewN ?_ _ | refine blk_drew ?_ | refine blk_alloc ?_ _)); exact BK643.out)) : gb643 ≠ gb661)); have n15_ := Aside0.mk ((by rw [hg]; exact Nat.ne_of_gt (blk_lt (g := gb643) (o := .cells #[.int .i64 a0_0, .slice Ao27 t640.length co27] 24 (0, 0)) (by (with_reducible repeat (first | refine blk_drewN ?_ _ | refine blk_drew ?_ | refine blk_alloc ?_ _)); exact BK643.out)) : gb661 ≠ gb643)); have n16_ := Aside0.mk ((by rw [hg]; exact Nat.ne_of_lt (blk_lt (g := gb652) (o := .cells #[.bool t644, .slice Ao37 t645.length co37, .slice Ao38 t648.length co38] 51 (0, 0)) (by (with_reducible repeat (first | refine blk_drewN ?_ _ | refine blk_drew ?_ | refine blk_alloc ?_ _)); exact BK652.out)) : gb652 ≠ gb661)); have n17_ := Aside0.mk ((by rw [hg]; exact Nat.ne_of_gt (blk_lt (g := gb652) (o := .cells #[.bool t644, .slice Ao37 t645.length co37, .slice Ao38 t648.length co38] 51 (0, 0)) (by (with_reducible repeat (first | refine blk_drewN ?_ _ | refine blk_drew ?_ | refine blk_alloc ?_ _)); exact BK652.out)) : gb661 ≠ gb652)); clear HO642; clear HO647; clear HO650; clear HO656; clear HO659; clear BK638; clear BK643; clear BK652; clear HB; have HO642 := n0_; have HO647 := n1_; have HO650 := n2_; have HO656 := n3_; have HO659 := n4_; have BK638 := n5_; have BK643 := n6_; have BK652 := n7_; have HB := n8_; have BK661 := n9_; have GW661 := n10_; have GE661 := n11_; have NB638_661 := n12_; have NB661_638 := n13_; have NB643_661 := n14_; have NB661_643 := n15_; have NB652_661 := n16_; have NB661_652 := n17_; clear n0_ n1_ n2_ n3_ n4_ n5_ n6_ n7_ n8_ n9_ n10_ n11_ n12_ n13_ n14_ n15_ n16_ n17_; clear hb hbox hg; have hnb42 := NB661_638.out; have hnc42 := NB638_661.out; have hnb43 := NB661_643.out; have hnc43 := NB643_661.out; have hnb44 := NB661_652.out; have hnc44 := NB652_661.out; have hcz45_0 : w41.cell? ⟨gb661, 0, none⟩ = some (.bool false) := (blk_cell BK661.out 0).trans rfl; have hcz45_1 : w41.cell? ⟨gb661, 1, none⟩ = some (.slice none 0 0) := (blk_cell BK661.out 1).trans rfl; have hcz45_2 : w41.cell? ⟨gb661, 2, none⟩ = some (.slice none 0 0) := (blk_cell BK661.out 2).trans rfl; have hfz45_0 := blk_frozen BK661.out 0; have hfz45_1 := blk_frozen BK661.out 1; have hfz45_2 := blk_frozen BK661.out 2; obtain ⟨Ao46, co46, eo46⟩ := Kd.R_slice HO656.out; subst eo46; obtain ⟨Ao47, co47, eo47⟩ := Kd.S_slice HO659.out; subst eo47))
            have n0_ : Aside0 (Kd.S (Kd.slice 3 (Kd.int .i64)) 25 (((w41.setCell ⟨gb661, 0, none⟩ (.bool t653)).setCell ⟨gb661, 1, none⟩ (.slice Ao46 t654.length co46)).setCell ⟨gb661, 2, none⟩ (.slice Ao47 t657.length co47)) w.heap.size (fun k_ => some k_ ≠ (.slice Ao38 t648.length co38 : Value).ownBlock ∧ some k_ ≠ (.slice Ao47 t657.length co47 : Value).ownBlock) (.slice Ao27 t640.length co27) t640) := ⟨by (with_reducible repeat (first | apply Kd.S_alloc | apply Kd.S_drewN | apply Kd.S_drew)); exact Kd.S_mono (Kd.S_far (p := ⟨gb661, 2, none⟩) (Kd.S_far (p := ⟨gb661, 1, none⟩) (Kd.S_far (p := ⟨gb661, 0, none⟩) (Kd.S_types HO642.out BK661.out (by decide)) (fun _ hk => hk.2) (.bool t653)) (fun _ hk => hk.2) (.slice Ao46 t654.length co46)) (fun _ hk => hk.2) (.slice Ao47 t657.length co47)) (fun _ hk => ⟨hk.1.1.2, hk.1.2⟩)⟩
            have n1_ : Aside0 (Kd.R Kd.bool 4 (((w41.setCell ⟨gb661, 0, none⟩ (.bool t653)).setCell ⟨gb661, 1, none⟩ (.slice Ao46 t654.length co46)).setCell ⟨gb661, 2, none⟩ (.slice Ao47 t657.length co47)) w.heap.size (fun k_ => some k_ ≠ (.slice Ao46 t654.length co46 : Value).ownBlock) (.slice Ao37 t645.length co37) t645) := ⟨by (with_reducible repeat (first | apply Kd.R_alloc | apply Kd.R_drewN | apply Kd.R_drew)); exact Kd.R_mono (Kd.R_far (p := ⟨gb661, 2, none⟩) (Kd.R_far (p := ⟨gb661, 1, none⟩) (Kd.R_far (p := ⟨gb661, 0, none⟩) (Kd.R_types HO647.out BK661.out (by decide)) (fun _ hk => hk.2) (.bool t653)) (fun _ hk => hk.2) (.slice Ao46 t654.length co46)) (fun _ hk => hk.2) (.slice Ao47 t657.length co47)) (fun _ hk => hk.1.2)⟩
            have n2_ : Aside0 (Kd.S (Kd.slice 3 (Kd.int .i64)) 25 (((w41.setCell ⟨gb661, 0, none⟩ (.bool t653)).setCell ⟨gb661, 1, none⟩ (.slice Ao46 t654.length co46)).setCell ⟨gb661, 2, none⟩ (.slice Ao47 t657.length co47)) w.heap.size (fun k_ => some k_ ≠ (.slice Ao27 t640.length co27 : Value).ownBlock ∧ some k_ ≠ (.slice Ao47 t657.length co47 : Value).ownBlock) (.slice Ao38 t648.length co38) t648) := ⟨by (with_reducible repeat (first | apply Kd.S_alloc | apply Kd.S_drewN | apply Kd.S_drew)); exact Kd.S_mono (Kd.S_far (p := ⟨gb661, 2, none⟩) (Kd.S_far (p := ⟨gb661, 1, none⟩) (Kd.S_far (p := ⟨gb661, 0, none⟩) (Kd.S_types HO650.out BK661.out (by decide)) (fun _ hk => hk.2) (.bool t653)) (fun _ hk => hk.2) (.slice Ao46 t654.length co46)) (fun _ hk => hk.2) (.slice Ao47 t657.length co47)) (fun _ hk => ⟨hk.1.1.2, hk.1.2⟩)⟩
            have n3_ : Aside0 (Kd.R Kd.bool 4 (((w41.setCell ⟨gb661, 0, none⟩ (.bool t653)).setCell ⟨gb661, 1, none⟩ (.slice Ao46 t654.length co46)).setCell ⟨gb661, 2, none⟩ (.slice Ao47 t657.length co47)) w.heap.size (fun k_ => some k_ ≠ (.slice Ao37 t645.length co37 : Value).ownBlock) (.slice Ao46 t654.length co46) t654) := ⟨by (with_reducible repeat (first | apply Kd.R_alloc | apply Kd.R_drewN | apply Kd.R_drew)); exact Kd.R_mono (Kd.R_far (p := ⟨gb661, 2, none⟩) (Kd.R_far (p := ⟨gb661, 1, none⟩) (Kd.R_far (p := ⟨gb661, 0, none⟩) (Kd.R_types HO656.out BK661.out (by decide)) (fun _ hk => hk.2) (.bool t653)) (fun _ hk => hk.2) (.slice Ao46 t654.length co46)) (fun _ hk => hk.2) (.slice Ao47 t657.length co47)) (fun _ hk => hk.1.2)⟩
            have n4_ : Aside0 (Kd.S (Kd.slice 3 (Kd.int .i64)) 25 (((w41.setCell ⟨gb661, 0, none⟩ (.bool t653)).setCell ⟨gb661, 1, none⟩ (.slice Ao46 t654.length co46)).setCell ⟨gb661, 2, none⟩ (.slice Ao47 t657.length co47)) w.heap.size (fun k_ => some k_ ≠ (.slice Ao27 t640.length co27 : Value).ownBlock ∧ some k_ ≠ (.slice Ao38 t648.length co38 : Value).ownBlock) (.slice Ao47 t657.length co47) t657) := ⟨by (with_reducible repeat (first | apply Kd.S_alloc | apply Kd.S_drewN | apply Kd.S_drew)); exact Kd.S_mono (Kd.S_far (p := ⟨gb661, 2, none⟩) (Kd.S_far (p := ⟨gb661, 1, none⟩) (Kd.S_far (p := ⟨gb661, 0, none⟩) (Kd.S_types HO659.out BK661.out (by decide)) (fun _ hk => hk.2) (.bool t653)) (fun _ hk => hk.2) (.slice Ao46 t654.length co46)) (fun _ hk => hk.2) (.slice Ao47 t657.length co47)) (fun _ hk => ⟨hk.1.1.2, hk.1.2⟩)⟩
            have n5_ : Aside0 ((((w41.setCell ⟨gb661, 0, none⟩ (.bool t653)).setCell ⟨gb661, 1, none⟩ (.slice Ao46 t654.length co46)).setCell ⟨gb661, 2, none⟩ (.slice Ao47 t657.length co47)).heap[gb638]? = some (.cells #[.int .i64 a0_0, .slice A0_1 l0_1.length c0_1] 24 (0, 0))) := ⟨by (with_reducible repeat (first | refine blk_drewN ?_ _ | refine blk_drew ?_ | refine blk_alloc ?_ _)); refine blk_far ?_ NB638_661.out _; (with_reducible repeat (first | refine blk_drewN ?_ _ | refine blk_drew ?_ | refine blk_alloc ?_ _)); refine blk_far ?_ NB638_661.out _; (with_reducible repeat (first | refine blk_drewN ?_ _ | refine blk_drew ?_ | refine blk_alloc ?_ _)); refine blk_far ?_ NB638_661.out _; (with_reducible repeat (first | refine blk_drewN ?_ _ | refine blk_drew ?_ | refine blk_alloc ?_ _)); exact BK638.out⟩
            have n6_ : Aside0 ((((w41.setCell ⟨gb661, 0, none⟩ (.bool t653)).setCell ⟨gb661, 1, none⟩ (.slice Ao46 t654.length co46)).setCell ⟨gb661, 2, none⟩ (.slice Ao47 t657.length co47)).heap[gb643]? = some (.cells #[.int .i64 a0_0, .slice Ao27 t640.length co27] 24 (0, 0))) := ⟨by (with_reducible repeat (first | refine blk_drewN ?_ _ | refine blk_drew ?_ | refine blk_alloc ?_ _)); refine blk_far ?_ NB643_661.out _; (with_reducible repeat (first | refine blk_drewN ?_ _ | refine blk_drew ?_ | refine blk_alloc ?_ _)); refine blk_far ?_ NB643_661.out _; (with_reducible repeat (first | refine blk_drewN ?_ _ | refine blk_drew ?_ | refine blk_alloc ?_ _)); refine blk_far ?_ NB643_661.out _; (with_reducible repeat (first | refine blk_drewN ?_ _ | refine blk_drew ?_ | refine blk_alloc ?_ _)); exact BK643.out⟩
            have n7_ : Aside0 ((((w41.setCell ⟨gb661, 0, none⟩ (.bool t653)).setCell ⟨gb661, 1, none⟩ (.slice Ao46 t654.length co46)).setCell ⟨gb661, 2, none⟩ (.slice Ao47 t657.length co47)).heap[gb652]? = some (.cells #[.bool t644, .slice Ao37 t645.length co37, .slice Ao38 t648.length co38] 51 (0, 0))) := ⟨by (with_reducible repeat (first | refine blk_drewN ?_ _ | refine blk_drew ?_ | refine blk_alloc ?_ _)); refine blk_far ?_ NB652_661.out _; (with_reducible repeat (first | refine blk_drewN ?_ _ | refine blk_drew ?_ | refine blk_alloc ?_ _)); refine blk_far ?_ NB652_661.out _; (with_reducible repeat (first | refine blk_drewN ?_ _ | refine blk_drew ?_ | refine blk_alloc ?_ _)); refine blk_far ?_ NB652_661.out _; (with_reducible repeat (first | refine blk_drewN ?_ _ | refine blk_drew ?_ | refine blk_alloc ?_ _)); exact BK652.out⟩
            have n8_ : Aside0 ((((w41.setCell ⟨gb661, 0, none⟩ (.bool t653)).setCell ⟨gb661, 1, none⟩ (.slice Ao46 t654.length co46)).setCell ⟨gb661, 2, none⟩ (.slice Ao47 t657.length co47)).heap[gb661]? = some (.cells #[.bool t653, .slice Ao46 t654.length co46, .slice Ao47 t657.length co47] 51 (0, 0))) := ⟨by (with_reducible repeat (first | refine blk_drewN ?_ _ | refine blk_drew ?_ | refine blk_alloc ?_ _)); refine blk_put (cs := #[.bool t653, .slice Ao46 t654.length co46, .slice none 0 0]) ?_ 2 _ rfl; (with_reducible repeat (first | refine blk_drewN ?_ _ | refine blk_drew ?_ | refine blk_alloc ?_ _)); refine blk_put (cs := #[.bool t653, .slice none 0 0, .slice none 0 0]) ?_ 1 _ rfl; (with_reducible repeat (first | refine blk_drewN ?_ _ | refine blk_drew ?_ | refine blk_alloc ?_ _)); refine blk_put (cs := #[.bool false, .slice none 0 0, .slice none 0 0]) ?_ 0 _ rfl; (with_reducible repeat (first | refine blk_drewN ?_ _ | refine blk_drew ?_ | refine blk_alloc ?_ _)); exact BK661.out⟩
            have n9_ : Aside0 (Below w.heap.size w (((w41.setCell ⟨gb661, 0, none⟩ (.bool t653)).setCell ⟨gb661, 1, none⟩ (.slice Ao46 t654.length co46)).setCell ⟨gb661, 2, none⟩ (.slice Ao47 t657.length co47))) := ⟨by repeat (first | (with_reducible first | exact HB.out | apply below_alloc | apply pw_below_drewN | apply below_drew1 | refine below_set ?_ GE638.out | refine below_set ?_ GE643.out | refine below_set ?_ GE652.out | refine below_set ?_ GE661.out) | exact HB.out)⟩
            (try clear HO642)
            (try clear HO647)
            (try clear HO650)
            (try clear HO656)
            (try clear HO659)
            (try clear BK638)
            (try clear BK643)
            (try clear BK652)
            (try clear BK661)
            (try clear HB)
            generalize (((w41.setCell ⟨gb661, 0, none⟩ (.bool t653)).setCell ⟨gb661, 1, none⟩ (.slice Ao46 t654.length co46)).setCell ⟨gb661, 2, none⟩ (.slice Ao47 t657.length co47)) = w48 at n0_ n1_ n2_ n3_ n4_ n5_ n6_ n7_ n8_ n9_ ⊢
            have HO642 := n0_
            have HO647 := n1_
            have HO650 := n2_
            have HO656 := n3_
            have HO659 := n4_
            have BK638 := n5_
            have BK643 := n6_
            have BK652 := n7_
            have BK661 := n8_
            have HB := n9_
            clear n0_ n1_ n2_ n3_ n4_ n5_ n6_ n7_ n8_ n9_
            have n0_ := Aside0.mk (Kd.S_drew HO642.out)
            have n1_ := Aside0.mk (Kd.R_drew HO647.out)
            have n2_ := Aside0.mk (Kd.S_drew HO650.out)
            have n3_ := Aside0.mk (Kd.R_drew HO656.out)
            have n4_ := Aside0.mk (Kd.S_drew HO659.out)
            have n5_ := Aside0.mk (blk_drew BK638.out)
            have n6_ := Aside0.mk (blk_drew BK643.out)
            have n7_ := Aside0.mk (blk_drew BK652.out)
            have n8_ := Aside0.mk (blk_drew BK661.out)
            have n9_ := Aside0.mk (below_drew1 HB.out)
            clear HO642
            clear HO647
            clear HO650
            clear HO656
            clear HO659
            clear BK638
            clear BK643
            clear BK652
            clear BK661
            clear HB
            have HO642 := n0_
            have HO647 := n1_
            have HO650 := n2_
            have HO656 := n3_
            have HO659 := n4_
            have BK638 := n5_
            have BK643 := n6_
            have BK652 := n7_
            have BK661 := n8_
            have HB := n9_
            clear n0_ n1_ n2_ n3_ n4_ n5_ n6_ n7_ n8_ n9_
            refine start_ (n := 26) (S := fun w' => w'.cell? ⟨gb652, 0, none⟩ = some (.bool t644) ∧ w'.cell? ⟨gb652, 1, none⟩ = some (.slice Ao37 t645.length co37) ∧ w'.cell? ⟨gb652, 2, none⟩ = some (.slice Ao38 t648.length co38) ∧ w'.cell? ⟨gb661, 0, none⟩ = some (.bool t653) ∧ w'.cell? ⟨gb661, 1, none⟩ = some (.slice Ao46 t654.length co46) ∧ w'.cell? ⟨gb661, 2, none⟩ = some (.slice Ao47 t657.length co47) ∧ w'.cell? ⟨gb638, 0, none⟩ = some (.int .i64 a0_0) ∧ w'.cell? ⟨gb638, 1, none⟩ = some (.slice A0_1 l0_1.length c0_1) ∧ w'.cell? ⟨gb643, 0, none⟩ = some (.int .i64 a0_0) ∧ w'.cell? ⟨gb643, 1, none⟩ = some (.slice Ao27 t640.length co27)) (ds := []) #[false, false, false, false, false, false, false, false, false, false, false, false, false, false, false, false, false, false, false, false, false, false, false, false, false, false] (by kernel_rfl) rfl rfl ⟨(blk_cell BK652.out 0).trans rfl, (blk_cell BK652.out 1).trans rfl, (blk_cell BK652.out 2).trans rfl, (blk_cell BK661.out 0).trans rfl, (blk_cell BK661.out 1).trans rfl, (blk_cell BK661.out 2).trans rfl, (blk_cell BK638.out 0).trans rfl, (blk_cell BK638.out 1).trans rfl, (blk_cell BK643.out 0).trans rfl, (blk_cell BK643.out 1).trans rfl⟩ (fun hHeld => ?_); refine with_tabW hoggetlaw12_SolverSolves.tab6 hoggetlaw12_SolverSolves.bits6 (fun HT_ HW_ => ?_)
            generalize w48.drew = w49 at HO642 HO647 HO650 HO656 HO659 BK638 BK643 BK652 BK661 HB hHeld ⊢
            refine one_ (i := 0) (N := some 26) #[true, false, false, false, false, false, false, false, false, false, false, false, false, false, false, false, false, false, false, false, false, false, false, false, false, false] rfl rfl (one_of HT_.out (by kernel_rfl)) (by decide) (fun K hK => ?_)
            refine goes_ Try.func55 (by kernel_rfl) rfl #[] (by rfl) rfl rfl (by (try simp only [List.map_toArray, List.map_cons, List.map_nil]); first | done | rfl | (simp only [List.length_drop, List.length_take]; rfl)) ?_
            with_reducible refine (hoggetlaw12_solves.calls k  true _ A10.out).mono ?_
            rintro e w50 ⟨rfl, hb⟩
            refine ⟨_, rfl, ?_⟩
            have n0_ := Aside0.mk (Kd.S_below (by (with_reducible repeat (first | apply Kd.S_alloc | apply Kd.S_drewN | apply Kd.S_drew)); exact HO642.out) hb)
            have n1_ := Aside0.mk (Kd.R_below (by (with_reducible repeat (first | apply Kd.R_alloc | apply Kd.R_drewN | apply Kd.R_drew)); exact HO647.out) hb)
            have n2_ := Aside0.mk (Kd.S_below (by (with_reducible repeat (first | apply Kd.S_alloc | apply Kd.S_drewN | apply Kd.S_drew)); exact HO650.out) hb)
            have n3_ := Aside0.mk (Kd.R_below (by (with_reducible repeat (first | apply Kd.R_alloc | apply Kd.R_drewN | apply Kd.R_drew)); exact HO656.out) hb)
            have n4_ := Aside0.mk (Kd.S_below (by (with_reducible repeat (first | apply Kd.S_alloc | apply Kd.S_drewN | apply Kd.S_drew)); exact HO659.out) hb)
            have n5_ := Aside0.mk (blk_below (g := gb638) (o := .cells #[.int .i64 a0_0, .slice A0_1 l0_1.length c0_1] 24 (0, 0)) (by (with_reducible repeat (first | refine blk_drewN ?_ _ | refine blk_drew ?_ | refine blk_alloc ?_ _)); exact BK638.out) hb)
            have n6_ := Aside0.mk (blk_below (g := gb643) (o := .cells #[.int .i64 a0_0, .slice Ao27 t640.length co27] 24 (0, 0)) (by (with_reducible repeat (first | refine blk_drewN ?_ _ | refine blk_drew ?_ | refine blk_alloc ?_ _)); exact BK643.out) hb)
            have n7_ := Aside0.mk (blk_below (g := gb652) (o := .cells #[.bool t644, .slice Ao37 t645.length co37, .slice Ao38 t648.length co38] 51 (0, 0)) (by (with_reducible repeat (first | refine blk_drewN ?_ _ | refine blk_drew ?_ | refine blk_alloc ?_ _)); exact BK652.out) hb)
            have n8_ := Aside0.mk (blk_below (g := gb661) (o := .cells #[.bool t653, .slice Ao46 t654.length co46, .slice Ao47 t657.length co47] 51 (0, 0)) (by (with_reducible repeat (first | refine blk_drewN ?_ _ | refine blk_drew ?_ | refine blk_alloc ?_ _)); exact BK661.out) hb)
            have n9_ := Aside0.mk (below_step (by repeat (first | (with_reducible first | exact HB.out | apply below_alloc | apply pw_below_drewN | apply below_drew1 | refine below_set ?_ GE638.out | refine below_set ?_ GE643.out | refine below_set ?_ GE652.out | refine below_set ?_ GE661.out) | exact HB.out)) hb)
            clear HO642
            clear HO647
            clear HO650
            clear HO656
            clear HO659
            clear BK638
            clear BK643
            clear BK652
            clear BK661
            clear HB
            have HO642 := n0_
            have HO647 := n1_
            have HO650 := n2_
            have HO656 := n3_
            have HO659 := n4_
            have BK638 := n5_
            have BK643 := n6_
            have BK652 := n7_
            have BK661 := n8_
            have HB := n9_
            clear n0_ n1_ n2_ n3_ n4_ n5_ n6_ n7_ n8_ n9_
            (try clear hb)
            (try clear hb2)
            (try clear hk)
            (try clear hi)
            refine hK.out _ _ ⟨(blk_cell BK652.out 0).trans rfl, (blk_cell BK652.out 1).trans rfl, (blk_cell BK652.out 2).trans rfl, (blk_cell BK661.out 0).trans rfl, (blk_cell BK661.out 1).trans rfl, (blk_cell BK661.out 2).trans rfl, (blk_cell BK638.out 0).trans rfl, (blk_cell BK638.out 1).trans rfl, (blk_cell BK643.out 0).trans rfl, (blk_cell BK643.out 1).trans rfl⟩ (fun hHeld => ?_)
            clear hK K
            refine norm_ (a' := ?_) ?_ ?_
            rotate_left
            · show Act.put _ (some 26) _ = _
              simp only [Act.put, List.setIfInBounds_toArray, List.set_cons_zero, List.set_cons_succ, i64_w, i32_w]
              rfl
            refine pure_ (i := 1) (N := some 27) (v := ?_) (a' := ?_) #[true, true, false, false, false, false, false, false, false, false, false, false, false, false, false, false, false, false, false, false, false, false, false, false, false, false] rfl rfl (any_of HT_.out (by kernel_rfl)) (fun _ _ _ h => h) (Or.inl ⟨by rfl, ?_⟩) ?_ ?_
            rotate_left
            · intro w'
              go_simp
              with_reducible rfl
            rotate_left
            · simp only [Act.put, List.setIfInBounds_toArray, List.set_cons_zero, List.set_cons_succ, i64_w, i32_w]
              rfl
            refine pure_ (i := 2) (N := some 28) (v := ?_) (a' := ?_) #[true, true, true, false, false, false, false, false, false, false, false, false, false, false, false, false, false, false, false, false, false, false, false, false, false, false] rfl rfl (any_of HT_.out (by kernel_rfl)) (fun _ _ _ h => h) (Or.inl ⟨by rfl, ?_⟩) ?_ ?_
            rotate_left
            · intro w'
              go_simp
              with_reducible rfl
            rotate_left
            · simp only [Act.put, List.setIfInBounds_toArray, List.set_cons_zero, List.set_cons_succ, i64_w, i32_w]
              rfl
            refine pure_ (i := 3) (N := some 29) (v := ?_) (a' := ?_) #[true, true, true, true, false, false, false, false, false, false, false, false, false, false, false, false, false, false, false, false, false, false, false, false, false, false] rfl rfl (any_of HT_.out (by kernel_rfl)) (fun _ _ _ h => h) (Or.inl ⟨by rfl, ?_⟩) ?_ ?_
            rotate_left
            · intro w'
              go_simp
              with_reducible rfl
            rotate_left
            · simp only [Act.put, List.setIfInBounds_toArray, List.set_cons_zero, List.set_cons_succ, i64_w, i32_w]
              rfl
            refine pure_ (i := 4) (N := some 30) (v := ?_) (a' := ?_) #[true, true, true, true, true, false, false, false, false, false, false, false, false, false, false, false, false, false, false, false, false, false, false, false, false, false] rfl rfl (any_of HT_.out (by kernel_rfl)) (fun _ _ _ h => h) (Or.inl ⟨by rfl, ?_⟩) ?_ ?_
            rotate_left
            · intro w'
              go_simp
              with_reducible rfl
            rotate_left
            · simp only [Act.put, List.setIfInBounds_toArray, List.set_cons_zero, List.set_cons_succ, i64_w, i32_w]
              rfl
            refine pure_ (i := 5) (N := some 31) (v := ?_) (a' := ?_) #[true, true, true, true, true, true, false, false, false, false, false, false, false, false, false, false, false, false, false, false, false, false, false, false, false, false] rfl rfl (any_of HT_.out (by kernel_rfl)) (fun _ _ _ h => h) (Or.inl ⟨by rfl, ?_⟩) ?_ ?_
            rotate_left
            · intro w'
              go_simp
              with_reducible rfl
            rotate_left
            · simp only [Act.put, List.setIfInBounds_toArray, List.set_cons_zero, List.set_cons_succ, i64_w, i32_w]
              rfl
            refine pure_ (i := 6) (N := some 32) (v := ?_) (a' := ?_) #[true, true, true, true, true, true, true, false, false, false, false, false, false, false, false, false, false, false, false, false, false, false, false, false, false, false] rfl rfl (any_of HT_.out (by kernel_rfl)) (fun _ _ _ h => h) (Or.inl ⟨by rfl, ?_⟩) ?_ ?_
            rotate_left
            · intro w'
              go_simp
              with_reducible rfl
            rotate_left
            · simp only [Act.put, List.setIfInBounds_toArray, List.set_cons_zero, List.set_cons_succ, i64_w, i32_w]
              rfl
            refine take_ (i := 7) (N := some 33) (v := ?_) (a' := ?_) #[true, true, true, true, true, true, true, true, false, false, false, false, false, false, false, false, false, false, false, false, false, false, false, false, false, false] rfl rfl (take_ofW HT_.out HW_.out (by kernel_rfl)) (fun _ _ _ h => h) (Or.inl ⟨by rfl, ?_⟩) hHeld ?_ ?_
            rotate_left
            · rintro w' ⟨s0, s1, s2, s3, s4, s5, s6, s7, s8, s9⟩
              go_simp
              with_reducible rfl
            rotate_left
            · simp only [Act.put, List.setIfInBounds_toArray, List.set_cons_zero, List.set_cons_succ, i64_w, i32_w]
              rfl
            refine take_ (i := 8) (N := some 34) (v := ?_) (a' := ?_) #[true, true, true, true, true, true, true, true, true, false, false, false, false, false, false, false, false, false, false, false, false, false, false, false, false, false] rfl rfl (take_ofW HT_.out HW_.out (by kernel_rfl)) (fun _ _ _ h => h) (Or.inl ⟨by rfl, ?_⟩) hHeld ?_ ?_
            rotate_left
            · rintro w' ⟨s0, s1, s2, s3, s4, s5, s6, s7, s8, s9⟩
              go_simp
              with_reducible rfl
            rotate_left
            · simp only [Act.put, List.setIfInBounds_toArray, List.set_cons_zero, List.set_cons_succ, i64_w, i32_w]
              rfl
            refine one_ (i := 9) (N := some 35) #[true, true, true, true, true, true, true, true, true, true, false, false, false, false, false, false, false, false, false, false, false, false, false, false, false, false] rfl rfl (one_of HT_.out (by kernel_rfl)) (by decide) (fun K hK => ?_)
            refine goes_ Try.func56 (by kernel_rfl) rfl #[.agg #[.bool t644, .slice Ao37 t645.length co37, .slice Ao38 t648.length co38], .agg #[.bool t653, .slice Ao46 t654.length co46, .slice Ao47 t657.length co47]] (by rfl) rfl rfl (by (try simp only [List.map_toArray, List.map_cons, List.map_nil]); first | done | rfl | (simp only [List.length_drop, List.length_take]; rfl)) ?_
            with_reducible refine (hoggetref12_Same.calls k t644 _ _ t645 _ _ t648 t653 _ _ t654 _ _ t657 true _ ?side1 ?side2 ?side3 ?side4 ?side5 ?side6 ?side7 ?side8 A13.out).mono ?_
            (case side1 => repeat (first | exact (Kd.R_reads' HO647.out).2.2 | (with_reducible refine Kd.C_alloc ?_ _) | (with_reducible refine Kd.C_drewN ?_ _) | (with_reducible refine Kd.C_drew ?_)))
            (case side2 => exact (Kd.R_reads' HO647.out).2.1)
            (case side3 => repeat (first | exact (Kd.S_reads' HO650.out).2.2 | (with_reducible refine Kd.C_alloc ?_ _) | (with_reducible refine Kd.C_drewN ?_ _) | (with_reducible refine Kd.C_drew ?_)))
            (case side4 => exact (Kd.S_reads' HO650.out).2.1)
            (case side5 => repeat (first | exact (Kd.R_reads' HO656.out).2.2 | (with_reducible refine Kd.C_alloc ?_ _) | (with_reducible refine Kd.C_drewN ?_ _) | (with_reducible refine Kd.C_drew ?_)))
            (case side6 => exact (Kd.R_reads' HO656.out).2.1)
            (case side7 => repeat (first | exact (Kd.S_reads' HO659.out).2.2 | (with_reducible refine Kd.C_alloc ?_ _) | (with_reducible refine Kd.C_drewN ?_ _) | (with_reducible refine Kd.C_drew ?_)))
            (case side8 => exact (Kd.S_reads' HO659.out).2.1)
            rintro e w51 ⟨rfl, hb⟩
            refine ⟨_, rfl, ?_⟩
            have n0_ := Aside0.mk (Kd.S_below (by (with_reducible repeat (first | apply Kd.S_alloc | apply Kd.S_drewN | apply Kd.S_drew)); exact HO642.out) hb)
            have n1_ := Aside0.mk (Kd.R_below (by (with_reducible repeat (first | apply Kd.R_alloc | apply Kd.R_drewN | apply Kd.R_drew)); exact HO647.out) hb)
            have n2_ := Aside0.mk (Kd.S_below (by (with_reducible repeat (first | apply Kd.S_alloc | apply Kd.S_drewN | apply Kd.S_drew)); exact HO650.out) hb)
            have n3_ := Aside0.mk (Kd.R_below (by (with_reducible repeat (first | apply Kd.R_alloc | apply Kd.R_drewN | apply Kd.R_drew)); exact HO656.out) hb)
            have n4_ := Aside0.mk (Kd.S_below (by (with_reducible repeat (first | apply Kd.S_alloc | apply Kd.S_drewN | apply Kd.S_drew)); exact HO659.out) hb)
            have n5_ := Aside0.mk (blk_below (g := gb638) (o := .cells #[.int .i64 a0_0, .slice A0_1 l0_1.length c0_1] 24 (0, 0)) (by (with_reducible repeat (first | refine blk_drewN ?_ _ | refine blk_drew ?_ | refine blk_alloc ?_ _)); exact BK638.out) hb)
            have n6_ := Aside0.mk (blk_below (g := gb643) (o := .cells #[.int .i64 a0_0, .slice Ao27 t640.length co27] 24 (0, 0)) (by (with_reducible repeat (first | refine blk_drewN ?_ _ | refine blk_drew ?_ | refine blk_alloc ?_ _)); exact BK643.out) hb)
            have n7_ := Aside0.mk (blk_below (g := gb652) (o := .cells #[.bool t644, .slice Ao37 t645.length co37, .slice Ao38 t648.length co38] 51 (0, 0)) (by (with_reducible repeat (first | refine blk_drewN ?_ _ | refine blk_drew ?_ | refine blk_alloc ?_ _)); exact BK652.out) hb)
            have n8_ := Aside0.mk (blk_below (g := gb661) (o := .cells #[.bool t653, .slice Ao46 t654.length co46, .slice Ao47 t657.length co47] 51 (0, 0)) (by (with_reducible repeat (first | refine blk_drewN ?_ _ | refine blk_drew ?_ | refine blk_alloc ?_ _)); exact BK661.out) hb)
            have n9_ := Aside0.mk (below_step (by repeat (first | (with_reducible first | exact HB.out | apply below_alloc | apply pw_below_drewN | apply below_drew1 | refine below_set ?_ GE638.out | refine below_set ?_ GE643.out | refine below_set ?_ GE652.out | refine below_set ?_ GE661.out) | exact HB.out)) hb)
            clear HO642
            clear HO647
            clear HO650
            clear HO656
            clear HO659
            clear BK638
            clear BK643
            clear BK652
            clear BK661
            clear HB
            have HO642 := n0_
            have HO647 := n1_
            have HO650 := n2_
            have HO656 := n3_
            have HO659 := n4_
            have BK638 := n5_
            have BK643 := n6_
            have BK652 := n7_
            have BK661 := n8_
            have HB := n9_
            clear n0_ n1_ n2_ n3_ n4_ n5_ n6_ n7_ n8_ n9_
            (try clear hb)
            (try clear hb2)
            (try clear hk)
            (try clear hi)
            refine hK.out _ _ ⟨(blk_cell BK652.out 0).trans rfl, (blk_cell BK652.out 1).trans rfl, (blk_cell BK652.out 2).trans rfl, (blk_cell BK661.out 0).trans rfl, (blk_cell BK661.out 1).trans rfl, (blk_cell BK661.out 2).trans rfl, (blk_cell BK638.out 0).trans rfl, (blk_cell BK638.out 1).trans rfl, (blk_cell BK643.out 0).trans rfl, (blk_cell BK643.out 1).trans rfl⟩ (fun hHeld => ?_)
            clear hK K
            refine norm_ (a' := ?_) ?_ ?_
            rotate_left
            · show Act.put _ (some 35) _ = _
              simp only [Act.put, List.setIfInBounds_toArray, List.set_cons_zero, List.set_cons_succ, i64_w, i32_w]
              rfl
            refine pure_ (i := 10) (N := some 36) (v := ?_) (a' := ?_) #[true, true, true, true, true, true, true, true, true, true, true, false, false, false, false, false, false, false, false, false, false, false, false, false, false, false] rfl rfl (any_of HT_.out (by kernel_rfl)) (fun _ _ _ h => h) (Or.inl ⟨by rfl, ?_⟩) ?_ ?_
            rotate_left
            · intro w'
              go_simp
              with_reducible rfl
            rotate_left
            · simp only [Act.put, List.setIfInBounds_toArray, List.set_cons_zero, List.set_cons_succ, i64_w, i32_w]
              rfl
            refine pure_ (i := 11) (N := some 37) (v := ?_) (a' := ?_) #[true, true, true, true, true, true, true, true, true, true, true, true, false, false, false, false, false, false, false, false, false, false, false, false, false, false] rfl rfl (any_of HT_.out (by kernel_rfl)) (fun _ _ _ h => h) (Or.inl ⟨by rfl, ?_⟩) ?_ ?_
            rotate_left
            · intro w'
              go_simp
              with_reducible rfl
            rotate_left
            · simp only [Act.put, List.setIfInBounds_toArray, List.set_cons_zero, List.set_cons_succ, i64_w, i32_w]
              rfl
            refine take_ (i := 12) (N := some 38) (v := ?_) (a' := ?_) #[true, true, true, true, true, true, true, true, true, true, true, true, true, false, false, false, false, false, false, false, false, false, false, false, false, false] rfl rfl (take_ofW HT_.out HW_.out (by kernel_rfl)) (fun _ _ _ h => h) (Or.inl ⟨by rfl, ?_⟩) hHeld ?_ ?_
            rotate_left
            · rintro w' ⟨s0, s1, s2, s3, s4, s5, s6, s7, s8, s9⟩
              go_simp
              with_reducible rfl
            rotate_left
            · simp only [Act.put, List.setIfInBounds_toArray, List.set_cons_zero, List.set_cons_succ, i64_w, i32_w]
              rfl
            refine take_ (i := 14) (N := some 40) (v := ?_) (a' := ?_) #[true, true, true, true, true, true, true, true, true, true, true, true, true, false, true, false, false, false, false, false, false, false, false, false, false, false] rfl rfl (take_ofW HT_.out HW_.out (by kernel_rfl)) (fun _ _ _ h => h) (Or.inl ⟨by rfl, ?_⟩) hHeld ?_ ?_
            rotate_left
            · rintro w' ⟨s0, s1, s2, s3, s4, s5, s6, s7, s8, s9⟩
              go_simp
              with_reducible rfl
            rotate_left
            · simp only [Act.put, List.setIfInBounds_toArray, List.set_cons_zero, List.set_cons_succ, i64_w, i32_w]
              rfl
            refine one_ (i := 13) (N := some 39) #[true, true, true, true, true, true, true, true, true, true, true, true, true, true, true, false, false, false, false, false, false, false, false, false, false, false] rfl rfl (one_of HT_.out (by kernel_rfl)) (by decide) (fun K hK => ?_)
            refine goes_ Try.func57 (by kernel_rfl) rfl #[.agg #[.int .i64 a0_0, .slice A0_1 l0_1.length c0_1]] (by rfl) rfl rfl (by (try simp only [List.map_toArray, List.map_cons, List.map_nil]); first | done | rfl | (simp only [List.length_drop, List.length_take]; rfl)) ?_
            with_reducible refine (solver_Looks.calls a0_0 _ _ l0_1 t664 _ ?side1 ?side2 A15.out).mono ?_
            (case side1 => repeat (first | exact (Kd.C_below HR0_1.out HB.out) | (with_reducible refine Kd.C_alloc ?_ _) | (with_reducible refine Kd.C_drewN ?_ _) | (with_reducible refine Kd.C_drew ?_)))
            (case side2 => exact HC0_1.out)
            rintro e w52 ⟨rfl, hb⟩
            refine ⟨_, rfl, ?_⟩
            have n0_ := Aside0.mk (Kd.S_below (by (with_reducible repeat (first | apply Kd.S_alloc | apply Kd.S_drewN | apply Kd.S_drew)); exact HO642.out) hb)
            have n1_ := Aside0.mk (Kd.R_below (by (with_reducible repeat (first | apply Kd.R_alloc | apply Kd.R_drewN | apply Kd.R_drew)); exact HO647.out) hb)
            have n2_ := Aside0.mk (Kd.S_below (by (with_reducible repeat (first | apply Kd.S_alloc | apply Kd.S_drewN | apply Kd.S_drew)); exact HO650.out) hb)
            have n3_ := Aside0.mk (Kd.R_below (by (with_reducible repeat (first | apply Kd.R_alloc | apply Kd.R_drewN | apply Kd.R_drew)); exact HO656.out) hb)
            have n4_ := Aside0.mk (Kd.S_below (by (with_reducible repeat (first | apply Kd.S_alloc | apply Kd.S_drewN | apply Kd.S_drew)); exact HO659.out) hb)
            have n5_ := Aside0.mk (blk_below (g := gb638) (o := .cells #[.int .i64 a0_0, .slice A0_1 l0_1.length c0_1] 24 (0, 0)) (by (with_reducible repeat (first | refine blk_drewN ?_ _ | refine blk_drew ?_ | refine blk_alloc ?_ _)); exact BK638.out) hb)
            have n6_ := Aside0.mk (blk_below (g := gb643) (o := .cells #[.int .i64 a0_0, .slice Ao27 t640.length co27] 24 (0, 0)) (by (with_reducible repeat (first | refine blk_drewN ?_ _ | refine blk_drew ?_ | refine blk_alloc ?_ _)); exact BK643.out) hb)
            have n7_ := Aside0.mk (blk_below (g := gb652) (o := .cells #[.bool t644, .slice Ao37 t645.length co37, .slice Ao38 t648.length co38] 51 (0, 0)) (by (with_reducible repeat (first | refine blk_drewN ?_ _ | refine blk_drew ?_ | refine blk_alloc ?_ _)); exact BK652.out) hb)
            have n8_ := Aside0.mk (blk_below (g := gb661) (o := .cells #[.bool t653, .slice Ao46 t654.length co46, .slice Ao47 t657.length co47] 51 (0, 0)) (by (with_reducible repeat (first | refine blk_drewN ?_ _ | refine blk_drew ?_ | refine blk_alloc ?_ _)); exact BK661.out) hb)
            have n9_ := Aside0.mk (below_step (by repeat (first | (with_reducible first | exact HB.out | apply below_alloc | apply pw_below_drewN | apply below_drew1 | refine below_set ?_ GE638.out | refine below_set ?_ GE643.out | refine below_set ?_ GE652.out | refine below_set ?_ GE661.out) | exact HB.out)) hb)
            clear HO642
            clear HO647
            clear HO650
            clear HO656
            clear HO659
            clear BK638
            clear BK643
            clear BK652
            clear BK661
            clear HB
            have HO642 := n0_
            have HO647 := n1_
            have HO650 := n2_
            have HO656 := n3_
            have HO659 := n4_
            have BK638 := n5_
            have BK643 := n6_
            have BK652 := n7_
            have BK661 := n8_
            have HB := n9_
            clear n0_ n1_ n2_ n3_ n4_ n5_ n6_ n7_ n8_ n9_
            (try clear hb)
            (try clear hb2)
            (try clear hk)
            (try clear hi)
            refine hK.out _ _ ⟨(blk_cell BK652.out 0).trans rfl, (blk_cell BK652.out 1).trans rfl, (blk_cell BK652.out 2).trans rfl, (blk_cell BK661.out 0).trans rfl, (blk_cell BK661.out 1).trans rfl, (blk_cell BK661.out 2).trans rfl, (blk_cell BK638.out 0).trans rfl, (blk_cell BK638.out 1).trans rfl, (blk_cell BK643.out 0).trans rfl, (blk_cell BK643.out 1).trans rfl⟩ (fun hHeld => ?_)
            clear hK K
            refine norm_ (a' := ?_) ?_ ?_
            rotate_left
            · show Act.put _ (some 39) _ = _
              simp only [Act.put, List.setIfInBounds_toArray, List.set_cons_zero, List.set_cons_succ, i64_w, i32_w]
              rfl
            refine one_ (i := 15) (N := some 41) #[true, true, true, true, true, true, true, true, true, true, true, true, true, true, true, true, false, false, false, false, false, false, false, false, false, false] rfl rfl (one_of HT_.out (by kernel_rfl)) (by decide) (fun K hK => ?_)
            refine goes_ Try.func58 (by kernel_rfl) rfl #[.agg #[.int .i64 a0_0, .slice Ao27 t640.length co27]] (by rfl) rfl rfl (by (try simp only [List.map_toArray, List.map_cons, List.map_nil]); first | done | rfl | (simp only [List.length_drop, List.length_take]; rfl)) ?_
            with_reducible refine (hoggetref12_Looks.calls a0_0 _ _ t640 t665 _ ?side1 ?side2 A16.out).mono ?_
            (case side1 => repeat (first | exact (Kd.S_reads' HO642.out).2.2 | (with_reducible refine Kd.C_alloc ?_ _) | (with_reducible refine Kd.C_drewN ?_ _) | (with_reducible refine Kd.C_drew ?_)))
            (case side2 => exact (Kd.S_reads' HO642.out).2.1)
            rintro e w53 ⟨rfl, hb⟩
            refine ⟨_, rfl, ?_⟩
            have n0_ := Aside0.mk (Kd.S_below (by (with_reducible repeat (first | apply Kd.S_alloc | apply Kd.S_drewN | apply Kd.S_drew)); exact HO642.out) hb)
            have n1_ := Aside0.mk (Kd.R_below (by (with_reducible repeat (first | apply Kd.R_alloc | apply Kd.R_drewN | apply Kd.R_drew)); exact HO647.out) hb)
            have n2_ := Aside0.mk (Kd.S_below (by (with_reducible repeat (first | apply Kd.S_alloc | apply Kd.S_drewN | apply Kd.S_drew)); exact HO650.out) hb)
            have n3_ := Aside0.mk (Kd.R_below (by (with_reducible repeat (first | apply Kd.R_alloc | apply Kd.R_drewN | apply Kd.R_drew)); exact HO656.out) hb)
            have n4_ := Aside0.mk (Kd.S_below (by (with_reducible repeat (first | apply Kd.S_alloc | apply Kd.S_drewN | apply Kd.S_drew)); exact HO659.out) hb)
            have n5_ := Aside0.mk (blk_below (g := gb638) (o := .cells #[.int .i64 a0_0, .slice A0_1 l0_1.length c0_1] 24 (0, 0)) (by (with_reducible repeat (first | refine blk_drewN ?_ _ | refine blk_drew ?_ | refine blk_alloc ?_ _)); exact BK638.out) hb)
            have n6_ := Aside0.mk (blk_below (g := gb643) (o := .cells #[.int .i64 a0_0, .slice Ao27 t640.length co27] 24 (0, 0)) (by (with_reducible repeat (first | refine blk_drewN ?_ _ | refine blk_drew ?_ | refine blk_alloc ?_ _)); exact BK643.out) hb)
            have n7_ := Aside0.mk (blk_below (g := gb652) (o := .cells #[.bool t644, .slice Ao37 t645.length co37, .slice Ao38 t648.length co38] 51 (0, 0)) (by (with_reducible repeat (first | refine blk_drewN ?_ _ | refine blk_drew ?_ | refine blk_alloc ?_ _)); exact BK652.out) hb)
            have n8_ := Aside0.mk (blk_below (g := gb661) (o := .cells #[.bool t653, .slice Ao46 t654.length co46, .slice Ao47 t657.length co47] 51 (0, 0)) (by (with_reducible repeat (first | refine blk_drewN ?_ _ | refine blk_drew ?_ | refine blk_alloc ?_ _)); exact BK661.out) hb)
            have n9_ := Aside0.mk (below_step (by repeat (first | (with_reducible first | exact HB.out | apply below_alloc | apply pw_below_drewN | apply below_drew1 | refine below_set ?_ GE638.out | refine below_set ?_ GE643.out | refine below_set ?_ GE652.out | refine below_set ?_ GE661.out) | exact HB.out)) hb)
            clear HO642
            clear HO647
            clear HO650
            clear HO656
            clear HO659
            clear BK638
            clear BK643
            clear BK652
            clear BK661
            clear HB
            have HO642 := n0_
            have HO647 := n1_
            have HO650 := n2_
            have HO656 := n3_
            have HO659 := n4_
            have BK638 := n5_
            have BK643 := n6_
            have BK652 := n7_
            have BK661 := n8_
            have HB := n9_
            clear n0_ n1_ n2_ n3_ n4_ n5_ n6_ n7_ n8_ n9_
            (try clear hb)
            (try clear hb2)
            (try clear hk)
            (try clear hi)
            refine hK.out _ _ ⟨(blk_cell BK652.out 0).trans rfl, (blk_cell BK652.out 1).trans rfl, (blk_cell BK652.out 2).trans rfl, (blk_cell BK661.out 0).trans rfl, (blk_cell BK661.out 1).trans rfl, (blk_cell BK661.out 2).trans rfl, (blk_cell BK638.out 0).trans rfl, (blk_cell BK638.out 1).trans rfl, (blk_cell BK643.out 0).trans rfl, (blk_cell BK643.out 1).trans rfl⟩ (fun hHeld => ?_)
            clear hK K
            refine norm_ (a' := ?_) ?_ ?_
            rotate_left
            · show Act.put _ (some 41) _ = _
              simp only [Act.put, List.setIfInBounds_toArray, List.set_cons_zero, List.set_cons_succ, i64_w, i32_w]
              rfl
            refine pure_ (i := 16) (N := some 42) (v := ?_) (a' := ?_) #[true, true, true, true, true, true, true, true, true, true, true, true, true, true, true, true, true, false, false, false, false, false, false, false, false, false] rfl rfl (any_of HT_.out (by kernel_rfl)) (fun _ _ _ h => h) (Or.inl ⟨by rfl, ?_⟩) ?_ ?_
            rotate_left
            · intro w'
              go_simp
              with_reducible rfl
            rotate_left
            · simp only [Act.put, List.setIfInBounds_toArray, List.set_cons_zero, List.set_cons_succ, i64_w, i32_w]
              rfl
            refine pure_ (i := 17) (N := some 43) (v := ?_) (a' := ?_) #[true, true, true, true, true, true, true, true, true, true, true, true, true, true, true, true, true, true, false, false, false, false, false, false, false, false] rfl rfl (any_of HT_.out (by kernel_rfl)) (fun _ _ _ h => h) (Or.inl ⟨by rfl, ?_⟩) ?_ ?_
            rotate_left
            · intro w'
              go_simp
              with_reducible rfl
            rotate_left
            · simp only [Act.put, List.setIfInBounds_toArray, List.set_cons_zero, List.set_cons_succ, i64_w, i32_w]
              rfl
            refine pure_ (i := 18) (N := some 44) (v := ?_) (a' := ?_) #[true, true, true, true, true, true, true, true, true, true, true, true, true, true, true, true, true, true, true, false, false, false, false, false, false, false] rfl rfl (any_of HT_.out (by kernel_rfl)) (fun _ _ _ h => h) (Or.inl ⟨by rfl, ?_⟩) ?_ ?_
            rotate_left
            · intro w'
              go_simp
              with_reducible rfl
            rotate_left
            · simp only [Act.put, List.setIfInBounds_toArray, List.set_cons_zero, List.set_cons_succ, i64_w, i32_w]
              rfl
            refine pure_ (i := 19) (N := some 45) (v := ?_) (a' := ?_) #[true, true, true, true, true, true, true, true, true, true, true, true, true, true, true, true, true, true, true, true, false, false, false, false, false, false] rfl rfl (any_of HT_.out (by kernel_rfl)) (fun _ _ _ h => h) (Or.inl ⟨by rfl, ?_⟩) ?_ ?_
            rotate_left
            · intro w'
              go_simp
              with_reducible rfl
            rotate_left
            · simp only [Act.put, List.setIfInBounds_toArray, List.set_cons_zero, List.set_cons_succ, i64_w, i32_w]
              rfl
            refine pure_ (i := 21) (N := some 47) (v := ?_) (a' := ?_) #[true, true, true, true, true, true, true, true, true, true, true, true, true, true, true, true, true, true, true, true, false, true, false, false, false, false] rfl rfl (any_of HT_.out (by kernel_rfl)) (fun _ _ _ h => h) (Or.inl ⟨by rfl, ?_⟩) ?_ ?_
            rotate_left
            · intro w'
              go_simp
              with_reducible rfl
            rotate_left
            · simp only [Act.put, List.setIfInBounds_toArray, List.set_cons_zero, List.set_cons_succ, i64_w, i32_w]
              rfl
            refine take_ (i := 20) (N := some 46) (v := ?_) (a' := ?_) #[true, true, true, true, true, true, true, true, true, true, true, true, true, true, true, true, true, true, true, true, true, true, false, false, false, false] rfl rfl (take_ofW HT_.out HW_.out (by kernel_rfl)) (fun _ _ _ h => h) (Or.inl ⟨by rfl, ?_⟩) hHeld ?_ ?_
            rotate_left
            · rintro w' ⟨s0, s1, s2, s3, s4, s5, s6, s7, s8, s9⟩
              go_simp
              with_reducible rfl
            rotate_left
            · simp only [Act.put, List.setIfInBounds_toArray, List.set_cons_zero, List.set_cons_succ, i64_w, i32_w]
              rfl
            refine take_ (i := 22) (N := some 48) (v := ?_) (a' := ?_) #[true, true, true, true, true, true, true, true, true, true, true, true, true, true, true, true, true, true, true, true, true, true, true, false, false, false] rfl rfl (take_ofW HT_.out HW_.out (by kernel_rfl)) (fun _ _ _ h => h) (Or.inl ⟨by rfl, ?_⟩) hHeld ?_ ?_
            rotate_left
            · rintro w' ⟨s0, s1, s2, s3, s4, s5, s6, s7, s8, s9⟩
              go_simp
              with_reducible rfl
            rotate_left
            · simp only [Act.put, List.setIfInBounds_toArray, List.set_cons_zero, List.set_cons_succ, i64_w, i32_w]
              rfl
            refine one_ (i := 23) (N := some 49) #[true, true, true, true, true, true, true, true, true, true, true, true, true, true, true, true, true, true, true, true, true, true, true, true, false, false] rfl rfl (one_of HT_.out (by kernel_rfl)) (by decide) (fun K hK => ?_)
            refine goes_ Try.func41 (by kernel_rfl) rfl #[.slice A0_1 l0_1.length c0_1, .slice Ao27 t640.length co27] (by rfl) rfl rfl (by (try simp only [List.map_toArray, List.map_cons, List.map_nil]); first | done | rfl | (simp only [List.length_drop, List.length_take]; rfl)) ?_
            with_reducible refine (hoggetref10_Clauses.calls k _ _ l0_1 _ _ t640 t666 _ ?side1 ?side2 ?side3 ?side4 A18.out).mono ?_
            (case side1 => repeat (first | exact (Kd.C_below HR0_1.out HB.out) | (with_reducible refine Kd.C_alloc ?_ _) | (with_reducible refine Kd.C_drewN ?_ _) | (with_reducible refine Kd.C_drew ?_)))
            (case side2 => exact HC0_1.out)
            (case side3 => repeat (first | exact (Kd.S_reads' HO642.out).2.2 | (with_reducible refine Kd.C_alloc ?_ _) | (with_reducible refine Kd.C_drewN ?_ _) | (with_reducible refine Kd.C_drew ?_)))
            (case side4 => exact (Kd.S_reads' HO642.out).2.1)
            rintro e w' ⟨rfl, ⟨nd, rfl⟩⟩
            refine ⟨_, rfl, ?_⟩
            refine hK.out _ _ ⟨(blk_cell BK652.out 0).trans rfl, (blk_cell BK652.out 1).trans rfl, (blk_cell BK652.out 2).trans rfl, (blk_cell BK661.out 0).trans rfl, (blk_cell BK661.out 1).trans rfl, (blk_cell BK661.out 2).trans rfl, (blk_cell BK638.out 0).trans rfl, (blk_cell BK638.out 1).trans rfl, (blk_cell BK643.out 0).trans rfl, (blk_cell BK643.out 1).trans rfl⟩ (fun hHeld => ?_)
            clear hK K
            refine norm_ (a' := ?_) ?_ ?_
            rotate_left
            · show Act.put _ (some 49) _ = _
              simp only [Act.put, List.setIfInBounds_toArray, List.set_cons_zero, List.set_cons_succ, i64_w, i32_w]
              rfl
            refine pure_ (i := 24) (N := some 50) (v := ?_) (a' := ?_) #[true, true, true, true, true, true, true, true, true, true, true, true, true, true, true, true, true, true, true, true, true, true, true, true, true, false] rfl rfl (any_of HT_.out (by kernel_rfl)) (fun _ _ _ h => h) (Or.inl ⟨by rfl, ?_⟩) ?_ ?_
            rotate_left
            · intro w'
              go_simp
              with_reducible rfl
            rotate_left
            · simp only [Act.put, List.setIfInBounds_toArray, List.set_cons_zero, List.set_cons_succ, i64_w, i32_w]
              rfl
            refine pure_ (i := 25) (N := some 2) (v := ?_) (a' := ?_) #[true, true, true, true, true, true, true, true, true, true, true, true, true, true, true, true, true, true, true, true, true, true, true, true, true, true] rfl rfl (any_of HT_.out (by kernel_rfl)) (fun _ _ _ h => h) (Or.inl ⟨by rfl, ?_⟩) ?_ ?_
            rotate_left
            · intro w'
              go_simp
              with_reducible rfl
            rotate_left
            · simp only [Act.put, List.setIfInBounds_toArray, List.set_cons_zero, List.set_cons_succ, i64_w, i32_w]
              rfl
            refine done_ (done_of HT_.out (by kernel_rfl)) ?_
            try go_wp2
            go_ret
            exact ⟨by first | rfl | (simp [errW_none, errW_some] <;> rfl) | (simp [*, errW_none, errW_some] <;> rfl), by repeat (first | (with_reducible first | exact HB.out | apply below_alloc | apply pw_below_drewN | apply below_drew1 | refine below_set ?_ GE638.out | refine below_set ?_ GE643.out | refine below_set ?_ GE652.out | refine below_set ?_ GE661.out) | exact HB.out)⟩
          · rw [if_neg c17] at H
            have c17b0 : (t664 == t665) = false := beq_eq_false_iff_ne.mpr c17
            have c17b1 : (t664 != t665) = true := bne_iff_ne.mpr c17
            cases H
        · replace c14 := Bool.eq_false_iff.mpr c14
          subst c14
          have H1 : (none) = some r := by rw [if_neg (show ¬ (false = true) by decide)] at H; exact H
          clear H
          have H := H1
          clear H1
          cases H
      · rw [if_neg c12] at H
        have c12b0 : (t651 == t660) = false := beq_eq_false_iff_ne.mpr c12
        have c12b1 : (t651 != t660) = true := bne_iff_ne.mpr c12
        cases H
    · replace c11 := Bool.eq_false_iff.mpr c11
      subst c11
      have H1 : (none) = some r := by rw [if_neg (show ¬ (false = true) by decide)] at H; exact H
      clear H
      have H := H1
      clear H1
      cases H

end Go.Proofs.Ythnbmlpjbhhamaa.J
