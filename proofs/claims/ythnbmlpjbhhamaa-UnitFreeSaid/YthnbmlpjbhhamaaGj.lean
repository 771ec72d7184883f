/- The walks of hoggetlaw11_UnitFree, by the print over this seat. -/
import Derived.Test.YthnbmlpjbhhamaaJ0
import Derived.Test.YthnbmlpjbhhamaaGd
import Derived.Test.YthnbmlpjbhhamaaGg
import Derived.Test.YthnbmlpjbhhamaaHb
import Derived.Test.YthnbmlpjbhhamaaHv
import Derived.Test.YthnbmlpjbhhamaaHw
namespace Go.Proofs.Ythnbmlpjbhhamaa.J
open Go.RowKit Go.Proofs.YthnbmlpjbhhamaaW.PrintWords Go.Proofs.YthnbmlpjbhhamaaW.PrintLast Go.Proofs.YthnbmlpjbhhamaaW.PrintMore
attribute [local go_sem] max2_int min2_int max_two min_two max_three min_three max_four min_four   -- for this text's walks alone
set_option linter.unusedVariables false
set_option linter.unusedSimpArgs false

/-! ### hoggetlaw11_UnitFree: function 7 -/
mutual
noncomputable def hoggetlaw11_UnitFree.j0 : Nat → List Int → Int → Int → Int → List (List Int) → Option (Bool)
  | 0, _, _, _, _, _ => none
  | k + 1, x5, x7, x8, x355000, x355001 => hoggetlaw11_UnitFree.l0 k x5 x7 x8 1 x355000 x355001
noncomputable def hoggetlaw11_UnitFree.l0 : Nat → List Int → Int → Int → Int → Int → List (List Int) → Option (Bool)
  | 0, _, _, _, _, _, _ => none
  | k + 1, x5, x7, x8, x9, x355000, x355001 => if x9 < x8 then (hoggetlaw11_UnitFree.j2 k x5 x7 x8 x9 (decide (x9 ≤ 60)) x355000 x355001) else (hoggetlaw11_UnitFree.j2 k x5 x7 x8 x9 false x355000 x355001)
noncomputable def hoggetlaw11_UnitFree.j2 : Nat → List Int → Int → Int → Int → Bool → Int → List (List Int) → Option (Bool)
  | 0, _, _, _, _, _, _, _ => none
  | k + 1, x5, x7, x8, x9, x43, x355000, x355001 => if x43 = true then ((hoggetref11_Has.f k x5 x9).bind fun t362 => (if t362 = true then (hoggetlaw11_UnitFree.l0 k x5 x7 x8 (wrap64 (x9 + 1)) x355000 x355001) else ((hoggetref11_Has.f k x5 (wrap64 (-x9))).bind fun t363 => (if t363 = true then (hoggetlaw11_UnitFree.l0 k x5 x7 x8 (wrap64 (x9 + 1)) x355000 x355001) else (some false))))) else (if x7 > 0 then ((hoggetlaw11_follows.f k).bind fun t364 => (if t364 = true then (if x7 ≤ x355000 then ((hoggetref11_Has.f k x5 x7).bind fun t365 => (if t365 = true then (some false) else ((hoggetref11_Has.f k x5 (wrap64 (-x7))).bind fun t366 => (some (!t366))))) else (some false)) else (some false))) else (hoggetlaw11_UnitFree.l1 k x5 ([] : List Bool) 0 x355000 x355001))
noncomputable def hoggetlaw11_UnitFree.l1 : Nat → List Int → List Bool → Int → Int → List (List Int) → Option (Bool)
  | 0, _, _, _, _, _ => none
  | k + 1, x5, x10, x11, x355000, x355001 => if x11 < (x5.length : Int) then (if 0 ≤ x11 then (if x10.length < 140737488355328 then (hoggetlaw11_UnitFree.l1 k x5 (x10 ++ [decide ((rd x5 x11) > 0)]) (wrap64 (x11 + 1)) x355000 x355001) else (none)) else (none)) else ((hoggetlaw11_follows.f k).bind fun t371 => (if t371 = true then ((clause_Sat.f x355000 x355001 x10).bind fun t372 => (some t372)) else (some false)))
end
noncomputable def hoggetlaw11_UnitFree.f (k : Nat) (a0_0 : Int) (l0_1 : List (List Int)) (l1 : List Int) : Option (Bool) := (hoggetlaw11_large.f k a0_0 l0_1 l1).bind fun t355 => (if t355 = true then (some true) else ((unit_Propagate.f a0_0 l0_1 l1).bind fun bt356 => ((unit_Free.f a0_0 l0_1 l1).bind fun t360 => (if bt356.2 = 0 then (if t360 = 0 then (hoggetlaw11_UnitFree.j0 k bt356.1 t360 (wrap64 (a0_0 + 1)) a0_0 l0_1) else (hoggetlaw11_UnitFree.j0 k bt356.1 t360 t360 a0_0 l0_1)) else ((hoggetlaw11_follows.f k).bind fun t361 => (if t361 = true then (some (t360 == 0)) else (some false)))))))
theorem hoggetlaw11_UnitFree.mono_l : ∀ k, (∀ y0 y1 y2 y3 y4, LeO (hoggetlaw11_UnitFree.j0 k y0 y1 y2 y3 y4) (hoggetlaw11_UnitFree.j0 (k + 1) y0 y1 y2 y3 y4)) ∧ (∀ y0 y1 y2 y3 y4 y5, LeO (hoggetlaw11_UnitFree.l0 k y0 y1 y2 y3 y4 y5) (hoggetlaw11_UnitFree.l0 (k + 1) y0 y1 y2 y3 y4 y5)) ∧ (∀ y0 y1 y2 y3 y4 y5 y6, LeO (hoggetlaw11_UnitFree.j2 k y0 y1 y2 y3 y4 y5 y6) (hoggetlaw11_UnitFree.j2 (k + 1) y0 y1 y2 y3 y4 y5 y6)) ∧ (∀ y0 y1 y2 y3 y4, LeO (hoggetlaw11_UnitFree.l1 k y0 y1 y2 y3 y4) (hoggetlaw11_UnitFree.l1 (k + 1) y0 y1 y2 y3 y4))
  | 0 => ⟨fun _ _ _ _ _ r h => by simp [hoggetlaw11_UnitFree.j0] at h, fun _ _ _ _ _ _ r h => by simp [hoggetlaw11_UnitFree.l0] at h, fun _ _ _ _ _ _ _ r h => by simp [hoggetlaw11_UnitFree.j2] at h, fun _ _ _ _ _ r h => by simp [hoggetlaw11_UnitFree.l1] at h⟩
  | k + 1 => by
    obtain ⟨ih0, ih1, ih2, ih3⟩ := hoggetlaw11_UnitFree.mono_l k
    refine ⟨?_, ?_, ?_, ?_⟩
    · intro y0 y1 y2 y3 y4
      unfold hoggetlaw11_UnitFree.j0
      repeat' first
      | (with_reducible exact ih0 _ _ _ _ _)
      | (with_reducible exact ih1 _ _ _ _ _ _)
      | (with_reducible exact ih2 _ _ _ _ _ _ _)
      | (with_reducible exact ih3 _ _ _ _ _)
      | (with_reducible exact hoggetlaw11_follows.mono _)
      | (with_reducible exact hoggetlaw11_large.mono _ _ _ _)
      | (with_reducible exact hoggetref11_Has.mono _ _ _)
      | (with_reducible exact LeO.refl _)
      | (with_reducible exact LeO.none _)
      | (with_reducible refine LeO.ite ?_ ?_)
      | (with_reducible refine LeO.bind ?_ (fun _ => ?_))
      | exact ih0 _ _ _ _ _
      | exact ih1 _ _ _ _ _ _
      | exact ih2 _ _ _ _ _ _ _
      | exact ih3 _ _ _ _ _
      | exact hoggetlaw11_follows.mono _
      | exact hoggetlaw11_large.mono _ _ _ _
      | exact hoggetref11_Has.mono _ _ _
      | exact LeO.none _
      | refine LeO.ite ?_ ?_
      | refine LeO.bind ?_ (fun _ => ?_)
    · intro y0 y1 y2 y3 y4 y5
      unfold hoggetlaw11_UnitFree.l0
      repeat' first
      | (with_reducible exact ih0 _ _ _ _ _)
      | (with_reducible exact ih1 _ _ _ _ _ _)
      | (with_reducible exact ih2 _ _ _ _ _ _ _)
      | (with_reducible exact ih3 _ _ _ _ _)
      | (with_reducible exact hoggetlaw11_follows.mono _)
      | (with_reducible exact hoggetlaw11_large.mono _ _ _ _)
      | (with_reducible exact hoggetref11_Has.mono _ _ _)
      | (with_reducible exact LeO.refl _)
      | (with_reducible exact LeO.none _)
      | (with_reducible refine LeO.ite ?_ ?_)
      | (with_reducible refine LeO.bind ?_ (fun _ => ?_))
      | exact ih0 _ _ _ _ _
      | exact ih1 _ _ _ _ _ _
      | exact ih2 _ _ _ _ _ _ _
      | exact ih3 _ _ _ _ _
      | exact hoggetlaw11_follows.mono _
      | exact hoggetlaw11_large.mono _ _ _ _
      | exact hoggetref11_Has.mono _ _ _
      | exact LeO.none _
      | refine LeO.ite ?_ ?_
      | refine LeO.bind ?_ (fun _ => ?_)
    · intro y0 y1 y2 y3 y4 y5 y6
      unfold hoggetlaw11_UnitFree.j2
      repeat' first
      | (with_reducible exact ih0 _ _ _ _ _)
      | (with_reducible exact ih1 _ _ _ _ _ _)
      | (with_reducible exact ih2 _ _ _ _ _ _ _)
      | (with_reducible exact ih3 _ _ _ _ _)
      | (with_reducible exact hoggetlaw11_follows.mono _)
      | (with_reducible exact hoggetlaw11_large.mono _ _ _ _)
      | (with_reducible exact hoggetref11_Has.mono _ _ _)
      | (with_reducible exact LeO.refl _)
      | (with_reducible exact LeO.none _)
      | (with_reducible refine LeO.ite ?_ ?_)
      | (with_reducible refine LeO.bind ?_ (fun _ => ?_))
      | exact ih0 _ _ _ _ _
      | exact ih1 _ _ _ _ _ _
      | exact ih2 _ _ _ _ _ _ _
      | exact ih3 _ _ _ _ _
      | exact hoggetlaw11_follows.mono _
      | exact hoggetlaw11_large.mono _ _ _ _
      | exact hoggetref11_Has.mono _ _ _
      | exact LeO.none _
      | refine LeO.ite ?_ ?_
      | refine LeO.bind ?_ (fun _ => ?_)
    · intro y0 y1 y2 y3 y4
      unfold hoggetlaw11_UnitFree.l1
      repeat' first
      | (with_reducible exact ih0 _ _ _ _ _)
      | (with_reducible exact ih1 _ _ _ _ _ _)
      | (with_reducible exact ih2 _ _ _ _ _ _ _)
      | (with_reducible exact ih3 _ _ _ _ _)
      | (with_reducible exact hoggetlaw11_follows.mono _)
      | (with_reducible exact hoggetlaw11_large.mono _ _ _ _)
      | (with_reducible exact hoggetref11_Has.mono _ _ _)
      | (with_reducible exact LeO.refl _)
      | (with_reducible exact LeO.none _)
      | (with_reducible refine LeO.ite ?_ ?_)
      | (with_reducible refine LeO.bind ?_ (fun _ => ?_))
      | exact ih0 _ _ _ _ _
      | exact ih1 _ _ _ _ _ _
      | exact ih2 _ _ _ _ _ _ _
      | exact ih3 _ _ _ _ _
      | exact hoggetlaw11_follows.mono _
      | exact hoggetlaw11_large.mono _ _ _ _
      | exact hoggetref11_Has.mono _ _ _
      | exact LeO.none _
      | refine LeO.ite ?_ ?_
      | refine LeO.bind ?_ (fun _ => ?_)
theorem hoggetlaw11_UnitFree.mono : ∀ a0 a1 a2 k, LeO (hoggetlaw11_UnitFree.f k a0 a1 a2) (hoggetlaw11_UnitFree.f (k + 1) a0 a1 a2) := by
  intro a0 a1 a2 k
  obtain ⟨ih0, ih1, ih2, ih3⟩ := hoggetlaw11_UnitFree.mono_l k
  unfold hoggetlaw11_UnitFree.f
  repeat' first
      | (with_reducible exact ih0 _ _ _ _ _)
      | (with_reducible exact ih1 _ _ _ _ _ _)
      | (with_reducible exact ih2 _ _ _ _ _ _ _)
      | (with_reducible exact ih3 _ _ _ _ _)
      | (with_reducible exact hoggetlaw11_follows.mono _)
      | (with_reducible exact hoggetlaw11_large.mono _ _ _ _)
      | (with_reducible exact hoggetref11_Has.mono _ _ _)
      | (with_reducible exact LeO.refl _)
      | (with_reducible exact LeO.none _)
      | (with_reducible refine LeO.ite ?_ ?_)
      | (with_reducible refine LeO.bind ?_ (fun _ => ?_))
      | exact ih0 _ _ _ _ _
      | exact ih1 _ _ _ _ _ _
      | exact ih2 _ _ _ _ _ _ _
      | exact ih3 _ _ _ _ _
      | exact hoggetlaw11_follows.mono _
      | exact hoggetlaw11_large.mono _ _ _ _
      | exact hoggetref11_Has.mono _ _ _
      | exact LeO.none _
      | refine LeO.ite ?_ ?_
      | refine LeO.bind ?_ (fun _ => ?_)
set_option maxHeartbeats 8000000 in
set_option maxRecDepth 100000 in
theorem hoggetlaw11_UnitFree.calls (k : Nat) (a0_0 : Int) (A0_1 : Option Addr) (c0_1 : Nat) (l0_1 : List (List Int)) (A1 : Option Addr) (c1 : Nat) (l1 : List Int) (r : Bool) (w : World) (hr0_1 : Kd.C (Kd.slice 3 (Kd.int .i64)) w A0_1 l0_1.length l0_1) (hc0_1 : l0_1.length ≤ c0_1) (hr1 : Kd.C (Kd.int .i64) w A1 l1.length l1) (hc1 : l1.length ≤ c1) (h : hoggetlaw11_UnitFree.f k a0_0 l0_1 l1 = some r) :
    Calls Try.prog 7 #[.agg #[.int .i64 a0_0, .slice A0_1 l0_1.length c0_1], .slice A1 l1.length c1] w fun e w' => e = .returned (.bool r) ∧ Below w.heap.size w w' := by
  have hu24 := Try.underlying24
  have HR0_1 := Aside0.mk hr0_1
  have HC0_1 := Aside0.mk hc0_1
  clear hr0_1 hc0_1
  have HR1 := Aside0.mk hr1
  have HC1 := Aside0.mk hc1
  clear hr1 hc1
  have HB := Aside0.mk (Below.refl w.heap.size w)
  have H : ((hoggetlaw11_large.f k a0_0 l0_1 l1).bind fun t355 => (if t355 = true then (some true) else ((unit_Propagate.f a0_0 l0_1 l1).bind fun bt356 => ((unit_Free.f a0_0 l0_1 l1).bind fun t360 => (if bt356.2 = 0 then (if t360 = 0 then (hoggetlaw11_UnitFree.j0 k bt356.1 t360 (wrap64 (a0_0 + 1)) a0_0 l0_1) else (hoggetlaw11_UnitFree.j0 k bt356.1 t360 t360 a0_0 l0_1)) else ((hoggetlaw11_follows.f k).bind fun t361 => (if t361 = true then (some (t360 == 0)) else (some false)))))))) = some r := h
  clear h
  replace H := Option.bind_eq_some_iff.mp H
  obtain ⟨t355, A30, H⟩ := H
  replace H : (if t355 = true then (some true) else ((unit_Propagate.f a0_0 l0_1 l1).bind fun bt356 => ((unit_Free.f a0_0 l0_1 l1).bind fun t360 => (if bt356.2 = 0 then (if t360 = 0 then (hoggetlaw11_UnitFree.j0 k bt356.1 t360 (wrap64 (a0_0 + 1)) a0_0 l0_1) else (hoggetlaw11_UnitFree.j0 k bt356.1 t360 t360 a0_0 l0_1)) else ((hoggetlaw11_follows.f k).bind fun t361 => (if t361 = true then (some (t360 == 0)) else (some false))))))) = some r := H
  have A3 := Aside0.mk A30
  clear A30
  by_cases c4 : t355 = true
  · subst c4
    have H1 : (some true) = some r := by rw [if_pos rfl] at H; exact H
    clear H
    have H := H1
    clear H1
    obtain rfl := Option.some.inj H
    go_enter Try.func7, Try.ntmps7
    go_wp2_with (first | ((with_reducible refine gate_dst (N := 2) rfl ?_); refine box_event ?hg (N := 2) ?hd (cs := #[.int .i64 a0_0, .slice A0_1 l0_1.length c0_1]) (t := 24) ?hr ?_; (case hd => rfl); (case hg => rfl); (case hr => first | (go_simp; done) | (go_simp; rfl)); intro gb354 hg w5 hbox hb; have n0_ := Aside0.mk (below_step (by repeat (first | (with_reducible first | exact HB.out | apply below_alloc | apply pw_below_drewN | apply below_drew1) | exact HB.out)) hb); have n1_ := Aside0.mk (hbox); have n2_ := Aside0.mk ((by rw [hg]; exact (below_size (by repeat (first | (with_reducible first | exact HB.out | apply below_alloc | apply pw_below_drewN | apply below_drew1) | exact HB.out))) : w.heap.size ≤ gb354)); have n3_ := Aside0.mk ((by rw [hg]; exact (below_size (by repeat (first | (with_reducible first | exact HB.out | apply below_alloc | apply pw_below_drewN | apply below_drew1) | exact HB.out))) : w.heap.size ≤ gb354)); clear HB; have HB := n0_; have BK354 := n1_; have GW354 := n2_; have GE354 := n3_; clear n0_ n1_ n2_ n3_; clear hb hbox hg; have hcz6_0 : w5.cell? ⟨gb354, 0, none⟩ = some (.int .i64 a0_0) := (blk_cell BK354.out 0).trans rfl; have hcz6_1 : w5.cell? ⟨gb354, 1, none⟩ = some (.slice A0_1 l0_1.length c0_1) := (blk_cell BK354.out 1).trans rfl; have hfz6_0 := blk_frozen BK354.out 0; have hfz6_1 := blk_frozen BK354.out 1) | ((with_reducible refine gate_callee (f := 32) rfl ?_); refine goesL_ (some 14) rfl rfl Try.func32 (by kernel_rfl) rfl #[.agg #[.int .i64 a0_0, .slice A0_1 l0_1.length c0_1], .slice A1 l1.length c1] rfl (by (try simp only [List.map_toArray, List.map_cons, List.map_nil]); first | done | rfl | (simp only [List.length_drop, List.length_take]; rfl)) ?_; (with_reducible refine (hoggetlaw11_large.calls k a0_0 _ _ l0_1 _ _ l1 true _ ?side1 ?side2 ?side3 ?side4 A3.out).mono ?_); (case side1 => repeat (first | exact (Kd.C_below HR0_1.out HB.out) | (with_reducible refine Kd.C_alloc ?_ _) | (with_reducible refine Kd.C_drewN ?_ _) | (with_reducible refine Kd.C_drew ?_))); (case side2 => exact HC0_1.out); (case side3 => repeat (first | exact (Kd.C_below HR1.out HB.out) | (with_reducible refine Kd.C_alloc ?_ _) | (with_reducible refine Kd.C_drewN ?_ _) | (with_reducible refine Kd.C_drew ?_))); (case side4 => exact HC1.out); rintro e w7 ⟨rfl, hb⟩; refine ⟨_, rfl, ?_⟩; have n0_ := Aside0.mk (blk_below (g := gb354) (o := .cells #[.int .i64 a0_0, .slice A0_1 l0_1.length c0_1] 24 (0, 0)) (by (with_reducible repeat (first | refine blk_drewN ?_ _ | refine blk_drew ?_ | refine blk_alloc ?_ _)); exact BK354.out) hb); have n1_ := Aside0.mk (below_step (by repeat (first | (with_reducible first | exact HB.out | apply below_alloc | apply pw_below_drewN | apply below_drew1 | refine below_set ?_ GE354.out) | exact HB.out)) hb); clear BK354; clear HB; have BK354 := n0_; have HB := n1_; clear n0_ n1_; (try clear hb); (try clear hb2); (try clear hk); (try clear hi)))
    go_ret
    exact ⟨by first | rfl | (simp [errW_none, errW_some] <;> rfl) | (simp [*, errW_none, errW_some] <;> rfl), by repeat (first | (with_reducible first | exact HB.out | apply below_alloc | apply pw_below_drewN | apply below_drew1 | refine below_set ?_ GE354.out) | exact HB.out)⟩
  · replace c4 := Bool.eq_false_iff.mpr c4
    subst c4
    have H1 : ((unit_Propagate.f a0_0 l0_1 l1).bind fun bt356 => ((unit_Free.f a0_0 l0_1 l1).bind fun t360 => (if bt356.2 = 0 then (if t360 = 0 then (hoggetlaw11_UnitFree.j0 k bt356.1 t360 (wrap64 (a0_0 + 1)) a0_0 l0_1) else (hoggetlaw11_UnitFree.j0 k bt356.1 t360 t360 a0_0 l0_1)) else ((hoggetlaw11_follows.f k).bind fun t361 => (if t361 = true then (some (t360 == 0)) else (some false)))))) = some r := by rw [if_neg (show ¬ (false = true) by decide)] at H; exact H
    clear H
    have H := H1
    clear H1
    replace H := Option.bind_eq_some_iff.mp H
    obtain ⟨⟨t356, t359⟩, A80, H⟩ := H
    replace H : ((unit_Free.f a0_0 l0_1 l1).bind fun t360 => (if t359 = 0 then (if t360 = 0 then (hoggetlaw11_UnitFree.j0 k t356 t360 (wrap64 (a0_0 + 1)) a0_0 l0_1) else (hoggetlaw11_UnitFree.j0 k t356 t360 t360 a0_0 l0_1)) else ((hoggetlaw11_follows.f k).bind fun t361 => (if t361 = true then (some (t360 == 0)) else (some false))))) = some r := H
    have A8 := Aside0.mk A80
    clear A80
    replace H := Option.bind_eq_some_iff.mp H
    obtain ⟨t360, A90, H⟩ := H
    replace H : (if t359 = 0 then (if t360 = 0 then (hoggetlaw11_UnitFree.j0 k t356 t360 (wrap64 (a0_0 + 1)) a0_0 l0_1) else (hoggetlaw11_UnitFree.j0 k t356 t360 t360 a0_0 l0_1)) else ((hoggetlaw11_follows.f k).bind fun t361 => (if t361 = true then (some (t360 == 0)) else (some false)))) = some r := H
    have A9 := Aside0.mk A90
    clear A90
    by_cases c10 : t359 = 0
    · rw [if_pos c10] at H
      have c10b0 : (t359 == 0) = true := beq_iff_eq.mpr c10
      have c10b1 : (t359 != 0) = false := bne_eq_false_iff_eq.mpr c10
      clear c10
      have HC11 := Aside0.mk H
      clear H
      go_enter Try.func7, Try.ntmps7
      go_upto_if 33 with (first | ((with_reducible refine gate_dst (N := 2) rfl ?_); refine box_event ?hg (N := 2) ?hd (cs := #[.int .i64 a0_0, .slice A0_1 l0_1.length c0_1]) (t := 24) ?hr ?_; (case hd => rfl); (case hg => rfl); (case hr => first | (go_simp; done) | (go_simp; rfl)); intro gb354 hg w12 hbox hb; have n0_ := Aside0.mk (below_step (by repeat (first | (with_reducible first | exact HB.out | apply below_alloc | apply pw_below_drewN | apply below_drew1) | exact HB.out)) hb); have n1_ := Aside0.mk (hbox); have n2_ := Aside0.mk ((by rw [hg]; exact (below_size (by repeat (first | (with_reducible first | exact HB.out | apply below_alloc | apply pw_below_drewN | apply below_drew1) | exact HB.out))) : w.heap.size ≤ gb354)); have n3_ := Aside0.mk ((by rw [hg]; exact (below_size (by repeat (first | (with_reducible first | exact HB.out | apply below_alloc | apply pw_below_drewN | apply below_drew1) | exact HB.out))) : w.heap.size ≤ gb354)); clear HB; have HB := n0_; have BK354 := n1_; have GW354 := n2_; have GE354 := n3_; clear n0_ n1_ n2_ n3_; clear hb hbox hg; have hcz13_0 : w12.cell? ⟨gb354, 0, none⟩ = some (.int .i64 a0_0) := (blk_cell BK354.out 0).trans rfl; have hcz13_1 : w12.cell? ⟨gb354, 1, none⟩ = some (.slice A0_1 l0_1.length c0_1) := (blk_cell BK354.out 1).trans rfl; have hfz13_0 := blk_frozen BK354.out 0; have hfz13_1 := blk_frozen BK354.out 1) | ((with_reducible refine gate_callee (f := 32) rfl ?_); refine goesL_ (some 14) rfl rfl Try.func32 (by kernel_rfl) rfl #[.agg #[.int .i64 a0_0, .slice A0_1 l0_1.length c0_1], .slice A1 l1.length c1] rfl (by (try simp only [List.map_toArray, List.map_cons, List.map_nil]); first | done | rfl | (simp only [List.length_drop, List.length_take]; rfl)) ?_; (with_reducible refine (hoggetlaw11_large.calls k a0_0 _ _ l0_1 _ _ l1 false _ ?side1 ?side2 ?side3 ?side4 A3.out).mono ?_); (case side1 => repeat (first | exact (Kd.C_below HR0_1.out HB.out) | (with_reducible refine Kd.C_alloc ?_ _) | (with_reducible refine Kd.C_drewN ?_ _) | (with_reducible refine Kd.C_drew ?_))); (case side2 => exact HC0_1.out); (case side3 => repeat (first | exact (Kd.C_below HR1.out HB.out) | (with_reducible refine Kd.C_alloc ?_ _) | (with_reducible refine Kd.C_drewN ?_ _) | (with_reducible refine Kd.C_drew ?_))); (case side4 => exact HC1.out); rintro e w14 ⟨rfl, hb⟩; refine ⟨_, rfl, ?_⟩; have n0_ := Aside0.mk (blk_below (g := gb354) (o := .cells #[.int .i64 a0_0, .slice A0_1 l0_1.length c0_1] 24 (0, 0)) (by (with_reducible repeat (first | refine blk_drewN ?_ _ | refine blk_drew ?_ | refine blk_alloc ?_ _)); exact BK354.out) hb); have n1_ := Aside0.mk (below_step (by repeat (first | (with_reducible first | exact HB.out | apply below_alloc | apply pw_below_drewN | apply below_drew1 | refine below_set ?_ GE354.out) | exact HB.out)) hb); clear BK354; clear HB; have BK354 := n0_; have HB := n1_; clear n0_ n1_; (try clear hb); (try clear hb2); (try clear hk); (try clear hi); have hcz15_0 : w14.cell? ⟨gb354, 0, none⟩ = some (.int .i64 a0_0) := (blk_cell BK354.out 0).trans rfl; have hcz15_1 : w14.cell? ⟨gb354, 1, none⟩ = some (.slice A0_1 l0_1.length c0_1) := (blk_cell BK354.out 1).trans rfl; have hfz15_0 := blk_frozen BK354.out 0; have hfz15_1 := blk_frozen BK354.out 1) | ((with_reducible refine gate_callee (f := 35) rfl ?_); refine goesL_ (some 18) rfl rfl Try.func35 (by kernel_rfl) rfl #[.agg #[.int .i64 a0_0, .slice A0_1 l0_1.length c0_1], .slice A1 l1.length c1] rfl (by (try simp only [List.map_toArray, List.map_cons, List.map_nil]); first | done | rfl | (simp only [List.length_drop, List.length_take]; rfl)) ?_; (with_reducible refine (unit_Propagate.calls a0_0 _ _ l0_1 _ _ l1 t356 t359 _ ?side1 ?side2 ?side3 ?side4 A8.out).mono ?_); (case side1 => repeat (first | exact (Kd.C_below HR0_1.out HB.out) | (with_reducible refine Kd.C_alloc ?_ _) | (with_reducible refine Kd.C_drewN ?_ _) | (with_reducible refine Kd.C_drew ?_))); (case side2 => exact HC0_1.out); (case side3 => repeat (first | exact (Kd.C_below HR1.out HB.out) | (with_reducible refine Kd.C_alloc ?_ _) | (with_reducible refine Kd.C_drewN ?_ _) | (with_reducible refine Kd.C_drew ?_))); (case side4 => exact HC1.out); rintro e w16 ⟨v357, rfl, ho0, hb⟩; refine ⟨_, rfl, ?_⟩; have n0_ := Aside0.mk (Kd.R_lower ho0 (below_size (by repeat (first | (with_reducible first | exact HB.out | apply below_alloc | apply pw_below_drewN | apply below_drew1 | refine below_set ?_ GE354.out) | exact HB.out)))); have n1_ := Aside0.mk (blk_below (g := gb354) (o := .cells #[.int .i64 a0_0, .slice A0_1 l0_1.length c0_1] 24 (0, 0)) (by (with_reducible repeat (first | refine blk_drewN ?_ _ | refine blk_drew ?_ | refine blk_alloc ?_ _)); exact BK354.out) hb); have n2_ := Aside0.mk (below_step (by repeat (first | (with_reducible first | exact HB.out | apply below_alloc | apply pw_below_drewN | apply below_drew1 | refine below_set ?_ GE354.out) | exact HB.out)) hb); clear BK354; clear HB; have HO358 := n0_; have BK354 := n1_; have HB := n2_; clear n0_ n1_ n2_; (try clear hb); (try clear hb2); (try clear hk); (try clear hi); (try clear ho0); have hcz17_0 : w16.cell? ⟨gb354, 0, none⟩ = some (.int .i64 a0_0) := (blk_cell BK354.out 0).trans rfl; have hcz17_1 : w16.cell? ⟨gb354, 1, none⟩ = some (.slice A0_1 l0_1.length c0_1) := (blk_cell BK354.out 1).trans rfl; have hfz17_0 := blk_frozen BK354.out 0; have hfz17_1 := blk_frozen BK354.out 1) | ((with_reducible refine gate_callee (f := 39) rfl ?_); refine goesL_ (some 23) rfl rfl Try.func39 (by kernel_rfl) rfl #[.agg #[.int .i64 a0_0, .slice A0_1 l0_1.length c0_1], .slice A1 l1.length c1] rfl (by (try simp only [List.map_toArray, List.map_cons, List.map_nil]); first | done | rfl | (simp only [List.length_drop, List.length_take]; rfl)) ?_; (with_reducible refine (unit_Free.calls a0_0 _ _ l0_1 _ _ l1 t360 _ ?side1 ?side2 ?side3 ?side4 A9.out).mono ?_); (case side1 => repeat (first | exact (Kd.C_below HR0_1.out HB.out) | (with_reducible refine Kd.C_alloc ?_ _) | (with_reducible refine Kd.C_drewN ?_ _) | (with_reducible refine Kd.C_drew ?_))); (case side2 => exact HC0_1.out); (case side3 => repeat (first | exact (Kd.C_below HR1.out HB.out) | (with_reducible refine Kd.C_alloc ?_ _) | (with_reducible refine Kd.C_drewN ?_ _) | (with_reducible refine Kd.C_drew ?_))); (case side4 => exact HC1.out); rintro e w18 ⟨rfl, hb⟩; refine ⟨_, rfl, ?_⟩; have n0_ := Aside0.mk (Kd.R_below (by (with_reducible repeat (first | apply Kd.R_alloc | apply Kd.R_drewN | apply Kd.R_drew)); exact HO358.out) hb); have n1_ := Aside0.mk (blk_below (g := gb354) (o := .cells #[.int .i64 a0_0, .slice A0_1 l0_1.length c0_1] 24 (0, 0)) (by (with_reducible repeat (first | refine blk_drewN ?_ _ | refine blk_drew ?_ | refine blk_alloc ?_ _)); exact BK354.out) hb); have n2_ := Aside0.mk (below_step (by repeat (first | (with_reducible first | exact HB.out | apply below_alloc | apply pw_below_drewN | apply below_drew1 | refine below_set ?_ GE354.out) | exact HB.out)) hb); clear HO358; clear BK354; clear HB; have HO358 := n0_; have BK354 := n1_; have HB := n2_; clear n0_ n1_ n2_; (try clear hb); (try clear hb2); (try clear hk); (try clear hi)))
      (try simp only [Act.put, List.setIfInBounds_toArray, List.set_cons_zero, List.set_cons_succ])
      go_cut [8] (fun v8 wc => ∃ (kq : Nat) (x8_10 : Int), v8 = .int .i64 x8_10 ∧ Aside0 (hoggetlaw11_UnitFree.j0 kq t356 t360 x8_10 a0_0 l0_1 = some r) ∧ Aside0 (kq ≤ k) ∧ Aside0 (Kd.R (Kd.int .i64) 3 wc w.heap.size (fun _ => True) v357 t356) ∧ Aside0 (wc.heap[gb354]? = some (.cells #[.int .i64 a0_0, (.slice A0_1 l0_1.length c0_1)] 24 (0, 0))) ∧ Aside0 (Below w.heap.size w wc))
      case first =>
        have H := HC11.out
        clear HC11
        by_cases c19 : t360 = 0
        · rw [if_pos c19] at H
          have c19b0 : (t360 == 0) = true := beq_iff_eq.mpr c19
          have c19b1 : (t360 != 0) = false := bne_eq_false_iff_eq.mpr c19
          clear c19
          (first | rw [c19b0] | (simp only [i64_w, i32_w]; rw [c19b0]) | skip)
          have H' := Aside0.mk H
          clear H
          have hcz20_0 : w18.cell? ⟨gb354, 0, none⟩ = some (.int .i64 a0_0) := (blk_cell BK354.out 0).trans rfl
          have hcz20_1 : w18.cell? ⟨gb354, 1, none⟩ = some (.slice A0_1 l0_1.length c0_1) := (blk_cell BK354.out 1).trans rfl
          have hfz20_0 := blk_frozen BK354.out 0
          have hfz20_1 := blk_frozen BK354.out 1
          go_wp2
          go_meet
          case rel => exact ⟨_, (wrap64 (a0_0 + 1)), (by first | rfl | (simp; done) | (simp [*]; done)), H', ⟨by first | omega | exact Nat.le_refl _⟩, ⟨by (with_reducible repeat (first | apply Kd.R_alloc | apply Kd.R_drewN | apply Kd.R_drew)); exact HO358.out⟩, ⟨by (with_reducible repeat (first | refine blk_drewN ?_ _ | refine blk_drew ?_ | refine blk_alloc ?_ _)); exact BK354.out⟩, ⟨by repeat (first | (with_reducible first | exact HB.out | apply below_alloc | apply pw_below_drewN | apply below_drew1 | refine below_set ?_ GE354.out) | exact HB.out)⟩⟩
        · rw [if_neg c19] at H
          have c19b0 : (t360 == 0) = false := beq_eq_false_iff_ne.mpr c19
          have c19b1 : (t360 != 0) = true := bne_iff_ne.mpr c19
          (first | rw [c19b0] | (simp only [i64_w, i32_w]; rw [c19b0]) | skip)
          have H' := Aside0.mk H
          clear H
          go_wp2
          go_meet
          case rel => exact ⟨_, (t360), (by first | rfl | (simp; done) | (simp [*]; done)), H', ⟨by first | omega | exact Nat.le_refl _⟩, ⟨by (with_reducible repeat (first | apply Kd.R_alloc | apply Kd.R_drewN | apply Kd.R_drew)); exact HO358.out⟩, ⟨by (with_reducible repeat (first | refine blk_drewN ?_ _ | refine blk_drew ?_ | refine blk_alloc ?_ _)); exact BK354.out⟩, ⟨by repeat (first | (with_reducible first | exact HB.out | apply below_alloc | apply pw_below_drewN | apply below_drew1 | refine below_set ?_ GE354.out) | exact HB.out)⟩⟩
      case rest =>
        clear HC11
        try clear c1
        try clear p2
        try clear c3
        try clear c4
        try clear p6
        try clear c7
        try clear c10
        try clear c10b0
        try clear c10b1
        try clear c19
        try clear c19b0
        try clear c19b1
        try clear hcz13_0
        try clear hcz13_1
        try clear hcz15_0
        try clear hcz15_1
        try clear hcz17_0
        try clear hcz17_1
        try clear hcz20_0
        try clear hcz20_1
        try clear hcz6_0
        try clear hcz6_1
        try clear hfz13_0
        try clear hfz13_1
        try clear hfz15_0
        try clear hfz15_1
        try clear hfz17_0
        try clear hfz17_1
        try clear hfz20_0
        try clear hfz20_1
        try clear hfz6_0
        try clear hfz6_1
        obtain ⟨kq, x8_10, rfl, HA, HJ10, HO_5, BK354, HB⟩ := hcut
        cases kq with
        | zero => exact absurd HA.out (by simp [hoggetlaw11_UnitFree.j0])
        | succ kj10 =>
          have H := HA.out
          clear HA
          simp only [hoggetlaw11_UnitFree.j0] at H
          have H' := Aside0.mk H
          clear H
          go_wp2
          go_loopg [9] kj10 (fun kq v9 w' => ∃ (x9_2 : Int), v9 = .int .i64 x9_2 ∧ Aside0 (hoggetlaw11_UnitFree.l0 kq t356 t360 x8_10 x9_2 a0_0 l0_1 = some r) ∧ Aside0 (kq ≤ kj10) ∧ Aside0 (Kd.R (Kd.int .i64) 3 w' w.heap.size (fun _ => True) v357 t356) ∧ Aside0 (w'.heap[gb354]? = some (.cells #[.int .i64 a0_0, (.slice A0_1 l0_1.length c0_1)] 24 (0, 0))) ∧ Aside0 (Below w.heap.size w w'))
          case atStart => exact ⟨(1), (by first | rfl | (simp; done) | (simp [*]; done)), H', ⟨Nat.le_refl _⟩, ⟨by (with_reducible repeat (first | apply Kd.R_alloc | apply Kd.R_drewN | apply Kd.R_drew)); exact HO_5.out⟩, ⟨by (with_reducible repeat (first | refine blk_drewN ?_ _ | refine blk_drew ?_ | refine blk_alloc ?_ _)); exact BK354.out⟩, ⟨by repeat (first | (with_reducible first | exact HB.out | apply below_alloc | apply pw_below_drewN | apply below_drew1 | refine below_set ?_ GE354.out) | exact HB.out)⟩⟩
          case round =>
            clear H'
            try clear c1
            try clear p2
            try clear c3
            try clear c4
            try clear p6
            try clear c7
            try clear c10
            try clear c10b0
            try clear c10b1
            try clear c19
            try clear c19b0
            try clear c19b1
            try clear hcz13_0
            try clear hcz13_1
            try clear hcz15_0
            try clear hcz15_1
            try clear hcz17_0
            try clear hcz17_1
            try clear hcz20_0
            try clear hcz20_1
            try clear hcz6_0
            try clear hcz6_1
            try clear hfz13_0
            try clear hfz13_1
            try clear hfz15_0
            try clear hfz15_1
            try clear hfz17_0
            try clear hfz17_1
            try clear hfz20_0
            try clear hfz20_1
            try clear hfz6_0
            try clear hfz6_1
            try clear p2
            try clear p6
            obtain ⟨x9_2, rfl, HA, HK2, HO_5, BK354, HB⟩ := hrel
            cases gk with
            | zero => exact absurd HA.out (by simp [hoggetlaw11_UnitFree.l0])
            | succ k2 =>
              have H := HA.out
              clear HA
              simp only [hoggetlaw11_UnitFree.l0] at H
              have HC21 := Aside0.mk H
              clear H
              go_upto_region 11 with (fail)
              go_cut [43] (fun v43 wc => ∃ (kq : Nat) (x43_20 : Bool), v43 = .bool x43_20 ∧ Aside0 (hoggetlaw11_UnitFree.j2 kq t356 t360 x8_10 x9_2 x43_20 a0_0 l0_1 = some r) ∧ Aside0 (kq ≤ k2) ∧ Aside0 (Kd.R (Kd.int .i64) 3 wc w.heap.size (fun _ => True) v357 t356) ∧ Aside0 (wc.heap[gb354]? = some (.cells #[.int .i64 a0_0, (.slice A0_1 l0_1.length c0_1)] 24 (0, 0))) ∧ Aside0 (Below w.heap.size w wc))
              case first =>
                have H := HC21.out
                clear HC21
                by_cases c22 : x9_2 < x8_10
                · rw [if_pos c22] at H
                  have c22b0 : decide (x9_2 < x8_10) = true := decide_eq_true c22
                  clear c22
                  (first | rw [c22b0] | (simp only [i64_w, i32_w]; rw [c22b0]) | skip)
                  have H' := Aside0.mk H
                  clear H
                  go_wp2
                  go_meet
                  case rel => exact ⟨_, (decide (x9_2 ≤ 60)), (by first | rfl | (simp; done) | (simp [*]; done)), H', ⟨by have := HJ10.out; have := HK2.out; first | omega | exact Nat.le_refl _⟩, ⟨by (with_reducible repeat (first | apply Kd.R_alloc | apply Kd.R_drewN | apply Kd.R_drew)); exact HO_5.out⟩, ⟨by (with_reducible repeat (first | refine blk_drewN ?_ _ | refine blk_drew ?_ | refine blk_alloc ?_ _)); exact BK354.out⟩, ⟨by repeat (first | (with_reducible first | exact HB.out | apply below_alloc | apply pw_below_drewN | apply below_drew1 | refine below_set ?_ GE354.out) | exact HB.out)⟩⟩
                · rw [if_neg c22] at H
                  have c22b0 : decide (x9_2 < x8_10) = false := decide_eq_false c22
                  clear c22
                  (first | rw [c22b0] | (simp only [i64_w, i32_w]; rw [c22b0]) | skip)
                  have H' := Aside0.mk H
                  clear H
                  go_wp2
                  go_meet
                  case rel => exact ⟨_, (false), (by first | rfl | (simp; done) | (simp [*]; done)), H', ⟨by have := HJ10.out; have := HK2.out; first | omega | exact Nat.le_refl _⟩, ⟨by (with_reducible repeat (first | apply Kd.R_alloc | apply Kd.R_drewN | apply Kd.R_drew)); exact HO_5.out⟩, ⟨by (with_reducible repeat (first | refine blk_drewN ?_ _ | refine blk_drew ?_ | refine blk_alloc ?_ _)); exact BK354.out⟩, ⟨by repeat (first | (with_reducible first | exact HB.out | apply below_alloc | apply pw_below_drewN | apply below_drew1 | refine below_set ?_ GE354.out) | exact HB.out)⟩⟩
              case rest =>
                clear HC21
                try clear c1
                try clear c2
                try clear p2
                try clear c3
                try clear c4
                try clear p6
                try clear c7
                try clear c10
                try clear c10b0
                try clear c10b1
                try clear c19
                try clear c19b0
                try clear c19b1
                try clear c22
                try clear c22b0
                try clear hcz13_0
                try clear hcz13_1
                try clear hcz15_0
                try clear hcz15_1
                try clear hcz17_0
                try clear hcz17_1
                try clear hcz20_0
                try clear hcz20_1
                try clear hcz6_0
                try clear hcz6_1
                try clear hfz13_0
                try clear hfz13_1
                try clear hfz15_0
                try clear hfz15_1
                try clear hfz17_0
                try clear hfz17_1
                try clear hfz20_0
                try clear hfz20_1
                try clear hfz6_0
                try clear hfz6_1
                try clear p2
                try clear p6
                obtain ⟨kq, x43_20, rfl, HA, HJ20, HO_5, BK354, HB⟩ := hcut
                cases kq with
                | zero => exact absurd HA.out (by simp [hoggetlaw11_UnitFree.j2])
                | succ kj20 =>
                  have H := HA.out
                  clear HA
                  simp only [hoggetlaw11_UnitFree.j2] at H
                  by_cases c23 : x43_20 = true
                  · subst c23
                    have H1 : ((hoggetref11_Has.f kj20 t356 x9_2).bind fun t362 => (if t362 = true then (hoggetlaw11_UnitFree.l0 kj20 t356 t360 x8_10 (wrap64 (x9_2 + 1)) a0_0 l0_1) else ((hoggetref11_Has.f kj20 t356 (wrap64 (-x9_2))).bind fun t363 => (if t363 = true then (hoggetlaw11_UnitFree.l0 kj20 t356 t360 x8_10 (wrap64 (x9_2 + 1)) a0_0 l0_1) else (some false))))) = some r := by rw [if_pos rfl] at H; exact H
                    clear H
                    have H := H1
                    clear H1
                    replace H := Option.bind_eq_some_iff.mp H
                    obtain ⟨t362, A240, H⟩ := H
                    replace H : (if t362 = true then (hoggetlaw11_UnitFree.l0 kj20 t356 t360 x8_10 (wrap64 (x9_2 + 1)) a0_0 l0_1) else ((hoggetref11_Has.f kj20 t356 (wrap64 (-x9_2))).bind fun t363 => (if t363 = true then (hoggetlaw11_UnitFree.l0 kj20 t356 t360 x8_10 (wrap64 (x9_2 + 1)) a0_0 l0_1) else (some false)))) = some r := H
                    have A24 := Aside0.mk A240
                    clear A240
                    by_cases c25 : t362 = true
                    · subst c25
                      have H1 : (hoggetlaw11_UnitFree.l0 kj20 t356 t360 x8_10 (wrap64 (x9_2 + 1)) a0_0 l0_1) = some r := by rw [if_pos rfl] at H; exact H
                      clear H
                      have H := H1
                      clear H1
                      have H' := Aside0.mk H
                      clear H
                      obtain ⟨Ao26, co26, eo26⟩ := Kd.R_slice HO_5.out
                      subst eo26
                      go_wp2_with (first | ((with_reducible refine gate_callee (f := 42) rfl ?_); refine goesL_ (some 48) rfl rfl Try.func42 (by kernel_rfl) rfl #[.slice Ao26 t356.length co26, .int .i64 x9_2] rfl (by (try simp only [List.map_toArray, List.map_cons, List.map_nil]); first | done | rfl | (simp only [List.length_drop, List.length_take]; rfl)) ?_; (with_reducible refine (hoggetref11_Has.calls kj20 _ _ t356 x9_2 true _ ?side1 ?side2 A24.out).mono ?_); (case side1 => repeat (first | exact (Kd.R_reads' HO_5.out).2.2 | (with_reducible refine Kd.C_alloc ?_ _) | (with_reducible refine Kd.C_drewN ?_ _) | (with_reducible refine Kd.C_drew ?_))); (case side2 => exact (Kd.R_reads' HO_5.out).2.1); rintro e w' ⟨rfl, ⟨nd, rfl⟩⟩; refine ⟨_, rfl, ?_⟩))
                      go_roundg kj20
                      case measure => have := HJ10.out; have := HK2.out; have := HJ20.out; omega
                      case rel => exact ⟨(wrap64 (x9_2 + 1)), (by first | rfl | (simp; done) | (simp [*]; done)), H', ⟨by have := HJ10.out; have := HK2.out; have := HJ20.out; omega⟩, ⟨by (with_reducible repeat (first | apply Kd.R_alloc | apply Kd.R_drewN | apply Kd.R_drew)); exact HO_5.out⟩, ⟨by (with_reducible repeat (first | refine blk_drewN ?_ _ | refine blk_drew ?_ | refine blk_alloc ?_ _)); exact BK354.out⟩, ⟨by repeat (first | (with_reducible first | exact HB.out | apply below_alloc | apply pw_below_drewN | apply below_drew1 | refine below_set ?_ GE354.out) | exact HB.out)⟩⟩
                    · replace c25 := Bool.eq_false_iff.mpr c25
                      subst c25
                      have H1 : ((hoggetref11_Has.f kj20 t356 (wrap64 (-x9_2))).bind fun t363 => (if t363 = true then (hoggetlaw11_UnitFree.l0 kj20 t356 t360 x8_10 (wrap64 (x9_2 + 1)) a0_0 l0_1) else (some false))) = some r := by rw [if_neg (show ¬ (false = true) by decide)] at H; exact H
                      clear H
                      have H := H1
                      clear H1
                      replace H := Option.bind_eq_some_iff.mp H
                      obtain ⟨t363, A270, H⟩ := H
                      replace H : (if t363 = true then (hoggetlaw11_UnitFree.l0 kj20 t356 t360 x8_10 (wrap64 (x9_2 + 1)) a0_0 l0_1) else (some false)) = some r := H
                      have A27 := Aside0.mk A270
                      clear A270
                      by_cases c28 : t363 = true
                      · subst c28
                        have H1 : (hoggetlaw11_UnitFree.l0 kj20 t356 t360 x8_10 (wrap64 (x9_2 + 1)) a0_0 l0_1) = some r := by rw [if_pos rfl] at H; exact H
                        clear H
                        have H := H1
                        clear H1
                        have H' := Aside0.mk H
                        clear H
                        obtain ⟨Ao29, co29, eo29⟩ := Kd.R_slice HO_5.out
                        subst eo29
                        go_wp2_with (first | ((with_reducible refine gate_callee (f := 42) rfl ?_); refine goesL_ (some 48) rfl rfl Try.func42 (by kernel_rfl) rfl #[.slice Ao29 t356.length co29, .int .i64 x9_2] rfl (by (try simp only [List.map_toArray, List.map_cons, List.map_nil]); first | done | rfl | (simp only [List.length_drop, List.length_take]; rfl)) ?_; (with_reducible refine (hoggetref11_Has.calls kj20 _ _ t356 x9_2 false _ ?side1 ?side2 A24.out).mono ?_); (case side1 => repeat (first | exact (Kd.R_reads' HO_5.out).2.2 | (with_reducible refine Kd.C_alloc ?_ _) | (with_reducible refine Kd.C_drewN ?_ _) | (with_reducible refine Kd.C_drew ?_))); (case side2 => exact (Kd.R_reads' HO_5.out).2.1); rintro e w' ⟨rfl, ⟨nd, rfl⟩⟩; refine ⟨_, rfl, ?_⟩) | (go_at_call 42; (with_reducible refine (hoggetref11_Has.calls kj20 _ _ t356 (wrap64 (-x9_2)) true _ ?side1 ?side2 A27.out).mono ?_); (case side1 => repeat (first | exact (Kd.R_reads' HO_5.out).2.2 | (with_reducible refine Kd.C_alloc ?_ _) | (with_reducible refine Kd.C_drewN ?_ _) | (with_reducible refine Kd.C_drew ?_))); (case side2 => exact (Kd.R_reads' HO_5.out).2.1); rintro e w' ⟨rfl, ⟨nd, rfl⟩⟩))
                        go_roundg kj20
                        case measure => have := HJ10.out; have := HK2.out; have := HJ20.out; omega
                        case rel => exact ⟨(wrap64 (x9_2 + 1)), (by first | rfl | (simp; done) | (simp [*]; done)), H', ⟨by have := HJ10.out; have := HK2.out; have := HJ20.out; omega⟩, ⟨by (with_reducible repeat (first | apply Kd.R_alloc | apply Kd.R_drewN | apply Kd.R_drew)); exact HO_5.out⟩, ⟨by (with_reducible repeat (first | refine blk_drewN ?_ _ | refine blk_drew ?_ | refine blk_alloc ?_ _)); exact BK354.out⟩, ⟨by repeat (first | (with_reducible first | exact HB.out | apply below_alloc | apply pw_below_drewN | apply below_drew1 | refine below_set ?_ GE354.out) | exact HB.out)⟩⟩
                      · replace c28 := Bool.eq_false_iff.mpr c28
                        subst c28
                        have H1 : (some false) = some r := by rw [if_neg (show ¬ (false = true) by decide)] at H; exact H
                        clear H
                        have H := H1
                        clear H1
                        obtain rfl := Option.some.inj H
                        obtain ⟨Ao30, co30, eo30⟩ := Kd.R_slice HO_5.out
                        subst eo30
                        go_wp2_with (first | ((with_reducible refine gate_callee (f := 42) rfl ?_); refine goesL_ (some 48) rfl rfl Try.func42 (by kernel_rfl) rfl #[.slice Ao30 t356.length co30, .int .i64 x9_2] rfl (by (try simp only [List.map_toArray, List.map_cons, List.map_nil]); first | done | rfl | (simp only [List.length_drop, List.length_take]; rfl)) ?_; (with_reducible refine (hoggetref11_Has.calls kj20 _ _ t356 x9_2 false _ ?side1 ?side2 A24.out).mono ?_); (case side1 => repeat (first | exact (Kd.R_reads' HO_5.out).2.2 | (with_reducible refine Kd.C_alloc ?_ _) | (with_reducible refine Kd.C_drewN ?_ _) | (with_reducible refine Kd.C_drew ?_))); (case side2 => exact (Kd.R_reads' HO_5.out).2.1); rintro e w' ⟨rfl, ⟨nd, rfl⟩⟩; refine ⟨_, rfl, ?_⟩) | (go_at_call 42; (with_reducible refine (hoggetref11_Has.calls kj20 _ _ t356 (wrap64 (-x9_2)) false _ ?side1 ?side2 A27.out).mono ?_); (case side1 => repeat (first | exact (Kd.R_reads' HO_5.out).2.2 | (with_reducible refine Kd.C_alloc ?_ _) | (with_reducible refine Kd.C_drewN ?_ _) | (with_reducible refine Kd.C_drew ?_))); (case side2 => exact (Kd.R_reads' HO_5.out).2.1); rintro e w' ⟨rfl, ⟨nd, rfl⟩⟩))
                        go_ret
                        exact ⟨by first | rfl | (simp [errW_none, errW_some] <;> rfl) | (simp [*, errW_none, errW_some] <;> rfl), by repeat (first | (with_reducible first | exact HB.out | apply below_alloc | apply pw_below_drewN | apply below_drew1 | refine below_set ?_ GE354.out) | exact HB.out)⟩
                  · replace c23 := Bool.eq_false_iff.mpr c23
                    subst c23
                    have H1 : (if t360 > 0 then ((hoggetlaw11_follows.f kj20).bind fun t364 => (if t364 = true then (if t360 ≤ a0_0 then ((hoggetref11_Has.f kj20 t356 t360).bind fun t365 => (if t365 = true then (some false) else ((hoggetref11_Has.f kj20 t356 (wrap64 (-t360))).bind fun t366 => (some (!t366))))) else (some false)) else (some false))) else (hoggetlaw11_UnitFree.l1 kj20 t356 ([] : List Bool) 0 a0_0 l0_1)) = some r := by rw [if_neg (show ¬ (false = true) by decide)] at H; exact H
                    clear H
                    have H := H1
                    clear H1
                    by_cases c31 : t360 > 0
                    · rw [if_pos c31] at H
                      have c31b0 : decide (0 < t360) = true := decide_eq_true c31
                      clear c31
                      replace H := Option.bind_eq_some_iff.mp H
                      obtain ⟨t364, A320, H⟩ := H
                      replace H : (if t364 = true then (if t360 ≤ a0_0 then ((hoggetref11_Has.f kj20 t356 t360).bind fun t365 => (if t365 = true then (some false) else ((hoggetref11_Has.f kj20 t356 (wrap64 (-t360))).bind fun t366 => (some (!t366))))) else (some false)) else (some false)) = some r := H
                      have A32 := Aside0.mk A320
                      clear A320
                      by_cases c33 : t364 = true
                      · subst c33
                        have H1 : (if t360 ≤ a0_0 then ((hoggetref11_Has.f kj20 t356 t360).bind fun t365 => (if t365 = true then (some false) else ((hoggetref11_Has.f kj20 t356 (wrap64 (-t360))).bind fun t366 => (some (!t366))))) else (some false)) = some r := by rw [if_pos rfl] at H; exact H
                        clear H
                        have H := H1
                        clear H1
                        by_cases c34 : t360 ≤ a0_0
                        · rw [if_pos c34] at H
                          have c34b0 : decide (t360 ≤ a0_0) = true := decide_eq_true c34
                          clear c34
                          replace H := Option.bind_eq_some_iff.mp H
                          obtain ⟨t365, A350, H⟩ := H
                          replace H : (if t365 = true then (some false) else ((hoggetref11_Has.f kj20 t356 (wrap64 (-t360))).bind fun t366 => (some (!t366)))) = some r := H
                          have A35 := Aside0.mk A350
                          clear A350
                          by_cases c36 : t365 = true
                          · subst c36
                            have H1 : (some false) = some r := by rw [if_pos rfl] at H; exact H
                            clear H
                            have H := H1
                            clear H1
                            obtain rfl := Option.some.inj H
                            go_wp2_with (first | ((with_reducible refine gate_callee (f := 37) rfl ?_); refine goesL_ (some 59) rfl rfl Try.func37 (by kernel_rfl) rfl #[] rfl (by (try simp only [List.map_toArray, List.map_cons, List.map_nil]); first | done | rfl | (simp only [List.length_drop, List.length_take]; rfl)) ?_; (with_reducible refine (hoggetlaw11_follows.calls kj20  true _ A32.out).mono ?_); rintro e w37 ⟨rfl, hb⟩; refine ⟨_, rfl, ?_⟩; have n0_ := Aside0.mk (Kd.R_below (by (with_reducible repeat (first | apply Kd.R_alloc | apply Kd.R_drewN | apply Kd.R_drew)); exact HO_5.out) hb); have n1_ := Aside0.mk (blk_below (g := gb354) (o := .cells #[.int .i64 a0_0, .slice A0_1 l0_1.length c0_1] 24 (0, 0)) (by (with_reducible repeat (first | refine blk_drewN ?_ _ | refine blk_drew ?_ | refine blk_alloc ?_ _)); exact BK354.out) hb); have n2_ := Aside0.mk (below_step (by repeat (first | (with_reducible first | exact HB.out | apply below_alloc | apply pw_below_drewN | apply below_drew1 | refine below_set ?_ GE354.out) | exact HB.out)) hb); clear HO_5; clear BK354; clear HB; have HO_5 := n0_; have BK354 := n1_; have HB := n2_; clear n0_ n1_ n2_; (try clear hb); (try clear hb2); (try clear hk); (try clear hi); have hcz38_0 : w37.cell? ⟨gb354, 0, none⟩ = some (.int .i64 a0_0) := (blk_cell BK354.out 0).trans rfl; have hcz38_1 : w37.cell? ⟨gb354, 1, none⟩ = some (.slice A0_1 l0_1.length c0_1) := (blk_cell BK354.out 1).trans rfl; have hfz38_0 := blk_frozen BK354.out 0; have hfz38_1 := blk_frozen BK354.out 1; obtain ⟨Ao39, co39, eo39⟩ := Kd.R_slice HO_5.out; subst eo39) | (go_at_call 42; (with_reducible refine (hoggetref11_Has.calls kj20 _ _ t356 t360 true _ ?side1 ?side2 A35.out).mono ?_); (case side1 => repeat (first | exact (Kd.R_reads' HO_5.out).2.2 | (with_reducible refine Kd.C_alloc ?_ _) | (with_reducible refine Kd.C_drewN ?_ _) | (with_reducible refine Kd.C_drew ?_))); (case side2 => exact (Kd.R_reads' HO_5.out).2.1); rintro e w' ⟨rfl, ⟨nd, rfl⟩⟩))
                            go_ret
                            exact ⟨by first | rfl | (simp [errW_none, errW_some] <;> rfl) | (simp [*, errW_none, errW_some] <;> rfl), by repeat (first | (with_reducible first | exact HB.out | apply below_alloc | apply pw_below_drewN | apply below_drew1 | refine below_set ?_ GE354.out) | exact HB.out)⟩
                          · replace c36 := Bool.eq_false_iff.mpr c36
                            subst c36
                            have H1 : ((hoggetref11_Has.f kj20 t356 (wrap64 (-t360))).bind fun t366 => (some (!t366))) = some r := by rw [if_neg (show ¬ (false = true) by decide)] at H; exact H
                            clear H
                            have H := H1
                            clear H1
                            replace H := Option.bind_eq_some_iff.mp H
                            obtain ⟨t366, A400, H⟩ := H
                            replace H : (some (!t366)) = some r := H
                            have A40 := Aside0.mk A400
                            clear A400
                            obtain rfl := Option.some.inj H
                            go_wp2_with (first | ((with_reducible refine gate_callee (f := 37) rfl ?_); refine goesL_ (some 59) rfl rfl Try.func37 (by kernel_rfl) rfl #[] rfl (by (try simp only [List.map_toArray, List.map_cons, List.map_nil]); first | done | rfl | (simp only [List.length_drop, List.length_take]; rfl)) ?_; (with_reducible refine (hoggetlaw11_follows.calls kj20  true _ A32.out).mono ?_); rintro e w41 ⟨rfl, hb⟩; refine ⟨_, rfl, ?_⟩; have n0_ := Aside0.mk (Kd.R_below (by (with_reducible repeat (first | apply Kd.R_alloc | apply Kd.R_drewN | apply Kd.R_drew)); exact HO_5.out) hb); have n1_ := Aside0.mk (blk_below (g := gb354) (o := .cells #[.int .i64 a0_0, .slice A0_1 l0_1.length c0_1] 24 (0, 0)) (by (with_reducible repeat (first | refine blk_drewN ?_ _ | refine blk_drew ?_ | refine blk_alloc ?_ _)); exact BK354.out) hb); have n2_ := Aside0.mk (below_step (by repeat (first | (with_reducible first | exact HB.out | apply below_alloc | apply pw_below_drewN | apply below_drew1 | refine below_set ?_ GE354.out) | exact HB.out)) hb); clear HO_5; clear BK354; clear HB; have HO_5 := n0_; have BK354 := n1_; have HB := n2_; clear n0_ n1_ n2_; (try clear hb); (try clear hb2); (try clear hk); (try clear hi); have hcz42_0 : w41.cell? ⟨gb354, 0, none⟩ = some (.int .i64 a0_0) := (blk_cell BK354.out 0).trans rfl; have hcz42_1 : w41.cell? ⟨gb354, 1, none⟩ = some (.slice A0_1 l0_1.length c0_1) := (blk_cell BK354.out 1).trans rfl; have hfz42_0 := blk_frozen BK354.out 0; have hfz42_1 := blk_frozen BK354.out 1; obtain ⟨Ao43, co43, eo43⟩ := Kd.R_slice HO_5.out; subst eo43) | (go_at_call 42; (with_reducible refine (hoggetref11_Has.calls kj20 _ _ t356 t360 false _ ?side1 ?side2 A35.out).mono ?_); (case side1 => repeat (first | exact (Kd.R_reads' HO_5.out).2.2 | (with_reducible refine Kd.C_alloc ?_ _) | (with_reducible refine Kd.C_drewN ?_ _) | (with_reducible refine Kd.C_drew ?_))); (case side2 => exact (Kd.R_reads' HO_5.out).2.1); rintro e w' ⟨rfl, ⟨nd, rfl⟩⟩) | (go_at_call 42; (with_reducible refine (hoggetref11_Has.calls kj20 _ _ t356 (wrap64 (-t360)) t366 _ ?side1 ?side2 A40.out).mono ?_); (case side1 => repeat (first | exact (Kd.R_reads' HO_5.out).2.2 | (with_reducible refine Kd.C_alloc ?_ _) | (with_reducible refine Kd.C_drewN ?_ _) | (with_reducible refine Kd.C_drew ?_))); (case side2 => exact (Kd.R_reads' HO_5.out).2.1); rintro e w' ⟨rfl, ⟨nd, rfl⟩⟩))
                            go_ret
                            exact ⟨by first | rfl | (simp [errW_none, errW_some] <;> rfl) | (simp [*, errW_none, errW_some] <;> rfl), by repeat (first | (with_reducible first | exact HB.out | apply below_alloc | apply pw_below_drewN | apply below_drew1 | refine below_set ?_ GE354.out) | exact HB.out)⟩
                        · rw [if_neg c34] at H
                          have c34b0 : decide (t360 ≤ a0_0) = false := decide_eq_false c34
                          clear c34
                          obtain rfl := Option.some.inj H
                          go_wp2_with (first | ((with_reducible refine gate_callee (f := 37) rfl ?_); refine goesL_ (some 59) rfl rfl Try.func37 (by kernel_rfl) rfl #[] rfl (by (try simp only [List.map_toArray, List.map_cons, List.map_nil]); first | done | rfl | (simp only [List.length_drop, List.length_take]; rfl)) ?_; (with_reducible refine (hoggetlaw11_follows.calls kj20  true _ A32.out).mono ?_); rintro e w44 ⟨rfl, hb⟩; refine ⟨_, rfl, ?_⟩; have n0_ := Aside0.mk (Kd.R_below (by (with_reducible repeat (first | apply Kd.R_alloc | apply Kd.R_drewN | apply Kd.R_drew)); exact HO_5.out) hb); have n1_ := Aside0.mk (blk_below (g := gb354) (o := .cells #[.int .i64 a0_0, .slice A0_1 l0_1.length c0_1] 24 (0, 0)) (by (with_reducible repeat (first | refine blk_drewN ?_ _ | refine blk_drew ?_ | refine blk_alloc ?_ _)); exact BK354.out) hb); have n2_ := Aside0.mk (below_step (by repeat (first | (with_reducible first | exact HB.out | apply below_alloc | apply pw_below_drewN | apply below_drew1 | refine below_set ?_ GE354.out) | exact HB.out)) hb); clear HO_5; clear BK354; clear HB; have HO_5 := n0_; have BK354 := n1_; have HB := n2_; clear n0_ n1_ n2_; (try clear hb); (try clear hb2); (try clear hk); (try clear hi); have hcz45_0 : w44.cell? ⟨gb354, 0, none⟩ = some (.int .i64 a0_0) := (blk_cell BK354.out 0).trans rfl; have hcz45_1 : w44.cell? ⟨gb354, 1, none⟩ = some (.slice A0_1 l0_1.length c0_1) := (blk_cell BK354.out 1).trans rfl; have hfz45_0 := blk_frozen BK354.out 0; have hfz45_1 := blk_frozen BK354.out 1))
                          go_ret
                          exact ⟨by first | rfl | (simp [errW_none, errW_some] <;> rfl) | (simp [*, errW_none, errW_some] <;> rfl), by repeat (first | (with_reducible first | exact HB.out | apply below_alloc | apply pw_below_drewN | apply below_drew1 | refine below_set ?_ GE354.out) | exact HB.out)⟩
                      · replace c33 := Bool.eq_false_iff.mpr c33
                        subst c33
                        have H1 : (some false) = some r := by rw [if_neg (show ¬ (false = true) by decide)] at H; exact H
                        clear H
                        have H := H1
                        clear H1
                        obtain rfl := Option.some.inj H
                        go_wp2_with (first | ((with_reducible refine gate_callee (f := 37) rfl ?_); refine goesL_ (some 59) rfl rfl Try.func37 (by kernel_rfl) rfl #[] rfl (by (try simp only [List.map_toArray, List.map_cons, List.map_nil]); first | done | rfl | (simp only [List.length_drop, List.length_take]; rfl)) ?_; (with_reducible refine (hoggetlaw11_follows.calls kj20  false _ A32.out).mono ?_); rintro e w46 ⟨rfl, hb⟩; refine ⟨_, rfl, ?_⟩; have n0_ := Aside0.mk (Kd.R_below (by (with_reducible repeat (first | apply Kd.R_alloc | apply Kd.R_drewN | apply Kd.R_drew)); exact HO_5.out) hb); have n1_ := Aside0.mk (blk_below (g := gb354) (o := .cells #[.int .i64 a0_0, .slice A0_1 l0_1.length c0_1] 24 (0, 0)) (by (with_reducible repeat (first | refine blk_drewN ?_ _ | refine blk_drew ?_ | refine blk_alloc ?_ _)); exact BK354.out) hb); have n2_ := Aside0.mk (below_step (by repeat (first | (with_reducible first | exact HB.out | apply below_alloc | apply pw_below_drewN | apply below_drew1 | refine below_set ?_ GE354.out) | exact HB.out)) hb); clear HO_5; clear BK354; clear HB; have HO_5 := n0_; have BK354 := n1_; have HB := n2_; clear n0_ n1_ n2_; (try clear hb); (try clear hb2); (try clear hk); (try clear hi)))
                        go_ret
                        exact ⟨by first | rfl | (simp [errW_none, errW_some] <;> rfl) | (simp [*, errW_none, errW_some] <;> rfl), by repeat (first | (with_reducible first | exact HB.out | apply below_alloc | apply pw_below_drewN | apply below_drew1 | refine below_set ?_ GE354.out) | exact HB.out)⟩
                    · rw [if_neg c31] at H
                      have c31b0 : decide (0 < t360) = false := decide_eq_false c31
                      clear c31
                      have H' := Aside0.mk H
                      clear H
                      go_wp2
                      go_loopg [10, 11] kj20 (fun kq v10 v11 w' => ∃ (x10_4 : List Bool) (x11_4 : Int), v11 = .int .i64 x11_4 ∧ Aside0 (hoggetlaw11_UnitFree.l1 kq t356 x10_4 x11_4 a0_0 l0_1 = some r) ∧ Aside0 (kq ≤ kj20) ∧ Aside0 (Kd.R (Kd.int .i64) 3 w' w.heap.size (fun _ => True) v357 t356) ∧ Aside0 (Kd.R Kd.bool 4 w' w.heap.size (fun _ => True) v10 x10_4) ∧ Aside0 (w'.heap[gb354]? = some (.cells #[.int .i64 a0_0, (.slice A0_1 l0_1.length c0_1)] 24 (0, 0))) ∧ Aside0 (Below w.heap.size w w'))
                      case atStart => exact ⟨(([] : List Bool)), (0), (by first | rfl | (simp; done) | (simp [*]; done)), H', ⟨Nat.le_refl _⟩, ⟨by (with_reducible repeat (first | apply Kd.R_alloc | apply Kd.R_drewN | apply Kd.R_drew)); exact HO_5.out⟩, ⟨by first | exact Kd.R_nil _ _ _ _ _ | exact Kd.N_nil _ _ _ _ _ | exact Kd.V_nil _ _ _ _ _ | exact Kd.Q_nil _ _ _ _ _ | exact Kd.S_nil _ _ _ _ _⟩, ⟨by (with_reducible repeat (first | refine blk_drewN ?_ _ | refine blk_drew ?_ | refine blk_alloc ?_ _)); exact BK354.out⟩, ⟨by repeat (first | (with_reducible first | exact HB.out | apply below_alloc | apply pw_below_drewN | apply below_drew1 | refine below_set ?_ GE354.out) | exact HB.out)⟩⟩
                      case round =>
                        clear H'
                        try clear c1
                        try clear c2
                        try clear p2
                        try clear c3
                        try clear c4
                        try clear p6
                        try clear c7
                        try clear c10
                        try clear c10b0
                        try clear c10b1
                        try clear c19
                        try clear c19b0
                        try clear c19b1
                        try clear c22
                        try clear c22b0
                        try clear c23
                        try clear c25
                        try clear c28
                        try clear c31
                        try clear c31b0
                        try clear c32
                        try clear c33
                        try clear c34
                        try clear c34b0
                        try clear c35
                        try clear c36
                        try clear c37
                        try clear c39
                        try clear c42
                        try clear hcz13_0
                        try clear hcz13_1
                        try clear hcz15_0
                        try clear hcz15_1
                        try clear hcz17_0
                        try clear hcz17_1
                        try clear hcz20_0
                        try clear hcz20_1
                        try clear hcz38_0
                        try clear hcz38_1
                        try clear hcz42_0
                        try clear hcz42_1
                        try clear hcz45_0
                        try clear hcz45_1
                        try clear hcz6_0
                        try clear hcz6_1
                        try clear hfz13_0
                        try clear hfz13_1
                        try clear hfz15_0
                        try clear hfz15_1
                        try clear hfz17_0
                        try clear hfz17_1
                        try clear hfz20_0
                        try clear hfz20_1
                        try clear hfz38_0
                        try clear hfz38_1
                        try clear hfz42_0
                        try clear hfz42_1
                        try clear hfz45_0
                        try clear hfz45_1
                        try clear hfz6_0
                        try clear hfz6_1
                        try clear p2
                        try clear p6
                        obtain ⟨x10_4, x11_4, rfl, HA, HK4, HO_5, HO_10, BK354, HB⟩ := hrel
                        cases gk with
                        | zero => exact absurd HA.out (by simp [hoggetlaw11_UnitFree.l1])
                        | succ k4 =>
                          have H := HA.out
                          clear HA
                          simp only [hoggetlaw11_UnitFree.l1] at H
                          by_cases c47 : x11_4 < (t356.length : Int)
                          · rw [if_pos c47] at H
                            have c47b0 : decide (x11_4 < (t356.length : Int)) = true := decide_eq_true c47
                            clear c47
                            by_cases c48 : 0 ≤ x11_4
                            · rw [if_pos c48] at H
                              have c48b0 : decide (0 ≤ x11_4) = true := decide_eq_true c48
                              clear c48
                              by_cases c49 : x10_4.length < 140737488355328
                              · rw [if_pos c49] at H
                                have LMc49 := Aside0.mk c49
                                clear c49
                                obtain ⟨y368, hy368⟩ : ∃ y_ : List Bool, y_ = (x10_4 ++ [decide ((rd t356 x11_4) > 0)]) := ⟨_, rfl⟩
                                replace H : (hoggetlaw11_UnitFree.l1 k4 t356 y368 (wrap64 (x11_4 + 1)) a0_0 l0_1) = some r := by first | (rw [hy368]; with_reducible exact H) | (have H2_ := (Option.bind_some _ _).symm.trans H; rw [hy368]; with_reducible exact H2_) | (have H2_ := (Option.bind_some _ _).symm.trans H; with_reducible exact H2_) | with_reducible exact H | (rw [hy368]; exact H) | exact H
                                have Ny368 := Aside0.mk hy368
                                clear hy368
                                have H' := Aside0.mk H
                                clear H
                                obtain ⟨Ao50, co50, eo50⟩ := Kd.R_slice HO_5.out
                                subst eo50
                                have p367 : 0 ≤ (x11_4 : Int) := of_decide_eq_true (by first | (with_reducible assumption) | assumption)
                                have q367 : x11_4 < (t356.length : Int) := of_decide_eq_true (by first | (with_reducible assumption) | assumption)
                                obtain ⟨ad367, e367, hx367_0⟩ := Kd.at_int (Kd.R_reads' HO_5.out).2.2 x11_4 p367 q367
                                cases e367
                                replace p367 := eq_true p367
                                replace q367 := eq_true q367
                                go_wp2_with (first | ((with_reducible refine gate_builtin (b := .append) (xs := #[.tmp 85, .tmp 91]) rfl ?_); at_builtin; refine Kd.R_append Kd.bool (w0 := w) w.heap.size rfl (.tmp 85) (.tmp 91) 38 4 (.bool false) 1 rfl Try.underlying38 info4 rfl (by decide) (by omega) u10 x10_4 (decide ((rd t356 x11_4) > 0)) [.bool (decide ((rd t356 x11_4) > 0))] (fun _ => True) (fun _ => False) rfl rfl ?aP (fun _ hk => hk.elim) ?aF ?aO ?aB ?aS ?aL ?_; (case aP => exact rfl); (case aB => exact (by repeat (first | (with_reducible first | exact HB.out | apply below_alloc | apply pw_below_drewN | apply below_drew1 | refine below_set ?_ GE354.out) | exact HB.out))); (case aF => exact (fun _ _ => trivial)); (case aO => exact (by (with_reducible repeat (first | apply Kd.R_alloc | apply Kd.R_drewN | apply Kd.R_drew)); exact HO_10.out)); (case aS => exact (below_size (by repeat (first | (with_reducible first | exact HB.out | apply below_alloc | apply pw_below_drewN | apply below_drew1 | refine below_set ?_ GE354.out) | exact HB.out)))); (case aL => have := LMc49.out; omega); intro v369 w51 ho hb hg hat; rw [← Ny368.out] at ho; have n0_ := Aside0.mk (Kd.R_over' (by (with_reducible repeat (first | apply Kd.R_alloc | apply Kd.R_drewN | apply Kd.R_drew)); exact HO_5.out) (Kd.R_typed (by (with_reducible repeat (first | apply Kd.R_alloc | apply Kd.R_drewN | apply Kd.R_drew)); exact HO_10.out)) (by decide) hg); have n1_ := Aside0.mk (blk_grown (g := gb354) (o := .cells #[.int .i64 a0_0, .slice A0_1 l0_1.length c0_1] 24 (0, 0)) (by (with_reducible repeat (first | refine blk_drewN ?_ _ | refine blk_drew ?_ | refine blk_alloc ?_ _)); exact BK354.out) hg (Kd.R_ne HO_10.out BK354.out (by decide))); have n2_ := Aside0.mk (hb); have n3_ := Aside0.mk (ho); clear HO_5; clear BK354; clear HB; clear HO_10; have HO_5 := n0_; have BK354 := n1_; have HB := n2_; have HO370 := n3_; clear n0_ n1_ n2_ n3_; clear ho hb hg hat))
                                go_roundg k4
                                case measure => have := HJ10.out; have := HK2.out; have := HJ20.out; have := HK4.out; omega
                                case rel => exact ⟨(y368), (wrap64 (x11_4 + 1)), (by first | rfl | (simp; done) | (simp [*]; done)), H', ⟨by have := HJ10.out; have := HK2.out; have := HJ20.out; have := HK4.out; omega⟩, ⟨by (with_reducible repeat (first | apply Kd.R_alloc | apply Kd.R_drewN | apply Kd.R_drew)); exact HO_5.out⟩, ⟨by (with_reducible repeat (first | apply Kd.R_alloc | apply Kd.R_drewN | apply Kd.R_drew)); exact HO370.out⟩, ⟨by (with_reducible repeat (first | refine blk_drewN ?_ _ | refine blk_drew ?_ | refine blk_alloc ?_ _)); exact BK354.out⟩, ⟨by repeat (first | (with_reducible first | exact HB.out | apply below_alloc | apply pw_below_drewN | apply below_drew1 | refine below_set ?_ GE354.out) | exact HB.out)⟩⟩
                              · rw [if_neg c49] at H
                                exact absurd H (by simp)
                            · rw [if_neg c48] at H
                              exact absurd H (by simp)
                          · rw [if_neg c47] at H
                            have c47b0 : decide (x11_4 < (t356.length : Int)) = false := decide_eq_false c47
                            clear c47
                            replace H := Option.bind_eq_some_iff.mp H
                            obtain ⟨t371, A520, H⟩ := H
                            replace H : (if t371 = true then ((clause_Sat.f a0_0 l0_1 x10_4).bind fun t372 => (some t372)) else (some false)) = some r := H
                            have A52 := Aside0.mk A520
                            clear A520
                            by_cases c53 : t371 = true
                            · subst c53
                              have H1 : ((clause_Sat.f a0_0 l0_1 x10_4).bind fun t372 => (some t372)) = some r := by rw [if_pos rfl] at H; exact H
                              clear H
                              have H := H1
                              clear H1
                              replace H := Option.bind_eq_some_iff.mp H
                              obtain ⟨t372, A540, H⟩ := H
                              replace H : (some t372) = some r := H
                              have A54 := Aside0.mk A540
                              clear A540
                              obtain rfl := Option.some.inj H
                              obtain ⟨Ao55, co55, eo55⟩ := Kd.R_slice HO_5.out
                              subst eo55
                              go_wp2_with (first | ((with_reducible refine gate_callee (f := 37) rfl ?_); refine goesL_ (some 93) rfl rfl Try.func37 (by kernel_rfl) rfl #[] rfl (by (try simp only [List.map_toArray, List.map_cons, List.map_nil]); first | done | rfl | (simp only [List.length_drop, List.length_take]; rfl)) ?_; (with_reducible refine (hoggetlaw11_follows.calls k4  true _ A52.out).mono ?_); rintro e w56 ⟨rfl, hb⟩; refine ⟨_, rfl, ?_⟩; have n0_ := Aside0.mk (Kd.R_below (by (with_reducible repeat (first | apply Kd.R_alloc | apply Kd.R_drewN | apply Kd.R_drew)); exact HO_5.out) hb); have n1_ := Aside0.mk (Kd.R_below (by (with_reducible repeat (first | apply Kd.R_alloc | apply Kd.R_drewN | apply Kd.R_drew)); exact HO_10.out) hb); have n2_ := Aside0.mk (blk_below (g := gb354) (o := .cells #[.int .i64 a0_0, .slice A0_1 l0_1.length c0_1] 24 (0, 0)) (by (with_reducible repeat (first | refine blk_drewN ?_ _ | refine blk_drew ?_ | refine blk_alloc ?_ _)); exact BK354.out) hb); have n3_ := Aside0.mk (below_step (by repeat (first | (with_reducible first | exact HB.out | apply below_alloc | apply pw_below_drewN | apply below_drew1 | refine below_set ?_ GE354.out) | exact HB.out)) hb); clear HO_5; clear HO_10; clear BK354; clear HB; have HO_5 := n0_; have HO_10 := n1_; have BK354 := n2_; have HB := n3_; clear n0_ n1_ n2_ n3_; (try clear hb); (try clear hb2); (try clear hk); (try clear hi); have hcz57_0 : w56.cell? ⟨gb354, 0, none⟩ = some (.int .i64 a0_0) := (blk_cell BK354.out 0).trans rfl; have hcz57_1 : w56.cell? ⟨gb354, 1, none⟩ = some (.slice A0_1 l0_1.length c0_1) := (blk_cell BK354.out 1).trans rfl; have hfz57_0 := blk_frozen BK354.out 0; have hfz57_1 := blk_frozen BK354.out 1; obtain ⟨Ao58, co58, eo58⟩ := Kd.R_slice HO_10.out; subst eo58) | (go_at_call 43; (with_reducible refine (clause_Sat.calls a0_0 _ _ l0_1 _ _ x10_4 t372 _ ?side1 ?side2 ?side3 ?side4 A54.out).mono ?_); (case side1 => repeat (first | exact (Kd.C_below HR0_1.out HB.out) | (with_reducible refine Kd.C_alloc ?_ _) | (with_reducible refine Kd.C_drewN ?_ _) | (with_reducible refine Kd.C_drew ?_))); (case side2 => exact HC0_1.out); (case side3 => repeat (first | exact (Kd.R_reads' HO_10.out).2.2 | (with_reducible refine Kd.C_alloc ?_ _) | (with_reducible refine Kd.C_drewN ?_ _) | (with_reducible refine Kd.C_drew ?_))); (case side4 => exact (Kd.R_reads' HO_10.out).2.1); rintro e w59 ⟨rfl, hb⟩; have n0_ := Aside0.mk (Kd.R_below (by (with_reducible repeat (first | apply Kd.R_alloc | apply Kd.R_drewN | apply Kd.R_drew)); exact HO_5.out) hb); have n1_ := Aside0.mk (Kd.R_below (by (with_reducible repeat (first | apply Kd.R_alloc | apply Kd.R_drewN | apply Kd.R_drew)); exact HO_10.out) hb); have n2_ := Aside0.mk (blk_below (g := gb354) (o := .cells #[.int .i64 a0_0, .slice A0_1 l0_1.length c0_1] 24 (0, 0)) (by (with_reducible repeat (first | refine blk_drewN ?_ _ | refine blk_drew ?_ | refine blk_alloc ?_ _)); exact BK354.out) hb); have n3_ := Aside0.mk (below_step (by repeat (first | (with_reducible first | exact HB.out | apply below_alloc | apply pw_below_drewN | apply below_drew1 | refine below_set ?_ GE354.out) | exact HB.out)) hb); clear HO_5; clear HO_10; clear BK354; clear HB; have HO_5 := n0_; have HO_10 := n1_; have BK354 := n2_; have HB := n3_; clear n0_ n1_ n2_ n3_; (try clear hb); (try clear hb2); (try clear hk); (try clear hi)))
                              go_ret
                              exact ⟨by first | rfl | (simp [errW_none, errW_some] <;> rfl) | (simp [*, errW_none, errW_some] <;> rfl), by repeat (first | (with_reducible first | exact HB.out | apply below_alloc | apply pw_below_drewN | apply below_drew1 | refine below_set ?_ GE354.out) | exact HB.out)⟩
                            · replace c53 := Bool.eq_false_iff.mpr c53
                              subst c53
                              have H1 : (some false) = some r := by rw [if_neg (show ¬ (false = true) by decide)] at H; exact H
                              clear H
                              have H := H1
                              clear H1
                              obtain rfl := Option.some.inj H
                              obtain ⟨Ao60, co60, eo60⟩ := Kd.R_slice HO_5.out
                              subst eo60
                              go_wp2_with (first | ((with_reducible refine gate_callee (f := 37) rfl ?_); refine goesL_ (some 93) rfl rfl Try.func37 (by kernel_rfl) rfl #[] rfl (by (try simp only [List.map_toArray, List.map_cons, List.map_nil]); first | done | rfl | (simp only [List.length_drop, List.length_take]; rfl)) ?_; (with_reducible refine (hoggetlaw11_follows.calls k4  false _ A52.out).mono ?_); rintro e w61 ⟨rfl, hb⟩; refine ⟨_, rfl, ?_⟩; have n0_ := Aside0.mk (Kd.R_below (by (with_reducible repeat (first | apply Kd.R_alloc | apply Kd.R_drewN | apply Kd.R_drew)); exact HO_5.out) hb); have n1_ := Aside0.mk (Kd.R_below (by (with_reducible repeat (first | apply Kd.R_alloc | apply Kd.R_drewN | apply Kd.R_drew)); exact HO_10.out) hb); have n2_ := Aside0.mk (blk_below (g := gb354) (o := .cells #[.int .i64 a0_0, .slice A0_1 l0_1.length c0_1] 24 (0, 0)) (by (with_reducible repeat (first | refine blk_drewN ?_ _ | refine blk_drew ?_ | refine blk_alloc ?_ _)); exact BK354.out) hb); have n3_ := Aside0.mk (below_step (by repeat (first | (with_reducible first | exact HB.out | apply below_alloc | apply pw_below_drewN | apply below_drew1 | refine below_set ?_ GE354.out) | exact HB.out)) hb); clear HO_5; clear HO_10; clear BK354; clear HB; have HO_5 := n0_; have HO_10 := n1_; have BK354 := n2_; have HB := n3_; clear n0_ n1_ n2_ n3_; (try clear hb); (try clear hb2); (try clear hk); (try clear hi)))
                              go_ret
                              exact ⟨by first | rfl | (simp [errW_none, errW_some] <;> rfl) | (simp [*, errW_none, errW_some] <;> rfl), by repeat (first | (with_reducible first | exact HB.out | apply below_alloc | apply pw_below_drewN | apply below_drew1 | refine below_set ?_ GE354.out) | exact HB.out)⟩
    · rw [if_neg c10] at H
      have c10b0 : (t359 == 0) = false := beq_eq_false_iff_ne.mpr c10
      have c10b1 : (t359 != 0) = true := bne_iff_ne.mpr c10
      replace H := Option.bind_eq_some_iff.mp H
      obtain ⟨t361, A620, H⟩ := H
      replace H : (if t361 = true then (some (t360 == 0)) else (some false)) = some r := H
      have A62 := Aside0.mk A620
      clear A620
      by_cases c63 : t361 = true
      · subst c63
        have H1 : (some (t360 == 0)) = some r := by rw [if_pos rfl] at H; exact H
        clear H
        have H := H1
        clear H1
        obtain rfl := Option.some.inj H
        go_enter Try.func7, Try.ntmps7
        go_wp2_with (first | ((with_reducible refine gate_dst (N := 2) rfl ?_); refine box_event ?hg (N := 2) ?hd (cs := #[.int .i64 a0_0, .slice A0_1 l0_1.length c0_1]) (t := 24) ?hr ?_; (case hd => rfl); (case hg => rfl); (case hr => first | (go_simp; done) | (go_simp; rfl)); intro gb354 hg w64 hbox hb; have n0_ := Aside0.mk (below_step (by repeat (first | (with_reducible first | exact HB.out | apply below_alloc | apply pw_below_drewN | apply below_drew1) | exact HB.out)) hb); have n1_ := Aside0.mk (hbox); have n2_ := Aside0.mk ((by rw [hg]; exact (below_size (by repeat (first | (with_reducible first | exact HB.out | apply below_alloc | apply pw_below_drewN | apply below_drew1) | exact HB.out))) : w.heap.size ≤ gb354)); have n3_ := Aside0.mk ((by rw [hg]; exact (below_size (by repeat (first | (with_reducible first | exact HB.out | apply below_alloc | apply pw_below_drewN | apply below_drew1) | exact HB.out))) : w.heap.size ≤ gb354)); clear HB; have HB := n0_; have BK354 := n1_; have GW354 := n2_; have GE354 := n3_; clear n0_ n1_ n2_ n3_; clear hb hbox hg; have hcz65_0 : w64.cell? ⟨gb354, 0, none⟩ = some (.int .i64 a0_0) := (blk_cell BK354.out 0).trans rfl; have hcz65_1 : w64.cell? ⟨gb354, 1, none⟩ = some (.slice A0_1 l0_1.length c0_1) := (blk_cell BK354.out 1).trans rfl; have hfz65_0 := blk_frozen BK354.out 0; have hfz65_1 := blk_frozen BK354.out 1) | ((with_reducible refine gate_callee (f := 32) rfl ?_); refine goesL_ (some 14) rfl rfl Try.func32 (by kernel_rfl) rfl #[.agg #[.int .i64 a0_0, .slice A0_1 l0_1.length c0_1], .slice A1 l1.length c1] rfl (by (try simp only [List.map_toArray, List.map_cons, List.map_nil]); first | done | rfl | (simp only [List.length_drop, List.length_take]; rfl)) ?_; (with_reducible refine (hoggetlaw11_large.calls k a0_0 _ _ l0_1 _ _ l1 false _ ?side1 ?side2 ?side3 ?side4 A3.out).mono ?_); (case side1 => repeat (first | exact (Kd.C_below HR0_1.out HB.out) | (with_reducible refine Kd.C_alloc ?_ _) | (with_reducible refine Kd.C_drewN ?_ _) | (with_reducible refine Kd.C_drew ?_))); (case side2 => exact HC0_1.out); (case side3 => repeat (first | exact (Kd.C_below HR1.out HB.out) | (with_reducible refine Kd.C_alloc ?_ _) | (with_reducible refine Kd.C_drewN ?_ _) | (with_reducible refine Kd.C_drew ?_))); (case side4 => exact HC1.out); rintro e w66 ⟨rfl, hb⟩; refine ⟨_, rfl, ?_⟩; have n0_ := Aside0.mk (blk_below (g := gb354) (o := .cells #[.int .i64 a0_0, .slice A0_1 l0_1.length c0_1] 24 (0, 0)) (by (with_reducible repeat (first | refine blk_drewN ?_ _ | refine blk_drew ?_ | refine blk_alloc ?_ _)); exact BK354.out) hb); have n1_ := Aside0.mk (below_step (by repeat (first | (with_reducible first | exact HB.out | apply below_alloc | apply pw_below_drewN | apply below_drew1 | refine below_set ?_ GE354.out) | exact HB.out)) hb); clear BK354; clear HB; have BK354 := n0_; have HB := n1_; clear n0_ n1_; (try clear hb); (try clear hb2); (try clear hk); (try clear hi); have hcz67_0 : w66.cell? ⟨gb354, 0, none⟩ = some (.int .i64 a0_0) := (blk_cell BK354.out 0).trans rfl; have hcz67_1 : w66.cell? ⟨gb354, 1, none⟩ = some (.slice A0_1 l0_1.length c0_1) := (blk_cell BK354.out 1).trans rfl; have hfz67_0 := blk_frozen BK354.out 0; have hfz67_1 := blk_frozen BK354.out 1) | ((with_reducible refine gate_callee (f := 35) rfl ?_); refine goesL_ (some 18) rfl rfl Try.func35 (by kernel_rfl) rfl #[.agg #[.int .i64 a0_0, .slice A0_1 l0_1.length c0_1], .slice A1 l1.length c1] rfl (by (try simp only [List.map_toArray, List.map_cons, List.map_nil]); first | done | rfl | (simp only [List.length_drop, List.length_take]; rfl)) ?_; (with_reducible refine (unit_Propagate.calls a0_0 _ _ l0_1 _ _ l1 t356 t359 _ ?side1 ?side2 ?side3 ?side4 A8.out).mono ?_); (case side1 => repeat (first | exact (Kd.C_below HR0_1.out HB.out) | (with_reducible refine Kd.C_alloc ?_ _) | (with_reducible refine Kd.C_drewN ?_ _) | (with_reducible refine Kd.C_drew ?_))); (case side2 => exact HC0_1.out); (case side3 => repeat (first | exact (Kd.C_below HR1.out HB.out) | (with_reducible refine Kd.C_alloc ?_ _) | (with_reducible refine Kd.C_drewN ?_ _) | (with_reducible refine Kd.C_drew ?_))); (case side4 => exact HC1.out); rintro e w68 ⟨v357, rfl, ho0, hb⟩; refine ⟨_, rfl, ?_⟩; have n0_ := Aside0.mk (Kd.R_lower ho0 (below_size (by repeat (first | (with_reducible first | exact HB.out | apply below_alloc | apply pw_below_drewN | apply below_drew1 | refine below_set ?_ GE354.out) | exact HB.out)))); have n1_ := Aside0.mk (blk_below (g := gb354) (o := .cells #[.int .i64 a0_0, .slice A0_1 l0_1.length c0_1] 24 (0, 0)) (by (with_reducible repeat (first | refine blk_drewN ?_ _ | refine blk_drew ?_ | refine blk_alloc ?_ _)); exact BK354.out) hb); have n2_ := Aside0.mk (below_step (by repeat (first | (with_reducible first | exact HB.out | apply below_alloc | apply pw_below_drewN | apply below_drew1 | refine below_set ?_ GE354.out) | exact HB.out)) hb); clear BK354; clear HB; have HO358 := n0_; have BK354 := n1_; have HB := n2_; clear n0_ n1_ n2_; (try clear hb); (try clear hb2); (try clear hk); (try clear hi); (try clear ho0); have hcz69_0 : w68.cell? ⟨gb354, 0, none⟩ = some (.int .i64 a0_0) := (blk_cell BK354.out 0).trans rfl; have hcz69_1 : w68.cell? ⟨gb354, 1, none⟩ = some (.slice A0_1 l0_1.length c0_1) := (blk_cell BK354.out 1).trans rfl; have hfz69_0 := blk_frozen BK354.out 0; have hfz69_1 := blk_frozen BK354.out 1) | ((with_reducible refine gate_callee (f := 39) rfl ?_); refine goesL_ (some 23) rfl rfl Try.func39 (by kernel_rfl) rfl #[.agg #[.int .i64 a0_0, .slice A0_1 l0_1.length c0_1], .slice A1 l1.length c1] rfl (by (try simp only [List.map_toArray, List.map_cons, List.map_nil]); first | done | rfl | (simp only [List.length_drop, List.length_take]; rfl)) ?_; (with_reducible refine (unit_Free.calls a0_0 _ _ l0_1 _ _ l1 t360 _ ?side1 ?side2 ?side3 ?side4 A9.out).mono ?_); (case side1 => repeat (first | exact (Kd.C_below HR0_1.out HB.out) | (with_reducible refine Kd.C_alloc ?_ _) | (with_reducible refine Kd.C_drewN ?_ _) | (with_reducible refine Kd.C_drew ?_))); (case side2 => exact HC0_1.out); (case side3 => repeat (first | exact (Kd.C_below HR1.out HB.out) | (with_reducible refine Kd.C_alloc ?_ _) | (with_reducible refine Kd.C_drewN ?_ _) | (with_reducible refine Kd.C_drew ?_))); (case side4 => exact HC1.out); rintro e w70 ⟨rfl, hb⟩; refine ⟨_, rfl, ?_⟩; have n0_ := Aside0.mk (Kd.R_below (by (with_reducible repeat (first | apply Kd.R_alloc | apply Kd.R_drewN | apply Kd.R_drew)); exact HO358.out) hb); have n1_ := Aside0.mk (blk_below (g := gb354) (o := .cells #[.int .i64 a0_0, .slice A0_1 l0_1.length c0_1] 24 (0, 0)) (by (with_reducible repeat (first | refine blk_drewN ?_ _ | refine blk_drew ?_ | refine blk_alloc ?_ _)); exact BK354.out) hb); have n2_ := Aside0.mk (below_step (by repeat (first | (with_reducible first | exact HB.out | apply below_alloc | apply pw_below_drewN | apply below_drew1 | refine below_set ?_ GE354.out) | exact HB.out)) hb); clear HO358; clear BK354; clear HB; have HO358 := n0_; have BK354 := n1_; have HB := n2_; clear n0_ n1_ n2_; (try clear hb); (try clear hb2); (try clear hk); (try clear hi)) | ((with_reducible refine gate_callee (f := 37) rfl ?_); refine goesL_ (some 26) rfl rfl Try.func37 (by kernel_rfl) rfl #[] rfl (by (try simp only [List.map_toArray, List.map_cons, List.map_nil]); first | done | rfl | (simp only [List.length_drop, List.length_take]; rfl)) ?_; (with_reducible refine (hoggetlaw11_follows.calls k  true _ A62.out).mono ?_); rintro e w71 ⟨rfl, hb⟩; refine ⟨_, rfl, ?_⟩; have n0_ := Aside0.mk (Kd.R_below (by (with_reducible repeat (first | apply Kd.R_alloc | apply Kd.R_drewN | apply Kd.R_drew)); exact HO358.out) hb); have n1_ := Aside0.mk (blk_below (g := gb354) (o := .cells #[.int .i64 a0_0, .slice A0_1 l0_1.length c0_1] 24 (0, 0)) (by (with_reducible repeat (first | refine blk_drewN ?_ _ | refine blk_drew ?_ | refine blk_alloc ?_ _)); exact BK354.out) hb); have n2_ := Aside0.mk (below_step (by repeat (first | (with_reducible first | exact HB.out | apply below_alloc | apply pw_below_drewN | apply below_drew1 | refine below_set ?_ GE354.out) | exact HB.out)) hb); clear HO358; clear BK354; clear HB; have HO358 := n0_; have BK354 := n1_; have HB := n2_; clear n0_ n1_ n2_; (try clear hb); (try clear hb2); (try clear hk); (try clear hi)))
        go_ret
        exact ⟨by first | rfl | (simp [errW_none, errW_some] <;> rfl) | (simp [*, errW_none, errW_some] <;> rfl), by repeat (first | (with_reducible first | exact HB.out | apply below_alloc | apply pw_below_drewN | apply below_drew1 | refine below_set ?_ GE354.out) | exact HB.out)⟩
      · replace c63 := Bool.eq_false_iff.mpr c63
        subst c63
        have H1 : (some false) = some r := by rw [if_neg (show ¬ (false = true) by decide)] at H; exact H
        clear H
        have H := H1
        clear H1
        obtain rfl := Option.some.inj H
        go_enter Try.func7, Try.ntmps7
        go_wp2_with (first | ((with_reducible refine gate_dst (N := 2) rfl ?_); refine box_event ?hg (N := 2) ?hd (cs := #[.int .i64 a0_0, .slice A0_1 l0_1.length c0_1]) (t := 24) ?hr ?_; (case hd => rfl); (case hg => rfl); (case hr => first | (go_simp; done) | (go_simp; rfl)); intro gb354 hg w72 hbox hb; have n0_ := Aside0.mk (below_step (by repeat (first | (with_reducible first | exact HB.out | apply below_alloc | apply pw_below_drewN | apply below_drew1) | exact HB.out)) hb); have n1_ := Aside0.mk (hbox); have n2_ := Aside0.mk ((by rw [hg]; exact (below_size (by repeat (first | (with_reducible first | exact HB.out | apply below_alloc | apply pw_below_drewN | apply below_drew1) | exact HB.out))) : w.heap.size ≤ gb354)); have n3_ := Aside0.mk ((by rw [hg]; exact (below_size (by repeat (first | (with_reducible first | exact HB.out | apply below_alloc | apply pw_below_drewN | apply below_drew1) | exact HB.out))) : w.heap.size ≤ gb354)); clear HB; have HB := n0_; have BK354 := n1_; have GW354 := n2_; have GE354 := n3_; clear n0_ n1_ n2_ n3_; clear hb hbox hg; have hcz73_0 : w72.cell? ⟨gb354, 0, none⟩ = some (.int .i64 a0_0) := (blk_cell BK354.out 0).trans rfl; have hcz73_1 : w72.cell? ⟨gb354, 1, none⟩ = some (.slice A0_1 l0_1.length c0_1) := (blk_cell BK354.out 1).trans rfl; have hfz73_0 := blk_frozen BK354.out 0; have hfz73_1 := blk_frozen BK354.out 1) | ((with_reducible refine gate_callee (f := 32) rfl ?_); refine goesL_ (some 14) rfl rfl Try.func32 (by kernel_rfl) rfl #[.agg #[.int .i64 a0_0, .slice A0_1 l0_1.length c0_1], .slice A1 l1.length c1] rfl (by (try simp only [List.map_toArray, List.map_cons, List.map_nil]); first | done | rfl | (simp only [List.length_drop, List.length_take]; rfl)) ?_; (with_reducible refine (hoggetlaw11_large.calls k a0_0 _ _ l0_1 _ _ l1 false _ ?side1 ?side2 ?side3 ?side4 A3.out).mono ?_); (case side1 => repeat (first | exact (Kd.C_below HR0_1.out HB.out) | (with_reducible refine Kd.C_alloc ?_ _) | (with_reducible refine Kd.C_drewN ?_ _) | (with_reducible refine Kd.C_drew ?_))); (case side2 => exact HC0_1.out); (case side3 => repeat (first | exact (Kd.C_below HR1.out HB.out) | (with_reducible refine Kd.C_alloc ?_ _) | (with_reducible refine Kd.C_drewN ?_ _) | (with_reducible refine Kd.C_drew ?_))); (case side4 => exact HC1.out); rintro e w74 ⟨rfl, hb⟩; refine ⟨_, rfl, ?_⟩; have n0_ := Aside0.mk (blk_below (g := gb354) (o := .cells #[.int .i64 a0_0, .slice A0_1 l0_1.length c0_1] 24 (0, 0)) (by (with_reducible repeat (first | refine blk_drewN ?_ _ | refine blk_drew ?_ | refine blk_alloc ?_ _)); exact BK354.out) hb); have n1_ := Aside0.mk (below_step (by repeat (first | (with_reducible first | exact HB.out | apply below_alloc | apply pw_below_drewN | apply below_drew1 | refine below_set ?_ GE354.out) | exact HB.out)) hb); clear BK354; clear HB; have BK354 := n0_; have HB := n1_; clear n0_ n1_; (try clear hb); (try clear hb2); (try clear hk); (try clear hi); have hcz75_0 : w74.cell? ⟨gb354, 0, none⟩ = some (.int .i64 a0_0) := (blk_cell BK354.out 0).trans rfl; have hcz75_1 : w74.cell? ⟨gb354, 1, none⟩ = some (.slice A0_1 l0_1.length c0_1) := (blk_cell BK354.out 1).trans rfl; have hfz75_0 := blk_frozen BK354.out 0; have hfz75_1 := blk_frozen BK354.out 1) | ((with_reducible refine gate_callee (f := 35) rfl ?_); refine goesL_ (some 18) rfl rfl Try.func35 (by kernel_rfl) rfl #[.agg #[.int .i64 a0_0, .slice A0_1 l0_1.length c0_1], .slice A1 l1.length c1] rfl (by (try simp only [List.map_toArray, List.map_cons, List.map_nil]); first | done | rfl | (simp only [List.length_drop, List.length_take]; rfl)) ?_; (with_reducible refine (unit_Propagate.calls a0_0 _ _ l0_1 _ _ l1 t356 t359 _ ?side1 ?side2 ?side3 ?side4 A8.out).mono ?_); (case side1 => repeat (first | exact (Kd.C_below HR0_1.out HB.out) | (with_reducible refine Kd.C_alloc ?_ _) | (with_reducible refine Kd.C_drewN ?_ _) | (with_reducible refine Kd.C_drew ?_))); (case side2 => exact HC0_1.out); (case side3 => repeat (first | exact (Kd.C_below HR1.out HB.out) | (with_reducible refine Kd.C_alloc ?_ _) | (with_reducible refine Kd.C_drewN ?_ _) | (with_reducible refine Kd.C_drew ?_))); (case side4 => exact HC1.out); rintro e w76 ⟨v357, rfl, ho0, hb⟩; refine ⟨_, rfl, ?_⟩; have n0_ := Aside0.mk (Kd.R_lower ho0 (below_size (by repeat (first | (with_reducible first | exact HB.out | apply below_alloc | apply pw_below_drewN | apply below_drew1 | refine below_set ?_ GE354.out) | exact HB.out)))); have n1_ := Aside0.mk (blk_below (g := gb354) (o := .cells #[.int .i64 a0_0, .slice A0_1 l0_1.length c0_1] 24 (0, 0)) (by (with_reducible repeat (first | refine blk_drewN ?_ _ | refine blk_drew ?_ | refine blk_alloc ?_ _)); exact BK354.out) hb); have n2_ := Aside0.mk (below_step (by repeat (first | (with_reducible first | exact HB.out | apply below_alloc | apply pw_below_drewN | apply below_drew1 | refine below_set ?_ GE354.out) | exact HB.out)) hb); clear BK354; clear HB; have HO358 := n0_; have BK354 := n1_; have HB := n2_; clear n0_ n1_ n2_; (try clear hb); (try clear hb2); (try clear hk); (try clear hi); (try clear ho0); have hcz77_0 : w76.cell? ⟨gb354, 0, none⟩ = some (.int .i64 a0_0) := (blk_cell BK354.out 0).trans rfl; have hcz77_1 : w76.cell? ⟨gb354, 1, none⟩ = some (.slice A0_1 l0_1.length c0_1) := (blk_cell BK354.out 1).trans rfl; have hfz77_0 := blk_frozen BK354.out 0; have hfz77_1 := blk_frozen BK354.out 1) | ((with_reducible refine gate_callee (f := 39) rfl ?_); refine goesL_ (some 23) rfl rfl Try.func39 (by kernel_rfl) rfl #[.agg #[.int .i64 a0_0, .slice A0_1 l0_1.length c0_1], .slice A1 l1.length c1] rfl (by (try simp only [List.map_toArray, List.map_cons, List.map_nil]); first | done | rfl | (simp only [List.length_drop, List.length_take]; rfl)) ?_; (with_reducible refine (unit_Free.calls a0_0 _ _ l0_1 _ _ l1 t360 _ ?side1 ?side2 ?side3 ?side4 A9.out).mono ?_); (case side1 => repeat (first | exact (Kd.C_below HR0_1.out HB.out) | (with_reducible refine Kd.C_alloc ?_ _) | (with_reducible refine Kd.C_drewN ?_ _) | (with_reducible refine Kd.C_drew ?_))); (case side2 => exact HC0_1.out); (case side3 => repeat (first | exact (Kd.C_below HR1.out HB.out) | (with_reducible refine Kd.C_alloc ?_ _) | (with_reducible refine Kd.C_drewN ?_ _) | (with_reducible refine Kd.C_drew ?_))); (case side4 => exact HC1.out); rintro e w78 ⟨rfl, hb⟩; refine ⟨_, rfl, ?_⟩; have n0_ := Aside0.mk (Kd.R_below (by (with_reducible repeat (first | apply Kd.R_alloc | apply Kd.R_drewN | apply Kd.R_drew)); exact HO358.out) hb); have n1_ := Aside0.mk (blk_below (g := gb354) (o := .cells #[.int .i64 a0_0, .slice A0_1 l0_1.length c0_1] 24 (0, 0)) (by (with_reducible repeat (first | refine blk_drewN ?_ _ | refine blk_drew ?_ | refine blk_alloc ?_ _)); exact BK354.out) hb); have n2_ := Aside0.mk (below_step (by repeat (first | (with_reducible first | exact HB.out | apply below_alloc | apply pw_below_drewN | apply below_drew1 | refine below_set ?_ GE354.out) | exact HB.out)) hb); clear HO358; clear BK354; clear HB; have HO358 := n0_; have BK354 := n1_; have HB := n2_; clear n0_ n1_ n2_; (try clear hb); (try clear hb2); (try clear hk); (try clear hi)) | ((with_reducible refine gate_callee (f := 37) rfl ?_); refine goesL_ (some 26) rfl rfl Try.func37 (by kernel_rfl) rfl #[] rfl (by (try simp only [List.map_toArray, List.map_cons, List.map_nil]); first | done | rfl | (simp only [List.length_drop, List.length_take]; rfl)) ?_; (with_reducible refine (hoggetlaw11_follows.calls k  false _ A62.out).mono ?_); rintro e w79 ⟨rfl, hb⟩; refine ⟨_, rfl, ?_⟩; have n0_ := Aside0.mk (Kd.R_below (by (with_reducible repeat (first | apply Kd.R_alloc | apply Kd.R_drewN | apply Kd.R_drew)); exact HO358.out) hb); have n1_ := Aside0.mk (blk_below (g := gb354) (o := .cells #[.int .i64 a0_0, .slice A0_1 l0_1.length c0_1] 24 (0, 0)) (by (with_reducible repeat (first | refine blk_drewN ?_ _ | refine blk_drew ?_ | refine blk_alloc ?_ _)); exact BK354.out) hb); have n2_ := Aside0.mk (below_step (by repeat (first | (with_reducible first | exact HB.out | apply below_alloc | apply pw_below_drewN | apply below_drew1 | refine below_set ?_ GE354.out) | exact HB.out)) hb); clear HO358; clear BK354; clear HB; have HO358 := n0_; have BK354 := n1_; have HB := n2_; clear n0_ n1_ n2_; (try clear hb); (try clear hb2); (try clear hk); (try clear hi)))
        go_ret
        exact ⟨by first | rfl | (simp [errW_none, errW_some] <;> rfl) | (simp [*, errW_none, errW_some] <;> rfl), by repeat (first | (with_reducible first | exact HB.out | apply below_alloc | apply pw_below_drewN | apply below_drew1 | refine below_set ?_ GE354.out) | exact HB.out)⟩

end Go.Proofs.Ythnbmlpjbhhamaa.J
