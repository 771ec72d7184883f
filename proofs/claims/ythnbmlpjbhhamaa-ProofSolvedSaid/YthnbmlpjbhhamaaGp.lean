/- The walks of hoggetlaw13_ProofSolved, by the print over this seat. -/
import Derived.Test.YthnbmlpjbhhamaaJ0
import Derived.Test.YthnbmlpjbhhamaaGJ
import Derived.Test.YthnbmlpjbhhamaaGm
import Derived.Test.YthnbmlpjbhhamaaHl
import Derived.Test.YthnbmlpjbhhamaaHp
namespace Go.Proofs.Ythnbmlpjbhhamaa.J
open Go.RowKit Go.Proofs.YthnbmlpjbhhamaaW.PrintWords Go.Proofs.YthnbmlpjbhhamaaW.PrintLast Go.Proofs.YthnbmlpjbhhamaaW.PrintMore
attribute [local go_sem] max2_int min2_int max_two min_two max_three min_three max_four min_four   -- for this text's walks alone
set_option linter.unusedVariables false
set_option linter.unusedSimpArgs false

/-! ### hoggetlaw13_ProofSolved: function 19 -/
mutual
noncomputable def hoggetlaw13_ProofSolved.j0 : Nat → Bool → Int → List (List Int) → Option (Bool)
  | 0, _, _, _ => none
  | k + 1, x13, x776000, x776001 => if x13 = true then (some true) else ((solver_Solve.f x776000 x776001).bind fun bt777 => (if bt777.2.2.2 = 0 then (if bt777.1 = true then (hoggetlaw13_ProofSolved.j1 k true x776000 x776001 bt777.1 bt777.2.1 bt777.2.2.1) else (hoggetlaw13_ProofSolved.j1 k (decide ((bt777.2.2.1.length : Int) > 150)) x776000 x776001 bt777.1 bt777.2.1 bt777.2.2.1)) else (hoggetlaw13_ProofSolved.j1 k true x776000 x776001 bt777.1 bt777.2.1 bt777.2.2.1)))
noncomputable def hoggetlaw13_ProofSolved.j1 : Nat → Bool → Int → List (List Int) → Bool → List Bool → List (List Int) → Option (Bool)
  | 0, _, _, _, _, _, _ => none
  | k + 1, x30, x776000, x776001, x786000, x786001, x786002 => if x30 = true then ((hoggetlaw13_proves.f).bind fun t786 => (some t786)) else ((proof_Check.f x776000 x776001 x786002).bind fun bt787 => ((hoggetlaw13_proves.f).bind fun t789 => (if t789 = true then (if bt787.2 = true then (some (bt787.1 == (x786002.length : Int))) else (none)) else (none))))
end
noncomputable def hoggetlaw13_ProofSolved.f (k : Nat) (a0_0 : Int) (l0_1 : List (List Int)) : Option (Bool) := (hoggetlaw13_large.f k a0_0 l0_1 ([] : List (List Int))).bind fun t776 => (if t776 = true then (hoggetlaw13_ProofSolved.j0 k true a0_0 l0_1) else (hoggetlaw13_ProofSolved.j0 k (decide (a0_0 > 12)) a0_0 l0_1))
theorem hoggetlaw13_ProofSolved.mono_l : ∀ k, (∀ y0 y1 y2, LeO (hoggetlaw13_ProofSolved.j0 k y0 y1 y2) (hoggetlaw13_ProofSolved.j0 (k + 1) y0 y1 y2)) ∧ (∀ y0 y1 y2 y3 y4 y5, LeO (hoggetlaw13_ProofSolved.j1 k y0 y1 y2 y3 y4 y5) (hoggetlaw13_ProofSolved.j1 (k + 1) y0 y1 y2 y3 y4 y5))
  | 0 => ⟨fun _ _ _ r h => by simp [hoggetlaw13_ProofSolved.j0] at h, fun _ _ _ _ _ _ r h => by simp [hoggetlaw13_ProofSolved.j1] at h⟩
  | k + 1 => by
    obtain ⟨ih0, ih1⟩ := hoggetlaw13_ProofSolved.mono_l k
    refine ⟨?_, ?_⟩
    · intro y0 y1 y2
      unfold hoggetlaw13_ProofSolved.j0
      repeat' first
      | (with_reducible exact ih0 _ _ _)
      | (with_reducible exact ih1 _ _ _ _ _ _)
      | (with_reducible exact hoggetlaw13_large.mono _ _ _ _)
      | (with_reducible exact LeO.refl _)
      | (with_reducible exact LeO.none _)
      | (with_reducible refine LeO.ite ?_ ?_)
      | (with_reducible refine LeO.bind ?_ (fun _ => ?_))
      | exact ih0 _ _ _
      | exact ih1 _ _ _ _ _ _
      | exact hoggetlaw13_large.mono _ _ _ _
      | exact LeO.none _
      | refine LeO.ite ?_ ?_
      | refine LeO.bind ?_ (fun _ => ?_)
    · intro y0 y1 y2 y3 y4 y5
      unfold hoggetlaw13_ProofSolved.j1
      repeat' first
      | (with_reducible exact ih0 _ _ _)
      | (with_reducible exact ih1 _ _ _ _ _ _)
      | (with_reducible exact hoggetlaw13_large.mono _ _ _ _)
      | (with_reducible exact LeO.refl _)
      | (with_reducible exact LeO.none _)
      | (with_reducible refine LeO.ite ?_ ?_)
      | (with_reducible refine LeO.bind ?_ (fun _ => ?_))
      | exact ih0 _ _ _
      | exact ih1 _ _ _ _ _ _
      | exact hoggetlaw13_large.mono _ _ _ _
      | exact LeO.none _
      | refine LeO.ite ?_ ?_
      | refine LeO.bind ?_ (fun _ => ?_)
theorem hoggetlaw13_ProofSolved.mono : ∀ a0 a1 k, LeO (hoggetlaw13_ProofSolved.f k a0 a1) (hoggetlaw13_ProofSolved.f (k + 1) a0 a1) := by
  intro a0 a1 k
  obtain ⟨ih0, ih1⟩ := hoggetlaw13_ProofSolved.mono_l k
  unfold hoggetlaw13_ProofSolved.f
  repeat' first
      | (with_reducible exact ih0 _ _ _)
      | (with_reducible exact ih1 _ _ _ _ _ _)
      | (with_reducible exact hoggetlaw13_large.mono _ _ _ _)
      | (with_reducible exact LeO.refl _)
      | (with_reducible exact LeO.none _)
      | (with_reducible refine LeO.ite ?_ ?_)
      | (with_reducible refine LeO.bind ?_ (fun _ => ?_))
      | exact ih0 _ _ _
      | exact ih1 _ _ _ _ _ _
      | exact hoggetlaw13_large.mono _ _ _ _
      | exact LeO.none _
      | refine LeO.ite ?_ ?_
      | refine LeO.bind ?_ (fun _ => ?_)
set_option maxHeartbeats 8000000 in
set_option maxRecDepth 100000 in
theorem hoggetlaw13_ProofSolved.calls (k : Nat) (a0_0 : Int) (A0_1 : Option Addr) (c0_1 : Nat) (l0_1 : List (List Int)) (r : Bool) (w : World) (hr0_1 : Kd.C (Kd.slice 3 (Kd.int .i64)) w A0_1 l0_1.length l0_1) (hc0_1 : l0_1.length ≤ c0_1) (h : hoggetlaw13_ProofSolved.f k a0_0 l0_1 = some r) :
    Calls Try.prog 19 #[.agg #[.int .i64 a0_0, .slice A0_1 l0_1.length c0_1]] w fun e w' => e = .returned (.bool r) ∧ Below w.heap.size w w' := by
  have hu24 := Try.underlying24
  have hu51 := Try.underlying51
  have HR0_1 := Aside0.mk hr0_1
  have HC0_1 := Aside0.mk hc0_1
  clear hr0_1 hc0_1
  have HB := Aside0.mk (Below.refl w.heap.size w)
  have H : ((hoggetlaw13_large.f k a0_0 l0_1 ([] : List (List Int))).bind fun t776 => (if t776 = true then (hoggetlaw13_ProofSolved.j0 k true a0_0 l0_1) else (hoggetlaw13_ProofSolved.j0 k (decide (a0_0 > 12)) a0_0 l0_1))) = some r := h
  clear h
  have HC2 := Aside0.mk H
  clear H
  go_enter Try.func19, Try.ntmps19
  go_upto_region 1 with (first | ((with_reducible refine gate_dst (N := 1) rfl ?_); (try (refine gate_guard (by rfl) ?_; dsimp only)); refine box_event ?hg (N := 1) ?hd (cs := #[.int .i64 a0_0, .slice A0_1 l0_1.length c0_1]) (t := 24) ?hr ?_; (case hd => rfl); (case hg => rfl); (case hr => first | (go_simp; done) | (go_simp; rfl)); intro gb775 hg w3 hbox hb; have n0_ := Aside0.mk (below_step (by repeat (first | (with_reducible first | exact HB.out | apply below_alloc | apply pw_below_drewN | apply below_drew1) | exact HB.out)) hb); have n1_ := Aside0.mk (hbox); have n2_ := Aside0.mk ((by rw [hg]; exact (below_size (by repeat (first | (with_reducible first | exact HB.out | apply below_alloc | apply pw_below_drewN | apply below_drew1) | exact HB.out))) : w.heap.size ≤ gb775)); have n3_ := Aside0.mk ((by rw [hg]; exact (below_size (by repeat (first | (with_reducible first | exact HB.out | apply below_alloc | apply pw_below_drewN | apply below_drew1) | exact HB.out))) : w.heap.size ≤ gb775)); clear HB; have HB := n0_; have BK775 := n1_; have GW775 := n2_; have GE775 := n3_; clear n0_ n1_ n2_ n3_; clear hb hbox hg))
  (try simp only [Act.put, List.setIfInBounds_toArray, List.set_cons_zero, List.set_cons_succ])
  go_cut [13] (fun v13 wc => ∃ (kq : Nat) (x13_1 : Bool), v13 = .bool x13_1 ∧ Aside0 (hoggetlaw13_ProofSolved.j0 kq x13_1 a0_0 l0_1 = some r) ∧ Aside0 (kq ≤ k) ∧ Aside0 (wc.heap[gb775]? = some (.cells #[.int .i64 a0_0, (.slice A0_1 l0_1.length c0_1)] 24 (0, 0))) ∧ Aside0 (Below w.heap.size w wc))
  case first =>
    have H := HC2.out
    clear HC2
    replace H := Option.bind_eq_some_iff.mp H
    obtain ⟨t776, A40, H⟩ := H
    replace H : (if t776 = true then (hoggetlaw13_ProofSolved.j0 k true a0_0 l0_1) else (hoggetlaw13_ProofSolved.j0 k (decide (a0_0 > 12)) a0_0 l0_1)) = some r := H
    have A4 := Aside0.mk A40
    clear A40
    by_cases c5 : t776 = true
    · subst c5
      have H1 : (hoggetlaw13_ProofSolved.j0 k true a0_0 l0_1) = some r := by rw [if_pos rfl] at H; exact H
      clear H
      have H := H1
      clear H1
      have H' := Aside0.mk H
      clear H
      have hcz6_0 : w3.cell? ⟨gb775, 0, none⟩ = some (.int .i64 a0_0) := (blk_cell BK775.out 0).trans rfl
      have hcz6_1 : w3.cell? ⟨gb775, 1, none⟩ = some (.slice A0_1 l0_1.length c0_1) := (blk_cell BK775.out 1).trans rfl
      have hfz6_0 := blk_frozen BK775.out 0
      have hfz6_1 := blk_frozen BK775.out 1
      go_wp2_with (first | ((with_reducible refine gate_callee (f := 46) rfl ?_); refine goesL_ (some 8) rfl rfl Try.func46 (by kernel_rfl) rfl #[.agg #[.int .i64 a0_0, .slice A0_1 l0_1.length c0_1], .slice none 0 0] rfl (by (try simp only [List.map_toArray, List.map_cons, List.map_nil]); first | done | rfl | (simp only [List.length_drop, List.length_take]; rfl)) ?_; (refine (hoggetlaw13_large.calls k a0_0 _ _ l0_1 _ _ ([] : List (List Int)) true _ ?side1 ?side2 ?side3 ?side4 A4.out).mono ?_); (case side1 => repeat (first | exact (Kd.C_below HR0_1.out HB.out) | (with_reducible refine Kd.C_alloc ?_ _) | (with_reducible refine Kd.C_drewN ?_ _) | (with_reducible refine Kd.C_drew ?_))); (case side2 => exact HC0_1.out); (case side3 => exact Kd.C_nil _ _); (case side4 => exact Nat.le_refl _); rintro e w7 ⟨rfl, hb⟩; refine ⟨_, rfl, ?_⟩; have n0_ := Aside0.mk (blk_below (g := gb775) (o := .cells #[.int .i64 a0_0, .slice A0_1 l0_1.length c0_1] 24 (0, 0)) (by (with_reducible repeat (first | refine blk_drewN ?_ _ | refine blk_drew ?_ | refine blk_alloc ?_ _)); exact BK775.out) hb); have n1_ := Aside0.mk (below_step (by repeat (first | (with_reducible first | exact HB.out | apply below_alloc | apply pw_below_drewN | apply below_drew1 | refine below_set ?_ GE775.out) | exact HB.out)) hb); clear BK775; clear HB; have BK775 := n0_; have HB := n1_; clear n0_ n1_; (try clear hb); (try clear hb2); (try clear hk); (try clear hi)))
      go_meet
      case rel => exact ⟨_, (true), (by first | rfl | (simp; done) | (simp [*]; done)), H', ⟨by first | omega | exact Nat.le_refl _⟩, ⟨by (with_reducible repeat (first | refine blk_drewN ?_ _ | refine blk_drew ?_ | refine blk_alloc ?_ _)); exact BK775.out⟩, ⟨by repeat (first | (with_reducible first | exact HB.out | apply below_alloc | apply pw_below_drewN | apply below_drew1 | refine below_set ?_ GE775.out) | exact HB.out)⟩⟩
    · replace c5 := Bool.eq_false_iff.mpr c5
      subst c5
      have H1 : (hoggetlaw13_ProofSolved.j0 k (decide (a0_0 > 12)) a0_0 l0_1) = some r := by rw [if_neg (show ¬ (false = true) by decide)] at H; exact H
      clear H
      have H := H1
      clear H1
      have H' := Aside0.mk H
      clear H
      have hcz8_0 : w3.cell? ⟨gb775, 0, none⟩ = some (.int .i64 a0_0) := (blk_cell BK775.out 0).trans rfl
      have hcz8_1 : w3.cell? ⟨gb775, 1, none⟩ = some (.slice A0_1 l0_1.length c0_1) := (blk_cell BK775.out 1).trans rfl
      have hfz8_0 := blk_frozen BK775.out 0
      have hfz8_1 := blk_frozen BK775.out 1
      go_wp2_with (first | ((with_reducible refine gate_callee (f := 46) rfl ?_); refine goesL_ (some 8) rfl rfl Try.func46 (by kernel_rfl) rfl #[.agg #[.int .i64 a0_0, .slice A0_1 l0_1.length c0_1], .slice none 0 0] rfl (by (try simp only [List.map_toArray, List.map_cons, List.map_nil]); first | done | rfl | (simp only [List.length_drop, List.length_take]; rfl)) ?_; (refine (hoggetlaw13_large.calls k a0_0 _ _ l0_1 _ _ ([] : List (List Int)) false _ ?side1 ?side2 ?side3 ?side4 A4.out).mono ?_); (case side1 => repeat (first | exact (Kd.C_below HR0_1.out HB.out) | (with_reducible refine Kd.C_alloc ?_ _) | (with_reducible refine Kd.C_drewN ?_ _) | (with_reducible refine Kd.C_drew ?_))); (case side2 => exact HC0_1.out); (case side3 => exact Kd.C_nil _ _); (case side4 => exact Nat.le_refl _); rintro e w9 ⟨rfl, hb⟩; refine ⟨_, rfl, ?_⟩; have n0_ := Aside0.mk (blk_below (g := gb775) (o := .cells #[.int .i64 a0_0, .slice A0_1 l0_1.length c0_1] 24 (0, 0)) (by (with_reducible repeat (first | refine blk_drewN ?_ _ | refine blk_drew ?_ | refine blk_alloc ?_ _)); exact BK775.out) hb); have n1_ := Aside0.mk (below_step (by repeat (first | (with_reducible first | exact HB.out | apply below_alloc | apply pw_below_drewN | apply below_drew1 | refine below_set ?_ GE775.out) | exact HB.out)) hb); clear BK775; clear HB; have BK775 := n0_; have HB := n1_; clear n0_ n1_; (try clear hb); (try clear hb2); (try clear hk); (try clear hi); have hcz10_0 : w9.cell? ⟨gb775, 0, none⟩ = some (.int .i64 a0_0) := (blk_cell BK775.out 0).trans rfl; have hcz10_1 : w9.cell? ⟨gb775, 1, none⟩ = some (.slice A0_1 l0_1.length c0_1) := (blk_cell BK775.out 1).trans rfl; have hfz10_0 := blk_frozen BK775.out 0; have hfz10_1 := blk_frozen BK775.out 1))
      go_meet
      case rel => exact ⟨_, (decide (a0_0 > 12)), (by first | rfl | (simp; done) | (simp [*]; done)), H', ⟨by first | omega | exact Nat.le_refl _⟩, ⟨by (with_reducible repeat (first | refine blk_drewN ?_ _ | refine blk_drew ?_ | refine blk_alloc ?_ _)); exact BK775.out⟩, ⟨by repeat (first | (with_reducible first | exact HB.out | apply below_alloc | apply pw_below_drewN | apply below_drew1 | refine below_set ?_ GE775.out) | exact HB.out)⟩⟩
  case rest =>
    clear HC2
    try clear c1
    try clear p2
    try clear c4
    try clear c5
    try clear hcz10_0
    try clear hcz10_1
    try clear hcz6_0
    try clear hcz6_1
    try clear hcz8_0
    try clear hcz8_1
    try clear hfz10_0
    try clear hfz10_1
    try clear hfz6_0
    try clear hfz6_1
    try clear hfz8_0
    try clear hfz8_1
    obtain ⟨kq, x13_1, rfl, HA, HJ1, BK775, HB⟩ := hcut
    cases kq with
    | zero => exact absurd HA.out (by simp [hoggetlaw13_ProofSolved.j0])
    | succ kj1 =>
      have H := HA.out
      clear HA
      simp only [hoggetlaw13_ProofSolved.j0] at H
      by_cases c11 : x13_1 = true
      · subst c11
        have H1 : (some true) = some r := by rw [if_pos rfl] at H; exact H
        clear H
        have H := H1
        clear H1
        obtain rfl := Option.some.inj H
        go_wp2
        go_ret
        exact ⟨by first | rfl | (simp [errW_none, errW_some] <;> rfl) | (simp [*, errW_none, errW_some] <;> rfl), by repeat (first | (with_reducible first | exact HB.out | apply below_alloc | apply pw_below_drewN | apply below_drew1 | refine below_set ?_ GE775.out) | exact HB.out)⟩
      · replace c11 := Bool.eq_false_iff.mpr c11
        subst c11
        have H1 : ((solver_Solve.f a0_0 l0_1).bind fun bt777 => (if bt777.2.2.2 = 0 then (if bt777.1 = true then (hoggetlaw13_ProofSolved.j1 kj1 true a0_0 l0_1 bt777.1 bt777.2.1 bt777.2.2.1) else (hoggetlaw13_ProofSolved.j1 kj1 (decide ((bt777.2.2.1.length : Int) > 150)) a0_0 l0_1 bt777.1 bt777.2.1 bt777.2.2.1)) else (hoggetlaw13_ProofSolved.j1 kj1 true a0_0 l0_1 bt777.1 bt777.2.1 bt777.2.2.1))) = some r := by rw [if_neg (show ¬ (false = true) by decide)] at H; exact H
        clear H
        have H := H1
        clear H1
        replace H := Option.bind_eq_some_iff.mp H
        obtain ⟨⟨t777, t778, t781, t784⟩, A120, H⟩ := H
        replace H : (if t784 = 0 then (if t777 = true then (hoggetlaw13_ProofSolved.j1 kj1 true a0_0 l0_1 t777 t778 t781) else (hoggetlaw13_ProofSolved.j1 kj1 (decide ((t781.length : Int) > 150)) a0_0 l0_1 t777 t778 t781)) else (hoggetlaw13_ProofSolved.j1 kj1 true a0_0 l0_1 t777 t778 t781)) = some r := H
        have A12 := Aside0.mk A120
        clear A120
        have HC13 := Aside0.mk H
        clear H
        have hcz14_0 : wc.cell? ⟨gb775, 0, none⟩ = some (.int .i64 a0_0) := (blk_cell BK775.out 0).trans rfl
        have hcz14_1 : wc.cell? ⟨gb775, 1, none⟩ = some (.slice A0_1 l0_1.length c0_1) := (blk_cell BK775.out 1).trans rfl
        have hfz14_0 := blk_frozen BK775.out 0
        have hfz14_1 := blk_frozen BK775.out 1
        go_upto_region 4 with (first | ((with_reducible refine gate_callee (f := 53) rfl ?_); refine goesL_ (some 16) rfl rfl Try.func53 (by kernel_rfl) rfl #[.agg #[.int .i64 a0_0, .slice A0_1 l0_1.length c0_1]] rfl (by (try simp only [List.map_toArray, List.map_cons, List.map_nil]); first | done | rfl | (simp only [List.length_drop, List.length_take]; rfl)) ?_; (with_reducible refine (solver_Solve.calls a0_0 _ _ l0_1 t777 t778 t781 t784 _ ?side1 ?side2 A12.out).mono ?_); (case side1 => repeat (first | exact (Kd.C_below HR0_1.out HB.out) | (with_reducible refine Kd.C_alloc ?_ _) | (with_reducible refine Kd.C_drewN ?_ _) | (with_reducible refine Kd.C_drew ?_))); (case side2 => exact HC0_1.out); rintro e w15 ⟨v779, v782, rfl, ho0, ho1, hb⟩; refine ⟨_, rfl, ?_⟩; have n0_ := Aside0.mk (Kd.R_lower ho0 (below_size (by repeat (first | (with_reducible first | exact HB.out | apply below_alloc | apply pw_below_drewN | apply below_drew1 | refine below_set ?_ GE775.out) | exact HB.out)))); have n1_ := Aside0.mk (Kd.S_lower ho1 (below_size (by repeat (first | (with_reducible first | exact HB.out | apply below_alloc | apply pw_below_drewN | apply below_drew1 | refine below_set ?_ GE775.out) | exact HB.out)))); have n2_ := Aside0.mk (blk_below (g := gb775) (o := .cells #[.int .i64 a0_0, .slice A0_1 l0_1.length c0_1] 24 (0, 0)) (by (with_reducible repeat (first | refine blk_drewN ?_ _ | refine blk_drew ?_ | refine blk_alloc ?_ _)); exact BK775.out) hb); have n3_ := Aside0.mk (below_step (by repeat (first | (with_reducible first | exact HB.out | apply below_alloc | apply pw_below_drewN | apply below_drew1 | refine below_set ?_ GE775.out) | exact HB.out)) hb); clear BK775; clear HB; have HO780 := n0_; have HO783 := n1_; have BK775 := n2_; have HB := n3_; clear n0_ n1_ n2_ n3_; (try clear hb); (try clear hb2); (try clear hk); (try clear hi); (try clear ho0); (try clear ho1)) | ((with_reducible refine gate_dst (N := 3) rfl ?_); (try (refine gate_guard (by rfl) ?_; dsimp only)); refine box_event ?hg (N := 3) ?hd (cs := #[.bool false, .slice none 0 0, .slice none 0 0]) (t := 51) ?hr ?_; (case hd => rfl); (case hg => rfl); (case hr => first | (go_simp; done) | (go_simp; rfl)); intro gb785 hg w16 hbox hb; have n0_ := Aside0.mk (Kd.R_below (by (with_reducible repeat (first | apply Kd.R_alloc | apply Kd.R_drewN | apply Kd.R_drew)); exact HO780.out) hb); have n1_ := Aside0.mk (Kd.S_below (by (with_reducible repeat (first | apply Kd.S_alloc | apply Kd.S_drewN | apply Kd.S_drew)); exact HO783.out) hb); have n2_ := Aside0.mk (blk_below (g := gb775) (o := .cells #[.int .i64 a0_0, .slice A0_1 l0_1.length c0_1] 24 (0, 0)) (by (with_reducible repeat (first | refine blk_drewN ?_ _ | refine blk_drew ?_ | refine blk_alloc ?_ _)); exact BK775.out) hb); have n3_ := Aside0.mk (below_step (by repeat (first | (with_reducible first | exact HB.out | apply below_alloc | apply pw_below_drewN | apply below_drew1 | refine below_set ?_ GE775.out) | exact HB.out)) hb); have n4_ := Aside0.mk (hbox); have n5_ := Aside0.mk ((by rw [hg]; exact (below_size (by repeat (first | (with_reducible first | exact HB.out | apply below_alloc | apply pw_below_drewN | apply below_drew1 | refine below_set ?_ GE775.out) | exact HB.out))) : w.heap.size ≤ gb785)); have n6_ := Aside0.mk ((by rw [hg]; exact (below_size (by repeat (first | (with_reducible first | exact HB.out | apply below_alloc | apply pw_below_drewN | apply below_drew1 | refine below_set ?_ GE775.out) | exact HB.out))) : w.heap.size ≤ gb785)); have n7_ := Aside0.mk ((by rw [hg]; exact Nat.ne_of_lt (blk_lt (g := gb775) (o := .cells #[.int .i64 a0_0, .slice A0_1 l0_1.length c0_1] 24 (0, 0)) (by (with_reducible repeat (first | refine blk_drewN ?_ _ | refine blk_drew ?_ | refine blk_alloc ?_ _)); exact BK775.out)) : gb775 ≠ gb785)); have n8_ := Aside0.mk ((by rw [hg]; exact Nat.ne_of_gt (blk_lt (g := gb775) (o := .cells #[.int .i64 a0_0, .slice A0_1 l0_1.length c0_1] 24 (0, 0)) (by (with_reducible repeat (first | refine blk_drewN ?_ _ | refine blk_drew ?_ | refine blk_alloc ?_ _)); exact BK775.out)) : gb785 ≠ gb775)); clear HO780; clear HO783; clear BK775; clear HB; have HO780 := n0_; have HO783 := n1_; have BK775 := n2_; have HB := n3_; have BK785 := n4_; have GW785 := n5_; have GE785 := n6_; have NB775_785 := n7_; have NB785_775 := n8_; clear n0_ n1_ n2_ n3_ n4_ n5_ n6_ n7_ n8_; clear hb hbox hg; have hnb17 := NB785_775.out; have hnc17 := NB775_785.out; have hcz18_0 : w16.cell? ⟨gb785, 0, none⟩ = some (.bool false) := (blk_cell BK785.out 0).trans rfl; have hcz18_1 : w16.cell? ⟨gb785, 1, none⟩ = some (.slice none 0 0) := (blk_cell BK785.out 1).trans rfl; have hcz18_2 : w16.cell? ⟨gb785, 2, none⟩ = some (.slice none 0 0) := (blk_cell BK785.out 2).trans rfl; have hfz18_0 := blk_frozen BK785.out 0; have hfz18_1 := blk_frozen BK785.out 1; have hfz18_2 := blk_frozen BK785.out 2; obtain ⟨Ao19, co19, eo19⟩ := Kd.R_slice HO780.out; subst eo19; obtain ⟨Ao20, co20, eo20⟩ := Kd.S_slice HO783.out; subst eo20))
        (try simp only [Act.put, List.setIfInBounds_toArray, List.set_cons_zero, List.set_cons_succ])
        go_cut [30] (fun v30 wc => ∃ (kq : Nat) (x30_12 : Bool), v30 = .bool x30_12 ∧ Aside0 (hoggetlaw13_ProofSolved.j1 kq x30_12 a0_0 l0_1 t777 t778 t781 = some r) ∧ Aside0 (kq ≤ kj1) ∧ Aside0 (Kd.R Kd.bool 4 wc w.heap.size (fun _ => True) (.slice Ao19 t778.length co19) t778) ∧ Aside0 (Kd.S (Kd.slice 3 (Kd.int .i64)) 25 wc w.heap.size (fun _ => True) (.slice Ao20 t781.length co20) t781) ∧ Aside0 (wc.heap[gb775]? = some (.cells #[.int .i64 a0_0, (.slice A0_1 l0_1.length c0_1)] 24 (0, 0))) ∧ Aside0 (wc.heap[gb785]? = some (.cells #[.bool t777, (.slice Ao19 t778.length co19), (.slice Ao20 t781.length co20)] 51 (0, 0))) ∧ Aside0 (Below w.heap.size w wc))
        case first =>
          have H := HC13.out
          clear HC13
          by_cases c21 : t784 = 0
          · rw [if_pos c21] at H
            have c21b0 : (t784 == 0) = true := beq_iff_eq.mpr c21
            have c21b1 : (t784 != 0) = false := bne_eq_false_iff_eq.mpr c21
            clear c21
            (first | rw [c21b0] | (simp only [i64_w, i32_w]; rw [c21b0]) | skip)
            by_cases c22 : t777 = true
            · subst c22
              have H1 : (hoggetlaw13_ProofSolved.j1 kj1 true a0_0 l0_1 true t778 t781) = some r := by rw [if_pos rfl] at H; exact H
              clear H
              have H := H1
              clear H1
              have H' := Aside0.mk H
              clear H
              have hnb23 := NB785_775.out
              have hnc23 := NB775_785.out
              have hcz24_0 : w16.cell? ⟨gb785, 0, none⟩ = some (.bool false) := (blk_cell BK785.out 0).trans rfl
              have hcz24_1 : w16.cell? ⟨gb785, 1, none⟩ = some (.slice none 0 0) := (blk_cell BK785.out 1).trans rfl
              have hcz24_2 : w16.cell? ⟨gb785, 2, none⟩ = some (.slice none 0 0) := (blk_cell BK785.out 2).trans rfl
              have hfz24_0 := blk_frozen BK785.out 0
              have hfz24_1 := blk_frozen BK785.out 1
              have hfz24_2 := blk_frozen BK785.out 2
              go_wp2
              go_meet
              case rel => exact ⟨_, (true), (by first | rfl | (simp; done) | (simp [*]; done)), H', ⟨by have := HJ1.out; first | omega | exact Nat.le_refl _⟩, ⟨by (with_reducible repeat (first | apply Kd.R_alloc | apply Kd.R_drewN | apply Kd.R_drew)); exact Kd.R_mono (Kd.R_far (p := ⟨gb785, 2, none⟩) (Kd.R_far (p := ⟨gb785, 1, none⟩) (Kd.R_far (p := ⟨gb785, 0, none⟩) (Kd.R_types HO780.out BK785.out (by decide)) (fun _ hk => hk.2) (.bool true)) (fun _ hk => hk.2) (.slice Ao19 t778.length co19)) (fun _ hk => hk.2) (.slice Ao20 t781.length co20)) (fun _ hk => trivial)⟩, ⟨by (with_reducible repeat (first | apply Kd.S_alloc | apply Kd.S_drewN | apply Kd.S_drew)); exact Kd.S_mono (Kd.S_far (p := ⟨gb785, 2, none⟩) (Kd.S_far (p := ⟨gb785, 1, none⟩) (Kd.S_far (p := ⟨gb785, 0, none⟩) (Kd.S_types HO783.out BK785.out (by decide)) (fun _ hk => hk.2) (.bool true)) (fun _ hk => hk.2) (.slice Ao19 t778.length co19)) (fun _ hk => hk.2) (.slice Ao20 t781.length co20)) (fun _ hk => trivial)⟩, ⟨by (with_reducible repeat (first | refine blk_drewN ?_ _ | refine blk_drew ?_ | refine blk_alloc ?_ _)); refine blk_far ?_ NB775_785.out _; (with_reducible repeat (first | refine blk_drewN ?_ _ | refine blk_drew ?_ | refine blk_alloc ?_ _)); refine blk_far ?_ NB775_785.out _; (with_reducible repeat (first | refine blk_drewN ?_ _ | refine blk_drew ?_ | refine blk_alloc ?_ _)); refine blk_far ?_ NB775_785.out _; (with_reducible repeat (first | refine blk_drewN ?_ _ | refine blk_drew ?_ | refine blk_alloc ?_ _)); exact BK775.out⟩, ⟨by (with_reducible repeat (first | refine blk_drewN ?_ _ | refine blk_drew ?_ | refine blk_alloc ?_ _)); refine blk_put (cs := #[.bool true, .slice Ao19 t778.length co19, .slice none 0 0]) ?_ 2 _ rfl; (with_reducible repeat (first | refine blk_drewN ?_ _ | refine blk_drew ?_ | refine blk_alloc ?_ _)); refine blk_put (cs := #[.bool true, .slice none 0 0, .slice none 0 0]) ?_ 1 _ rfl; (with_reducible repeat (first | refine blk_drewN ?_ _ | refine blk_drew ?_ | refine blk_alloc ?_ _)); refine blk_put (cs := #[.bool false, .slice none 0 0, .slice none 0 0]) ?_ 0 _ rfl; (with_reducible repeat (first | refine blk_drewN ?_ _ | refine blk_drew ?_ | refine blk_alloc ?_ _)); exact BK785.out⟩, ⟨by repeat (first | (with_reducible first | exact HB.out | apply below_alloc | apply pw_below_drewN | apply below_drew1 | refine below_set ?_ GE775.out | refine below_set ?_ GE785.out) | exact HB.out)⟩⟩
            · replace c22 := Bool.eq_false_iff.mpr c22
              subst c22
              have H1 : (hoggetlaw13_ProofSolved.j1 kj1 (decide ((t781.length : Int) > 150)) a0_0 l0_1 false t778 t781) = some r := by rw [if_neg (show ¬ (false = true) by decide)] at H; exact H
              clear H
              have H := H1
              clear H1
              have H' := Aside0.mk H
              clear H
              have hnb25 := NB785_775.out
              have hnc25 := NB775_785.out
              have hcz26_0 : w16.cell? ⟨gb785, 0, none⟩ = some (.bool false) := (blk_cell BK785.out 0).trans rfl
              have hcz26_1 : w16.cell? ⟨gb785, 1, none⟩ = some (.slice none 0 0) := (blk_cell BK785.out 1).trans rfl
              have hcz26_2 : w16.cell? ⟨gb785, 2, none⟩ = some (.slice none 0 0) := (blk_cell BK785.out 2).trans rfl
              have hfz26_0 := blk_frozen BK785.out 0
              have hfz26_1 := blk_frozen BK785.out 1
              have hfz26_2 := blk_frozen BK785.out 2
              go_wp2
              go_meet
              case rel => exact ⟨_, (decide ((t781.length : Int) > 150)), (by first | rfl | (simp; done) | (simp [*]; done)), H', ⟨by have := HJ1.out; first | omega | exact Nat.le_refl _⟩, ⟨by (with_reducible repeat (first | apply Kd.R_alloc | apply Kd.R_drewN | apply Kd.R_drew)); exact Kd.R_mono (Kd.R_far (p := ⟨gb785, 2, none⟩) (Kd.R_far (p := ⟨gb785, 1, none⟩) (Kd.R_far (p := ⟨gb785, 0, none⟩) (Kd.R_types HO780.out BK785.out (by decide)) (fun _ hk => hk.2) (.bool false)) (fun _ hk => hk.2) (.slice Ao19 t778.length co19)) (fun _ hk => hk.2) (.slice Ao20 t781.length co20)) (fun _ hk => trivial)⟩, ⟨by (with_reducible repeat (first | apply Kd.S_alloc | apply Kd.S_drewN | apply Kd.S_drew)); exact Kd.S_mono (Kd.S_far (p := ⟨gb785, 2, none⟩) (Kd.S_far (p := ⟨gb785, 1, none⟩) (Kd.S_far (p := ⟨gb785, 0, none⟩) (Kd.S_types HO783.out BK785.out (by decide)) (fun _ hk => hk.2) (.bool false)) (fun _ hk => hk.2) (.slice Ao19 t778.length co19)) (fun _ hk => hk.2) (.slice Ao20 t781.length co20)) (fun _ hk => trivial)⟩, ⟨by (with_reducible repeat (first | refine blk_drewN ?_ _ | refine blk_drew ?_ | refine blk_alloc ?_ _)); refine blk_far ?_ NB775_785.out _; (with_reducible repeat (first | refine blk_drewN ?_ _ | refine blk_drew ?_ | refine blk_alloc ?_ _)); refine blk_far ?_ NB775_785.out _; (with_reducible repeat (first | refine blk_drewN ?_ _ | refine blk_drew ?_ | refine blk_alloc ?_ _)); refine blk_far ?_ NB775_785.out _; (with_reducible repeat (first | refine blk_drewN ?_ _ | refine blk_drew ?_ | refine blk_alloc ?_ _)); exact BK775.out⟩, ⟨by (with_reducible repeat (first | refine blk_drewN ?_ _ | refine blk_drew ?_ | refine blk_alloc ?_ _)); refine blk_put (cs := #[.bool false, .slice Ao19 t778.length co19, .slice none 0 0]) ?_ 2 _ rfl; (with_reducible repeat (first | refine blk_drewN ?_ _ | refine blk_drew ?_ | refine blk_alloc ?_ _)); refine blk_put (cs := #[.bool false, .slice none 0 0, .slice none 0 0]) ?_ 1 _ rfl; (with_reducible repeat (first | refine blk_drewN ?_ _ | refine blk_drew ?_ | refine blk_alloc ?_ _)); refine blk_put (cs := #[.bool false, .slice none 0 0, .slice none 0 0]) ?_ 0 _ rfl; (with_reducible repeat (first | refine blk_drewN ?_ _ | refine blk_drew ?_ | refine blk_alloc ?_ _)); exact BK785.out⟩, ⟨by repeat (first | (with_reducible first | exact HB.out | apply below_alloc | apply pw_below_drewN | apply below_drew1 | refine below_set ?_ GE775.out | refine below_set ?_ GE785.out) | exact HB.out)⟩⟩
          · rw [if_neg c21] at H
            have c21b0 : (t784 == 0) = false := beq_eq_false_iff_ne.mpr c21
            have c21b1 : (t784 != 0) = true := bne_iff_ne.mpr c21
            (first | rw [c21b0] | (simp only [i64_w, i32_w]; rw [c21b0]) | skip)
            have H' := Aside0.mk H
            clear H
            go_wp2
            go_meet
            case rel => exact ⟨_, (true), (by first | rfl | (simp; done) | (simp [*]; done)), H', ⟨by have := HJ1.out; first | omega | exact Nat.le_refl _⟩, ⟨by (with_reducible repeat (first | apply Kd.R_alloc | apply Kd.R_drewN | apply Kd.R_drew)); exact Kd.R_mono (Kd.R_far (p := ⟨gb785, 2, none⟩) (Kd.R_far (p := ⟨gb785, 1, none⟩) (Kd.R_far (p := ⟨gb785, 0, none⟩) (Kd.R_types HO780.out BK785.out (by decide)) (fun _ hk => hk.2) (.bool t777)) (fun _ hk => hk.2) (.slice Ao19 t778.length co19)) (fun _ hk => hk.2) (.slice Ao20 t781.length co20)) (fun _ hk => trivial)⟩, ⟨by (with_reducible repeat (first | apply Kd.S_alloc | apply Kd.S_drewN | apply Kd.S_drew)); exact Kd.S_mono (Kd.S_far (p := ⟨gb785, 2, none⟩) (Kd.S_far (p := ⟨gb785, 1, none⟩) (Kd.S_far (p := ⟨gb785, 0, none⟩) (Kd.S_types HO783.out BK785.out (by decide)) (fun _ hk => hk.2) (.bool t777)) (fun _ hk => hk.2) (.slice Ao19 t778.length co19)) (fun _ hk => hk.2) (.slice Ao20 t781.length co20)) (fun _ hk => trivial)⟩, ⟨by (with_reducible repeat (first | refine blk_drewN ?_ _ | refine blk_drew ?_ | refine blk_alloc ?_ _)); refine blk_far ?_ NB775_785.out _; (with_reducible repeat (first | refine blk_drewN ?_ _ | refine blk_drew ?_ | refine blk_alloc ?_ _)); refine blk_far ?_ NB775_785.out _; (with_reducible repeat (first | refine blk_drewN ?_ _ | refine blk_drew ?_ | refine blk_alloc ?_ _)); refine blk_far ?_ NB775_785.out _; (with_reducible repeat (first | refine blk_drewN ?_ _ | refine blk_drew ?_ | refine blk_alloc ?_ _)); exact BK775.out⟩, ⟨by (with_reducible repeat (first | refine blk_drewN ?_ _ | refine blk_drew ?_ | refine blk_alloc ?_ _)); refine blk_put (cs := #[.bool t777, .slice Ao19 t778.length co19, .slice none 0 0]) ?_ 2 _ rfl; (with_reducible repeat (first | refine blk_drewN ?_ _ | refine blk_drew ?_ | refine blk_alloc ?_ _)); refine blk_put (cs := #[.bool t777, .slice none 0 0, .slice none 0 0]) ?_ 1 _ rfl; (with_reducible repeat (first | refine blk_drewN ?_ _ | refine blk_drew ?_ | refine blk_alloc ?_ _)); refine blk_put (cs := #[.bool false, .slice none 0 0, .slice none 0 0]) ?_ 0 _ rfl; (with_reducible repeat (first | refine blk_drewN ?_ _ | refine blk_drew ?_ | refine blk_alloc ?_ _)); exact BK785.out⟩, ⟨by repeat (first | (with_reducible first | exact HB.out | apply below_alloc | apply pw_below_drewN | apply below_drew1 | refine below_set ?_ GE775.out | refine below_set ?_ GE785.out) | exact HB.out)⟩⟩
        case rest =>
          clear HC13
          try clear c1
          try clear c2
          try clear p2
          try clear c4
          try clear c5
          try clear c11
          try clear c17
          try clear c19
          try clear c21
          try clear c21b0
          try clear c21b1
          try clear c22
          try clear c23
          try clear c25
          try clear hcz10_0
          try clear hcz10_1
          try clear hcz14_0
          try clear hcz14_1
          try clear hcz18_0
          try clear hcz18_1
          try clear hcz18_2
          try clear hcz24_0
          try clear hcz24_1
          try clear hcz24_2
          try clear hcz26_0
          try clear hcz26_1
          try clear hcz26_2
          try clear hcz6_0
          try clear hcz6_1
          try clear hcz8_0
          try clear hcz8_1
          try clear hfz10_0
          try clear hfz10_1
          try clear hfz14_0
          try clear hfz14_1
          try clear hfz18_0
          try clear hfz18_1
          try clear hfz18_2
          try clear hfz24_0
          try clear hfz24_1
          try clear hfz24_2
          try clear hfz26_0
          try clear hfz26_1
          try clear hfz26_2
          try clear hfz6_0
          try clear hfz6_1
          try clear hfz8_0
          try clear hfz8_1
          try clear p2
          obtain ⟨kq, x30_12, rfl, HA, HJ12, HO_786001, HO_786002, BK775, BK785, HB⟩ := hcut
          cases kq with
          | zero => exact absurd HA.out (by simp [hoggetlaw13_ProofSolved.j1])
          | succ kj12 =>
            have H := HA.out
            clear HA
            simp only [hoggetlaw13_ProofSolved.j1] at H
            by_cases c27 : x30_12 = true
            · subst c27
              have H1 : ((hoggetlaw13_proves.f).bind fun t786 => (some t786)) = some r := by rw [if_pos rfl] at H; exact H
              clear H
              have H := H1
              clear H1
              replace H := Option.bind_eq_some_iff.mp H
              obtain ⟨t786, A280, H⟩ := H
              replace H : (some t786) = some r := H
              have A28 := Aside0.mk A280
              clear A280
              obtain rfl := Option.some.inj H
              go_wp2_with (first | ((with_reducible refine gate_callee (f := 49) rfl ?_); refine goesL_ (some 31) rfl rfl Try.func49 (by kernel_rfl) rfl #[] rfl (by (try simp only [List.map_toArray, List.map_cons, List.map_nil]); first | done | rfl | (simp only [List.length_drop, List.length_take]; rfl)) ?_; (with_reducible refine (hoggetlaw13_proves.calls  t786 _ A28.out).mono ?_); rintro e w29 ⟨rfl, hb⟩; refine ⟨_, rfl, ?_⟩; have n0_ := Aside0.mk (Kd.R_below (by (with_reducible repeat (first | apply Kd.R_alloc | apply Kd.R_drewN | apply Kd.R_drew)); exact HO_786001.out) hb); have n1_ := Aside0.mk (Kd.S_below (by (with_reducible repeat (first | apply Kd.S_alloc | apply Kd.S_drewN | apply Kd.S_drew)); exact HO_786002.out) hb); have n2_ := Aside0.mk (blk_below (g := gb775) (o := .cells #[.int .i64 a0_0, .slice A0_1 l0_1.length c0_1] 24 (0, 0)) (by (with_reducible repeat (first | refine blk_drewN ?_ _ | refine blk_drew ?_ | refine blk_alloc ?_ _)); exact BK775.out) hb); have n3_ := Aside0.mk (blk_below (g := gb785) (o := .cells #[.bool t777, .slice Ao19 t778.length co19, .slice Ao20 t781.length co20] 51 (0, 0)) (by (with_reducible repeat (first | refine blk_drewN ?_ _ | refine blk_drew ?_ | refine blk_alloc ?_ _)); exact BK785.out) hb); have n4_ := Aside0.mk (below_step (by repeat (first | (with_reducible first | exact HB.out | apply below_alloc | apply pw_below_drewN | apply below_drew1 | refine below_set ?_ GE775.out | refine below_set ?_ GE785.out) | exact HB.out)) hb); clear HO_786001; clear HO_786002; clear BK775; clear BK785; clear HB; have HO_786001 := n0_; have HO_786002 := n1_; have BK775 := n2_; have BK785 := n3_; have HB := n4_; clear n0_ n1_ n2_ n3_ n4_; (try clear hb); (try clear hb2); (try clear hk); (try clear hi)))
              go_ret
              exact ⟨by first | rfl | (simp [errW_none, errW_some] <;> rfl) | (simp [*, errW_none, errW_some] <;> rfl), by repeat (first | (with_reducible first | exact HB.out | apply below_alloc | apply pw_below_drewN | apply below_drew1 | refine below_set ?_ GE775.out | refine below_set ?_ GE785.out) | exact HB.out)⟩
            · replace c27 := Bool.eq_false_iff.mpr c27
              subst c27
              have H1 : ((proof_Check.f a0_0 l0_1 t781).bind fun bt787 => ((hoggetlaw13_proves.f).bind fun t789 => (if t789 = true then (if bt787.2 = true then (some (bt787.1 == (t781.length : Int))) else (none)) else (none)))) = some r := by rw [if_neg (show ¬ (false = true) by decide)] at H; exact H
              clear H
              have H := H1
              clear H1
              replace H := Option.bind_eq_some_iff.mp H
              obtain ⟨⟨t787, t788⟩, A300, H⟩ := H
              replace H : ((hoggetlaw13_proves.f).bind fun t789 => (if t789 = true then (if t788 = true then (some (t787 == (t781.length : Int))) else (none)) else (none))) = some r := H
              have A30 := Aside0.mk A300
              clear A300
              replace H := Option.bind_eq_some_iff.mp H
              obtain ⟨t789, A310, H⟩ := H
              replace H : (if t789 = true then (if t788 = true then (some (t787 == (t781.length : Int))) else (none)) else (none)) = some r := H
              have A31 := Aside0.mk A310
              clear A310
              by_cases c32 : t789 = true
              · subst c32
                have H1 : (if t788 = true then (some (t787 == (t781.length : Int))) else (none)) = some r := by rw [if_pos rfl] at H; exact H
                clear H
                have H := H1
                clear H1
                by_cases c33 : t788 = true
                · subst c33
                  have H1 : (some (t787 == (t781.length : Int))) = some r := by rw [if_pos rfl] at H; exact H
                  clear H
                  have H := H1
                  clear H1
                  obtain rfl := Option.some.inj H
                  have hnb34 := NB775_785.out
                  have hnc34 := NB785_775.out
                  have hcz35_0 : wc.cell? ⟨gb775, 0, none⟩ = some (.int .i64 a0_0) := (blk_cell BK775.out 0).trans rfl
                  have hcz35_1 : wc.cell? ⟨gb775, 1, none⟩ = some (.slice A0_1 l0_1.length c0_1) := (blk_cell BK775.out 1).trans rfl
                  have hfz35_0 := blk_frozen BK775.out 0
                  have hfz35_1 := blk_frozen BK775.out 1
                  have hcz36_0 : wc.cell? ⟨gb785, 0, none⟩ = some (.bool t777) := (blk_cell BK785.out 0).trans rfl
                  have hcz36_1 : wc.cell? ⟨gb785, 1, none⟩ = some (.slice Ao19 t778.length co19) := (blk_cell BK785.out 1).trans rfl
                  have hcz36_2 : wc.cell? ⟨gb785, 2, none⟩ = some (.slice Ao20 t781.length co20) := (blk_cell BK785.out 2).trans rfl
                  have hfz36_0 := blk_frozen BK785.out 0
                  have hfz36_1 := blk_frozen BK785.out 1
                  have hfz36_2 := blk_frozen BK785.out 2
                  go_wp2_with (first | ((with_reducible refine gate_callee (f := 47) rfl ?_); refine goesL_ (some 36) rfl rfl Try.func47 (by kernel_rfl) rfl #[.agg #[.int .i64 a0_0, .slice A0_1 l0_1.length c0_1], .slice Ao20 t781.length co20] rfl (by (try simp only [List.map_toArray, List.map_cons, List.map_nil]); first | done | rfl | (simp only [List.length_drop, List.length_take]; rfl)) ?_; (with_reducible refine (proof_Check.calls a0_0 _ _ l0_1 _ _ t781 t787 true _ ?side1 ?side2 ?side3 ?side4 A30.out).mono ?_); (case side1 => repeat (first | exact (Kd.C_below HR0_1.out HB.out) | (with_reducible refine Kd.C_alloc ?_ _) | (with_reducible refine Kd.C_drewN ?_ _) | (with_reducible refine Kd.C_drew ?_))); (case side2 => exact HC0_1.out); (case side3 => repeat (first | exact (Kd.S_reads' HO_786002.out).2.2 | (with_reducible refine Kd.C_alloc ?_ _) | (with_reducible refine Kd.C_drewN ?_ _) | (with_reducible refine Kd.C_drew ?_))); (case side4 => exact (Kd.S_reads' HO_786002.out).2.1); rintro e w37 ⟨rfl, hb⟩; refine ⟨_, rfl, ?_⟩; have n0_ := Aside0.mk (Kd.R_below (by (with_reducible repeat (first | apply Kd.R_alloc | apply Kd.R_drewN | apply Kd.R_drew)); exact HO_786001.out) hb); have n1_ := Aside0.mk (Kd.S_below (by (with_reducible repeat (first | apply Kd.S_alloc | apply Kd.S_drewN | apply Kd.S_drew)); exact HO_786002.out) hb); have n2_ := Aside0.mk (blk_below (g := gb775) (o := .cells #[.int .i64 a0_0, .slice A0_1 l0_1.length c0_1] 24 (0, 0)) (by (with_reducible repeat (first | refine blk_drewN ?_ _ | refine blk_drew ?_ | refine blk_alloc ?_ _)); exact BK775.out) hb); have n3_ := Aside0.mk (blk_below (g := gb785) (o := .cells #[.bool t777, .slice Ao19 t778.length co19, .slice Ao20 t781.length co20] 51 (0, 0)) (by (with_reducible repeat (first | refine blk_drewN ?_ _ | refine blk_drew ?_ | refine blk_alloc ?_ _)); exact BK785.out) hb); have n4_ := Aside0.mk (below_step (by repeat (first | (with_reducible first | exact HB.out | apply below_alloc | apply pw_below_drewN | apply below_drew1 | refine below_set ?_ GE775.out | refine below_set ?_ GE785.out) | exact HB.out)) hb); clear HO_786001; clear HO_786002; clear BK775; clear BK785; clear HB; have HO_786001 := n0_; have HO_786002 := n1_; have BK775 := n2_; have BK785 := n3_; have HB := n4_; clear n0_ n1_ n2_ n3_ n4_; (try clear hb); (try clear hb2); (try clear hk); (try clear hi)) | ((with_reducible refine gate_callee (f := 49) rfl ?_); refine goesL_ (some 39) rfl rfl Try.func49 (by kernel_rfl) rfl #[] rfl (by (try simp only [List.map_toArray, List.map_cons, List.map_nil]); first | done | rfl | (simp only [List.length_drop, List.length_take]; rfl)) ?_; (with_reducible refine (hoggetlaw13_proves.calls  true _ A31.out).mono ?_); rintro e w38 ⟨rfl, hb⟩; refine ⟨_, rfl, ?_⟩; have n0_ := Aside0.mk (Kd.R_below (by (with_reducible repeat (first | apply Kd.R_alloc | apply Kd.R_drewN | apply Kd.R_drew)); exact HO_786001.out) hb); have n1_ := Aside0.mk (Kd.S_below (by (with_reducible repeat (first | apply Kd.S_alloc | apply Kd.S_drewN | apply Kd.S_drew)); exact HO_786002.out) hb); have n2_ := Aside0.mk (blk_below (g := gb775) (o := .cells #[.int .i64 a0_0, .slice A0_1 l0_1.length c0_1] 24 (0, 0)) (by (with_reducible repeat (first | refine blk_drewN ?_ _ | refine blk_drew ?_ | refine blk_alloc ?_ _)); exact BK775.out) hb); have n3_ := Aside0.mk (blk_below (g := gb785) (o := .cells #[.bool t777, .slice Ao19 t778.length co19, .slice Ao20 t781.length co20] 51 (0, 0)) (by (with_reducible repeat (first | refine blk_drewN ?_ _ | refine blk_drew ?_ | refine blk_alloc ?_ _)); exact BK785.out) hb); have n4_ := Aside0.mk (below_step (by repeat (first | (with_reducible first | exact HB.out | apply below_alloc | apply pw_below_drewN | apply below_drew1 | refine below_set ?_ GE775.out | refine below_set ?_ GE785.out) | exact HB.out)) hb); clear HO_786001; clear HO_786002; clear BK775; clear BK785; clear HB; have HO_786001 := n0_; have HO_786002 := n1_; have BK775 := n2_; have BK785 := n3_; have HB := n4_; clear n0_ n1_ n2_ n3_ n4_; (try clear hb); (try clear hb2); (try clear hk); (try clear hi); have hcz39_0 : w38.cell? ⟨gb785, 0, none⟩ = some (.bool t777) := (blk_cell BK785.out 0).trans rfl; have hcz39_1 : w38.cell? ⟨gb785, 1, none⟩ = some (.slice Ao19 t778.length co19) := (blk_cell BK785.out 1).trans rfl; have hcz39_2 : w38.cell? ⟨gb785, 2, none⟩ = some (.slice Ao20 t781.length co20) := (blk_cell BK785.out 2).trans rfl; have hfz39_0 := blk_frozen BK785.out 0; have hfz39_1 := blk_frozen BK785.out 1; have hfz39_2 := blk_frozen BK785.out 2))
                  go_ret
                  exact ⟨by first | rfl | (simp [errW_none, errW_some] <;> rfl) | (simp [*, errW_none, errW_some] <;> rfl), by repeat (first | (with_reducible first | exact HB.out | apply below_alloc | apply pw_below_drewN | apply below_drew1 | refine below_set ?_ GE775.out | refine below_set ?_ GE785.out) | exact HB.out)⟩
                · replace c33 := Bool.eq_false_iff.mpr c33
                  subst c33
                  have H1 : (none) = some r := by rw [if_neg (show ¬ (false = true) by decide)] at H; exact H
                  clear H
                  have H := H1
                  clear H1
                  cases H
              · replace c32 := Bool.eq_false_iff.mpr c32
                subst c32
                have H1 : (none) = some r := by rw [if_neg (show ¬ (false = true) by decide)] at H; exact H
                clear H
                have H := H1
                clear H1
                cases H

end Go.Proofs.Ythnbmlpjbhhamaa.J
