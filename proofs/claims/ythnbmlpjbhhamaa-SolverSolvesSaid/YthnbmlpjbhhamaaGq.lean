/- The walks of hoggetlaw12_large, hoggetref12_Same, by the print over this seat. -/
import Derived.Test.YthnbmlpjbhhamaaJ0
import Derived.Test.YthnbmlpjbhhamaaGa
namespace Go.Proofs.Ythnbmlpjbhhamaa.J
open Go.RowKit Go.Proofs.YthnbmlpjbhhamaaW.PrintWords Go.Proofs.YthnbmlpjbhhamaaW.PrintLast Go.Proofs.YthnbmlpjbhhamaaW.PrintMore
attribute [local go_sem] max2_int min2_int max_two min_two max_three min_three max_four min_four   -- for this text's walks alone
set_option linter.unusedVariables false
set_option linter.unusedSimpArgs false

/-! ### hoggetlaw12_large: function 52 -/
noncomputable def hoggetlaw12_large.j0 : Nat → Bool → Int → List (List Int) → Option (Bool)
  | 0, _, _, _ => none
  | k + 1, x13, x531000, x531001 => if x13 = true then (some true) else (if (x531001.length : Int) > 3000 then ((hoggetref10_Big.f k x531001 3100 60).bind fun t531 => (some t531)) else ((hoggetref10_Big.f k x531001 40 60).bind fun t532 => (some t532)))
noncomputable def hoggetlaw12_large.f (k : Nat) (a0_0 : Int) (l0_1 : List (List Int)) (a1 : Int) : Option (Bool) := if a0_0 > a1 then (hoggetlaw12_large.j0 k (decide (a0_0 ≤ 60)) a0_0 l0_1) else (hoggetlaw12_large.j0 k false a0_0 l0_1)
theorem hoggetlaw12_large.mono_l : ∀ k, (∀ y0 y1 y2, LeO (hoggetlaw12_large.j0 k y0 y1 y2) (hoggetlaw12_large.j0 (k + 1) y0 y1 y2))
  | 0 => fun _ _ _ r h => by simp [hoggetlaw12_large.j0] at h
  | k + 1 => by
    have ih0 := hoggetlaw12_large.mono_l k
    · intro y0 y1 y2
      unfold hoggetlaw12_large.j0
      repeat' first
      | (with_reducible exact ih0 _ _ _)
      | (with_reducible exact hoggetref10_Big.mono _ _ _ _)
      | (with_reducible exact LeO.refl _)
      | (with_reducible exact LeO.none _)
      | (with_reducible refine LeO.ite ?_ ?_)
      | (with_reducible refine LeO.bind ?_ (fun _ => ?_))
      | exact ih0 _ _ _
      | exact hoggetref10_Big.mono _ _ _ _
      | exact LeO.none _
      | refine LeO.ite ?_ ?_
      | refine LeO.bind ?_ (fun _ => ?_)
theorem hoggetlaw12_large.mono : ∀ a0 a1 a2 k, LeO (hoggetlaw12_large.f k a0 a1 a2) (hoggetlaw12_large.f (k + 1) a0 a1 a2) := by
  intro a0 a1 a2 k
  have ih0 := hoggetlaw12_large.mono_l k
  unfold hoggetlaw12_large.f
  repeat' first
      | (with_reducible exact ih0 _ _ _)
      | (with_reducible exact hoggetref10_Big.mono _ _ _ _)
      | (with_reducible exact LeO.refl _)
      | (with_reducible exact LeO.none _)
      | (with_reducible refine LeO.ite ?_ ?_)
      | (with_reducible refine LeO.bind ?_ (fun _ => ?_))
      | exact ih0 _ _ _
      | exact hoggetref10_Big.mono _ _ _ _
      | exact LeO.none _
      | refine LeO.ite ?_ ?_
      | refine LeO.bind ?_ (fun _ => ?_)
set_option maxHeartbeats 8000000 in
set_option maxRecDepth 100000 in
theorem hoggetlaw12_large.calls (k : Nat) (a0_0 : Int) (A0_1 : Option Addr) (c0_1 : Nat) (l0_1 : List (List Int)) (a1 : Int) (r : Bool) (w : World) (hr0_1 : Kd.C (Kd.slice 3 (Kd.int .i64)) w A0_1 l0_1.length l0_1) (hc0_1 : l0_1.length ≤ c0_1) (h : hoggetlaw12_large.f k a0_0 l0_1 a1 = some r) :
    Calls Try.prog 52 #[.agg #[.int .i64 a0_0, .slice A0_1 l0_1.length c0_1], .int .i64 a1] w fun e w' => e = .returned (.bool r) ∧ Below w.heap.size w w' := by
  have hu24 := Try.underlying24
  have HR0_1 := Aside0.mk hr0_1
  have HC0_1 := Aside0.mk hc0_1
  clear hr0_1 hc0_1
  have HB := Aside0.mk (Below.refl w.heap.size w)
  have H : (if a0_0 > a1 then (hoggetlaw12_large.j0 k (decide (a0_0 ≤ 60)) a0_0 l0_1) else (hoggetlaw12_large.j0 k false a0_0 l0_1)) = some r := h
  clear h
  have HC3 := Aside0.mk H
  clear H
  go_enter Try.func52, Try.ntmps52
  go_upto_region 1 with (first | ((with_reducible refine gate_dst (N := 2) rfl ?_); refine box_event ?hg (N := 2) ?hd (cs := #[.int .i64 a0_0, .slice A0_1 l0_1.length c0_1]) (t := 24) ?hr ?_; (case hd => rfl); (case hg => rfl); (case hr => first | (go_simp; done) | (go_simp; rfl)); intro gb530 hg w4 hbox hb; have n0_ := Aside0.mk (below_step (by repeat (first | (with_reducible first | exact HB.out | apply below_alloc | apply pw_below_drewN | apply below_drew1) | exact HB.out)) hb); have n1_ := Aside0.mk (hbox); have n2_ := Aside0.mk ((by rw [hg]; exact (below_size (by repeat (first | (with_reducible first | exact HB.out | apply below_alloc | apply pw_below_drewN | apply below_drew1) | exact HB.out))) : w.heap.size ≤ gb530)); have n3_ := Aside0.mk ((by rw [hg]; exact (below_size (by repeat (first | (with_reducible first | exact HB.out | apply below_alloc | apply pw_below_drewN | apply below_drew1) | exact HB.out))) : w.heap.size ≤ gb530)); clear HB; have HB := n0_; have BK530 := n1_; have GW530 := n2_; have GE530 := n3_; clear n0_ n1_ n2_ n3_; clear hb hbox hg))
  (try simp only [Act.put, List.setIfInBounds_toArray, List.set_cons_zero, List.set_cons_succ])
  go_cut [13] (fun v13 wc => ∃ (kq : Nat) (x13_2 : Bool), v13 = .bool x13_2 ∧ Aside0 (hoggetlaw12_large.j0 kq x13_2 a0_0 l0_1 = some r) ∧ Aside0 (kq ≤ k) ∧ Aside0 (wc.heap[gb530]? = some (.cells #[.int .i64 a0_0, (.slice A0_1 l0_1.length c0_1)] 24 (0, 0))) ∧ Aside0 (Below w.heap.size w wc))
  case first =>
    have H := HC3.out
    clear HC3
    by_cases c5 : a0_0 > a1
    · rw [if_pos c5] at H
      have c5b0 : decide (a1 < a0_0) = true := decide_eq_true c5
      clear c5
      (first | rw [c5b0] | (simp only [i64_w, i32_w]; rw [c5b0]) | skip)
      have H' := Aside0.mk H
      clear H
      have hcz6_0 : w4.cell? ⟨gb530, 0, none⟩ = some (.int .i64 a0_0) := (blk_cell BK530.out 0).trans rfl
      have hcz6_1 : w4.cell? ⟨gb530, 1, none⟩ = some (.slice A0_1 l0_1.length c0_1) := (blk_cell BK530.out 1).trans rfl
      have hfz6_0 := blk_frozen BK530.out 0
      have hfz6_1 := blk_frozen BK530.out 1
      go_wp2
      go_meet
      case rel => exact ⟨_, (decide (a0_0 ≤ 60)), (by first | rfl | (simp; done) | (simp [*]; done)), H', ⟨by first | omega | exact Nat.le_refl _⟩, ⟨by (with_reducible repeat (first | refine blk_drewN ?_ _ | refine blk_drew ?_ | refine blk_alloc ?_ _)); exact BK530.out⟩, ⟨by repeat (first | (with_reducible first | exact HB.out | apply below_alloc | apply pw_below_drewN | apply below_drew1 | refine below_set ?_ GE530.out) | exact HB.out)⟩⟩
    · rw [if_neg c5] at H
      have c5b0 : decide (a1 < a0_0) = false := decide_eq_false c5
      clear c5
      (first | rw [c5b0] | (simp only [i64_w, i32_w]; rw [c5b0]) | skip)
      have H' := Aside0.mk H
      clear H
      have hcz7_0 : w4.cell? ⟨gb530, 0, none⟩ = some (.int .i64 a0_0) := (blk_cell BK530.out 0).trans rfl
      have hcz7_1 : w4.cell? ⟨gb530, 1, none⟩ = some (.slice A0_1 l0_1.length c0_1) := (blk_cell BK530.out 1).trans rfl
      have hfz7_0 := blk_frozen BK530.out 0
      have hfz7_1 := blk_frozen BK530.out 1
      go_wp2
      go_meet
      case rel => exact ⟨_, (false), (by first | rfl | (simp; done) | (simp [*]; done)), H', ⟨by first | omega | exact Nat.le_refl _⟩, ⟨by (with_reducible repeat (first | refine blk_drewN ?_ _ | refine blk_drew ?_ | refine blk_alloc ?_ _)); exact BK530.out⟩, ⟨by repeat (first | (with_reducible first | exact HB.out | apply below_alloc | apply pw_below_drewN | apply below_drew1 | refine below_set ?_ GE530.out) | exact HB.out)⟩⟩
  case rest =>
    clear HC3
    try clear p2
    try clear c5
    try clear c5b0
    try clear hcz6_0
    try clear hcz6_1
    try clear hcz7_0
    try clear hcz7_1
    try clear hfz6_0
    try clear hfz6_1
    try clear hfz7_0
    try clear hfz7_1
    obtain ⟨kq, x13_2, rfl, HA, HJ2, BK530, HB⟩ := hcut
    cases kq with
    | zero => exact absurd HA.out (by simp [hoggetlaw12_large.j0])
    | succ kj2 =>
      have H := HA.out
      clear HA
      simp only [hoggetlaw12_large.j0] at H
      by_cases c8 : x13_2 = true
      · subst c8
        have H1 : (some true) = some r := by rw [if_pos rfl] at H; exact H
        clear H
        have H := H1
        clear H1
        obtain rfl := Option.some.inj H
        go_wp2
        go_ret
        exact ⟨by first | rfl | (simp [errW_none, errW_some] <;> rfl) | (simp [*, errW_none, errW_some] <;> rfl), by repeat (first | (with_reducible first | exact HB.out | apply below_alloc | apply pw_below_drewN | apply below_drew1 | refine below_set ?_ GE530.out) | exact HB.out)⟩
      · replace c8 := Bool.eq_false_iff.mpr c8
        subst c8
        have H1 : (if (l0_1.length : Int) > 3000 then ((hoggetref10_Big.f kj2 l0_1 3100 60).bind fun t531 => (some t531)) else ((hoggetref10_Big.f kj2 l0_1 40 60).bind fun t532 => (some t532))) = some r := by rw [if_neg (show ¬ (false = true) by decide)] at H; exact H
        clear H
        have H := H1
        clear H1
        by_cases c9 : (l0_1.length : Int) > 3000
        · rw [if_pos c9] at H
          have c9b0 : decide (3000 < (l0_1.length : Int)) = true := decide_eq_true c9
          have c9b1 : decide (3000 < l0_1.length) = true := decide_eq_true (by omega)
          clear c9
          replace H := Option.bind_eq_some_iff.mp H
          obtain ⟨t531, A100, H⟩ := H
          replace H : (some t531) = some r := H
          have A10 := Aside0.mk A100
          clear A100
          obtain rfl := Option.some.inj H
          have hcz11_0 : wc.cell? ⟨gb530, 0, none⟩ = some (.int .i64 a0_0) := (blk_cell BK530.out 0).trans rfl
          have hcz11_1 : wc.cell? ⟨gb530, 1, none⟩ = some (.slice A0_1 l0_1.length c0_1) := (blk_cell BK530.out 1).trans rfl
          have hfz11_0 := blk_frozen BK530.out 0
          have hfz11_1 := blk_frozen BK530.out 1
          go_wp2_with (first | ((with_reducible refine gate_callee (f := 79) rfl ?_); refine goesL_ (some 20) rfl rfl Try.func79 (by kernel_rfl) rfl #[.slice A0_1 l0_1.length c0_1, .int .i64 3100, .int .i64 60] rfl (by (try simp only [List.map_toArray, List.map_cons, List.map_nil]); first | done | rfl | (simp only [List.length_drop, List.length_take]; rfl)) ?_; (with_reducible refine (hoggetref10_Big.calls kj2 _ _ l0_1 3100 60 t531 _ ?side1 ?side2 A10.out).mono ?_); (case side1 => repeat (first | exact (Kd.C_below HR0_1.out HB.out) | (with_reducible refine Kd.C_alloc ?_ _) | (with_reducible refine Kd.C_drewN ?_ _) | (with_reducible refine Kd.C_drew ?_))); (case side2 => exact HC0_1.out); rintro e w' ⟨rfl, ⟨nd, rfl⟩⟩; refine ⟨_, rfl, ?_⟩))
          go_ret
          exact ⟨by first | rfl | (simp [errW_none, errW_some] <;> rfl) | (simp [*, errW_none, errW_some] <;> rfl), by repeat (first | (with_reducible first | exact HB.out | apply below_alloc | apply pw_below_drewN | apply below_drew1 | refine below_set ?_ GE530.out) | exact HB.out)⟩
        · rw [if_neg c9] at H
          have c9b0 : decide (3000 < (l0_1.length : Int)) = false := decide_eq_false c9
          have c9b1 : decide (3000 < l0_1.length) = false := decide_eq_false (by omega)
          clear c9
          replace H := Option.bind_eq_some_iff.mp H
          obtain ⟨t532, A120, H⟩ := H
          replace H : (some t532) = some r := H
          have A12 := Aside0.mk A120
          clear A120
          obtain rfl := Option.some.inj H
          have hcz13_0 : wc.cell? ⟨gb530, 0, none⟩ = some (.int .i64 a0_0) := (blk_cell BK530.out 0).trans rfl
          have hcz13_1 : wc.cell? ⟨gb530, 1, none⟩ = some (.slice A0_1 l0_1.length c0_1) := (blk_cell BK530.out 1).trans rfl
          have hfz13_0 := blk_frozen BK530.out 0
          have hfz13_1 := blk_frozen BK530.out 1
          go_wp2_with (first | ((with_reducible refine gate_callee (f := 79) rfl ?_); refine goesL_ (some 23) rfl rfl Try.func79 (by kernel_rfl) rfl #[.slice A0_1 l0_1.length c0_1, .int .i64 40, .int .i64 60] rfl (by (try simp only [List.map_toArray, List.map_cons, List.map_nil]); first | done | rfl | (simp only [List.length_drop, List.length_take]; rfl)) ?_; (with_reducible refine (hoggetref10_Big.calls kj2 _ _ l0_1 40 60 t532 _ ?side1 ?side2 A12.out).mono ?_); (case side1 => repeat (first | exact (Kd.C_below HR0_1.out HB.out) | (with_reducible refine Kd.C_alloc ?_ _) | (with_reducible refine Kd.C_drewN ?_ _) | (with_reducible refine Kd.C_drew ?_))); (case side2 => exact HC0_1.out); rintro e w' ⟨rfl, ⟨nd, rfl⟩⟩; refine ⟨_, rfl, ?_⟩))
          go_ret
          exact ⟨by first | rfl | (simp [errW_none, errW_some] <;> rfl) | (simp [*, errW_none, errW_some] <;> rfl), by repeat (first | (with_reducible first | exact HB.out | apply below_alloc | apply pw_below_drewN | apply below_drew1 | refine below_set ?_ GE530.out) | exact HB.out)⟩

/-! ### hoggetref12_Same: function 56 -/
noncomputable def hoggetref12_Same.f (k : Nat) (a0_0 : Bool) (l0_1 : List Bool) (l0_2 : List (List Int)) (a1_0 : Bool) (l1_1 : List Bool) (l1_2 : List (List Int)) : Option (Bool) := if (a0_0 == a1_0) = true then ((hoggetref10_Bools.f k l0_1 l1_1).bind fun t633 => (if t633 = true then ((hoggetref10_Clauses.f k l0_2 l1_2).bind fun t634 => (some t634)) else (some false))) else (some false)
theorem hoggetref12_Same.mono : ∀ a0 a1 a2 a3 a4 a5 k, LeO (hoggetref12_Same.f k a0 a1 a2 a3 a4 a5) (hoggetref12_Same.f (k + 1) a0 a1 a2 a3 a4 a5) := by
  intro a0 a1 a2 a3 a4 a5 k
  unfold hoggetref12_Same.f
  repeat' first
      | (with_reducible exact hoggetref10_Bools.mono _ _ _)
      | (with_reducible exact hoggetref10_Clauses.mono _ _ _)
      | (with_reducible exact LeO.refl _)
      | (with_reducible exact LeO.none _)
      | (with_reducible refine LeO.ite ?_ ?_)
      | (with_reducible refine LeO.bind ?_ (fun _ => ?_))
      | exact hoggetref10_Bools.mono _ _ _
      | exact hoggetref10_Clauses.mono _ _ _
      | exact LeO.none _
      | refine LeO.ite ?_ ?_
      | refine LeO.bind ?_ (fun _ => ?_)
set_option maxHeartbeats 8000000 in
set_option maxRecDepth 100000 in
theorem hoggetref12_Same.calls (k : Nat) (a0_0 : Bool) (A0_1 : Option Addr) (c0_1 : Nat) (l0_1 : List Bool) (A0_2 : Option Addr) (c0_2 : Nat) (l0_2 : List (List Int)) (a1_0 : Bool) (A1_1 : Option Addr) (c1_1 : Nat) (l1_1 : List Bool) (A1_2 : Option Addr) (c1_2 : Nat) (l1_2 : List (List Int)) (r : Bool) (w : World) (hr0_1 : Kd.C Kd.bool w A0_1 l0_1.length l0_1) (hc0_1 : l0_1.length ≤ c0_1) (hr0_2 : Kd.C (Kd.slice 3 (Kd.int .i64)) w A0_2 l0_2.length l0_2) (hc0_2 : l0_2.length ≤ c0_2) (hr1_1 : Kd.C Kd.bool w A1_1 l1_1.length l1_1) (hc1_1 : l1_1.length ≤ c1_1) (hr1_2 : Kd.C (Kd.slice 3 (Kd.int .i64)) w A1_2 l1_2.length l1_2) (hc1_2 : l1_2.length ≤ c1_2) (h : hoggetref12_Same.f k a0_0 l0_1 l0_2 a1_0 l1_1 l1_2 = some r) :
    Calls Try.prog 56 #[.agg #[.bool a0_0, .slice A0_1 l0_1.length c0_1, .slice A0_2 l0_2.length c0_2], .agg #[.bool a1_0, .slice A1_1 l1_1.length c1_1, .slice A1_2 l1_2.length c1_2]] w fun e w' => e = .returned (.bool r) ∧ Below w.heap.size w w' := by
  have hu51 := Try.underlying51
  have HR0_1 := Aside0.mk hr0_1
  have HC0_1 := Aside0.mk hc0_1
  clear hr0_1 hc0_1
  have HR0_2 := Aside0.mk hr0_2
  have HC0_2 := Aside0.mk hc0_2
  clear hr0_2 hc0_2
  have HR1_1 := Aside0.mk hr1_1
  have HC1_1 := Aside0.mk hc1_1
  clear hr1_1 hc1_1
  have HR1_2 := Aside0.mk hr1_2
  have HC1_2 := Aside0.mk hc1_2
  clear hr1_2 hc1_2
  have HB := Aside0.mk (Below.refl w.heap.size w)
  have H : (if (a0_0 == a1_0) = true then ((hoggetref10_Bools.f k l0_1 l1_1).bind fun t633 => (if t633 = true then ((hoggetref10_Clauses.f k l0_2 l1_2).bind fun t634 => (some t634)) else (some false))) else (some false)) = some r := h
  clear h
  by_cases c3 : (a0_0 == a1_0) = true
  · rw [if_pos c3] at H
    have c3b0 : (a0_0 == a1_0) = true := c3
    (try (have c3b1 : decide (a0_0 = a1_0) = true := by simpa using c3))
    (try (have c3b2 : (a0_0 == a1_0) = true := by simpa using c3))
    clear c3
    replace H := Option.bind_eq_some_iff.mp H
    obtain ⟨t633, A40, H⟩ := H
    replace H : (if t633 = true then ((hoggetref10_Clauses.f k l0_2 l1_2).bind fun t634 => (some t634)) else (some false)) = some r := H
    have A4 := Aside0.mk A40
    clear A40
    by_cases c5 : t633 = true
    · subst c5
      have H1 : ((hoggetref10_Clauses.f k l0_2 l1_2).bind fun t634 => (some t634)) = some r := by rw [if_pos rfl] at H; exact H
      clear H
      have H := H1
      clear H1
      replace H := Option.bind_eq_some_iff.mp H
      obtain ⟨t634, A60, H⟩ := H
      replace H : (some t634) = some r := H
      have A6 := Aside0.mk A60
      clear A60
      obtain rfl := Option.some.inj H
      go_enter Try.func56, Try.ntmps56
      go_wp2_with (first | ((with_reducible refine gate_dst (N := 2) rfl ?_); refine box_event ?hg (N := 2) ?hd (cs := #[.bool a0_0, .slice A0_1 l0_1.length c0_1, .slice A0_2 l0_2.length c0_2]) (t := 51) ?hr ?_; (case hd => rfl); (case hg => rfl); (case hr => first | (go_simp; done) | (go_simp; rfl)); intro gb631 hg w7 hbox hb; have n0_ := Aside0.mk (below_step (by repeat (first | (with_reducible first | exact HB.out | apply below_alloc | apply pw_below_drewN | apply below_drew1) | exact HB.out)) hb); have n1_ := Aside0.mk (hbox); have n2_ := Aside0.mk ((by rw [hg]; exact (below_size (by repeat (first | (with_reducible first | exact HB.out | apply below_alloc | apply pw_below_drewN | apply below_drew1) | exact HB.out))) : w.heap.size ≤ gb631)); have n3_ := Aside0.mk ((by rw [hg]; exact (below_size (by repeat (first | (with_reducible first | exact HB.out | apply below_alloc | apply pw_below_drewN | apply below_drew1) | exact HB.out))) : w.heap.size ≤ gb631)); clear HB; have HB := n0_; have BK631 := n1_; have GW631 := n2_; have GE631 := n3_; clear n0_ n1_ n2_ n3_; clear hb hbox hg) | ((with_reducible refine gate_dst (N := 3) rfl ?_); refine box_event ?hg (N := 3) ?hd (cs := #[.bool a1_0, .slice A1_1 l1_1.length c1_1, .slice A1_2 l1_2.length c1_2]) (t := 51) ?hr ?_; (case hd => rfl); (case hg => rfl); (case hr => first | (go_simp; done) | (go_simp; rfl)); intro gb632 hg w8 hbox hb; have n0_ := Aside0.mk (blk_below (g := gb631) (o := .cells #[.bool a0_0, .slice A0_1 l0_1.length c0_1, .slice A0_2 l0_2.length c0_2] 51 (0, 0)) (by (with_reducible repeat (first | refine blk_drewN ?_ _ | refine blk_drew ?_ | refine blk_alloc ?_ _)); exact BK631.out) hb); have n1_ := Aside0.mk (below_step (by repeat (first | (with_reducible first | exact HB.out | apply below_alloc | apply pw_below_drewN | apply below_drew1 | refine below_set ?_ GE631.out) | exact HB.out)) hb); have n2_ := Aside0.mk (hbox); have n3_ := Aside0.mk ((by rw [hg]; exact (below_size (by repeat (first | (with_reducible first | exact HB.out | apply below_alloc | apply pw_below_drewN | apply below_drew1 | refine below_set ?_ GE631.out) | exact HB.out))) : w.heap.size ≤ gb632)); have n4_ := Aside0.mk ((by rw [hg]; exact (below_size (by repeat (first | (with_reducible first | exact HB.out | apply below_alloc | apply pw_below_drewN | apply below_drew1 | refine below_set ?_ GE631.out) | exact HB.out))) : w.heap.size ≤ gb632)); have n5_ := Aside0.mk ((by rw [hg]; exact Nat.ne_of_lt (blk_lt (g := gb631) (o := .cells #[.bool a0_0, .slice A0_1 l0_1.length c0_1, .slice A0_2 l0_2.length c0_2] 51 (0, 0)) (by (with_reducible repeat (first | refine blk_drewN ?_ _ | refine blk_drew ?_ | refine blk_alloc ?_ _)); exact BK631.out)) : gb631 ≠ gb632)); have n6_ := Aside0.mk ((by rw [hg]; exact Nat.ne_of_gt (blk_lt (g := gb631) (o := .cells #[.bool a0_0, .slice A0_1 l0_1.length c0_1, .slice A0_2 l0_2.length c0_2] 51 (0, 0)) (by (with_reducible repeat (first | refine blk_drewN ?_ _ | refine blk_drew ?_ | refine blk_alloc ?_ _)); exact BK631.out)) : gb632 ≠ gb631)); clear BK631; clear HB; have BK631 := n0_; have HB := n1_; have BK632 := n2_; have GW632 := n3_; have GE632 := n4_; have NB631_632 := n5_; have NB632_631 := n6_; clear n0_ n1_ n2_ n3_ n4_ n5_ n6_; clear hb hbox hg; have hnb9 := NB631_632.out; have hnc9 := NB632_631.out; have hcz10_0 : w8.cell? ⟨gb631, 0, none⟩ = some (.bool a0_0) := (blk_cell BK631.out 0).trans rfl; have hcz10_1 : w8.cell? ⟨gb631, 1, none⟩ = some (.slice A0_1 l0_1.length c0_1) := (blk_cell BK631.out 1).trans rfl; have hcz10_2 : w8.cell? ⟨gb631, 2, none⟩ = some (.slice A0_2 l0_2.length c0_2) := (blk_cell BK631.out 2).trans rfl; have hfz10_0 := blk_frozen BK631.out 0; have hfz10_1 := blk_frozen BK631.out 1; have hfz10_2 := blk_frozen BK631.out 2; have hcz11_0 : w8.cell? ⟨gb632, 0, none⟩ = some (.bool a1_0) := (blk_cell BK632.out 0).trans rfl; have hcz11_1 : w8.cell? ⟨gb632, 1, none⟩ = some (.slice A1_1 l1_1.length c1_1) := (blk_cell BK632.out 1).trans rfl; have hcz11_2 : w8.cell? ⟨gb632, 2, none⟩ = some (.slice A1_2 l1_2.length c1_2) := (blk_cell BK632.out 2).trans rfl; have hfz11_0 := blk_frozen BK632.out 0; have hfz11_1 := blk_frozen BK632.out 1; have hfz11_2 := blk_frozen BK632.out 2) | (go_at_call 60; (with_reducible refine (hoggetref10_Bools.calls k _ _ l0_1 _ _ l1_1 true _ ?side1 ?side2 ?side3 ?side4 A4.out).mono ?_); (case side1 => repeat (first | exact (Kd.C_below HR0_1.out HB.out) | (with_reducible refine Kd.C_alloc ?_ _) | (with_reducible refine Kd.C_drewN ?_ _) | (with_reducible refine Kd.C_drew ?_))); (case side2 => exact HC0_1.out); (case side3 => repeat (first | exact (Kd.C_below HR1_1.out HB.out) | (with_reducible refine Kd.C_alloc ?_ _) | (with_reducible refine Kd.C_drewN ?_ _) | (with_reducible refine Kd.C_drew ?_))); (case side4 => exact HC1_1.out); rintro e w' ⟨rfl, ⟨nd, rfl⟩⟩) | (go_at_call 41; (with_reducible refine (hoggetref10_Clauses.calls k _ _ l0_2 _ _ l1_2 t634 _ ?side1 ?side2 ?side3 ?side4 A6.out).mono ?_); (case side1 => repeat (first | exact (Kd.C_below HR0_2.out (by repeat (first | (with_reducible first | exact HB.out | apply below_alloc | apply pw_below_drewN | apply below_drew1 | refine below_set ?_ GE631.out | refine below_set ?_ GE632.out) | exact HB.out))) | (with_reducible refine Kd.C_alloc ?_ _) | (with_reducible refine Kd.C_drewN ?_ _) | (with_reducible refine Kd.C_drew ?_))); (case side2 => exact HC0_2.out); (case side3 => repeat (first | exact (Kd.C_below HR1_2.out (by repeat (first | (with_reducible first | exact HB.out | apply below_alloc | apply pw_below_drewN | apply below_drew1 | refine below_set ?_ GE631.out | refine below_set ?_ GE632.out) | exact HB.out))) | (with_reducible refine Kd.C_alloc ?_ _) | (with_reducible refine Kd.C_drewN ?_ _) | (with_reducible refine Kd.C_drew ?_))); (case side4 => exact HC1_2.out); rintro e w' ⟨rfl, ⟨nd, rfl⟩⟩))
      go_ret
      exact ⟨by first | rfl | (simp [errW_none, errW_some] <;> rfl) | (simp [*, errW_none, errW_some] <;> rfl), by repeat (first | (with_reducible first | exact HB.out | apply below_alloc | apply pw_below_drewN | apply below_drew1 | refine below_set ?_ GE631.out | refine below_set ?_ GE632.out) | exact HB.out)⟩
    · replace c5 := Bool.eq_false_iff.mpr c5
      subst c5
      have H1 : (some false) = some r := by rw [if_neg (show ¬ (false = true) by decide)] at H; exact H
      clear H
      have H := H1
      clear H1
      obtain rfl := Option.some.inj H
      go_enter Try.func56, Try.ntmps56
      go_wp2_with (first | ((with_reducible refine gate_dst (N := 2) rfl ?_); refine box_event ?hg (N := 2) ?hd (cs := #[.bool a0_0, .slice A0_1 l0_1.length c0_1, .slice A0_2 l0_2.length c0_2]) (t := 51) ?hr ?_; (case hd => rfl); (case hg => rfl); (case hr => first | (go_simp; done) | (go_simp; rfl)); intro gb631 hg w12 hbox hb; have n0_ := Aside0.mk (below_step (by repeat (first | (with_reducible first | exact HB.out | apply below_alloc | apply pw_below_drewN | apply below_drew1) | exact HB.out)) hb); have n1_ := Aside0.mk (hbox); have n2_ := Aside0.mk ((by rw [hg]; exact (below_size (by repeat (first | (with_reducible first | exact HB.out | apply below_alloc | apply pw_below_drewN | apply below_drew1) | exact HB.out))) : w.heap.size ≤ gb631)); have n3_ := Aside0.mk ((by rw [hg]; exact (below_size (by repeat (first | (with_reducible first | exact HB.out | apply below_alloc | apply pw_below_drewN | apply below_drew1) | exact HB.out))) : w.heap.size ≤ gb631)); clear HB; have HB := n0_; have BK631 := n1_; have GW631 := n2_; have GE631 := n3_; clear n0_ n1_ n2_ n3_; clear hb hbox hg) | ((with_reducible refine gate_dst (N := 3) rfl ?_); refine box_event ?hg (N := 3) ?hd (cs := #[.bool a1_0, .slice A1_1 l1_1.length c1_1, .slice A1_2 l1_2.length c1_2]) (t := 51) ?hr ?_; (case hd => rfl); (case hg => rfl); (case hr => first | (go_simp; done) | (go_simp; rfl)); intro gb632 hg w13 hbox hb; have n0_ := Aside0.mk (blk_below (g := gb631) (o := .cells #[.bool a0_0, .slice A0_1 l0_1.length c0_1, .slice A0_2 l0_2.length c0_2] 51 (0, 0)) (by (with_reducible repeat (first | refine blk_drewN ?_ _ | refine blk_drew ?_ | refine blk_alloc ?_ _)); exact BK631.out) hb); have n1_ := Aside0.mk (below_step (by repeat (first | (with_reducible first | exact HB.out | apply below_alloc | apply pw_below_drewN | apply below_drew1 | refine below_set ?_ GE631.out) | exact HB.out)) hb); have n2_ := Aside0.mk (hbox); have n3_ := Aside0.mk ((by rw [hg]; exact (below_size (by repeat (first | (with_reducible first | exact HB.out | apply below_alloc | apply pw_below_drewN | apply below_drew1 | refine below_set ?_ GE631.out) | exact HB.out))) : w.heap.size ≤ gb632)); have n4_ := Aside0.mk ((by rw [hg]; exact (below_size (by repeat (first | (with_reducible first | exact HB.out | apply below_alloc | apply pw_below_drewN | apply below_drew1 | refine below_set ?_ GE631.out) | exact HB.out))) : w.heap.size ≤ gb632)); have n5_ := Aside0.mk ((by rw [hg]; exact Nat.ne_of_lt (blk_lt (g := gb631) (o := .cells #[.bool a0_0, .slice A0_1 l0_1.length c0_1, .slice A0_2 l0_2.length c0_2] 51 (0, 0)) (by (with_reducible repeat (first | refine blk_drewN ?_ _ | refine blk_drew ?_ | refine blk_alloc ?_ _)); exact BK631.out)) : gb631 ≠ gb632)); have n6_ := Aside0.mk ((by rw [hg]; exact Nat.ne_of_gt (blk_lt (g := gb631) (o := .cells #[.bool a0_0, .slice A0_1 l0_1.length c0_1, .slice A0_2 l0_2.length c0_2] 51 (0, 0)) (by (with_reducible repeat (first | refine blk_drewN ?_ _ | refine blk_drew ?_ | refine blk_alloc ?_ _)); exact BK631.out)) : gb632 ≠ gb631)); clear BK631; clear HB; have BK631 := n0_; have HB := n1_; have BK632 := n2_; have GW632 := n3_; have GE632 := n4_; have NB631_632 := n5_; have NB632_631 := n6_; clear n0_ n1_ n2_ n3_ n4_ n5_ n6_; clear hb hbox hg; have hnb14 := NB631_632.out; have hnc14 := NB632_631.out; have hcz15_0 : w13.cell? ⟨gb631, 0, none⟩ = some (.bool a0_0) := (blk_cell BK631.out 0).trans rfl; have hcz15_1 : w13.cell? ⟨gb631, 1, none⟩ = some (.slice A0_1 l0_1.length c0_1) := (blk_cell BK631.out 1).trans rfl; have hcz15_2 : w13.cell? ⟨gb631, 2, none⟩ = some (.slice A0_2 l0_2.length c0_2) := (blk_cell BK631.out 2).trans rfl; have hfz15_0 := blk_frozen BK631.out 0; have hfz15_1 := blk_frozen BK631.out 1; have hfz15_2 := blk_frozen BK631.out 2; have hcz16_0 : w13.cell? ⟨gb632, 0, none⟩ = some (.bool a1_0) := (blk_cell BK632.out 0).trans rfl; have hcz16_1 : w13.cell? ⟨gb632, 1, none⟩ = some (.slice A1_1 l1_1.length c1_1) := (blk_cell BK632.out 1).trans rfl; have hcz16_2 : w13.cell? ⟨gb632, 2, none⟩ = some (.slice A1_2 l1_2.length c1_2) := (blk_cell BK632.out 2).trans rfl; have hfz16_0 := blk_frozen BK632.out 0; have hfz16_1 := blk_frozen BK632.out 1; have hfz16_2 := blk_frozen BK632.out 2) | (go_at_call 60; (with_reducible refine (hoggetref10_Bools.calls k _ _ l0_1 _ _ l1_1 false _ ?side1 ?side2 ?side3 ?side4 A4.out).mono ?_); (case side1 => repeat (first | exact (Kd.C_below HR0_1.out HB.out) | (with_reducible refine Kd.C_alloc ?_ _) | (with_reducible refine Kd.C_drewN ?_ _) | (with_reducible refine Kd.C_drew ?_))); (case side2 => exact HC0_1.out); (case side3 => repeat (first | exact (Kd.C_below HR1_1.out HB.out) | (with_reducible refine Kd.C_alloc ?_ _) | (with_reducible refine Kd.C_drewN ?_ _) | (with_reducible refine Kd.C_drew ?_))); (case side4 => exact HC1_1.out); rintro e w' ⟨rfl, ⟨nd, rfl⟩⟩))
      go_ret
      exact ⟨by first | rfl | (simp [errW_none, errW_some] <;> rfl) | (simp [*, errW_none, errW_some] <;> rfl), by repeat (first | (with_reducible first | exact HB.out | apply below_alloc | apply pw_below_drewN | apply below_drew1 | refine below_set ?_ GE631.out | refine below_set ?_ GE632.out) | exact HB.out)⟩
  · rw [if_neg c3] at H
    have c3b0 : (a0_0 == a1_0) = false := by simpa using c3
    (try (have c3b1 : decide (a0_0 = a1_0) = false := by simpa using c3))
    (try (have c3b2 : (a0_0 == a1_0) = false := by simpa using c3))
    (try (have c3b3 : ¬ (a0_0 = a1_0) := by simpa using c3))
    clear c3
    obtain rfl := Option.some.inj H
    go_enter Try.func56, Try.ntmps56
    go_wp2_with (first | ((with_reducible refine gate_dst (N := 2) rfl ?_); refine box_event ?hg (N := 2) ?hd (cs := #[.bool a0_0, .slice A0_1 l0_1.length c0_1, .slice A0_2 l0_2.length c0_2]) (t := 51) ?hr ?_; (case hd => rfl); (case hg => rfl); (case hr => first | (go_simp; done) | (go_simp; rfl)); intro gb631 hg w17 hbox hb; have n0_ := Aside0.mk (below_step (by repeat (first | (with_reducible first | exact HB.out | apply below_alloc | apply pw_below_drewN | apply below_drew1) | exact HB.out)) hb); have n1_ := Aside0.mk (hbox); have n2_ := Aside0.mk ((by rw [hg]; exact (below_size (by repeat (first | (with_reducible first | exact HB.out | apply below_alloc | apply pw_below_drewN | apply below_drew1) | exact HB.out))) : w.heap.size ≤ gb631)); have n3_ := Aside0.mk ((by rw [hg]; exact (below_size (by repeat (first | (with_reducible first | exact HB.out | apply below_alloc | apply pw_below_drewN | apply below_drew1) | exact HB.out))) : w.heap.size ≤ gb631)); clear HB; have HB := n0_; have BK631 := n1_; have GW631 := n2_; have GE631 := n3_; clear n0_ n1_ n2_ n3_; clear hb hbox hg) | ((with_reducible refine gate_dst (N := 3) rfl ?_); refine box_event ?hg (N := 3) ?hd (cs := #[.bool a1_0, .slice A1_1 l1_1.length c1_1, .slice A1_2 l1_2.length c1_2]) (t := 51) ?hr ?_; (case hd => rfl); (case hg => rfl); (case hr => first | (go_simp; done) | (go_simp; rfl)); intro gb632 hg w18 hbox hb; have n0_ := Aside0.mk (blk_below (g := gb631) (o := .cells #[.bool a0_0, .slice A0_1 l0_1.length c0_1, .slice A0_2 l0_2.length c0_2] 51 (0, 0)) (by (with_reducible repeat (first | refine blk_drewN ?_ _ | refine blk_drew ?_ | refine blk_alloc ?_ _)); exact BK631.out) hb); have n1_ := Aside0.mk (below_step (by repeat (first | (with_reducible first | exact HB.out | apply below_alloc | apply pw_below_drewN | apply below_drew1 | refine below_set ?_ GE631.out) | exact HB.out)) hb); have n2_ := Aside0.mk (hbox); have n3_ := Aside0.mk ((by rw [hg]; exact (below_size (by repeat (first | (with_reducible first | exact HB.out | apply below_alloc | apply pw_below_drewN | apply below_drew1 | refine below_set ?_ GE631.out) | exact HB.out))) : w.heap.size ≤ gb632)); have n4_ := Aside0.mk ((by rw [hg]; exact (below_size (by repeat (first | (with_reducible first | exact HB.out | apply below_alloc | apply pw_below_drewN | apply below_drew1 | refine below_set ?_ GE631.out) | exact HB.out))) : w.heap.size ≤ gb632)); have n5_ := Aside0.mk ((by rw [hg]; exact Nat.ne_of_lt (blk_lt (g := gb631) (o := .cells #[.bool a0_0, .slice A0_1 l0_1.length c0_1, .slice A0_2 l0_2.length c0_2] 51 (0, 0)) (by (with_reducible repeat (first | refine blk_drewN ?_ _ | refine blk_drew ?_ | refine blk_alloc ?_ _)); exact BK631.out)) : gb631 ≠ gb632)); have n6_ := Aside0.mk ((by rw [hg]; exact Nat.ne_of_gt (blk_lt (g := gb631) (o := .cells #[.bool a0_0, .slice A0_1 l0_1.length c0_1, .slice A0_2 l0_2.length c0_2] 51 (0, 0)) (by (with_reducible repeat (first | refine blk_drewN ?_ _ | refine blk_drew ?_ | refine blk_alloc ?_ _)); exact BK631.out)) : gb632 ≠ gb631)); clear BK631; clear HB; have BK631 := n0_; have HB := n1_; have BK632 := n2_; have GW632 := n3_; have GE632 := n4_; have NB631_632 := n5_; have NB632_631 := n6_; clear n0_ n1_ n2_ n3_ n4_ n5_ n6_; clear hb hbox hg; have hnb19 := NB631_632.out; have hnc19 := NB632_631.out; have hcz20_0 : w18.cell? ⟨gb631, 0, none⟩ = some (.bool a0_0) := (blk_cell BK631.out 0).trans rfl; have hcz20_1 : w18.cell? ⟨gb631, 1, none⟩ = some (.slice A0_1 l0_1.length c0_1) := (blk_cell BK631.out 1).trans rfl; have hcz20_2 : w18.cell? ⟨gb631, 2, none⟩ = some (.slice A0_2 l0_2.length c0_2) := (blk_cell BK631.out 2).trans rfl; have hfz20_0 := blk_frozen BK631.out 0; have hfz20_1 := blk_frozen BK631.out 1; have hfz20_2 := blk_frozen BK631.out 2; have hcz21_0 : w18.cell? ⟨gb632, 0, none⟩ = some (.bool a1_0) := (blk_cell BK632.out 0).trans rfl; have hcz21_1 : w18.cell? ⟨gb632, 1, none⟩ = some (.slice A1_1 l1_1.length c1_1) := (blk_cell BK632.out 1).trans rfl; have hcz21_2 : w18.cell? ⟨gb632, 2, none⟩ = some (.slice A1_2 l1_2.length c1_2) := (blk_cell BK632.out 2).trans rfl; have hfz21_0 := blk_frozen BK632.out 0; have hfz21_1 := blk_frozen BK632.out 1; have hfz21_2 := blk_frozen BK632.out 2))
    go_ret
    exact ⟨by first | rfl | (simp [errW_none, errW_some] <;> rfl) | (simp [*, errW_none, errW_some] <;> rfl), by repeat (first | (with_reducible first | exact HB.out | apply below_alloc | apply pw_below_drewN | apply below_drew1 | refine below_set ?_ GE631.out | refine below_set ?_ GE632.out) | exact HB.out)⟩

end Go.Proofs.Ythnbmlpjbhhamaa.J
