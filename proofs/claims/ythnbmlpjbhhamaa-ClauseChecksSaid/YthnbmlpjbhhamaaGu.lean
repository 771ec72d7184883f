/- The walks of hoggetlaw10_ClauseChecks, by the print over this seat. -/
import Derived.Test.YthnbmlpjbhhamaaJ0
import Derived.Test.YthnbmlpjbhhamaaGK
import Derived.Test.YthnbmlpjbhhamaaGa
import Derived.Test.YthnbmlpjbhhamaaGb
import Derived.Test.YthnbmlpjbhhamaaGc
import Derived.Test.YthnbmlpjbhhamaaGt
import Derived.Test.YthnbmlpjbhhamaaHb
namespace Go.Proofs.Ythnbmlpjbhhamaa.J
open Go.RowKit Go.Proofs.YthnbmlpjbhhamaaW.PrintWords Go.Proofs.YthnbmlpjbhhamaaW.PrintLast Go.Proofs.YthnbmlpjbhhamaaW.PrintMore
attribute [local go_sem] max2_int min2_int max_two min_two max_three min_three max_four min_four   -- for this text's walks alone
set_option linter.unusedVariables false
set_option linter.unusedSimpArgs false

/-! ### hoggetlaw10_ClauseChecks: function 20 -/
noncomputable def hoggetlaw10_ClauseChecks.j0 : Nat → List Bool → Bool → Int → List (List Int) → Option (Bool)
  | 0, _, _, _, _ => none
  | k + 1, x1, x12, x874000, x874001 => if x12 = true then (some true) else ((hoggetref10_OwnAll.f k x874001).bind fun t875 => ((hoggetlaw10_clauses.f k).bind fun t879 => (if t879 = true then ((clause_Check.f x874000 x874001).bind fun t880 => ((hoggetref10_Check.f k x874000 t875).bind fun t881 => (if t880 = t881 then ((clause_Sat.f x874000 x874001 x1).bind fun t882 => ((hoggetref10_Sat.f k x874000 t875 x1).bind fun t883 => (if (t882 == t883) = true then ((hoggetref10_Clauses.f k x874001 t875).bind fun t884 => (some t884)) else (none)))) else (none)))) else (none))))
noncomputable def hoggetlaw10_ClauseChecks.f (k : Nat) (a0_0 : Int) (l0_1 : List (List Int)) (l1 : List Bool) : Option (Bool) := (hoggetlaw10_large.f k a0_0 l0_1).bind fun t874 => (if t874 = true then (hoggetlaw10_ClauseChecks.j0 k l1 true a0_0 l0_1) else (hoggetlaw10_ClauseChecks.j0 k l1 (decide ((l1.length : Int) > 200)) a0_0 l0_1))
theorem hoggetlaw10_ClauseChecks.mono_l : ∀ k, (∀ y0 y1 y2 y3, LeO (hoggetlaw10_ClauseChecks.j0 k y0 y1 y2 y3) (hoggetlaw10_ClauseChecks.j0 (k + 1) y0 y1 y2 y3))
  | 0 => fun _ _ _ _ r h => by simp [hoggetlaw10_ClauseChecks.j0] at h
  | k + 1 => by
    have ih0 := hoggetlaw10_ClauseChecks.mono_l k
    · intro y0 y1 y2 y3
      unfold hoggetlaw10_ClauseChecks.j0
      repeat' first
      | (with_reducible exact ih0 _ _ _ _)
      | (with_reducible exact hoggetlaw10_clauses.mono _)
      | (with_reducible exact hoggetlaw10_large.mono _ _ _)
      | (with_reducible exact hoggetref10_Check.mono _ _ _)
      | (with_reducible exact hoggetref10_Clauses.mono _ _ _)
      | (with_reducible exact hoggetref10_OwnAll.mono _ _)
      | (with_reducible exact hoggetref10_Sat.mono _ _ _ _)
      | (with_reducible exact LeO.refl _)
      | (with_reducible exact LeO.none _)
      | (with_reducible refine LeO.ite ?_ ?_)
      | (with_reducible refine LeO.bind ?_ (fun _ => ?_))
      | exact ih0 _ _ _ _
      | exact hoggetlaw10_clauses.mono _
      | exact hoggetlaw10_large.mono _ _ _
      | exact hoggetref10_Check.mono _ _ _
      | exact hoggetref10_Clauses.mono _ _ _
      | exact hoggetref10_OwnAll.mono _ _
      | exact hoggetref10_Sat.mono _ _ _ _
      | exact LeO.none _
      | refine LeO.ite ?_ ?_
      | refine LeO.bind ?_ (fun _ => ?_)
theorem hoggetlaw10_ClauseChecks.mono : ∀ a0 a1 a2 k, LeO (hoggetlaw10_ClauseChecks.f k a0 a1 a2) (hoggetlaw10_ClauseChecks.f (k + 1) a0 a1 a2) := by
  intro a0 a1 a2 k
  have ih0 := hoggetlaw10_ClauseChecks.mono_l k
  unfold hoggetlaw10_ClauseChecks.f
  repeat' first
      | (with_reducible exact ih0 _ _ _ _)
      | (with_reducible exact hoggetlaw10_clauses.mono _)
      | (with_reducible exact hoggetlaw10_large.mono _ _ _)
      | (with_reducible exact hoggetref10_Check.mono _ _ _)
      | (with_reducible exact hoggetref10_Clauses.mono _ _ _)
      | (with_reducible exact hoggetref10_OwnAll.mono _ _)
      | (with_reducible exact hoggetref10_Sat.mono _ _ _ _)
      | (with_reducible exact LeO.refl _)
      | (with_reducible exact LeO.none _)
      | (with_reducible refine LeO.ite ?_ ?_)
      | (with_reducible refine LeO.bind ?_ (fun _ => ?_))
      | exact ih0 _ _ _ _
      | exact hoggetlaw10_clauses.mono _
      | exact hoggetlaw10_large.mono _ _ _
      | exact hoggetref10_Check.mono _ _ _
      | exact hoggetref10_Clauses.mono _ _ _
      | exact hoggetref10_OwnAll.mono _ _
      | exact hoggetref10_Sat.mono _ _ _ _
      | exact LeO.none _
      | refine LeO.ite ?_ ?_
      | refine LeO.bind ?_ (fun _ => ?_)
noncomputable def hoggetlaw10_ClauseChecks.T3 : Bool × List (List Nat × List Nat) := (true, [([], []), ([0], [0]), ([], []), ([2], [2]), ([3], [3]), ([1, 4], [1, 4]), ([], []), ([6, 5, 4, 0, 1, 2, 3, 4, 5, 6], [5, 6])])
noncomputable def hoggetlaw10_ClauseChecks.B3 : List Nat := [0, 1, 0, 4, 12, 31, 0, 127]
theorem hoggetlaw10_ClauseChecks.tab3 : rtab .any (opsOf Try.f20 3) = hoggetlaw10_ClauseChecks.T3 := by kernel_rfl
theorem hoggetlaw10_ClauseChecks.bits3 : waitsOk hoggetlaw10_ClauseChecks.T3.2 hoggetlaw10_ClauseChecks.B3 = true := by kernel_rfl
noncomputable def hoggetlaw10_ClauseChecks.T4 : Bool × List (List Nat × List Nat) := (true, [([], []), ([0, 0], [0]), ([1], [1]), ([2, 1, 1], [1, 2]), ([1], [1]), ([4, 3, 1], [1, 4]), ([3, 5, 1], [1, 3, 5]), ([1, 6], [1, 6]), ([7, 5], [7]), ([8], [8]), ([8], [8]), ([9, 10, 8, 8], [8, 9, 10]), ([8], [8]), ([8], [8]), ([12, 13, 11, 8], [8, 12, 13]), ([11, 14, 8], [8, 11, 14]), ([8, 15], [8, 15]), ([16, 14], [16]), ([17], [17]), ([18, 17], [17, 18]), ([17], [17]), ([20, 17], [17, 20]), ([19, 21, 17, 17], [17, 19, 21]), ([17, 22], [17, 22]), ([23, 22, 0, 1, 2, 3, 4, 5, 6, 7, 8, 9, 10, 11, 12, 13, 14, 15, 16, 17, 18, 19, 20, 21, 22, 23], [23])])
noncomputable def hoggetlaw10_ClauseChecks.B4 : List Nat := [0, 1, 3, 7, 3, 31, 63, 127, 255, 511, 511, 2047, 511, 511, 16383, 32767, 65535, 131071, 262143, 524287, 262143, 1310719, 4194303, 8388607, 16777215]
theorem hoggetlaw10_ClauseChecks.tab4 : rtab .any (opsOf Try.f20 4) = hoggetlaw10_ClauseChecks.T4 := by kernel_rfl
theorem hoggetlaw10_ClauseChecks.bits4 : waitsOk hoggetlaw10_ClauseChecks.T4.2 hoggetlaw10_ClauseChecks.B4 = true := by kernel_rfl
set_option maxHeartbeats 8000000 in
set_option maxRecDepth 100000 in
theorem hoggetlaw10_ClauseChecks.calls (k : Nat) (a0_0 : Int) (A0_1 : Option Addr) (c0_1 : Nat) (l0_1 : List (List Int)) (A1 : Option Addr) (c1 : Nat) (l1 : List Bool) (r : Bool) (w : World) (hr0_1 : Kd.C (Kd.slice 3 (Kd.int .i64)) w A0_1 l0_1.length l0_1) (hc0_1 : l0_1.length ≤ c0_1) (hr1 : Kd.C Kd.bool w A1 l1.length l1) (hc1 : l1.length ≤ c1) (h : hoggetlaw10_ClauseChecks.f k a0_0 l0_1 l1 = some r) :
    Calls Try.prog 20 #[.agg #[.int .i64 a0_0, .slice A0_1 l0_1.length c0_1], .slice A1 l1.length c1] w fun e w' => e = .returned (.bool r) ∧ Below w.heap.size w w' := by
  have hu24 := Try.underlying24
  have HR0_1 := Aside0.mk hr0_1
  have HC0_1 := Aside0.mk hc0_1
  clear hr0_1 hc0_1
  have HR1 := Aside0.mk hr1
  have HC1 := Aside0.mk hc1
  clear hr1 hc1
  have HB := Aside0.mk (Below.refl w.heap.size w)
  have H : ((hoggetlaw10_large.f k a0_0 l0_1).bind fun t874 => (if t874 = true then (hoggetlaw10_ClauseChecks.j0 k l1 true a0_0 l0_1) else (hoggetlaw10_ClauseChecks.j0 k l1 (decide ((l1.length : Int) > 200)) a0_0 l0_1))) = some r := h
  clear h
  have HC3 := Aside0.mk H
  clear H
  go_enter Try.func20, Try.ntmps20
  go_upto_region 1 with (first | ((with_reducible refine gate_dst (N := 2) rfl ?_); (try (refine gate_guard (by rfl) ?_; dsimp only)); refine box_event ?hg (N := 2) ?hd (cs := #[.int .i64 a0_0, .slice A0_1 l0_1.length c0_1]) (t := 24) ?hr ?_; (case hd => rfl); (case hg => rfl); (case hr => first | (go_simp; done) | (go_simp; rfl)); intro gb873 hg w4 hbox hb; have n0_ := Aside0.mk (below_step (by repeat (first | (with_reducible first | exact HB.out | apply below_alloc | apply pw_below_drewN | apply below_drew1) | exact HB.out)) hb); have n1_ := Aside0.mk (hbox); have n2_ := Aside0.mk ((by rw [hg]; exact (below_size (by repeat (first | (with_reducible first | exact HB.out | apply below_alloc | apply pw_below_drewN | apply below_drew1) | exact HB.out))) : w.heap.size ≤ gb873)); have n3_ := Aside0.mk ((by rw [hg]; exact (below_size (by repeat (first | (with_reducible first | exact HB.out | apply below_alloc | apply pw_below_drewN | apply below_drew1) | exact HB.out))) : w.heap.size ≤ gb873)); clear HB; have HB := n0_; have BK873 := n1_; have GW873 := n2_; have GE873 := n3_; clear n0_ n1_ n2_ n3_; clear hb hbox hg))
  (try simp only [Act.put, List.setIfInBounds_toArray, List.set_cons_zero, List.set_cons_succ])
  go_cut [12] (fun v12 wc => ∃ (kq : Nat) (x12_2 : Bool), v12 = .bool x12_2 ∧ Aside0 (hoggetlaw10_ClauseChecks.j0 kq l1 x12_2 a0_0 l0_1 = some r) ∧ Aside0 (kq ≤ k) ∧ Aside0 (wc.heap[gb873]? = some (.cells #[.int .i64 a0_0, (.slice A0_1 l0_1.length c0_1)] 24 (0, 0))) ∧ Aside0 (Below w.heap.size w wc))
  case first =>
    have H := HC3.out
    clear HC3
    replace H := Option.bind_eq_some_iff.mp H
    obtain ⟨t874, A50, H⟩ := H
    replace H : (if t874 = true then (hoggetlaw10_ClauseChecks.j0 k l1 true a0_0 l0_1) else (hoggetlaw10_ClauseChecks.j0 k l1 (decide ((l1.length : Int) > 200)) a0_0 l0_1)) = some r := H
    have A5 := Aside0.mk A50
    clear A50
    by_cases c6 : t874 = true
    · subst c6
      have H1 : (hoggetlaw10_ClauseChecks.j0 k l1 true a0_0 l0_1) = some r := by rw [if_pos rfl] at H; exact H
      clear H
      have H := H1
      clear H1
      have H' := Aside0.mk H
      clear H
      have hcz7_0 : w4.cell? ⟨gb873, 0, none⟩ = some (.int .i64 a0_0) := (blk_cell BK873.out 0).trans rfl
      have hcz7_1 : w4.cell? ⟨gb873, 1, none⟩ = some (.slice A0_1 l0_1.length c0_1) := (blk_cell BK873.out 1).trans rfl
      have hfz7_0 := blk_frozen BK873.out 0
      have hfz7_1 := blk_frozen BK873.out 1
      go_wp2_with (first | ((with_reducible refine gate_callee (f := 61) rfl ?_); refine goesL_ (some 7) rfl rfl Try.func61 (by kernel_rfl) rfl #[.agg #[.int .i64 a0_0, .slice A0_1 l0_1.length c0_1]] rfl (by (try simp only [List.map_toArray, List.map_cons, List.map_nil]); first | done | rfl | (simp only [List.length_drop, List.length_take]; rfl)) ?_; (with_reducible refine (hoggetlaw10_large.calls k a0_0 _ _ l0_1 true _ ?side1 ?side2 A5.out).mono ?_); (case side1 => repeat (first | exact (Kd.C_below HR0_1.out HB.out) | (with_reducible refine Kd.C_alloc ?_ _) | (with_reducible refine Kd.C_drewN ?_ _) | (with_reducible refine Kd.C_drew ?_))); (case side2 => exact HC0_1.out); rintro e w8 ⟨rfl, hb⟩; refine ⟨_, rfl, ?_⟩; have n0_ := Aside0.mk (blk_below (g := gb873) (o := .cells #[.int .i64 a0_0, .slice A0_1 l0_1.length c0_1] 24 (0, 0)) (by (with_reducible repeat (first | refine blk_drewN ?_ _ | refine blk_drew ?_ | refine blk_alloc ?_ _)); exact BK873.out) hb); have n1_ := Aside0.mk (below_step (by repeat (first | (with_reducible first | exact HB.out | apply below_alloc | apply pw_below_drewN | apply below_drew1 | refine below_set ?_ GE873.out) | exact HB.out)) hb); clear BK873; clear HB; have BK873 := n0_; have HB := n1_; clear n0_ n1_; (try clear hb); (try clear hb2); (try clear hk); (try clear hi)))
      go_meet
      case rel => exact ⟨_, (true), (by first | rfl | (simp; done) | (simp [*]; done)), H', ⟨by first | omega | exact Nat.le_refl _⟩, ⟨by (with_reducible repeat (first | refine blk_drewN ?_ _ | refine blk_drew ?_ | refine blk_alloc ?_ _)); exact BK873.out⟩, ⟨by repeat (first | (with_reducible first | exact HB.out | apply below_alloc | apply pw_below_drewN | apply below_drew1 | refine below_set ?_ GE873.out) | exact HB.out)⟩⟩
    · replace c6 := Bool.eq_false_iff.mpr c6
      subst c6
      have H1 : (hoggetlaw10_ClauseChecks.j0 k l1 (decide ((l1.length : Int) > 200)) a0_0 l0_1) = some r := by rw [if_neg (show ¬ (false = true) by decide)] at H; exact H
      clear H
      have H := H1
      clear H1
      have H' := Aside0.mk H
      clear H
      have hcz9_0 : w4.cell? ⟨gb873, 0, none⟩ = some (.int .i64 a0_0) := (blk_cell BK873.out 0).trans rfl
      have hcz9_1 : w4.cell? ⟨gb873, 1, none⟩ = some (.slice A0_1 l0_1.length c0_1) := (blk_cell BK873.out 1).trans rfl
      have hfz9_0 := blk_frozen BK873.out 0
      have hfz9_1 := blk_frozen BK873.out 1
      go_wp2_with (first | ((with_reducible refine gate_callee (f := 61) rfl ?_); refine goesL_ (some 7) rfl rfl Try.func61 (by kernel_rfl) rfl #[.agg #[.int .i64 a0_0, .slice A0_1 l0_1.length c0_1]] rfl (by (try simp only [List.map_toArray, List.map_cons, List.map_nil]); first | done | rfl | (simp only [List.length_drop, List.length_take]; rfl)) ?_; (with_reducible refine (hoggetlaw10_large.calls k a0_0 _ _ l0_1 false _ ?side1 ?side2 A5.out).mono ?_); (case side1 => repeat (first | exact (Kd.C_below HR0_1.out HB.out) | (with_reducible refine Kd.C_alloc ?_ _) | (with_reducible refine Kd.C_drewN ?_ _) | (with_reducible refine Kd.C_drew ?_))); (case side2 => exact HC0_1.out); rintro e w10 ⟨rfl, hb⟩; refine ⟨_, rfl, ?_⟩; have n0_ := Aside0.mk (blk_below (g := gb873) (o := .cells #[.int .i64 a0_0, .slice A0_1 l0_1.length c0_1] 24 (0, 0)) (by (with_reducible repeat (first | refine blk_drewN ?_ _ | refine blk_drew ?_ | refine blk_alloc ?_ _)); exact BK873.out) hb); have n1_ := Aside0.mk (below_step (by repeat (first | (with_reducible first | exact HB.out | apply below_alloc | apply pw_below_drewN | apply below_drew1 | refine below_set ?_ GE873.out) | exact HB.out)) hb); clear BK873; clear HB; have BK873 := n0_; have HB := n1_; clear n0_ n1_; (try clear hb); (try clear hb2); (try clear hk); (try clear hi)))
      go_meet
      case rel => exact ⟨_, (decide ((l1.length : Int) > 200)), (by first | rfl | (simp; done) | (simp [*]; done)), H', ⟨by first | omega | exact Nat.le_refl _⟩, ⟨by (with_reducible repeat (first | refine blk_drewN ?_ _ | refine blk_drew ?_ | refine blk_alloc ?_ _)); exact BK873.out⟩, ⟨by repeat (first | (with_reducible first | exact HB.out | apply below_alloc | apply pw_below_drewN | apply below_drew1 | refine below_set ?_ GE873.out) | exact HB.out)⟩⟩
  case rest =>
    clear HC3
    try clear c1
    try clear c2
    try clear p2
    try clear c6
    try clear hcz7_0
    try clear hcz7_1
    try clear hcz9_0
    try clear hcz9_1
    try clear hfz7_0
    try clear hfz7_1
    try clear hfz9_0
    try clear hfz9_1
    obtain ⟨kq, x12_2, rfl, HA, HJ2, BK873, HB⟩ := hcut
    cases kq with
    | zero => exact absurd HA.out (by simp [hoggetlaw10_ClauseChecks.j0])
    | succ kj2 =>
      have H := HA.out
      clear HA
      simp only [hoggetlaw10_ClauseChecks.j0] at H
      by_cases c11 : x12_2 = true
      · subst c11
        have H1 : (some true) = some r := by rw [if_pos rfl] at H; exact H
        clear H
        have H := H1
        clear H1
        obtain rfl := Option.some.inj H
        go_wp2
        go_ret
        exact ⟨by first | rfl | (simp [errW_none, errW_some] <;> rfl) | (simp [*, errW_none, errW_some] <;> rfl), by repeat (first | (with_reducible first | exact HB.out | apply below_alloc | apply pw_below_drewN | apply below_drew1 | refine below_set ?_ GE873.out) | exact HB.out)⟩
      · replace c11 := Bool.eq_false_iff.mpr c11
        subst c11
        have H1 : ((hoggetref10_OwnAll.f kj2 l0_1).bind fun t875 => ((hoggetlaw10_clauses.f kj2).bind fun t879 => (if t879 = true then ((clause_Check.f a0_0 l0_1).bind fun t880 => ((hoggetref10_Check.f kj2 a0_0 t875).bind fun t881 => (if t880 = t881 then ((clause_Sat.f a0_0 l0_1 l1).bind fun t882 => ((hoggetref10_Sat.f kj2 a0_0 t875 l1).bind fun t883 => (if (t882 == t883) = true then ((hoggetref10_Clauses.f kj2 l0_1 t875).bind fun t884 => (some t884)) else (none)))) else (none)))) else (none)))) = some r := by rw [if_neg (show ¬ (false = true) by decide)] at H; exact H
        clear H
        have H := H1
        clear H1
        replace H := Option.bind_eq_some_iff.mp H
        obtain ⟨t875, A120, H⟩ := H
        replace H : ((hoggetlaw10_clauses.f kj2).bind fun t879 => (if t879 = true then ((clause_Check.f a0_0 l0_1).bind fun t880 => ((hoggetref10_Check.f kj2 a0_0 t875).bind fun t881 => (if t880 = t881 then ((clause_Sat.f a0_0 l0_1 l1).bind fun t882 => ((hoggetref10_Sat.f kj2 a0_0 t875 l1).bind fun t883 => (if (t882 == t883) = true then ((hoggetref10_Clauses.f kj2 l0_1 t875).bind fun t884 => (some t884)) else (none)))) else (none)))) else (none))) = some r := H
        have A12 := Aside0.mk A120
        clear A120
        replace H := Option.bind_eq_some_iff.mp H
        obtain ⟨t879, A130, H⟩ := H
        replace H : (if t879 = true then ((clause_Check.f a0_0 l0_1).bind fun t880 => ((hoggetref10_Check.f kj2 a0_0 t875).bind fun t881 => (if t880 = t881 then ((clause_Sat.f a0_0 l0_1 l1).bind fun t882 => ((hoggetref10_Sat.f kj2 a0_0 t875 l1).bind fun t883 => (if (t882 == t883) = true then ((hoggetref10_Clauses.f kj2 l0_1 t875).bind fun t884 => (some t884)) else (none)))) else (none)))) else (none)) = some r := H
        have A13 := Aside0.mk A130
        clear A130
        by_cases c14 : t879 = true
        · subst c14
          have H1 : ((clause_Check.f a0_0 l0_1).bind fun t880 => ((hoggetref10_Check.f kj2 a0_0 t875).bind fun t881 => (if t880 = t881 then ((clause_Sat.f a0_0 l0_1 l1).bind fun t882 => ((hoggetref10_Sat.f kj2 a0_0 t875 l1).bind fun t883 => (if (t882 == t883) = true then ((hoggetref10_Clauses.f kj2 l0_1 t875).bind fun t884 => (some t884)) else (none)))) else (none)))) = some r := by rw [if_pos rfl] at H; exact H
          clear H
          have H := H1
          clear H1
          replace H := Option.bind_eq_some_iff.mp H
          obtain ⟨t880, A150, H⟩ := H
          replace H : ((hoggetref10_Check.f kj2 a0_0 t875).bind fun t881 => (if t880 = t881 then ((clause_Sat.f a0_0 l0_1 l1).bind fun t882 => ((hoggetref10_Sat.f kj2 a0_0 t875 l1).bind fun t883 => (if (t882 == t883) = true then ((hoggetref10_Clauses.f kj2 l0_1 t875).bind fun t884 => (some t884)) else (none)))) else (none))) = some r := H
          have A15 := Aside0.mk A150
          clear A150
          replace H := Option.bind_eq_some_iff.mp H
          obtain ⟨t881, A160, H⟩ := H
          replace H : (if t880 = t881 then ((clause_Sat.f a0_0 l0_1 l1).bind fun t882 => ((hoggetref10_Sat.f kj2 a0_0 t875 l1).bind fun t883 => (if (t882 == t883) = true then ((hoggetref10_Clauses.f kj2 l0_1 t875).bind fun t884 => (some t884)) else (none)))) else (none)) = some r := H
          have A16 := Aside0.mk A160
          clear A160
          by_cases c17 : t880 = t881
          · rw [if_pos c17] at H
            have c17b0 : (t880 == t881) = true := beq_iff_eq.mpr c17
            have c17b1 : (t880 != t881) = false := bne_eq_false_iff_eq.mpr c17
            clear c17
            replace H := Option.bind_eq_some_iff.mp H
            obtain ⟨t882, A180, H⟩ := H
            replace H : ((hoggetref10_Sat.f kj2 a0_0 t875 l1).bind fun t883 => (if (t882 == t883) = true then ((hoggetref10_Clauses.f kj2 l0_1 t875).bind fun t884 => (some t884)) else (none))) = some r := H
            have A18 := Aside0.mk A180
            clear A180
            replace H := Option.bind_eq_some_iff.mp H
            obtain ⟨t883, A190, H⟩ := H
            replace H : (if (t882 == t883) = true then ((hoggetref10_Clauses.f kj2 l0_1 t875).bind fun t884 => (some t884)) else (none)) = some r := H
            have A19 := Aside0.mk A190
            clear A190
            by_cases c20 : (t882 == t883) = true
            · rw [if_pos c20] at H
              have c20b0 : (t882 == t883) = true := c20
              (try (have c20b1 : decide (t882 = t883) = true := by simpa using c20))
              (try (have c20b2 : (t882 == t883) = true := by simpa using c20))
              clear c20
              replace H := Option.bind_eq_some_iff.mp H
              obtain ⟨t884, A210, H⟩ := H
              replace H : (some t884) = some r := H
              have A21 := Aside0.mk A210
              clear A210
              obtain rfl := Option.some.inj H
              try go_wp2
              have n0_ := Aside0.mk (blk_drew BK873.out)
              have n1_ := Aside0.mk (below_drew1 HB.out)
              clear BK873
              clear HB
              have BK873 := n0_
              have HB := n1_
              clear n0_ n1_
              refine start_ (n := 8) (S := fun w' => w'.cell? ⟨gb873, 0, none⟩ = some (.int .i64 a0_0) ∧ w'.cell? ⟨gb873, 1, none⟩ = some (.slice A0_1 l0_1.length c0_1)) (ds := []) #[false, false, false, false, false, false, false, false] (by kernel_rfl) rfl rfl ⟨(blk_cell BK873.out 0).trans rfl, (blk_cell BK873.out 1).trans rfl⟩ (fun hHeld => ?_); refine with_tabW hoggetlaw10_ClauseChecks.tab3 hoggetlaw10_ClauseChecks.bits3 (fun HT_ HW_ => ?_)
              generalize wc.drew = w22 at BK873 HB hHeld ⊢
              refine pure_ (i := 0) (N := some 13) (v := ?_) (a' := ?_) #[true, false, false, false, false, false, false, false] rfl rfl (any_of HT_.out (by kernel_rfl)) (fun _ _ _ h => h) (Or.inl ⟨by rfl, ?_⟩) ?_ ?_
              rotate_left
              · intro w'
                go_simp
                with_reducible rfl
              rotate_left
              · simp only [Act.put, List.setIfInBounds_toArray, List.set_cons_zero, List.set_cons_succ, i64_w, i32_w]
                rfl
              refine pure_ (i := 2) (N := some 15) (v := ?_) (a' := ?_) #[true, false, true, false, false, false, false, false] rfl rfl (any_of HT_.out (by kernel_rfl)) (fun _ _ _ h => h) (Or.inl ⟨by rfl, ?_⟩) ?_ ?_
              rotate_left
              · intro w'
                go_simp
                with_reducible rfl
              rotate_left
              · simp only [Act.put, List.setIfInBounds_toArray, List.set_cons_zero, List.set_cons_succ, i64_w, i32_w]
                rfl
              refine take_ (i := 1) (N := some 14) (v := ?_) (a' := ?_) #[true, true, true, false, false, false, false, false] rfl rfl (take_ofW HT_.out HW_.out (by kernel_rfl)) (fun _ _ _ h => h) (Or.inl ⟨by rfl, ?_⟩) hHeld ?_ ?_
              rotate_left
              · rintro w' ⟨s0, s1⟩
                go_simp
                with_reducible rfl
              rotate_left
              · simp only [Act.put, List.setIfInBounds_toArray, List.set_cons_zero, List.set_cons_succ, i64_w, i32_w]
                rfl
              refine take_ (i := 3) (N := some 16) (v := ?_) (a' := ?_) #[true, true, true, true, false, false, false, false] rfl rfl (take_ofW HT_.out HW_.out (by kernel_rfl)) (fun _ _ _ h => h) (Or.inl ⟨by rfl, ?_⟩) hHeld ?_ ?_
              rotate_left
              · rintro w' ⟨s0, s1⟩
                go_simp
                with_reducible rfl
              rotate_left
              · simp only [Act.put, List.setIfInBounds_toArray, List.set_cons_zero, List.set_cons_succ, i64_w, i32_w]
                rfl
              refine join_ (σ := Value × Nat) 1 #[true, true, true, true, true, true, true, false] (fun s_ => [(17, s_.1), (5, .pointer (some ⟨s_.2, 0, none⟩)), (18, .agg #[.int .i64 a0_0, s_.1])]) (fun s_ w' => (w'.cell? ⟨gb873, 0, none⟩ = some (.int .i64 a0_0) ∧ w'.cell? ⟨gb873, 1, none⟩ = some (.slice A0_1 l0_1.length c0_1)) ∧ (Kd.S (Kd.slice 3 (Kd.int .i64)) 25 w' w.heap.size (fun _ => True) s_.1 t875) ∧ (w'.heap[gb873]? = some (.cells #[.int .i64 a0_0, .slice A0_1 l0_1.length c0_1] 24 (0, 0))) ∧ (w'.heap[s_.2]? = some (.cells #[.int .i64 0, .slice none 0 0] 24 (0, 0))) ∧ (w.heap.size ≤ s_.2) ∧ (w.heap.size ≤ s_.2) ∧ (gb873 ≠ s_.2) ∧ (s_.2 ≠ gb873) ∧ (Below w.heap.size w w')) ?_ ?_
              rotate_left
              · intro hCont
                refine two_ (i := 4) (j := 6) (Ni := some 17) (Nj := some 5) #[true, true, true, true, true, false, false, false] #[true, true, true, true, false, false, true, false] rfl rfl rfl rfl (two_of HT_.out (by kernel_rfl)) (by decide) (by decide) (fun K hK => ?_) (fun K hK => ?_)
                · skip
                  refine goes_ Try.func33 (by kernel_rfl) rfl #[.slice A0_1 l0_1.length c0_1] (by rfl) rfl rfl (by (try simp only [List.map_toArray, List.map_cons, List.map_nil]); first | done | rfl | (simp only [List.length_drop, List.length_take]; rfl)) ?_
                  with_reducible refine (hoggetref10_OwnAll.calls kj2 _ _ l0_1 t875 _ ?side1 ?side2 A12.out).mono ?_
                  (case side1 => repeat (first | exact (Kd.C_below HR0_1.out HB.out) | (with_reducible refine Kd.C_alloc ?_ _) | (with_reducible refine Kd.C_drewN ?_ _) | (with_reducible refine Kd.C_drew ?_)))
                  (case side2 => exact HC0_1.out)
                  rintro e w23 ⟨v876, rfl, ho0, hb⟩
                  refine ⟨_, rfl, ?_⟩
                  have n0_ := Aside0.mk (Kd.S_lower ho0 (below_size (by repeat (first | (with_reducible first | exact HB.out | apply below_alloc | apply pw_below_drewN | apply below_drew1 | refine below_set ?_ GE873.out) | exact HB.out))))
                  have n1_ := Aside0.mk (blk_below (g := gb873) (o := .cells #[.int .i64 a0_0, .slice A0_1 l0_1.length c0_1] 24 (0, 0)) (by (with_reducible repeat (first | refine blk_drewN ?_ _ | refine blk_drew ?_ | refine blk_alloc ?_ _)); exact BK873.out) hb)
                  have n2_ := Aside0.mk (below_step (by repeat (first | (with_reducible first | exact HB.out | apply below_alloc | apply pw_below_drewN | apply below_drew1 | refine below_set ?_ GE873.out) | exact HB.out)) hb)
                  clear BK873
                  clear HB
                  have HO877 := n0_
                  have BK873 := n1_
                  have HB := n2_
                  clear n0_ n1_ n2_
                  (try clear hb)
                  (try clear hb2)
                  (try clear hk)
                  (try clear hi)
                  (try clear ho0)
                  obtain ⟨Ao24, co24, eo24⟩ := Kd.S_slice HO877.out
                  (first | subst eo24 | (injection eo24 with f1_ f2_ f3_; have f4_ := f1_.symm; have f5_ := f3_.symm; clear f1_ f2_ f3_; subst f4_; subst f5_))
                  refine hK.out _ _ ⟨(blk_cell BK873.out 0).trans rfl, (blk_cell BK873.out 1).trans rfl⟩ (fun hHeld => ?_)
                  clear hK K
                  refine norm_ (a' := ?_) ?_ ?_
                  rotate_left
                  · show Act.put _ (some 17) _ = _
                    simp only [Act.put, List.setIfInBounds_toArray, List.set_cons_zero, List.set_cons_succ, i64_w, i32_w]
                    rfl
                  refine pure_ (i := 5) (N := some 18) (v := ?_) (a' := ?_) #[true, true, true, true, true, true, false, false] rfl rfl (any_of HT_.out (by kernel_rfl)) (fun _ _ _ h => h) (Or.inl ⟨by rfl, ?_⟩) ?_ ?_
                  rotate_left
                  · intro w'
                    go_simp
                    with_reducible rfl
                  rotate_left
                  · simp only [Act.put, List.setIfInBounds_toArray, List.set_cons_zero, List.set_cons_succ, i64_w, i32_w]
                    rfl
                  refine one_ (i := 6) (N := some 5) #[true, true, true, true, true, true, true, false] rfl rfl (one_of HT_.out (by kernel_rfl)) (by decide) (fun K hK => ?_)
                  refine box_step ?hg (N := 5) ?hd (cs := #[.int .i64 0, .slice none 0 0]) (t := 24) ?hr ?_; (case hd => rfl); (case hg => rfl); (case hr => first | (go_simp; done) | (go_simp; rfl))
                  intro gb878 hg w25 hbox hb
                  have n0_ := Aside0.mk (Kd.S_below (by (with_reducible repeat (first | apply Kd.S_alloc | apply Kd.S_drewN | apply Kd.S_drew)); exact HO877.out) hb)
                  have n1_ := Aside0.mk (blk_below (g := gb873) (o := .cells #[.int .i64 a0_0, .slice A0_1 l0_1.length c0_1] 24 (0, 0)) (by (with_reducible repeat (first | refine blk_drewN ?_ _ | refine blk_drew ?_ | refine blk_alloc ?_ _)); exact BK873.out) hb)
                  have n2_ := Aside0.mk (below_step (by repeat (first | (with_reducible first | exact HB.out | apply below_alloc | apply pw_below_drewN | apply below_drew1 | refine below_set ?_ GE873.out) | exact HB.out)) hb)
                  have n3_ := Aside0.mk (hbox)
                  have n4_ := Aside0.mk ((by rw [hg]; exact (below_size (by repeat (first | (with_reducible first | exact HB.out | apply below_alloc | apply pw_below_drewN | apply below_drew1 | refine below_set ?_ GE873.out) | exact HB.out))) : w.heap.size ≤ gb878))
                  have n5_ := Aside0.mk ((by rw [hg]; exact (below_size (by repeat (first | (with_reducible first | exact HB.out | apply below_alloc | apply pw_below_drewN | apply below_drew1 | refine below_set ?_ GE873.out) | exact HB.out))) : w.heap.size ≤ gb878))
                  have n6_ := Aside0.mk ((by rw [hg]; exact Nat.ne_of_lt (blk_lt (g := gb873) (o := .cells #[.int .i64 a0_0, .slice A0_1 l0_1.length c0_1] 24 (0, 0)) (by (with_reducible repeat (first | refine blk_drewN ?_ _ | refine blk_drew ?_ | refine blk_alloc ?_ _)); exact BK873.out)) : gb873 ≠ gb878))
                  have n7_ := Aside0.mk ((by rw [hg]; exact Nat.ne_of_gt (blk_lt (g := gb873) (o := .cells #[.int .i64 a0_0, .slice A0_1 l0_1.length c0_1] 24 (0, 0)) (by (with_reducible repeat (first | refine blk_drewN ?_ _ | refine blk_drew ?_ | refine blk_alloc ?_ _)); exact BK873.out)) : gb878 ≠ gb873))
                  clear HO877
                  clear BK873
                  clear HB
                  have HO877 := n0_
                  have BK873 := n1_
                  have HB := n2_
                  have BK878 := n3_
                  have GW878 := n4_
                  have GE878 := n5_
                  have NB873_878 := n6_
                  have NB878_873 := n7_
                  clear n0_ n1_ n2_ n3_ n4_ n5_ n6_ n7_
                  clear hb hbox hg
                  refine hK.out _ _ ⟨(blk_cell BK873.out 0).trans rfl, (blk_cell BK873.out 1).trans rfl⟩ (fun hHeld => ?_)
                  clear hK K
                  refine norm_ (a' := ?_) ?_ ?_
                  rotate_left
                  · show Act.put _ (some 5) _ = _
                    simp only [Act.put, List.setIfInBounds_toArray, List.set_cons_zero, List.set_cons_succ, i64_w, i32_w]
                    rfl
                  exact norm_ (by simp only [putAll, Act.put, List.setIfInBounds_toArray, List.set_cons_zero, List.set_cons_succ]) (hCont (.slice Ao24 t875.length co24, gb878) _ ⟨hHeld, (by (with_reducible repeat (first | apply Kd.S_alloc | apply Kd.S_drewN | apply Kd.S_drew)); exact HO877.out), (by (with_reducible repeat (first | refine blk_drewN ?_ _ | refine blk_drew ?_ | refine blk_alloc ?_ _)); exact BK873.out), (by (with_reducible repeat (first | refine blk_drewN ?_ _ | refine blk_drew ?_ | refine blk_alloc ?_ _)); exact BK878.out), GW878.out, GE878.out, NB873_878.out, NB878_873.out, (by repeat (first | (with_reducible first | exact HB.out | apply below_alloc | apply pw_below_drewN | apply below_drew1 | refine below_set ?_ GE873.out | refine below_set ?_ GE878.out) | exact HB.out))⟩)
                · skip
                  refine box_step ?hg (N := 5) ?hd (cs := #[.int .i64 0, .slice none 0 0]) (t := 24) ?hr ?_; (case hd => rfl); (case hg => rfl); (case hr => first | (go_simp; done) | (go_simp; rfl))
                  intro gb878 hg w23 hbox hb
                  have n0_ := Aside0.mk (blk_below (g := gb873) (o := .cells #[.int .i64 a0_0, .slice A0_1 l0_1.length c0_1] 24 (0, 0)) (by (with_reducible repeat (first | refine blk_drewN ?_ _ | refine blk_drew ?_ | refine blk_alloc ?_ _)); exact BK873.out) hb)
                  have n1_ := Aside0.mk (below_step (by repeat (first | (with_reducible first | exact HB.out | apply below_alloc | apply pw_below_drewN | apply below_drew1 | refine below_set ?_ GE873.out) | exact HB.out)) hb)
                  have n2_ := Aside0.mk (hbox)
                  have n3_ := Aside0.mk ((by rw [hg]; exact (below_size (by repeat (first | (with_reducible first | exact HB.out | apply below_alloc | apply pw_below_drewN | apply below_drew1 | refine below_set ?_ GE873.out) | exact HB.out))) : w.heap.size ≤ gb878))
                  have n4_ := Aside0.mk ((by rw [hg]; exact (below_size (by repeat (first | (with_reducible first | exact HB.out | apply below_alloc | apply pw_below_drewN | apply below_drew1 | refine below_set ?_ GE873.out) | exact HB.out))) : w.heap.size ≤ gb878))
                  have n5_ := Aside0.mk ((by rw [hg]; exact Nat.ne_of_lt (blk_lt (g := gb873) (o := .cells #[.int .i64 a0_0, .slice A0_1 l0_1.length c0_1] 24 (0, 0)) (by (with_reducible repeat (first | refine blk_drewN ?_ _ | refine blk_drew ?_ | refine blk_alloc ?_ _)); exact BK873.out)) : gb873 ≠ gb878))
                  have n6_ := Aside0.mk ((by rw [hg]; exact Nat.ne_of_gt (blk_lt (g := gb873) (o := .cells #[.int .i64 a0_0, .slice A0_1 l0_1.length c0_1] 24 (0, 0)) (by (with_reducible repeat (first | refine blk_drewN ?_ _ | refine blk_drew ?_ | refine blk_alloc ?_ _)); exact BK873.out)) : gb878 ≠ gb873))
                  clear BK873
                  clear HB
                  have BK873 := n0_
                  have HB := n1_
                  have BK878 := n2_
                  have GW878 := n3_
                  have GE878 := n4_
                  have NB873_878 := n5_
                  have NB878_873 := n6_
                  clear n0_ n1_ n2_ n3_ n4_ n5_ n6_
                  clear hb hbox hg
                  refine hK.out _ _ ⟨(blk_cell BK873.out 0).trans rfl, (blk_cell BK873.out 1).trans rfl⟩ (fun hHeld => ?_)
                  clear hK K
                  refine norm_ (a' := ?_) ?_ ?_
                  rotate_left
                  · show Act.put _ (some 5) _ = _
                    simp only [Act.put, List.setIfInBounds_toArray, List.set_cons_zero, List.set_cons_succ, i64_w, i32_w]
                    rfl
                  refine one_ (i := 4) (N := some 17) #[true, true, true, true, true, false, true, false] rfl rfl (one_of HT_.out (by kernel_rfl)) (by decide) (fun K hK => ?_)
                  refine goes_ Try.func33 (by kernel_rfl) rfl #[.slice A0_1 l0_1.length c0_1] (by rfl) rfl rfl (by (try simp only [List.map_toArray, List.map_cons, List.map_nil]); first | done | rfl | (simp only [List.length_drop, List.length_take]; rfl)) ?_
                  with_reducible refine (hoggetref10_OwnAll.calls kj2 _ _ l0_1 t875 _ ?side1 ?side2 A12.out).mono ?_
                  (case side1 => repeat (first | exact (Kd.C_below HR0_1.out HB.out) | (with_reducible refine Kd.C_alloc ?_ _) | (with_reducible refine Kd.C_drewN ?_ _) | (with_reducible refine Kd.C_drew ?_)))
                  (case side2 => exact HC0_1.out)
                  rintro e w24 ⟨v876, rfl, ho0, hb⟩
                  refine ⟨_, rfl, ?_⟩
                  have n0_ := Aside0.mk (Kd.S_lower ho0 (below_size (by repeat (first | (with_reducible first | exact HB.out | apply below_alloc | apply pw_below_drewN | apply below_drew1 | refine below_set ?_ GE873.out | refine below_set ?_ GE878.out) | exact HB.out))))
                  have n1_ := Aside0.mk (blk_below (g := gb873) (o := .cells #[.int .i64 a0_0, .slice A0_1 l0_1.length c0_1] 24 (0, 0)) (by (with_reducible repeat (first | refine blk_drewN ?_ _ | refine blk_drew ?_ | refine blk_alloc ?_ _)); exact BK873.out) hb)
                  have n2_ := Aside0.mk (blk_below (g := gb878) (o := .cells #[.int .i64 0, .slice none 0 0] 24 (0, 0)) (by (with_reducible repeat (first | refine blk_drewN ?_ _ | refine blk_drew ?_ | refine blk_alloc ?_ _)); exact BK878.out) hb)
                  have n3_ := Aside0.mk (below_step (by repeat (first | (with_reducible first | exact HB.out | apply below_alloc | apply pw_below_drewN | apply below_drew1 | refine below_set ?_ GE873.out | refine below_set ?_ GE878.out) | exact HB.out)) hb)
                  clear BK873
                  clear BK878
                  clear HB
                  have HO877 := n0_
                  have BK873 := n1_
                  have BK878 := n2_
                  have HB := n3_
                  clear n0_ n1_ n2_ n3_
                  (try clear hb)
                  (try clear hb2)
                  (try clear hk)
                  (try clear hi)
                  (try clear ho0)
                  obtain ⟨Ao25, co25, eo25⟩ := Kd.S_slice HO877.out
                  (first | subst eo25 | (injection eo25 with f1_ f2_ f3_; have f4_ := f1_.symm; have f5_ := f3_.symm; clear f1_ f2_ f3_; subst f4_; subst f5_))
                  refine hK.out _ _ ⟨(blk_cell BK873.out 0).trans rfl, (blk_cell BK873.out 1).trans rfl⟩ (fun hHeld => ?_)
                  clear hK K
                  refine norm_ (a' := ?_) ?_ ?_
                  rotate_left
                  · show Act.put _ (some 17) _ = _
                    simp only [Act.put, List.setIfInBounds_toArray, List.set_cons_zero, List.set_cons_succ, i64_w, i32_w]
                    rfl
                  refine pure_ (i := 5) (N := some 18) (v := ?_) (a' := ?_) #[true, true, true, true, true, true, true, false] rfl rfl (any_of HT_.out (by kernel_rfl)) (fun _ _ _ h => h) (Or.inl ⟨by rfl, ?_⟩) ?_ ?_
                  rotate_left
                  · intro w'
                    go_simp
                    with_reducible rfl
                  rotate_left
                  · simp only [Act.put, List.setIfInBounds_toArray, List.set_cons_zero, List.set_cons_succ, i64_w, i32_w]
                    rfl
                  exact norm_ (by simp only [putAll, Act.put, List.setIfInBounds_toArray, List.set_cons_zero, List.set_cons_succ]) (hCont (.slice Ao25 t875.length co25, gb878) _ ⟨hHeld, (by (with_reducible repeat (first | apply Kd.S_alloc | apply Kd.S_drewN | apply Kd.S_drew)); exact HO877.out), (by (with_reducible repeat (first | refine blk_drewN ?_ _ | refine blk_drew ?_ | refine blk_alloc ?_ _)); exact BK873.out), (by (with_reducible repeat (first | refine blk_drewN ?_ _ | refine blk_drew ?_ | refine blk_alloc ?_ _)); exact BK878.out), GW878.out, GE878.out, NB873_878.out, NB878_873.out, (by repeat (first | (with_reducible first | exact HB.out | apply below_alloc | apply pw_below_drewN | apply below_drew1 | refine below_set ?_ GE873.out | refine below_set ?_ GE878.out) | exact HB.out))⟩)
              rintro ⟨v876, gb878⟩ w26 ⟨hS_, h0_, h1_, h2_, h3_, h4_, h5_, h6_, h7_⟩
              have n0_ : Aside0 (Kd.S (Kd.slice 3 (Kd.int .i64)) 25 w26 w.heap.size (fun _ => True) v876 t875) := ⟨h0_⟩
              have n1_ : Aside0 (w26.heap[gb873]? = some (.cells #[.int .i64 a0_0, .slice A0_1 l0_1.length c0_1] 24 (0, 0))) := ⟨h1_⟩
              have n2_ : Aside0 (w26.heap[gb878]? = some (.cells #[.int .i64 0, .slice none 0 0] 24 (0, 0))) := ⟨h2_⟩
              have n3_ : Aside0 (w.heap.size ≤ gb878) := ⟨h3_⟩
              have n4_ : Aside0 (w.heap.size ≤ gb878) := ⟨h4_⟩
              have n5_ : Aside0 (gb873 ≠ gb878) := ⟨h5_⟩
              have n6_ : Aside0 (gb878 ≠ gb873) := ⟨h6_⟩
              have n7_ : Aside0 (Below w.heap.size w w26) := ⟨h7_⟩
              clear BK873
              clear HB
              clear h0_ h1_ h2_ h3_ h4_ h5_ h6_ h7_
              have HO877 := n0_
              have BK873 := n1_
              have BK878 := n2_
              have GW878 := n3_
              have GE878 := n4_
              have NB873_878 := n5_
              have NB878_873 := n6_
              have HB := n7_
              clear n0_ n1_ n2_ n3_ n4_ n5_ n6_ n7_
              have hHeld : w26.cell? ⟨gb873, 0, none⟩ = some (.int .i64 a0_0) ∧ w26.cell? ⟨gb873, 1, none⟩ = some (.slice A0_1 l0_1.length c0_1) := hS_
              obtain ⟨Ao27, co27, eo27⟩ := Kd.S_slice HO877.out
              (first | subst eo27 | (injection eo27 with f1_ f2_ f3_; have f4_ := f1_.symm; have f5_ := f3_.symm; clear f1_ f2_ f3_; subst f4_; subst f5_))
              refine norm_ (a' := ?_) ?_ ?_
              rotate_left
              · simp only [putAll, Act.put, List.setIfInBounds_toArray, List.set_cons_zero, List.set_cons_succ]
                rfl
              refine one_ (i := 7) (N := none) #[true, true, true, true, true, true, true, true] rfl rfl (one_of HT_.out (by kernel_rfl)) (by decide) (fun K hK => ?_)
              have hs28 : w26.cell? ⟨gb878, 0, none⟩ = some (.int .i64 0) := (blk_cell BK878.out 0).trans rfl
              have hfs28 := blk_frozen BK878.out 0
              have hns28_0 := NB873_878.out
              have hms28_0 := NB878_873.out
              have hs29 : w26.cell? ⟨gb878, 1, none⟩ = some (.slice none 0 0) := (blk_cell BK878.out 1).trans rfl
              have hfs29 := blk_frozen BK878.out 1
              have hns29_0 := NB873_878.out
              have hms29_0 := NB878_873.out
              refine skip_ (w1 := ?_) (by rfl) rfl ?_ ?_
              rotate_left
              · go_simp
                rfl
              refine hK.out _ _ ⟨((cell_far (p := ⟨gb878, _, none⟩) NB873_878.out _).trans (((cell_far (p := ⟨gb878, _, none⟩) NB873_878.out _).trans (hHeld.1)))), ((cell_far (p := ⟨gb878, _, none⟩) NB873_878.out _).trans (((cell_far (p := ⟨gb878, _, none⟩) NB873_878.out _).trans (hHeld.2))))⟩ (fun hHeld => ?_)
              clear hK K
              refine done_ (done_of HT_.out (by kernel_rfl)) ?_
              try go_wp2
              have n0_ : Aside0 (Kd.S (Kd.slice 3 (Kd.int .i64)) 25 ((w26.setCell ⟨gb878, 0, none⟩ (.int .i64 a0_0)).setCell ⟨gb878, 1, none⟩ (.slice Ao27 t875.length co27)) w.heap.size (fun _ => True) (.slice Ao27 t875.length co27) t875) := ⟨by (with_reducible repeat (first | apply Kd.S_alloc | apply Kd.S_drewN | apply Kd.S_drew)); exact Kd.S_mono (Kd.S_far (p := ⟨gb878, 1, none⟩) (Kd.S_far (p := ⟨gb878, 0, none⟩) (Kd.S_types HO877.out BK878.out (by decide)) (fun _ hk => hk.2) (.int .i64 a0_0)) (fun _ hk => hk.2) (.slice Ao27 t875.length co27)) (fun _ hk => trivial)⟩
              have n1_ : Aside0 (((w26.setCell ⟨gb878, 0, none⟩ (.int .i64 a0_0)).setCell ⟨gb878, 1, none⟩ (.slice Ao27 t875.length co27)).heap[gb873]? = some (.cells #[.int .i64 a0_0, .slice A0_1 l0_1.length c0_1] 24 (0, 0))) := ⟨by (with_reducible repeat (first | refine blk_drewN ?_ _ | refine blk_drew ?_ | refine blk_alloc ?_ _)); refine blk_far ?_ NB873_878.out _; (with_reducible repeat (first | refine blk_drewN ?_ _ | refine blk_drew ?_ | refine blk_alloc ?_ _)); refine blk_far ?_ NB873_878.out _; (with_reducible repeat (first | refine blk_drewN ?_ _ | refine blk_drew ?_ | refine blk_alloc ?_ _)); exact BK873.out⟩
              have n2_ : Aside0 (((w26.setCell ⟨gb878, 0, none⟩ (.int .i64 a0_0)).setCell ⟨gb878, 1, none⟩ (.slice Ao27 t875.length co27)).heap[gb878]? = some (.cells #[.int .i64 a0_0, .slice Ao27 t875.length co27] 24 (0, 0))) := ⟨by (with_reducible repeat (first | refine blk_drewN ?_ _ | refine blk_drew ?_ | refine blk_alloc ?_ _)); refine blk_put (cs := #[.int .i64 a0_0, .slice none 0 0]) ?_ 1 _ rfl; (with_reducible repeat (first | refine blk_drewN ?_ _ | refine blk_drew ?_ | refine blk_alloc ?_ _)); refine blk_put (cs := #[.int .i64 0, .slice none 0 0]) ?_ 0 _ rfl; (with_reducible repeat (first | refine blk_drewN ?_ _ | refine blk_drew ?_ | refine blk_alloc ?_ _)); exact BK878.out⟩
              have n3_ : Aside0 (Below w.heap.size w ((w26.setCell ⟨gb878, 0, none⟩ (.int .i64 a0_0)).setCell ⟨gb878, 1, none⟩ (.slice Ao27 t875.length co27))) := ⟨by repeat (first | (with_reducible first | exact HB.out | apply below_alloc | apply pw_below_drewN | apply below_drew1 | refine below_set ?_ GE873.out | refine below_set ?_ GE878.out) | exact HB.out)⟩
              (try clear HO877)
              (try clear BK873)
              (try clear BK878)
              (try clear HB)
              generalize ((w26.setCell ⟨gb878, 0, none⟩ (.int .i64 a0_0)).setCell ⟨gb878, 1, none⟩ (.slice Ao27 t875.length co27)) = w30 at n0_ n1_ n2_ n3_ ⊢
              have HO877 := n0_
              have BK873 := n1_
              have BK878 := n2_
              have HB := n3_
              clear n0_ n1_ n2_ n3_
              have n0_ := Aside0.mk (Kd.S_drew HO877.out)
              have n1_ := Aside0.mk (blk_drew BK873.out)
              have n2_ := Aside0.mk (blk_drew BK878.out)
              have n3_ := Aside0.mk (below_drew1 HB.out)
              clear HO877
              clear BK873
              clear BK878
              clear HB
              have HO877 := n0_
              have BK873 := n1_
              have BK878 := n2_
              have HB := n3_
              clear n0_ n1_ n2_ n3_
              refine start_ (n := 25) (S := fun w' => w'.cell? ⟨gb873, 0, none⟩ = some (.int .i64 a0_0) ∧ w'.cell? ⟨gb873, 1, none⟩ = some (.slice A0_1 l0_1.length c0_1) ∧ w'.cell? ⟨gb878, 0, none⟩ = some (.int .i64 a0_0) ∧ w'.cell? ⟨gb878, 1, none⟩ = some (.slice Ao27 t875.length co27)) (ds := []) #[false, false, false, false, false, false, false, false, false, false, false, false, false, false, false, false, false, false, false, false, false, false, false, false, false] (by kernel_rfl) rfl rfl ⟨(blk_cell BK873.out 0).trans rfl, (blk_cell BK873.out 1).trans rfl, (blk_cell BK878.out 0).trans rfl, (blk_cell BK878.out 1).trans rfl⟩ (fun hHeld => ?_); refine with_tabW hoggetlaw10_ClauseChecks.tab4 hoggetlaw10_ClauseChecks.bits4 (fun HT_ HW_ => ?_)
              generalize w30.drew = w31 at HO877 BK873 BK878 HB hHeld ⊢
              refine one_ (i := 0) (N := some 19) #[true, false, false, false, false, false, false, false, false, false, false, false, false, false, false, false, false, false, false, false, false, false, false, false, false] rfl rfl (one_of HT_.out (by kernel_rfl)) (by decide) (fun K hK => ?_)
              refine goes_ Try.func62 (by kernel_rfl) rfl #[] (by rfl) rfl rfl (by (try simp only [List.map_toArray, List.map_cons, List.map_nil]); first | done | rfl | (simp only [List.length_drop, List.length_take]; rfl)) ?_
              with_reducible refine (hoggetlaw10_clauses.calls kj2  true _ A13.out).mono ?_
              rintro e w32 ⟨rfl, hb⟩
              refine ⟨_, rfl, ?_⟩
              have n0_ := Aside0.mk (Kd.S_below (by (with_reducible repeat (first | apply Kd.S_alloc | apply Kd.S_drewN | apply Kd.S_drew)); exact HO877.out) hb)
              have n1_ := Aside0.mk (blk_below (g := gb873) (o := .cells #[.int .i64 a0_0, .slice A0_1 l0_1.length c0_1] 24 (0, 0)) (by (with_reducible repeat (first | refine blk_drewN ?_ _ | refine blk_drew ?_ | refine blk_alloc ?_ _)); exact BK873.out) hb)
              have n2_ := Aside0.mk (blk_below (g := gb878) (o := .cells #[.int .i64 a0_0, .slice Ao27 t875.length co27] 24 (0, 0)) (by (with_reducible repeat (first | refine blk_drewN ?_ _ | refine blk_drew ?_ | refine blk_alloc ?_ _)); exact BK878.out) hb)
              have n3_ := Aside0.mk (below_step (by repeat (first | (with_reducible first | exact HB.out | apply below_alloc | apply pw_below_drewN | apply below_drew1 | refine below_set ?_ GE873.out | refine below_set ?_ GE878.out) | exact HB.out)) hb)
              clear HO877
              clear BK873
              clear BK878
              clear HB
              have HO877 := n0_
              have BK873 := n1_
              have BK878 := n2_
              have HB := n3_
              clear n0_ n1_ n2_ n3_
              (try clear hb)
              (try clear hb2)
              (try clear hk)
              (try clear hi)
              refine hK.out _ _ ⟨(blk_cell BK873.out 0).trans rfl, (blk_cell BK873.out 1).trans rfl, (blk_cell BK878.out 0).trans rfl, (blk_cell BK878.out 1).trans rfl⟩ (fun hHeld => ?_)
              clear hK K
              refine norm_ (a' := ?_) ?_ ?_
              rotate_left
              · show Act.put _ (some 19) _ = _
                simp only [Act.put, List.setIfInBounds_toArray, List.set_cons_zero, List.set_cons_succ, i64_w, i32_w]
                rfl
              refine pure_ (i := 1) (N := some 20) (v := ?_) (a' := ?_) #[true, true, false, false, false, false, false, false, false, false, false, false, false, false, false, false, false, false, false, false, false, false, false, false, false] rfl rfl (any_of HT_.out (by kernel_rfl)) (fun _ _ _ h => h) (Or.inl ⟨by rfl, ?_⟩) ?_ ?_
              rotate_left
              · intro w'
                go_simp
                with_reducible rfl
              rotate_left
              · simp only [Act.put, List.setIfInBounds_toArray, List.set_cons_zero, List.set_cons_succ, i64_w, i32_w]
                rfl
              refine take_ (i := 2) (N := some 21) (v := ?_) (a' := ?_) #[true, true, true, false, false, false, false, false, false, false, false, false, false, false, false, false, false, false, false, false, false, false, false, false, false] rfl rfl (take_ofW HT_.out HW_.out (by kernel_rfl)) (fun _ _ _ h => h) (Or.inl ⟨by rfl, ?_⟩) hHeld ?_ ?_
              rotate_left
              · rintro w' ⟨s0, s1, s2, s3⟩
                go_simp
                with_reducible rfl
              rotate_left
              · simp only [Act.put, List.setIfInBounds_toArray, List.set_cons_zero, List.set_cons_succ, i64_w, i32_w]
                rfl
              refine take_ (i := 4) (N := some 23) (v := ?_) (a' := ?_) #[true, true, true, false, true, false, false, false, false, false, false, false, false, false, false, false, false, false, false, false, false, false, false, false, false] rfl rfl (take_ofW HT_.out HW_.out (by kernel_rfl)) (fun _ _ _ h => h) (Or.inl ⟨by rfl, ?_⟩) hHeld ?_ ?_
              rotate_left
              · rintro w' ⟨s0, s1, s2, s3⟩
                go_simp
                with_reducible rfl
              rotate_left
              · simp only [Act.put, List.setIfInBounds_toArray, List.set_cons_zero, List.set_cons_succ, i64_w, i32_w]
                rfl
              refine one_ (i := 3) (N := some 22) #[true, true, true, true, true, false, false, false, false, false, false, false, false, false, false, false, false, false, false, false, false, false, false, false, false] rfl rfl (one_of HT_.out (by kernel_rfl)) (by decide) (fun K hK => ?_)
              refine goes_ Try.func44 (by kernel_rfl) rfl #[.agg #[.int .i64 a0_0, .slice A0_1 l0_1.length c0_1]] (by rfl) rfl rfl (by (try simp only [List.map_toArray, List.map_cons, List.map_nil]); first | done | rfl | (simp only [List.length_drop, List.length_take]; rfl)) ?_
              with_reducible refine (clause_Check.calls a0_0 _ _ l0_1 t880 _ ?side1 ?side2 A15.out).mono ?_
              (case side1 => repeat (first | exact (Kd.C_below HR0_1.out HB.out) | (with_reducible refine Kd.C_alloc ?_ _) | (with_reducible refine Kd.C_drewN ?_ _) | (with_reducible refine Kd.C_drew ?_)))
              (case side2 => exact HC0_1.out)
              rintro e w33 ⟨rfl, hb⟩
              refine ⟨_, rfl, ?_⟩
              have n0_ := Aside0.mk (Kd.S_below (by (with_reducible repeat (first | apply Kd.S_alloc | apply Kd.S_drewN | apply Kd.S_drew)); exact HO877.out) hb)
              have n1_ := Aside0.mk (blk_below (g := gb873) (o := .cells #[.int .i64 a0_0, .slice A0_1 l0_1.length c0_1] 24 (0, 0)) (by (with_reducible repeat (first | refine blk_drewN ?_ _ | refine blk_drew ?_ | refine blk_alloc ?_ _)); exact BK873.out) hb)
              have n2_ := Aside0.mk (blk_below (g := gb878) (o := .cells #[.int .i64 a0_0, .slice Ao27 t875.length co27] 24 (0, 0)) (by (with_reducible repeat (first | refine blk_drewN ?_ _ | refine blk_drew ?_ | refine blk_alloc ?_ _)); exact BK878.out) hb)
              have n3_ := Aside0.mk (below_step (by repeat (first | (with_reducible first | exact HB.out | apply below_alloc | apply pw_below_drewN | apply below_drew1 | refine below_set ?_ GE873.out | refine below_set ?_ GE878.out) | exact HB.out)) hb)
              clear HO877
              clear BK873
              clear BK878
              clear HB
              have HO877 := n0_
              have BK873 := n1_
              have BK878 := n2_
              have HB := n3_
              clear n0_ n1_ n2_ n3_
              (try clear hb)
              (try clear hb2)
              (try clear hk)
              (try clear hi)
              refine hK.out _ _ ⟨(blk_cell BK873.out 0).trans rfl, (blk_cell BK873.out 1).trans rfl, (blk_cell BK878.out 0).trans rfl, (blk_cell BK878.out 1).trans rfl⟩ (fun hHeld => ?_)
              clear hK K
              refine norm_ (a' := ?_) ?_ ?_
              rotate_left
              · show Act.put _ (some 22) _ = _
                simp only [Act.put, List.setIfInBounds_toArray, List.set_cons_zero, List.set_cons_succ, i64_w, i32_w]
                rfl
              refine one_ (i := 5) (N := some 24) #[true, true, true, true, true, true, false, false, false, false, false, false, false, false, false, false, false, false, false, false, false, false, false, false, false] rfl rfl (one_of HT_.out (by kernel_rfl)) (by decide) (fun K hK => ?_)
              refine goes_ Try.func63 (by kernel_rfl) rfl #[.agg #[.int .i64 a0_0, .slice Ao27 t875.length co27]] (by rfl) rfl rfl (by (try simp only [List.map_toArray, List.map_cons, List.map_nil]); first | done | rfl | (simp only [List.length_drop, List.length_take]; rfl)) ?_
              with_reducible refine (hoggetref10_Check.calls kj2 a0_0 _ _ t875 t881 _ ?side1 ?side2 A16.out).mono ?_
              (case side1 => repeat (first | exact (Kd.S_reads' HO877.out).2.2 | (with_reducible refine Kd.C_alloc ?_ _) | (with_reducible refine Kd.C_drewN ?_ _) | (with_reducible refine Kd.C_drew ?_)))
              (case side2 => exact (Kd.S_reads' HO877.out).2.1)
              rintro e w34 ⟨rfl, hb⟩
              refine ⟨_, rfl, ?_⟩
              have n0_ := Aside0.mk (Kd.S_below (by (with_reducible repeat (first | apply Kd.S_alloc | apply Kd.S_drewN | apply Kd.S_drew)); exact HO877.out) hb)
              have n1_ := Aside0.mk (blk_below (g := gb873) (o := .cells #[.int .i64 a0_0, .slice A0_1 l0_1.length c0_1] 24 (0, 0)) (by (with_reducible repeat (first | refine blk_drewN ?_ _ | refine blk_drew ?_ | refine blk_alloc ?_ _)); exact BK873.out) hb)
              have n2_ := Aside0.mk (blk_below (g := gb878) (o := .cells #[.int .i64 a0_0, .slice Ao27 t875.length co27] 24 (0, 0)) (by (with_reducible repeat (first | refine blk_drewN ?_ _ | refine blk_drew ?_ | refine blk_alloc ?_ _)); exact BK878.out) hb)
              have n3_ := Aside0.mk (below_step (by repeat (first | (with_reducible first | exact HB.out | apply below_alloc | apply pw_below_drewN | apply below_drew1 | refine below_set ?_ GE873.out | refine below_set ?_ GE878.out) | exact HB.out)) hb)
              clear HO877
              clear BK873
              clear BK878
              clear HB
              have HO877 := n0_
              have BK873 := n1_
              have BK878 := n2_
              have HB := n3_
              clear n0_ n1_ n2_ n3_
              (try clear hb)
              (try clear hb2)
              (try clear hk)
              (try clear hi)
              refine hK.out _ _ ⟨(blk_cell BK873.out 0).trans rfl, (blk_cell BK873.out 1).trans rfl, (blk_cell BK878.out 0).trans rfl, (blk_cell BK878.out 1).trans rfl⟩ (fun hHeld => ?_)
              clear hK K
              refine norm_ (a' := ?_) ?_ ?_
              rotate_left
              · show Act.put _ (some 24) _ = _
                simp only [Act.put, List.setIfInBounds_toArray, List.set_cons_zero, List.set_cons_succ, i64_w, i32_w]
                rfl
              refine pure_ (i := 6) (N := some 25) (v := ?_) (a' := ?_) #[true, true, true, true, true, true, true, false, false, false, false, false, false, false, false, false, false, false, false, false, false, false, false, false, false] rfl rfl (any_of HT_.out (by kernel_rfl)) (fun _ _ _ h => h) (Or.inl ⟨by rfl, ?_⟩) ?_ ?_
              rotate_left
              · intro w'
                go_simp
                with_reducible rfl
              rotate_left
              · simp only [Act.put, List.setIfInBounds_toArray, List.set_cons_zero, List.set_cons_succ, i64_w, i32_w]
                rfl
              refine pure_ (i := 7) (N := some 26) (v := ?_) (a' := ?_) #[true, true, true, true, true, true, true, true, false, false, false, false, false, false, false, false, false, false, false, false, false, false, false, false, false] rfl rfl (any_of HT_.out (by kernel_rfl)) (fun _ _ _ h => h) (Or.inl ⟨by rfl, ?_⟩) ?_ ?_
              rotate_left
              · intro w'
                go_simp
                with_reducible rfl
              rotate_left
              · simp only [Act.put, List.setIfInBounds_toArray, List.set_cons_zero, List.set_cons_succ, i64_w, i32_w]
                rfl
              refine pure_ (i := 8) (N := some 27) (v := ?_) (a' := ?_) #[true, true, true, true, true, true, true, true, true, false, false, false, false, false, false, false, false, false, false, false, false, false, false, false, false] rfl rfl (any_of HT_.out (by kernel_rfl)) (fun _ _ _ h => h) (Or.inl ⟨by rfl, ?_⟩) ?_ ?_
              rotate_left
              · intro w'
                go_simp
                with_reducible rfl
              rotate_left
              · simp only [Act.put, List.setIfInBounds_toArray, List.set_cons_zero, List.set_cons_succ, i64_w, i32_w]
                rfl
              refine pure_ (i := 10) (N := some 29) (v := ?_) (a' := ?_) #[true, true, true, true, true, true, true, true, true, false, true, false, false, false, false, false, false, false, false, false, false, false, false, false, false] rfl rfl (any_of HT_.out (by kernel_rfl)) (fun _ _ _ h => h) (Or.inl ⟨by rfl, ?_⟩) ?_ ?_
              rotate_left
              · intro w'
                go_simp
                with_reducible rfl
              rotate_left
              · simp only [Act.put, List.setIfInBounds_toArray, List.set_cons_zero, List.set_cons_succ, i64_w, i32_w]
                rfl
              refine pure_ (i := 13) (N := some 32) (v := ?_) (a' := ?_) #[true, true, true, true, true, true, true, true, true, false, true, false, false, true, false, false, false, false, false, false, false, false, false, false, false] rfl rfl (any_of HT_.out (by kernel_rfl)) (fun _ _ _ h => h) (Or.inl ⟨by rfl, ?_⟩) ?_ ?_
              rotate_left
              · intro w'
                go_simp
                with_reducible rfl
              rotate_left
              · simp only [Act.put, List.setIfInBounds_toArray, List.set_cons_zero, List.set_cons_succ, i64_w, i32_w]
                rfl
              refine take_ (i := 9) (N := some 28) (v := ?_) (a' := ?_) #[true, true, true, true, true, true, true, true, true, true, true, false, false, true, false, false, false, false, false, false, false, false, false, false, false] rfl rfl (take_ofW HT_.out HW_.out (by kernel_rfl)) (fun _ _ _ h => h) (Or.inl ⟨by rfl, ?_⟩) hHeld ?_ ?_
              rotate_left
              · rintro w' ⟨s0, s1, s2, s3⟩
                go_simp
                with_reducible rfl
              rotate_left
              · simp only [Act.put, List.setIfInBounds_toArray, List.set_cons_zero, List.set_cons_succ, i64_w, i32_w]
                rfl
              refine take_ (i := 12) (N := some 31) (v := ?_) (a' := ?_) #[true, true, true, true, true, true, true, true, true, true, true, false, true, true, false, false, false, false, false, false, false, false, false, false, false] rfl rfl (take_ofW HT_.out HW_.out (by kernel_rfl)) (fun _ _ _ h => h) (Or.inl ⟨by rfl, ?_⟩) hHeld ?_ ?_
              rotate_left
              · rintro w' ⟨s0, s1, s2, s3⟩
                go_simp
                with_reducible rfl
              rotate_left
              · simp only [Act.put, List.setIfInBounds_toArray, List.set_cons_zero, List.set_cons_succ, i64_w, i32_w]
                rfl
              refine one_ (i := 11) (N := some 30) #[true, true, true, true, true, true, true, true, true, true, true, true, true, true, false, false, false, false, false, false, false, false, false, false, false] rfl rfl (one_of HT_.out (by kernel_rfl)) (by decide) (fun K hK => ?_)
              refine goes_ Try.func43 (by kernel_rfl) rfl #[.agg #[.int .i64 a0_0, .slice A0_1 l0_1.length c0_1], .slice A1 l1.length c1] (by rfl) rfl rfl (by (try simp only [List.map_toArray, List.map_cons, List.map_nil]); first | done | rfl | (simp only [List.length_drop, List.length_take]; rfl)) ?_
              with_reducible refine (clause_Sat.calls a0_0 _ _ l0_1 _ _ l1 t882 _ ?side1 ?side2 ?side3 ?side4 A18.out).mono ?_
              (case side1 => repeat (first | exact (Kd.C_below HR0_1.out HB.out) | (with_reducible refine Kd.C_alloc ?_ _) | (with_reducible refine Kd.C_drewN ?_ _) | (with_reducible refine Kd.C_drew ?_)))
              (case side2 => exact HC0_1.out)
              (case side3 => repeat (first | exact (Kd.C_below HR1.out HB.out) | (with_reducible refine Kd.C_alloc ?_ _) | (with_reducible refine Kd.C_drewN ?_ _) | (with_reducible refine Kd.C_drew ?_)))
              (case side4 => exact HC1.out)
              rintro e w35 ⟨rfl, hb⟩
              refine ⟨_, rfl, ?_⟩
              have n0_ := Aside0.mk (Kd.S_below (by (with_reducible repeat (first | apply Kd.S_alloc | apply Kd.S_drewN | apply Kd.S_drew)); exact HO877.out) hb)
              have n1_ := Aside0.mk (blk_below (g := gb873) (o := .cells #[.int .i64 a0_0, .slice A0_1 l0_1.length c0_1] 24 (0, 0)) (by (with_reducible repeat (first | refine blk_drewN ?_ _ | refine blk_drew ?_ | refine blk_alloc ?_ _)); exact BK873.out) hb)
              have n2_ := Aside0.mk (blk_below (g := gb878) (o := .cells #[.int .i64 a0_0, .slice Ao27 t875.length co27] 24 (0, 0)) (by (with_reducible repeat (first | refine blk_drewN ?_ _ | refine blk_drew ?_ | refine blk_alloc ?_ _)); exact BK878.out) hb)
              have n3_ := Aside0.mk (below_step (by repeat (first | (with_reducible first | exact HB.out | apply below_alloc | apply pw_below_drewN | apply below_drew1 | refine below_set ?_ GE873.out | refine below_set ?_ GE878.out) | exact HB.out)) hb)
              clear HO877
              clear BK873
              clear BK878
              clear HB
              have HO877 := n0_
              have BK873 := n1_
              have BK878 := n2_
              have HB := n3_
              clear n0_ n1_ n2_ n3_
              (try clear hb)
              (try clear hb2)
              (try clear hk)
              (try clear hi)
              refine hK.out _ _ ⟨(blk_cell BK873.out 0).trans rfl, (blk_cell BK873.out 1).trans rfl, (blk_cell BK878.out 0).trans rfl, (blk_cell BK878.out 1).trans rfl⟩ (fun hHeld => ?_)
              clear hK K
              refine norm_ (a' := ?_) ?_ ?_
              rotate_left
              · show Act.put _ (some 30) _ = _
                simp only [Act.put, List.setIfInBounds_toArray, List.set_cons_zero, List.set_cons_succ, i64_w, i32_w]
                rfl
              refine one_ (i := 14) (N := some 33) #[true, true, true, true, true, true, true, true, true, true, true, true, true, true, true, false, false, false, false, false, false, false, false, false, false] rfl rfl (one_of HT_.out (by kernel_rfl)) (by decide) (fun K hK => ?_)
              refine goes_ Try.func64 (by kernel_rfl) rfl #[.agg #[.int .i64 a0_0, .slice Ao27 t875.length co27], .slice A1 l1.length c1] (by rfl) rfl rfl (by (try simp only [List.map_toArray, List.map_cons, List.map_nil]); first | done | rfl | (simp only [List.length_drop, List.length_take]; rfl)) ?_
              with_reducible refine (hoggetref10_Sat.calls kj2 a0_0 _ _ t875 _ _ l1 t883 _ ?side1 ?side2 ?side3 ?side4 A19.out).mono ?_
              (case side1 => repeat (first | exact (Kd.S_reads' HO877.out).2.2 | (with_reducible refine Kd.C_alloc ?_ _) | (with_reducible refine Kd.C_drewN ?_ _) | (with_reducible refine Kd.C_drew ?_)))
              (case side2 => exact (Kd.S_reads' HO877.out).2.1)
              (case side3 => repeat (first | exact (Kd.C_below HR1.out HB.out) | (with_reducible refine Kd.C_alloc ?_ _) | (with_reducible refine Kd.C_drewN ?_ _) | (with_reducible refine Kd.C_drew ?_)))
              (case side4 => exact HC1.out)
              rintro e w36 ⟨rfl, hb⟩
              refine ⟨_, rfl, ?_⟩
              have n0_ := Aside0.mk (Kd.S_below (by (with_reducible repeat (first | apply Kd.S_alloc | apply Kd.S_drewN | apply Kd.S_drew)); exact HO877.out) hb)
              have n1_ := Aside0.mk (blk_below (g := gb873) (o := .cells #[.int .i64 a0_0, .slice A0_1 l0_1.length c0_1] 24 (0, 0)) (by (with_reducible repeat (first | refine blk_drewN ?_ _ | refine blk_drew ?_ | refine blk_alloc ?_ _)); exact BK873.out) hb)
              have n2_ := Aside0.mk (blk_below (g := gb878) (o := .cells #[.int .i64 a0_0, .slice Ao27 t875.length co27] 24 (0, 0)) (by (with_reducible repeat (first | refine blk_drewN ?_ _ | refine blk_drew ?_ | refine blk_alloc ?_ _)); exact BK878.out) hb)
              have n3_ := Aside0.mk (below_step (by repeat (first | (with_reducible first | exact HB.out | apply below_alloc | apply pw_below_drewN | apply below_drew1 | refine below_set ?_ GE873.out | refine below_set ?_ GE878.out) | exact HB.out)) hb)
              clear HO877
              clear BK873
              clear BK878
              clear HB
              have HO877 := n0_
              have BK873 := n1_
              have BK878 := n2_
              have HB := n3_
              clear n0_ n1_ n2_ n3_
              (try clear hb)
              (try clear hb2)
              (try clear hk)
              (try clear hi)
              refine hK.out _ _ ⟨(blk_cell BK873.out 0).trans rfl, (blk_cell BK873.out 1).trans rfl, (blk_cell BK878.out 0).trans rfl, (blk_cell BK878.out 1).trans rfl⟩ (fun hHeld => ?_)
              clear hK K
              refine norm_ (a' := ?_) ?_ ?_
              rotate_left
              · show Act.put _ (some 33) _ = _
                simp only [Act.put, List.setIfInBounds_toArray, List.set_cons_zero, List.set_cons_succ, i64_w, i32_w]
                rfl
              refine pure_ (i := 15) (N := some 34) (v := ?_) (a' := ?_) #[true, true, true, true, true, true, true, true, true, true, true, true, true, true, true, true, false, false, false, false, false, false, false, false, false] rfl rfl (any_of HT_.out (by kernel_rfl)) (fun _ _ _ h => h) (Or.inl ⟨by rfl, ?_⟩) ?_ ?_
              rotate_left
              · intro w'
                go_simp
                with_reducible rfl
              rotate_left
              · simp only [Act.put, List.setIfInBounds_toArray, List.set_cons_zero, List.set_cons_succ, i64_w, i32_w]
                rfl
              refine pure_ (i := 16) (N := some 35) (v := ?_) (a' := ?_) #[true, true, true, true, true, true, true, true, true, true, true, true, true, true, true, true, true, false, false, false, false, false, false, false, false] rfl rfl (any_of HT_.out (by kernel_rfl)) (fun _ _ _ h => h) (Or.inl ⟨by rfl, ?_⟩) ?_ ?_
              rotate_left
              · intro w'
                go_simp
                with_reducible rfl
              rotate_left
              · simp only [Act.put, List.setIfInBounds_toArray, List.set_cons_zero, List.set_cons_succ, i64_w, i32_w]
                rfl
              refine pure_ (i := 17) (N := some 36) (v := ?_) (a' := ?_) #[true, true, true, true, true, true, true, true, true, true, true, true, true, true, true, true, true, true, false, false, false, false, false, false, false] rfl rfl (any_of HT_.out (by kernel_rfl)) (fun _ _ _ h => h) (Or.inl ⟨by rfl, ?_⟩) ?_ ?_
              rotate_left
              · intro w'
                go_simp
                with_reducible rfl
              rotate_left
              · simp only [Act.put, List.setIfInBounds_toArray, List.set_cons_zero, List.set_cons_succ, i64_w, i32_w]
                rfl
              refine pure_ (i := 18) (N := some 37) (v := ?_) (a' := ?_) #[true, true, true, true, true, true, true, true, true, true, true, true, true, true, true, true, true, true, true, false, false, false, false, false, false] rfl rfl (any_of HT_.out (by kernel_rfl)) (fun _ _ _ h => h) (Or.inl ⟨by rfl, ?_⟩) ?_ ?_
              rotate_left
              · intro w'
                go_simp
                with_reducible rfl
              rotate_left
              · simp only [Act.put, List.setIfInBounds_toArray, List.set_cons_zero, List.set_cons_succ, i64_w, i32_w]
                rfl
              refine pure_ (i := 20) (N := some 39) (v := ?_) (a' := ?_) #[true, true, true, true, true, true, true, true, true, true, true, true, true, true, true, true, true, true, true, false, true, false, false, false, false] rfl rfl (any_of HT_.out (by kernel_rfl)) (fun _ _ _ h => h) (Or.inl ⟨by rfl, ?_⟩) ?_ ?_
              rotate_left
              · intro w'
                go_simp
                with_reducible rfl
              rotate_left
              · simp only [Act.put, List.setIfInBounds_toArray, List.set_cons_zero, List.set_cons_succ, i64_w, i32_w]
                rfl
              refine take_ (i := 19) (N := some 38) (v := ?_) (a' := ?_) #[true, true, true, true, true, true, true, true, true, true, true, true, true, true, true, true, true, true, true, true, true, false, false, false, false] rfl rfl (take_ofW HT_.out HW_.out (by kernel_rfl)) (fun _ _ _ h => h) (Or.inl ⟨by rfl, ?_⟩) hHeld ?_ ?_
              rotate_left
              · rintro w' ⟨s0, s1, s2, s3⟩
                go_simp
                with_reducible rfl
              rotate_left
              · simp only [Act.put, List.setIfInBounds_toArray, List.set_cons_zero, List.set_cons_succ, i64_w, i32_w]
                rfl
              refine take_ (i := 21) (N := some 40) (v := ?_) (a' := ?_) #[true, true, true, true, true, true, true, true, true, true, true, true, true, true, true, true, true, true, true, true, true, true, false, false, false] rfl rfl (take_ofW HT_.out HW_.out (by kernel_rfl)) (fun _ _ _ h => h) (Or.inl ⟨by rfl, ?_⟩) hHeld ?_ ?_
              rotate_left
              · rintro w' ⟨s0, s1, s2, s3⟩
                go_simp
                with_reducible rfl
              rotate_left
              · simp only [Act.put, List.setIfInBounds_toArray, List.set_cons_zero, List.set_cons_succ, i64_w, i32_w]
                rfl
              refine one_ (i := 22) (N := some 41) #[true, true, true, true, true, true, true, true, true, true, true, true, true, true, true, true, true, true, true, true, true, true, true, false, false] rfl rfl (one_of HT_.out (by kernel_rfl)) (by decide) (fun K hK => ?_)
              refine goes_ Try.func41 (by kernel_rfl) rfl #[.slice A0_1 l0_1.length c0_1, .slice Ao27 t875.length co27] (by rfl) rfl rfl (by (try simp only [List.map_toArray, List.map_cons, List.map_nil]); first | done | rfl | (simp only [List.length_drop, List.length_take]; rfl)) ?_
              with_reducible refine (hoggetref10_Clauses.calls kj2 _ _ l0_1 _ _ t875 t884 _ ?side1 ?side2 ?side3 ?side4 A21.out).mono ?_
              (case side1 => repeat (first | exact (Kd.C_below HR0_1.out HB.out) | (with_reducible refine Kd.C_alloc ?_ _) | (with_reducible refine Kd.C_drewN ?_ _) | (with_reducible refine Kd.C_drew ?_)))
              (case side2 => exact HC0_1.out)
              (case side3 => repeat (first | exact (Kd.S_reads' HO877.out).2.2 | (with_reducible refine Kd.C_alloc ?_ _) | (with_reducible refine Kd.C_drewN ?_ _) | (with_reducible refine Kd.C_drew ?_)))
              (case side4 => exact (Kd.S_reads' HO877.out).2.1)
              rintro e w' ⟨rfl, ⟨nd, rfl⟩⟩
              refine ⟨_, rfl, ?_⟩
              refine hK.out _ _ ⟨(blk_cell BK873.out 0).trans rfl, (blk_cell BK873.out 1).trans rfl, (blk_cell BK878.out 0).trans rfl, (blk_cell BK878.out 1).trans rfl⟩ (fun hHeld => ?_)
              clear hK K
              refine norm_ (a' := ?_) ?_ ?_
              rotate_left
              · show Act.put _ (some 41) _ = _
                simp only [Act.put, List.setIfInBounds_toArray, List.set_cons_zero, List.set_cons_succ, i64_w, i32_w]
                rfl
              refine pure_ (i := 23) (N := some 42) (v := ?_) (a' := ?_) #[true, true, true, true, true, true, true, true, true, true, true, true, true, true, true, true, true, true, true, true, true, true, true, true, false] rfl rfl (any_of HT_.out (by kernel_rfl)) (fun _ _ _ h => h) (Or.inl ⟨by rfl, ?_⟩) ?_ ?_
              rotate_left
              · intro w'
                go_simp
                with_reducible rfl
              rotate_left
              · simp only [Act.put, List.setIfInBounds_toArray, List.set_cons_zero, List.set_cons_succ, i64_w, i32_w]
                rfl
              refine pure_ (i := 24) (N := some 4) (v := ?_) (a' := ?_) #[true, true, true, true, true, true, true, true, true, true, true, true, true, true, true, true, true, true, true, true, true, true, true, true, true] rfl rfl (any_of HT_.out (by kernel_rfl)) (fun _ _ _ h => h) (Or.inl ⟨by rfl, ?_⟩) ?_ ?_
              rotate_left
              · intro w'
                go_simp
                with_reducible rfl
              rotate_left
              · simp only [Act.put, List.setIfInBounds_toArray, List.set_cons_zero, List.set_cons_succ, i64_w, i32_w]
                rfl
              refine done_ (done_of HT_.out (by kernel_rfl)) ?_
              try go_wp2
              go_ret
              exact ⟨by first | rfl | (simp [errW_none, errW_some] <;> rfl) | (simp [*, errW_none, errW_some] <;> rfl), by repeat (first | (with_reducible first | exact HB.out | apply below_alloc | apply pw_below_drewN | apply below_drew1 | refine below_set ?_ GE873.out | refine below_set ?_ GE878.out) | exact HB.out)⟩
            · rw [if_neg c20] at H
              have c20b0 : (t882 == t883) = false := by simpa using c20
              (try (have c20b1 : decide (t882 = t883) = false := by simpa using c20))
              (try (have c20b2 : (t882 == t883) = false := by simpa using c20))
              (try (have c20b3 : ¬ (t882 = t883) := by simpa using c20))
              clear c20
              cases H
          · rw [if_neg c17] at H
            have c17b0 : (t880 == t881) = false := beq_eq_false_iff_ne.mpr c17
            have c17b1 : (t880 != t881) = true := bne_iff_ne.mpr c17
            cases H
        · replace c14 := Bool.eq_false_iff.mpr c14
          subst c14
          have H1 : (none) = some r := by rw [if_neg (show ¬ (false = true) by decide)] at H; exact H
          clear H
          have H := H1
          clear H1
          cases H

end Go.Proofs.Ythnbmlpjbhhamaa.J
