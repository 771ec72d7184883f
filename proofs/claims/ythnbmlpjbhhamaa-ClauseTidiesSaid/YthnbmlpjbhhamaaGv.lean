/- The walks of hoggetlaw10_ClauseTidies, by the print over this seat. -/
import Derived.Test.YthnbmlpjbhhamaaJ0
import Derived.Test.YthnbmlpjbhhamaaGK
import Derived.Test.YthnbmlpjbhhamaaGa
import Derived.Test.YthnbmlpjbhhamaaGb
import Derived.Test.YthnbmlpjbhhamaaGc
import Derived.Test.YthnbmlpjbhhamaaHb
import Derived.Test.YthnbmlpjbhhamaaHt
namespace Go.Proofs.Ythnbmlpjbhhamaa.J
open Go.RowKit Go.Proofs.YthnbmlpjbhhamaaW.PrintWords Go.Proofs.YthnbmlpjbhhamaaW.PrintLast Go.Proofs.YthnbmlpjbhhamaaW.PrintMore
attribute [local go_sem] max2_int min2_int max_two min_two max_three min_three max_four min_four   -- for this text's walks alone
set_option linter.unusedVariables false
set_option linter.unusedSimpArgs false

/-! ### hoggetlaw10_ClauseTidies: function 21 -/
mutual
noncomputable def hoggetlaw10_ClauseTidies.j0 : Nat → List Int → List Bool → Bool → Option (Bool)
  | 0, _, _, _ => none
  | k + 1, x0, x1, x19 => if x19 = true then (some true) else ((hoggetref10_Own.f x0).bind fun t885 => ((clause_Tidy.f x0).bind fun bt888 => ((hoggetref10_Tidy.f k t885).bind fun bt892 => (if bt888.2 = bt892.2 then ((hoggetref10_Ints.f k bt888.1 bt892.1).bind fun t896 => (if t896 = true then ((clause_Holds.f x0 x1).bind fun t897 => ((hoggetref10_Holds.f k t885 x1).bind fun t898 => (hoggetlaw10_ClauseTidies.j1 k x0 t885 bt888.1 (t897 == t898)))) else (hoggetlaw10_ClauseTidies.j1 k x0 t885 bt888.1 false))) else (hoggetlaw10_ClauseTidies.j1 k x0 t885 bt888.1 false)))))
noncomputable def hoggetlaw10_ClauseTidies.j1 : Nat → List Int → List Int → List Int → Bool → Option (Bool)
  | 0, _, _, _, _ => none
  | k + 1, x0, x5, x6, x10 => hoggetlaw10_ClauseTidies.l0 k x0 x5 x6 x10 0
noncomputable def hoggetlaw10_ClauseTidies.l0 : Nat → List Int → List Int → List Int → Bool → Int → Option (Bool)
  | 0, _, _, _, _, _ => none
  | k + 1, x0, x5, x6, x10, x11 => if x11 < (x6.length : Int) then (if 0 ≤ x11 then (hoggetlaw10_ClauseTidies.l0 k x0 x5 (x6.set (x11 : Int).toNat 77) x10 (wrap64 (x11 + 1))) else (none)) else ((hoggetlaw10_clauses.f k).bind fun t900 => (if t900 = true then (if x10 = true then ((hoggetref10_Ints.f k x0 x5).bind fun t901 => (some t901)) else (none)) else (none)))
end
noncomputable def hoggetlaw10_ClauseTidies.f (k : Nat) (l0 : List Int) (l1 : List Bool) : Option (Bool) := if (l0.length : Int) > 200 then (hoggetlaw10_ClauseTidies.j0 k l0 l1 true) else (hoggetlaw10_ClauseTidies.j0 k l0 l1 (decide ((l1.length : Int) > 200)))
theorem hoggetlaw10_ClauseTidies.mono_l : ∀ k, (∀ y0 y1 y2, LeO (hoggetlaw10_ClauseTidies.j0 k y0 y1 y2) (hoggetlaw10_ClauseTidies.j0 (k + 1) y0 y1 y2)) ∧ (∀ y0 y1 y2 y3, LeO (hoggetlaw10_ClauseTidies.j1 k y0 y1 y2 y3) (hoggetlaw10_ClauseTidies.j1 (k + 1) y0 y1 y2 y3)) ∧ (∀ y0 y1 y2 y3 y4, LeO (hoggetlaw10_ClauseTidies.l0 k y0 y1 y2 y3 y4) (hoggetlaw10_ClauseTidies.l0 (k + 1) y0 y1 y2 y3 y4))
  | 0 => ⟨fun _ _ _ r h => by simp [hoggetlaw10_ClauseTidies.j0] at h, fun _ _ _ _ r h => by simp [hoggetlaw10_ClauseTidies.j1] at h, fun _ _ _ _ _ r h => by simp [hoggetlaw10_ClauseTidies.l0] at h⟩
  | k + 1 => by
    obtain ⟨ih0, ih1, ih2⟩ := hoggetlaw10_ClauseTidies.mono_l k
    refine ⟨?_, ?_, ?_⟩
    · intro y0 y1 y2
      unfold hoggetlaw10_ClauseTidies.j0
      repeat' first
      | (with_reducible exact ih0 _ _ _)
      | (with_reducible exact ih1 _ _ _ _)
      | (with_reducible exact ih2 _ _ _ _ _)
      | (with_reducible exact hoggetlaw10_clauses.mono _)
      | (with_reducible exact hoggetref10_Holds.mono _ _ _)
      | (with_reducible exact hoggetref10_Ints.mono _ _ _)
      | (with_reducible exact hoggetref10_Tidy.mono _ _)
      | (with_reducible exact LeO.refl _)
      | (with_reducible exact LeO.none _)
      | (with_reducible refine LeO.ite ?_ ?_)
      | (with_reducible refine LeO.bind ?_ (fun _ => ?_))
      | exact ih0 _ _ _
      | exact ih1 _ _ _ _
      | exact ih2 _ _ _ _ _
      | exact hoggetlaw10_clauses.mono _
      | exact hoggetref10_Holds.mono _ _ _
      | exact hoggetref10_Ints.mono _ _ _
      | exact hoggetref10_Tidy.mono _ _
      | exact LeO.none _
      | refine LeO.ite ?_ ?_
      | refine LeO.bind ?_ (fun _ => ?_)
    · intro y0 y1 y2 y3
      unfold hoggetlaw10_ClauseTidies.j1
      repeat' first
      | (with_reducible exact ih0 _ _ _)
      | (with_reducible exact ih1 _ _ _ _)
      | (with_reducible exact ih2 _ _ _ _ _)
      | (with_reducible exact hoggetlaw10_clauses.mono _)
      | (with_reducible exact hoggetref10_Holds.mono _ _ _)
      | (with_reducible exact hoggetref10_Ints.mono _ _ _)
      | (with_reducible exact hoggetref10_Tidy.mono _ _)
      | (with_reducible exact LeO.refl _)
      | (with_reducible exact LeO.none _)
      | (with_reducible refine LeO.ite ?_ ?_)
      | (with_reducible refine LeO.bind ?_ (fun _ => ?_))
      | exact ih0 _ _ _
      | exact ih1 _ _ _ _
      | exact ih2 _ _ _ _ _
      | exact hoggetlaw10_clauses.mono _
      | exact hoggetref10_Holds.mono _ _ _
      | exact hoggetref10_Ints.mono _ _ _
      | exact hoggetref10_Tidy.mono _ _
      | exact LeO.none _
      | refine LeO.ite ?_ ?_
      | refine LeO.bind ?_ (fun _ => ?_)
    · intro y0 y1 y2 y3 y4
      unfold hoggetlaw10_ClauseTidies.l0
      repeat' first
      | (with_reducible exact ih0 _ _ _)
      | (with_reducible exact ih1 _ _ _ _)
      | (with_reducible exact ih2 _ _ _ _ _)
      | (with_reducible exact hoggetlaw10_clauses.mono _)
      | (with_reducible exact hoggetref10_Holds.mono _ _ _)
      | (with_reducible exact hoggetref10_Ints.mono _ _ _)
      | (with_reducible exact hoggetref10_Tidy.mono _ _)
      | (with_reducible exact LeO.refl _)
      | (with_reducible exact LeO.none _)
      | (with_reducible refine LeO.ite ?_ ?_)
      | (with_reducible refine LeO.bind ?_ (fun _ => ?_))
      | exact ih0 _ _ _
      | exact ih1 _ _ _ _
      | exact ih2 _ _ _ _ _
      | exact hoggetlaw10_clauses.mono _
      | exact hoggetref10_Holds.mono _ _ _
      | exact hoggetref10_Ints.mono _ _ _
      | exact hoggetref10_Tidy.mono _ _
      | exact LeO.none _
      | refine LeO.ite ?_ ?_
      | refine LeO.bind ?_ (fun _ => ?_)
theorem hoggetlaw10_ClauseTidies.mono : ∀ a0 a1 k, LeO (hoggetlaw10_ClauseTidies.f k a0 a1) (hoggetlaw10_ClauseTidies.f (k + 1) a0 a1) := by
  intro a0 a1 k
  obtain ⟨ih0, ih1, ih2⟩ := hoggetlaw10_ClauseTidies.mono_l k
  unfold hoggetlaw10_ClauseTidies.f
  repeat' first
      | (with_reducible exact ih0 _ _ _)
      | (with_reducible exact ih1 _ _ _ _)
      | (with_reducible exact ih2 _ _ _ _ _)
      | (with_reducible exact hoggetlaw10_clauses.mono _)
      | (with_reducible exact hoggetref10_Holds.mono _ _ _)
      | (with_reducible exact hoggetref10_Ints.mono _ _ _)
      | (with_reducible exact hoggetref10_Tidy.mono _ _)
      | (with_reducible exact LeO.refl _)
      | (with_reducible exact LeO.none _)
      | (with_reducible refine LeO.ite ?_ ?_)
      | (with_reducible refine LeO.bind ?_ (fun _ => ?_))
      | exact ih0 _ _ _
      | exact ih1 _ _ _ _
      | exact ih2 _ _ _ _ _
      | exact hoggetlaw10_clauses.mono _
      | exact hoggetref10_Holds.mono _ _ _
      | exact hoggetref10_Ints.mono _ _ _
      | exact hoggetref10_Tidy.mono _ _
      | exact LeO.none _
      | refine LeO.ite ?_ ?_
      | refine LeO.bind ?_ (fun _ => ?_)
set_option maxHeartbeats 8000000 in
set_option maxRecDepth 100000 in
theorem hoggetlaw10_ClauseTidies.calls (k : Nat) (A0 : Option Addr) (c0 : Nat) (l0 : List Int) (A1 : Option Addr) (c1 : Nat) (l1 : List Bool) (r : Bool) (w : World) (hr0 : Kd.C (Kd.int .i64) w A0 l0.length l0) (hc0 : l0.length ≤ c0) (hr1 : Kd.C Kd.bool w A1 l1.length l1) (hc1 : l1.length ≤ c1) (h : hoggetlaw10_ClauseTidies.f k l0 l1 = some r) :
    Calls Try.prog 21 #[.slice A0 l0.length c0, .slice A1 l1.length c1] w fun e w' => e = .returned (.bool r) ∧ Below w.heap.size w w' := by
  have HR0 := Aside0.mk hr0
  have HC0 := Aside0.mk hc0
  clear hr0 hc0
  have HR1 := Aside0.mk hr1
  have HC1 := Aside0.mk hc1
  clear hr1 hc1
  have HB := Aside0.mk (Below.refl w.heap.size w)
  have H : (if (l0.length : Int) > 200 then (hoggetlaw10_ClauseTidies.j0 k l0 l1 true) else (hoggetlaw10_ClauseTidies.j0 k l0 l1 (decide ((l1.length : Int) > 200)))) = some r := h
  clear h
  have HC3 := Aside0.mk H
  clear H
  go_enter Try.func21, Try.ntmps21
  go_upto_region 1 with (fail)
  go_cut [19] (fun v19 wc => ∃ (kq : Nat) (x19_2 : Bool), v19 = .bool x19_2 ∧ Aside0 (hoggetlaw10_ClauseTidies.j0 kq l0 l1 x19_2 = some r) ∧ Aside0 (kq ≤ k) ∧ Aside0 (Below w.heap.size w wc))
  case first =>
    have H := HC3.out
    clear HC3
    by_cases c4 : (l0.length : Int) > 200
    · rw [if_pos c4] at H
      have c4b0 : decide (200 < (l0.length : Int)) = true := decide_eq_true c4
      have c4b1 : decide (200 < l0.length) = true := decide_eq_true (by omega)
      clear c4
      (first | rw [c4b0] | (simp only [i64_w, i32_w]; rw [c4b0]) | skip)
      have H' := Aside0.mk H
      clear H
      go_wp2
      go_meet
      case rel => exact ⟨_, (true), (by first | rfl | (simp; done) | (simp [*]; done)), H', ⟨by first | omega | exact Nat.le_refl _⟩, ⟨by repeat (first | (with_reducible first | exact HB.out | apply below_alloc | apply pw_below_drewN | apply below_drew1) | exact HB.out)⟩⟩
    · rw [if_neg c4] at H
      have c4b0 : decide (200 < (l0.length : Int)) = false := decide_eq_false c4
      have c4b1 : decide (200 < l0.length) = false := decide_eq_false (by omega)
      clear c4
      (first | rw [c4b0] | (simp only [i64_w, i32_w]; rw [c4b0]) | skip)
      have H' := Aside0.mk H
      clear H
      go_wp2
      go_meet
      case rel => exact ⟨_, (decide ((l1.length : Int) > 200)), (by first | rfl | (simp; done) | (simp [*]; done)), H', ⟨by first | omega | exact Nat.le_refl _⟩, ⟨by repeat (first | (with_reducible first | exact HB.out | apply below_alloc | apply pw_below_drewN | apply below_drew1) | exact HB.out)⟩⟩
  case rest =>
    clear HC3
    try clear c1
    try clear c2
    try clear p2
    try clear c4
    try clear c4b0
    try clear c4b1
    obtain ⟨kq, x19_2, rfl, HA, HJ2, HB⟩ := hcut
    cases kq with
    | zero => exact absurd HA.out (by simp [hoggetlaw10_ClauseTidies.j0])
    | succ kj2 =>
      have H := HA.out
      clear HA
      simp only [hoggetlaw10_ClauseTidies.j0] at H
      by_cases c5 : x19_2 = true
      · subst c5
        have H1 : (some true) = some r := by rw [if_pos rfl] at H; exact H
        clear H
        have H := H1
        clear H1
        obtain rfl := Option.some.inj H
        go_wp2
        go_ret
        exact ⟨by first | rfl | (simp [errW_none, errW_some] <;> rfl) | (simp [*, errW_none, errW_some] <;> rfl), by repeat (first | (with_reducible first | exact HB.out | apply below_alloc | apply pw_below_drewN | apply below_drew1) | exact HB.out)⟩
      · replace c5 := Bool.eq_false_iff.mpr c5
        subst c5
        have H1 : ((hoggetref10_Own.f l0).bind fun t885 => ((clause_Tidy.f l0).bind fun bt888 => ((hoggetref10_Tidy.f kj2 t885).bind fun bt892 => (if bt888.2 = bt892.2 then ((hoggetref10_Ints.f kj2 bt888.1 bt892.1).bind fun t896 => (if t896 = true then ((clause_Holds.f l0 l1).bind fun t897 => ((hoggetref10_Holds.f kj2 t885 l1).bind fun t898 => (hoggetlaw10_ClauseTidies.j1 kj2 l0 t885 bt888.1 (t897 == t898)))) else (hoggetlaw10_ClauseTidies.j1 kj2 l0 t885 bt888.1 false))) else (hoggetlaw10_ClauseTidies.j1 kj2 l0 t885 bt888.1 false))))) = some r := by rw [if_neg (show ¬ (false = true) by decide)] at H; exact H
        clear H
        have H := H1
        clear H1
        replace H := Option.bind_eq_some_iff.mp H
        obtain ⟨t885, A60, H⟩ := H
        replace H : ((clause_Tidy.f l0).bind fun bt888 => ((hoggetref10_Tidy.f kj2 t885).bind fun bt892 => (if bt888.2 = bt892.2 then ((hoggetref10_Ints.f kj2 bt888.1 bt892.1).bind fun t896 => (if t896 = true then ((clause_Holds.f l0 l1).bind fun t897 => ((hoggetref10_Holds.f kj2 t885 l1).bind fun t898 => (hoggetlaw10_ClauseTidies.j1 kj2 l0 t885 bt888.1 (t897 == t898)))) else (hoggetlaw10_ClauseTidies.j1 kj2 l0 t885 bt888.1 false))) else (hoggetlaw10_ClauseTidies.j1 kj2 l0 t885 bt888.1 false)))) = some r := H
        have A6 := Aside0.mk A60
        clear A60
        replace H := Option.bind_eq_some_iff.mp H
        obtain ⟨⟨t888, t889⟩, A70, H⟩ := H
        replace H : ((hoggetref10_Tidy.f kj2 t885).bind fun bt892 => (if t889 = bt892.2 then ((hoggetref10_Ints.f kj2 t888 bt892.1).bind fun t896 => (if t896 = true then ((clause_Holds.f l0 l1).bind fun t897 => ((hoggetref10_Holds.f kj2 t885 l1).bind fun t898 => (hoggetlaw10_ClauseTidies.j1 kj2 l0 t885 t888 (t897 == t898)))) else (hoggetlaw10_ClauseTidies.j1 kj2 l0 t885 t888 false))) else (hoggetlaw10_ClauseTidies.j1 kj2 l0 t885 t888 false))) = some r := H
        have A7 := Aside0.mk A70
        clear A70
        replace H := Option.bind_eq_some_iff.mp H
        obtain ⟨⟨t892, t893⟩, A80, H⟩ := H
        replace H : (if t889 = t893 then ((hoggetref10_Ints.f kj2 t888 t892).bind fun t896 => (if t896 = true then ((clause_Holds.f l0 l1).bind fun t897 => ((hoggetref10_Holds.f kj2 t885 l1).bind fun t898 => (hoggetlaw10_ClauseTidies.j1 kj2 l0 t885 t888 (t897 == t898)))) else (hoggetlaw10_ClauseTidies.j1 kj2 l0 t885 t888 false))) else (hoggetlaw10_ClauseTidies.j1 kj2 l0 t885 t888 false)) = some r := H
        have A8 := Aside0.mk A80
        clear A80
        have HC9 := Aside0.mk H
        clear H
        go_upto_region 6 with (first | ((with_reducible refine gate_callee (f := 34) rfl ?_); refine goesL_ (some 21) rfl rfl Try.func34 (by kernel_rfl) rfl #[.slice A0 l0.length c0] rfl (by (try simp only [List.map_toArray, List.map_cons, List.map_nil]); first | done | rfl | (simp only [List.length_drop, List.length_take]; rfl)) ?_; (with_reducible refine (hoggetref10_Own.calls _ _ l0 t885 _ ?side1 ?side2 A6.out).mono ?_); (case side1 => repeat (first | exact (Kd.C_below HR0.out HB.out) | (with_reducible refine Kd.C_alloc ?_ _) | (with_reducible refine Kd.C_drewN ?_ _) | (with_reducible refine Kd.C_drew ?_))); (case side2 => exact HC0.out); rintro e w10 ⟨v886, rfl, ho0, hb⟩; refine ⟨_, rfl, ?_⟩; have n0_ := Aside0.mk (Kd.R_lower ho0 (below_size (by repeat (first | (with_reducible first | exact HB.out | apply below_alloc | apply pw_below_drewN | apply below_drew1) | exact HB.out)))); have n1_ := Aside0.mk (below_step (by repeat (first | (with_reducible first | exact HB.out | apply below_alloc | apply pw_below_drewN | apply below_drew1) | exact HB.out)) hb); clear HB; have HO887 := n0_; have HB := n1_; clear n0_ n1_; (try clear hb); (try clear hb2); (try clear hk); (try clear hi); (try clear ho0)) | ((with_reducible refine gate_callee (f := 65) rfl ?_); refine goesL_ (some 24) rfl rfl Try.func65 (by kernel_rfl) rfl #[.slice A0 l0.length c0] rfl (by (try simp only [List.map_toArray, List.map_cons, List.map_nil]); first | done | rfl | (simp only [List.length_drop, List.length_take]; rfl)) ?_; (with_reducible refine (clause_Tidy.calls _ _ l0 t888 t889 _ ?side1 ?side2 A7.out).mono ?_); (case side1 => repeat (first | exact (Kd.C_below HR0.out HB.out) | (with_reducible refine Kd.C_alloc ?_ _) | (with_reducible refine Kd.C_drewN ?_ _) | (with_reducible refine Kd.C_drew ?_))); (case side2 => exact HC0.out); rintro e w11 ⟨v890, rfl, ho0, hb⟩; refine ⟨_, rfl, ?_⟩; have n0_ := Aside0.mk (Kd.R_elder' (by (with_reducible repeat (first | apply Kd.R_alloc | apply Kd.R_drewN | apply Kd.R_drew)); exact HO887.out) (Kd.R_base ho0) hb); have n1_ := Aside0.mk (Kd.R_lower (Kd.R_new' ho0 (Kd.R_lt (by (with_reducible repeat (first | apply Kd.R_alloc | apply Kd.R_drewN | apply Kd.R_drew)); exact HO887.out))) (below_size (by repeat (first | (with_reducible first | exact HB.out | apply below_alloc | apply pw_below_drewN | apply below_drew1) | exact HB.out)))); have n2_ := Aside0.mk (below_step (by repeat (first | (with_reducible first | exact HB.out | apply below_alloc | apply pw_below_drewN | apply below_drew1) | exact HB.out)) hb); clear HO887; clear HB; have HO887 := n0_; have HO891 := n1_; have HB := n2_; clear n0_ n1_ n2_; (try clear hb); (try clear hb2); (try clear hk); (try clear hi); (try clear ho0); obtain ⟨Ao12, co12, eo12⟩ := Kd.R_slice HO887.out; subst eo12) | ((with_reducible refine gate_callee (f := 66) rfl ?_); refine goesL_ (some 29) rfl rfl Try.func66 (by kernel_rfl) rfl #[.slice Ao12 t885.length co12] rfl (by (try simp only [List.map_toArray, List.map_cons, List.map_nil]); first | done | rfl | (simp only [List.length_drop, List.length_take]; rfl)) ?_; (with_reducible refine (hoggetref10_Tidy.calls kj2 _ _ t885 t892 t893 _ ?side1 ?side2 A8.out).mono ?_); (case side1 => repeat (first | exact (Kd.R_reads' HO887.out).2.2 | (with_reducible refine Kd.C_alloc ?_ _) | (with_reducible refine Kd.C_drewN ?_ _) | (with_reducible refine Kd.C_drew ?_))); (case side2 => exact (Kd.R_reads' HO887.out).2.1); rintro e w13 ⟨v894, rfl, ho0, hb⟩; refine ⟨_, rfl, ?_⟩; have n0_ := Aside0.mk (Kd.R_elder' (by (with_reducible repeat (first | apply Kd.R_alloc | apply Kd.R_drewN | apply Kd.R_drew)); exact HO887.out) (Kd.R_base ho0) hb); have n1_ := Aside0.mk (Kd.R_elder' (by (with_reducible repeat (first | apply Kd.R_alloc | apply Kd.R_drewN | apply Kd.R_drew)); exact HO891.out) (Kd.R_base ho0) hb); have n2_ := Aside0.mk (Kd.R_lower (Kd.R_new' (Kd.R_new' ho0 (Kd.R_lt (by (with_reducible repeat (first | apply Kd.R_alloc | apply Kd.R_drewN | apply Kd.R_drew)); exact HO887.out))) (Kd.R_lt (by (with_reducible repeat (first | apply Kd.R_alloc | apply Kd.R_drewN | apply Kd.R_drew)); exact HO891.out))) (below_size (by repeat (first | (with_reducible first | exact HB.out | apply below_alloc | apply pw_below_drewN | apply below_drew1) | exact HB.out)))); have n3_ := Aside0.mk (below_step (by repeat (first | (with_reducible first | exact HB.out | apply below_alloc | apply pw_below_drewN | apply below_drew1) | exact HB.out)) hb); clear HO887; clear HO891; clear HB; have HO887 := n0_; have HO891 := n1_; have HO895 := n2_; have HB := n3_; clear n0_ n1_ n2_ n3_; (try clear hb); (try clear hb2); (try clear hk); (try clear hi); (try clear ho0)))
        (try simp only [Act.put, List.setIfInBounds_toArray, List.set_cons_zero, List.set_cons_succ])
        go_cut [10] (fun v10 wc => ∃ (kq : Nat) (x10_8 : Bool), v10 = .bool x10_8 ∧ Aside0 (hoggetlaw10_ClauseTidies.j1 kq l0 t885 t888 x10_8 = some r) ∧ Aside0 (kq ≤ kj2) ∧ Aside0 (Kd.R (Kd.int .i64) 3 wc w.heap.size (fun k_ => some k_ ≠ (v890 : Value).ownBlock) (.slice Ao12 t885.length co12) t885) ∧ Aside0 (Kd.R (Kd.int .i64) 3 wc w.heap.size (fun k_ => some k_ ≠ ((.slice Ao12 t885.length co12) : Value).ownBlock) v890 t888) ∧ Aside0 (Below w.heap.size w wc))
        case first =>
          have H := HC9.out
          clear HC9
          by_cases c14 : t889 = t893
          · rw [if_pos c14] at H
            have c14b0 : (t889 == t893) = true := beq_iff_eq.mpr c14
            have c14b1 : (t889 != t893) = false := bne_eq_false_iff_eq.mpr c14
            clear c14
            (first | rw [c14b0] | (simp only [i64_w, i32_w]; rw [c14b0]) | skip)
            replace H := Option.bind_eq_some_iff.mp H
            obtain ⟨t896, A150, H⟩ := H
            replace H : (if t896 = true then ((clause_Holds.f l0 l1).bind fun t897 => ((hoggetref10_Holds.f kj2 t885 l1).bind fun t898 => (hoggetlaw10_ClauseTidies.j1 kj2 l0 t885 t888 (t897 == t898)))) else (hoggetlaw10_ClauseTidies.j1 kj2 l0 t885 t888 false)) = some r := H
            have A15 := Aside0.mk A150
            clear A150
            by_cases c16 : t896 = true
            · subst c16
              have H1 : ((clause_Holds.f l0 l1).bind fun t897 => ((hoggetref10_Holds.f kj2 t885 l1).bind fun t898 => (hoggetlaw10_ClauseTidies.j1 kj2 l0 t885 t888 (t897 == t898)))) = some r := by rw [if_pos rfl] at H; exact H
              clear H
              have H := H1
              clear H1
              replace H := Option.bind_eq_some_iff.mp H
              obtain ⟨t897, A170, H⟩ := H
              replace H : ((hoggetref10_Holds.f kj2 t885 l1).bind fun t898 => (hoggetlaw10_ClauseTidies.j1 kj2 l0 t885 t888 (t897 == t898))) = some r := H
              have A17 := Aside0.mk A170
              clear A170
              replace H := Option.bind_eq_some_iff.mp H
              obtain ⟨t898, A180, H⟩ := H
              replace H : (hoggetlaw10_ClauseTidies.j1 kj2 l0 t885 t888 (t897 == t898)) = some r := H
              have A18 := Aside0.mk A180
              clear A180
              have H' := Aside0.mk H
              clear H
              obtain ⟨Ao19, co19, eo19⟩ := Kd.R_slice HO891.out
              subst eo19
              obtain ⟨Ao20, co20, eo20⟩ := Kd.R_slice HO895.out
              subst eo20
              go_wp2_with (first | (go_at_call 38; (with_reducible refine (hoggetref10_Ints.calls kj2 _ _ t888 _ _ t892 true _ ?side1 ?side2 ?side3 ?side4 A15.out).mono ?_); (case side1 => repeat (first | exact (Kd.R_reads' HO891.out).2.2 | (with_reducible refine Kd.C_alloc ?_ _) | (with_reducible refine Kd.C_drewN ?_ _) | (with_reducible refine Kd.C_drew ?_))); (case side2 => exact (Kd.R_reads' HO891.out).2.1); (case side3 => repeat (first | exact (Kd.R_reads' HO895.out).2.2 | (with_reducible refine Kd.C_alloc ?_ _) | (with_reducible refine Kd.C_drewN ?_ _) | (with_reducible refine Kd.C_drew ?_))); (case side4 => exact (Kd.R_reads' HO895.out).2.1); rintro e w' ⟨rfl, ⟨nd, rfl⟩⟩) | (go_at_call 45; (with_reducible refine (clause_Holds.calls _ _ l0 _ _ l1 t897 _ ?side1 ?side2 ?side3 ?side4 A17.out).mono ?_); (case side1 => repeat (first | exact (Kd.C_below HR0.out (by repeat (first | (with_reducible first | exact HB.out | apply below_alloc | apply pw_below_drewN | apply below_drew1) | exact HB.out))) | (with_reducible refine Kd.C_alloc ?_ _) | (with_reducible refine Kd.C_drewN ?_ _) | (with_reducible refine Kd.C_drew ?_))); (case side2 => exact HC0.out); (case side3 => repeat (first | exact (Kd.C_below HR1.out (by repeat (first | (with_reducible first | exact HB.out | apply below_alloc | apply pw_below_drewN | apply below_drew1) | exact HB.out))) | (with_reducible refine Kd.C_alloc ?_ _) | (with_reducible refine Kd.C_drewN ?_ _) | (with_reducible refine Kd.C_drew ?_))); (case side4 => exact HC1.out); rintro e w21 ⟨rfl, hb⟩; have n0_ := Aside0.mk (Kd.R_below (by (with_reducible repeat (first | apply Kd.R_alloc | apply Kd.R_drewN | apply Kd.R_drew)); exact HO887.out) hb); have n1_ := Aside0.mk (Kd.R_below (by (with_reducible repeat (first | apply Kd.R_alloc | apply Kd.R_drewN | apply Kd.R_drew)); exact HO891.out) hb); have n2_ := Aside0.mk (Kd.R_below (by (with_reducible repeat (first | apply Kd.R_alloc | apply Kd.R_drewN | apply Kd.R_drew)); exact HO895.out) hb); have n3_ := Aside0.mk (below_step (by repeat (first | (with_reducible first | exact HB.out | apply below_alloc | apply pw_below_drewN | apply below_drew1) | exact HB.out)) hb); clear HO887; clear HO891; clear HO895; clear HB; have HO887 := n0_; have HO891 := n1_; have HO895 := n2_; have HB := n3_; clear n0_ n1_ n2_ n3_; (try clear hb); (try clear hb2); (try clear hk); (try clear hi)) | (go_at_call 67; (with_reducible refine (hoggetref10_Holds.calls kj2 _ _ t885 _ _ l1 t898 _ ?side1 ?side2 ?side3 ?side4 A18.out).mono ?_); (case side1 => repeat (first | exact (Kd.R_reads' HO887.out).2.2 | (with_reducible refine Kd.C_alloc ?_ _) | (with_reducible refine Kd.C_drewN ?_ _) | (with_reducible refine Kd.C_drew ?_))); (case side2 => exact (Kd.R_reads' HO887.out).2.1); (case side3 => repeat (first | exact (Kd.C_below HR1.out HB.out) | (with_reducible refine Kd.C_alloc ?_ _) | (with_reducible refine Kd.C_drewN ?_ _) | (with_reducible refine Kd.C_drew ?_))); (case side4 => exact HC1.out); rintro e w' ⟨rfl, ⟨nd, rfl⟩⟩))
              go_meet
              case rel => exact ⟨_, ((t897 == t898)), (by first | rfl | (simp; done) | (simp [*]; done)), H', ⟨by have := HJ2.out; first | omega | exact Nat.le_refl _⟩, ⟨by (with_reducible repeat (first | apply Kd.R_alloc | apply Kd.R_drewN | apply Kd.R_drew)); exact Kd.R_mono HO887.out (fun _ hk => hk.1.2)⟩, ⟨by (with_reducible repeat (first | apply Kd.R_alloc | apply Kd.R_drewN | apply Kd.R_drew)); exact Kd.R_mono HO891.out (fun _ hk => hk.1.2)⟩, ⟨by repeat (first | (with_reducible first | exact HB.out | apply below_alloc | apply pw_below_drewN | apply below_drew1) | exact HB.out)⟩⟩
            · replace c16 := Bool.eq_false_iff.mpr c16
              subst c16
              have H1 : (hoggetlaw10_ClauseTidies.j1 kj2 l0 t885 t888 false) = some r := by rw [if_neg (show ¬ (false = true) by decide)] at H; exact H
              clear H
              have H := H1
              clear H1
              have H' := Aside0.mk H
              clear H
              obtain ⟨Ao22, co22, eo22⟩ := Kd.R_slice HO891.out
              subst eo22
              obtain ⟨Ao23, co23, eo23⟩ := Kd.R_slice HO895.out
              subst eo23
              go_wp2_with (first | (go_at_call 38; (with_reducible refine (hoggetref10_Ints.calls kj2 _ _ t888 _ _ t892 false _ ?side1 ?side2 ?side3 ?side4 A15.out).mono ?_); (case side1 => repeat (first | exact (Kd.R_reads' HO891.out).2.2 | (with_reducible refine Kd.C_alloc ?_ _) | (with_reducible refine Kd.C_drewN ?_ _) | (with_reducible refine Kd.C_drew ?_))); (case side2 => exact (Kd.R_reads' HO891.out).2.1); (case side3 => repeat (first | exact (Kd.R_reads' HO895.out).2.2 | (with_reducible refine Kd.C_alloc ?_ _) | (with_reducible refine Kd.C_drewN ?_ _) | (with_reducible refine Kd.C_drew ?_))); (case side4 => exact (Kd.R_reads' HO895.out).2.1); rintro e w' ⟨rfl, ⟨nd, rfl⟩⟩))
              go_meet
              case rel => exact ⟨_, (false), (by first | rfl | (simp; done) | (simp [*]; done)), H', ⟨by have := HJ2.out; first | omega | exact Nat.le_refl _⟩, ⟨by (with_reducible repeat (first | apply Kd.R_alloc | apply Kd.R_drewN | apply Kd.R_drew)); exact Kd.R_mono HO887.out (fun _ hk => hk.1.2)⟩, ⟨by (with_reducible repeat (first | apply Kd.R_alloc | apply Kd.R_drewN | apply Kd.R_drew)); exact Kd.R_mono HO891.out (fun _ hk => hk.1.2)⟩, ⟨by repeat (first | (with_reducible first | exact HB.out | apply below_alloc | apply pw_below_drewN | apply below_drew1) | exact HB.out)⟩⟩
          · rw [if_neg c14] at H
            have c14b0 : (t889 == t893) = false := beq_eq_false_iff_ne.mpr c14
            have c14b1 : (t889 != t893) = true := bne_iff_ne.mpr c14
            (first | rw [c14b0] | (simp only [i64_w, i32_w]; rw [c14b0]) | skip)
            have H' := Aside0.mk H
            clear H
            go_wp2
            go_meet
            case rel => exact ⟨_, (false), (by first | rfl | (simp; done) | (simp [*]; done)), H', ⟨by have := HJ2.out; first | omega | exact Nat.le_refl _⟩, ⟨by (with_reducible repeat (first | apply Kd.R_alloc | apply Kd.R_drewN | apply Kd.R_drew)); exact Kd.R_mono HO887.out (fun _ hk => hk.1.2)⟩, ⟨by (with_reducible repeat (first | apply Kd.R_alloc | apply Kd.R_drewN | apply Kd.R_drew)); exact Kd.R_mono HO891.out (fun _ hk => hk.1.2)⟩, ⟨by repeat (first | (with_reducible first | exact HB.out | apply below_alloc | apply pw_below_drewN | apply below_drew1) | exact HB.out)⟩⟩
        case rest =>
          clear HC9
          try clear c1
          try clear c2
          try clear p2
          try clear c3
          try clear c4
          try clear c4b0
          try clear c4b1
          try clear c5
          try clear c6
          try clear c14
          try clear c14b0
          try clear c14b1
          try clear c16
          try clear c21
          try clear p2
          obtain ⟨kq, x10_8, rfl, HA, HJ8, HO_5, HO_6, HB⟩ := hcut
          cases kq with
          | zero => exact absurd HA.out (by simp [hoggetlaw10_ClauseTidies.j1])
          | succ kj8 =>
            have H := HA.out
            clear HA
            simp only [hoggetlaw10_ClauseTidies.j1] at H
            have H' := Aside0.mk H
            clear H
            go_wp2
            go_loopg [11] kj8 (fun kq v11 w' => ∃ (x6_3 : List Int) (x11_3 : Int), v11 = .int .i64 x11_3 ∧ Aside0 (hoggetlaw10_ClauseTidies.l0 kq l0 t885 x6_3 x10_8 x11_3 = some r) ∧ Aside0 (kq ≤ kj8) ∧ Aside0 (Kd.R (Kd.int .i64) 3 w' w.heap.size (fun k_ => some k_ ≠ (v890 : Value).ownBlock) (.slice Ao12 t885.length co12) t885) ∧ Aside0 (Kd.R (Kd.int .i64) 3 w' w.heap.size (fun k_ => some k_ ≠ ((.slice Ao12 t885.length co12) : Value).ownBlock) v890 x6_3) ∧ Aside0 (Below w.heap.size w w'))
            case atStart => exact ⟨(t888), (0), (by first | rfl | (simp; done) | (simp [*]; done)), H', ⟨Nat.le_refl _⟩, ⟨by (with_reducible repeat (first | apply Kd.R_alloc | apply Kd.R_drewN | apply Kd.R_drew)); exact HO_5.out⟩, ⟨by (with_reducible repeat (first | apply Kd.R_alloc | apply Kd.R_drewN | apply Kd.R_drew)); exact HO_6.out⟩, ⟨by repeat (first | (with_reducible first | exact HB.out | apply below_alloc | apply pw_below_drewN | apply below_drew1) | exact HB.out)⟩⟩
            case round =>
              clear H'
              try clear c1
              try clear c2
              try clear p2
              try clear c3
              try clear c4
              try clear c4b0
              try clear c4b1
              try clear c5
              try clear c6
              try clear c14
              try clear c14b0
              try clear c14b1
              try clear c16
              try clear c21
              try clear p2
              obtain ⟨x6_3, x11_3, rfl, HA, HK3, HO_5, HO_6, HB⟩ := hrel
              cases gk with
              | zero => exact absurd HA.out (by simp [hoggetlaw10_ClauseTidies.l0])
              | succ k3 =>
                have H := HA.out
                clear HA
                simp only [hoggetlaw10_ClauseTidies.l0] at H
                by_cases c24 : x11_3 < (x6_3.length : Int)
                · rw [if_pos c24] at H
                  have c24b0 : decide (x11_3 < (x6_3.length : Int)) = true := decide_eq_true c24
                  clear c24
                  by_cases c25 : 0 ≤ x11_3
                  · rw [if_pos c25] at H
                    have c25b0 : decide (0 ≤ x11_3) = true := decide_eq_true c25
                    clear c25
                    obtain ⟨y899, hy899⟩ : ∃ y_ : List Int, y_ = (x6_3.set (x11_3 : Int).toNat 77) := ⟨_, rfl⟩
                    replace H : (hoggetlaw10_ClauseTidies.l0 k3 l0 t885 y899 x10_8 (wrap64 (x11_3 + 1))) = some r := by first | (rw [hy899]; with_reducible exact H) | (have H2_ := (Option.bind_some _ _).symm.trans H; rw [hy899]; with_reducible exact H2_) | (have H2_ := (Option.bind_some _ _).symm.trans H; with_reducible exact H2_) | with_reducible exact H | (rw [hy899]; exact H) | exact H
                    have Ny899 := Aside0.mk hy899
                    clear hy899
                    have H' := Aside0.mk H
                    clear H
                    obtain ⟨Ao27, co27, eo27⟩ := Kd.R_slice HO_6.out
                    subst eo27
                    have p26 : 0 ≤ (x11_3 : Int) := of_decide_eq_true (by first | (with_reducible assumption) | assumption)
                    have q26 : (x11_3 : Int) < ((x6_3.length : Int) : Int) := of_decide_eq_true (by first | (with_reducible assumption) | assumption)
                    obtain ⟨go26, co26, eo26, gb26, gl26, cl26, HG26⟩ := Kd.R_form HO_6.out (by omega)
                    (first | cases eo26 | (injection eo26 with ea_ en_ ec_; (first | subst ea_ | (injection ea_ with ea_; subst ea_)); subst ec_; clear en_))
                    have GB26 := Aside0.mk gb26
                    have GG26 := Aside0.mk HG26
                    clear gb26 gl26 HG26
                    obtain ⟨hx26_0, hf26_0⟩ := Kd.R_celln 0 HO_6.out (x11_3 : Int) p26 q26
                    replace p26 := eq_true p26
                    replace q26 := eq_true q26
                    have HP28 := Kd.R_putg HO_6.out (x11_3 : Int) 77
                    go_wp2_with (first | ((with_reducible refine gate_store (t := 3) (p := 57) rfl ?_); refine store_event (t := 3) (p := 57) (v := ?vo_w29) (w1 := (wr.setCell ⟨go26, (x11_3 : Int).toNat, none⟩ (.int .i64 77))) ?hg ?ho ?hn ?hr ?_; (case ho => rfl); (case hg => rfl); (case hn => rfl); (case hr => first | (go_simp; done) | (go_simp; rfl)); intro w29 hw; have hg : wr.grownBy w29 (some go26) := (by rw [hw]; exact HP28.2); have hp_ : Kd.R (Kd.int .i64) 3 w29 w.heap.size (fun k_ => some k_ ≠ (.slice Ao12 t885.length co12 : Value).ownBlock) (.slice (some ⟨go26, 0, none⟩) x6_3.length co27) y899 := (by rw [hw, Ny899.out]; exact HP28.1); clear HP28; have n0_ := Aside0.mk (Kd.R_after (v := (.slice (some ⟨go26, 0, none⟩) x6_3.length co27)) (v1 := (.slice (some ⟨go26, 0, none⟩) x6_3.length co27)) (ok := (fun _ => True)) (by (with_reducible repeat (first | apply Kd.R_alloc | apply Kd.R_drewN | apply Kd.R_drew)); exact Kd.R_mono HO_5.out (fun _ hk => ⟨trivial, hk⟩)) hg (.inl rfl)); have n1_ := Aside0.mk (hp_); have n2_ := Aside0.mk ((by rw [hw]; exact below_set (HB.out) GB26.out : Below w.heap.size w w29)); clear HO_5; clear HO_6; clear HB; have HO_5 := n0_; have HO_6 := n1_; have HB := n2_; clear n0_ n1_ n2_; clear hg hw hp_))
                    go_roundg k3
                    case measure => have := HJ2.out; have := HJ8.out; have := HK3.out; omega
                    case rel => exact ⟨(y899), (wrap64 (x11_3 + 1)), (by first | rfl | (simp; done) | (simp [*]; done)), H', ⟨by have := HJ2.out; have := HJ8.out; have := HK3.out; omega⟩, ⟨by (with_reducible repeat (first | apply Kd.R_alloc | apply Kd.R_drewN | apply Kd.R_drew)); exact Kd.R_mono HO_5.out (fun _ hk => hk.2)⟩, ⟨by (with_reducible repeat (first | apply Kd.R_alloc | apply Kd.R_drewN | apply Kd.R_drew)); exact HO_6.out⟩, ⟨by repeat (first | (with_reducible first | exact HB.out | apply below_alloc | apply pw_below_drewN | apply below_drew1) | exact HB.out)⟩⟩
                  · rw [if_neg c25] at H
                    exact absurd H (by simp)
                · rw [if_neg c24] at H
                  have c24b0 : decide (x11_3 < (x6_3.length : Int)) = false := decide_eq_false c24
                  clear c24
                  replace H := Option.bind_eq_some_iff.mp H
                  obtain ⟨t900, A300, H⟩ := H
                  replace H : (if t900 = true then (if x10_8 = true then ((hoggetref10_Ints.f k3 l0 t885).bind fun t901 => (some t901)) else (none)) else (none)) = some r := H
                  have A30 := Aside0.mk A300
                  clear A300
                  by_cases c31 : t900 = true
                  · subst c31
                    have H1 : (if x10_8 = true then ((hoggetref10_Ints.f k3 l0 t885).bind fun t901 => (some t901)) else (none)) = some r := by rw [if_pos rfl] at H; exact H
                    clear H
                    have H := H1
                    clear H1
                    by_cases c32 : x10_8 = true
                    · subst c32
                      have H1 : ((hoggetref10_Ints.f k3 l0 t885).bind fun t901 => (some t901)) = some r := by rw [if_pos rfl] at H; exact H
                      clear H
                      have H := H1
                      clear H1
                      replace H := Option.bind_eq_some_iff.mp H
                      obtain ⟨t901, A330, H⟩ := H
                      replace H : (some t901) = some r := H
                      have A33 := Aside0.mk A330
                      clear A330
                      obtain rfl := Option.some.inj H
                      obtain ⟨Ao34, co34, eo34⟩ := Kd.R_slice HO_6.out
                      subst eo34
                      go_wp2_with (first | ((with_reducible refine gate_callee (f := 62) rfl ?_); refine goesL_ (some 58) rfl rfl Try.func62 (by kernel_rfl) rfl #[] rfl (by (try simp only [List.map_toArray, List.map_cons, List.map_nil]); first | done | rfl | (simp only [List.length_drop, List.length_take]; rfl)) ?_; (with_reducible refine (hoggetlaw10_clauses.calls k3  true _ A30.out).mono ?_); rintro e w35 ⟨rfl, hb⟩; refine ⟨_, rfl, ?_⟩; have n0_ := Aside0.mk (Kd.R_below (by (with_reducible repeat (first | apply Kd.R_alloc | apply Kd.R_drewN | apply Kd.R_drew)); exact HO_5.out) hb); have n1_ := Aside0.mk (Kd.R_below (by (with_reducible repeat (first | apply Kd.R_alloc | apply Kd.R_drewN | apply Kd.R_drew)); exact HO_6.out) hb); have n2_ := Aside0.mk (below_step (by repeat (first | (with_reducible first | exact HB.out | apply below_alloc | apply pw_below_drewN | apply below_drew1) | exact HB.out)) hb); clear HO_5; clear HO_6; clear HB; have HO_5 := n0_; have HO_6 := n1_; have HB := n2_; clear n0_ n1_ n2_; (try clear hb); (try clear hb2); (try clear hk); (try clear hi)) | (go_at_call 38; (with_reducible refine (hoggetref10_Ints.calls k3 _ _ l0 _ _ t885 t901 _ ?side1 ?side2 ?side3 ?side4 A33.out).mono ?_); (case side1 => repeat (first | exact (Kd.C_below HR0.out HB.out) | (with_reducible refine Kd.C_alloc ?_ _) | (with_reducible refine Kd.C_drewN ?_ _) | (with_reducible refine Kd.C_drew ?_))); (case side2 => exact HC0.out); (case side3 => repeat (first | exact (Kd.R_reads' HO_5.out).2.2 | (with_reducible refine Kd.C_alloc ?_ _) | (with_reducible refine Kd.C_drewN ?_ _) | (with_reducible refine Kd.C_drew ?_))); (case side4 => exact (Kd.R_reads' HO_5.out).2.1); rintro e w' ⟨rfl, ⟨nd, rfl⟩⟩))
                      go_ret
                      exact ⟨by first | rfl | (simp [errW_none, errW_some] <;> rfl) | (simp [*, errW_none, errW_some] <;> rfl), by repeat (first | (with_reducible first | exact HB.out | apply below_alloc | apply pw_below_drewN | apply below_drew1) | exact HB.out)⟩
                    · replace c32 := Bool.eq_false_iff.mpr c32
                      subst c32
                      have H1 : (none) = some r := by rw [if_neg (show ¬ (false = true) by decide)] at H; exact H
                      clear H
                      have H := H1
                      clear H1
                      cases H
                  · replace c31 := Bool.eq_false_iff.mpr c31
                    subst c31
                    have H1 : (none) = some r := by rw [if_neg (show ¬ (false = true) by decide)] at H; exact H
                    clear H
                    have H := H1
                    clear H1
                    cases H

end Go.Proofs.Ythnbmlpjbhhamaa.J
