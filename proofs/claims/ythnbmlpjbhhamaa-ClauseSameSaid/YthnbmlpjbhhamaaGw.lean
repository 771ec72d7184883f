/- The walks of hoggetlaw10_ClauseSame, by the print over this seat. -/
import Derived.Test.YthnbmlpjbhhamaaJ0
import Derived.Test.YthnbmlpjbhhamaaGK
import Derived.Test.YthnbmlpjbhhamaaGa
import Derived.Test.YthnbmlpjbhhamaaHb
import Derived.Test.YthnbmlpjbhhamaaHt
namespace Go.Proofs.Ythnbmlpjbhhamaa.J
open Go.RowKit Go.Proofs.YthnbmlpjbhhamaaW.PrintWords Go.Proofs.YthnbmlpjbhhamaaW.PrintLast Go.Proofs.YthnbmlpjbhhamaaW.PrintMore
attribute [local go_sem] max2_int min2_int max_two min_two max_three min_three max_four min_four   -- for this text's walks alone
set_option linter.unusedVariables false
set_option linter.unusedSimpArgs false

/-! ### hoggetlaw10_ClauseSame: function 22 -/
noncomputable def hoggetlaw10_ClauseSame.j0 : Nat → List Int → List Bool → Bool → Option (Bool)
  | 0, _, _, _ => none
  | k + 1, x0, x1, x16 => if x16 = true then (some true) else ((clause_Tidy.f x0).bind fun bt902 => (if bt902.2 = 0 then ((clause_Tidy.f bt902.1).bind fun bt907 => ((hoggetlaw10_clauses.f k).bind fun t911 => (if t911 = true then (if bt907.2 = 0 then ((hoggetref10_Ints.f k bt902.1 bt907.1).bind fun t912 => (if t912 = true then ((clause_Holds.f x0 x1).bind fun t913 => ((clause_Holds.f bt902.1 x1).bind fun t914 => (some (t913 == t914)))) else (none))) else (none)) else (none)))) else ((hoggetlaw10_clauses.f k).bind fun t906 => (if t906 = true then (some ((bt902.1.length : Int) == 0)) else (none)))))
noncomputable def hoggetlaw10_ClauseSame.f (k : Nat) (l0 : List Int) (l1 : List Bool) : Option (Bool) := if (l0.length : Int) > 200 then (hoggetlaw10_ClauseSame.j0 k l0 l1 true) else (hoggetlaw10_ClauseSame.j0 k l0 l1 (decide ((l1.length : Int) > 200)))
theorem hoggetlaw10_ClauseSame.mono_l : ∀ k, (∀ y0 y1 y2, LeO (hoggetlaw10_ClauseSame.j0 k y0 y1 y2) (hoggetlaw10_ClauseSame.j0 (k + 1) y0 y1 y2))
  | 0 => fun _ _ _ r h => by simp [hoggetlaw10_ClauseSame.j0] at h
  | k + 1 => by
    have ih0 := hoggetlaw10_ClauseSame.mono_l k
    · intro y0 y1 y2
      unfold hoggetlaw10_ClauseSame.j0
      repeat' first
      | (with_reducible exact ih0 _ _ _)
      | (with_reducible exact hoggetlaw10_clauses.mono _)
      | (with_reducible exact hoggetref10_Ints.mono _ _ _)
      | (with_reducible exact LeO.refl _)
      | (with_reducible exact LeO.none _)
      | (with_reducible refine LeO.ite ?_ ?_)
      | (with_reducible refine LeO.bind ?_ (fun _ => ?_))
      | exact ih0 _ _ _
      | exact hoggetlaw10_clauses.mono _
      | exact hoggetref10_Ints.mono _ _ _
      | exact LeO.none _
      | refine LeO.ite ?_ ?_
      | refine LeO.bind ?_ (fun _ => ?_)
theorem hoggetlaw10_ClauseSame.mono : ∀ a0 a1 k, LeO (hoggetlaw10_ClauseSame.f k a0 a1) (hoggetlaw10_ClauseSame.f (k + 1) a0 a1) := by
  intro a0 a1 k
  have ih0 := hoggetlaw10_ClauseSame.mono_l k
  unfold hoggetlaw10_ClauseSame.f
  repeat' first
      | (with_reducible exact ih0 _ _ _)
      | (with_reducible exact hoggetlaw10_clauses.mono _)
      | (with_reducible exact hoggetref10_Ints.mono _ _ _)
      | (with_reducible exact LeO.refl _)
      | (with_reducible exact LeO.none _)
      | (with_reducible refine LeO.ite ?_ ?_)
      | (with_reducible refine LeO.bind ?_ (fun _ => ?_))
      | exact ih0 _ _ _
      | exact hoggetlaw10_clauses.mono _
      | exact hoggetref10_Ints.mono _ _ _
      | exact LeO.none _
      | refine LeO.ite ?_ ?_
      | refine LeO.bind ?_ (fun _ => ?_)
set_option maxHeartbeats 8000000 in
set_option maxRecDepth 100000 in
theorem hoggetlaw10_ClauseSame.calls (k : Nat) (A0 : Option Addr) (c0 : Nat) (l0 : List Int) (A1 : Option Addr) (c1 : Nat) (l1 : List Bool) (r : Bool) (w : World) (hr0 : Kd.C (Kd.int .i64) w A0 l0.length l0) (hc0 : l0.length ≤ c0) (hr1 : Kd.C Kd.bool w A1 l1.length l1) (hc1 : l1.length ≤ c1) (h : hoggetlaw10_ClauseSame.f k l0 l1 = some r) :
    Calls Try.prog 22 #[.slice A0 l0.length c0, .slice A1 l1.length c1] w fun e w' => e = .returned (.bool r) ∧ Below w.heap.size w w' := by
  have HR0 := Aside0.mk hr0
  have HC0 := Aside0.mk hc0
  clear hr0 hc0
  have HR1 := Aside0.mk hr1
  have HC1 := Aside0.mk hc1
  clear hr1 hc1
  have HB := Aside0.mk (Below.refl w.heap.size w)
  have H : (if (l0.length : Int) > 200 then (hoggetlaw10_ClauseSame.j0 k l0 l1 true) else (hoggetlaw10_ClauseSame.j0 k l0 l1 (decide ((l1.length : Int) > 200)))) = some r := h
  clear h
  have HC3 := Aside0.mk H
  clear H
  go_enter Try.func22, Try.ntmps22
  go_upto_region 1 with (fail)
  go_cut [16] (fun v16 wc => ∃ (kq : Nat) (x16_2 : Bool), v16 = .bool x16_2 ∧ Aside0 (hoggetlaw10_ClauseSame.j0 kq l0 l1 x16_2 = some r) ∧ Aside0 (kq ≤ k) ∧ Aside0 (Below w.heap.size w wc))
  case first =>
    have H := HC3.out
    clear HC3
    by_cases c4 : (l0.length : Int) > 200
    · rw [if_pos c4] at H
      have c4b0 : decide (200 < (l0.length : Int)) = true := decide_eq_true c4
      have c4b1 : decide (200 < l0.length) = true := decide_eq_true (by omega)
      clear c4
      (first | rw [c4b0] | (simp only [i64_w, i32_w]; rw [c4b0]) | skip)
      have H' := Aside0.mk H
      clear H
      go_wp2
      go_meet
      case rel => exact ⟨_, (true), (by first | rfl | (simp; done) | (simp [*]; done)), H', ⟨by first | omega | exact Nat.le_refl _⟩, ⟨by repeat (first | (with_reducible first | exact HB.out | apply below_alloc | apply pw_below_drewN | apply below_drew1) | exact HB.out)⟩⟩
    · rw [if_neg c4] at H
      have c4b0 : decide (200 < (l0.length : Int)) = false := decide_eq_false c4
      have c4b1 : decide (200 < l0.length) = false := decide_eq_false (by omega)
      clear c4
      (first | rw [c4b0] | (simp only [i64_w, i32_w]; rw [c4b0]) | skip)
      have H' := Aside0.mk H
      clear H
      go_wp2
      go_meet
      case rel => exact ⟨_, (decide ((l1.length : Int) > 200)), (by first | rfl | (simp; done) | (simp [*]; done)), H', ⟨by first | omega | exact Nat.le_refl _⟩, ⟨by repeat (first | (with_reducible first | exact HB.out | apply below_alloc | apply pw_below_drewN | apply below_drew1) | exact HB.out)⟩⟩
  case rest =>
    clear HC3
    try clear c1
    try clear c2
    try clear p2
    try clear c4
    try clear c4b0
    try clear c4b1
    obtain ⟨kq, x16_2, rfl, HA, HJ2, HB⟩ := hcut
    cases kq with
    | zero => exact absurd HA.out (by simp [hoggetlaw10_ClauseSame.j0])
    | succ kj2 =>
      have H := HA.out
      clear HA
      simp only [hoggetlaw10_ClauseSame.j0] at H
      by_cases c5 : x16_2 = true
      · subst c5
        have H1 : (some true) = some r := by rw [if_pos rfl] at H; exact H
        clear H
        have H := H1
        clear H1
        obtain rfl := Option.some.inj H
        go_wp2
        go_ret
        exact ⟨by first | rfl | (simp [errW_none, errW_some] <;> rfl) | (simp [*, errW_none, errW_some] <;> rfl), by repeat (first | (with_reducible first | exact HB.out | apply below_alloc | apply pw_below_drewN | apply below_drew1) | exact HB.out)⟩
      · replace c5 := Bool.eq_false_iff.mpr c5
        subst c5
        have H1 : ((clause_Tidy.f l0).bind fun bt902 => (if bt902.2 = 0 then ((clause_Tidy.f bt902.1).bind fun bt907 => ((hoggetlaw10_clauses.f kj2).bind fun t911 => (if t911 = true then (if bt907.2 = 0 then ((hoggetref10_Ints.f kj2 bt902.1 bt907.1).bind fun t912 => (if t912 = true then ((clause_Holds.f l0 l1).bind fun t913 => ((clause_Holds.f bt902.1 l1).bind fun t914 => (some (t913 == t914)))) else (none))) else (none)) else (none)))) else ((hoggetlaw10_clauses.f kj2).bind fun t906 => (if t906 = true then (some ((bt902.1.length : Int) == 0)) else (none))))) = some r := by rw [if_neg (show ¬ (false = true) by decide)] at H; exact H
        clear H
        have H := H1
        clear H1
        replace H := Option.bind_eq_some_iff.mp H
        obtain ⟨⟨t902, t903⟩, A60, H⟩ := H
        replace H : (if t903 = 0 then ((clause_Tidy.f t902).bind fun bt907 => ((hoggetlaw10_clauses.f kj2).bind fun t911 => (if t911 = true then (if bt907.2 = 0 then ((hoggetref10_Ints.f kj2 t902 bt907.1).bind fun t912 => (if t912 = true then ((clause_Holds.f l0 l1).bind fun t913 => ((clause_Holds.f t902 l1).bind fun t914 => (some (t913 == t914)))) else (none))) else (none)) else (none)))) else ((hoggetlaw10_clauses.f kj2).bind fun t906 => (if t906 = true then (some ((t902.length : Int) == 0)) else (none)))) = some r := H
        have A6 := Aside0.mk A60
        clear A60
        by_cases c7 : t903 = 0
        · rw [if_pos c7] at H
          have c7b0 : (t903 == 0) = true := beq_iff_eq.mpr c7
          have c7b1 : (t903 != 0) = false := bne_eq_false_iff_eq.mpr c7
          clear c7
          replace H := Option.bind_eq_some_iff.mp H
          obtain ⟨⟨t907, t908⟩, A80, H⟩ := H
          replace H : ((hoggetlaw10_clauses.f kj2).bind fun t911 => (if t911 = true then (if t908 = 0 then ((hoggetref10_Ints.f kj2 t902 t907).bind fun t912 => (if t912 = true then ((clause_Holds.f l0 l1).bind fun t913 => ((clause_Holds.f t902 l1).bind fun t914 => (some (t913 == t914)))) else (none))) else (none)) else (none))) = some r := H
          have A8 := Aside0.mk A80
          clear A80
          replace H := Option.bind_eq_some_iff.mp H
          obtain ⟨t911, A90, H⟩ := H
          replace H : (if t911 = true then (if t908 = 0 then ((hoggetref10_Ints.f kj2 t902 t907).bind fun t912 => (if t912 = true then ((clause_Holds.f l0 l1).bind fun t913 => ((clause_Holds.f t902 l1).bind fun t914 => (some (t913 == t914)))) else (none))) else (none)) else (none)) = some r := H
          have A9 := Aside0.mk A90
          clear A90
          by_cases c10 : t911 = true
          · subst c10
            have H1 : (if t908 = 0 then ((hoggetref10_Ints.f kj2 t902 t907).bind fun t912 => (if t912 = true then ((clause_Holds.f l0 l1).bind fun t913 => ((clause_Holds.f t902 l1).bind fun t914 => (some (t913 == t914)))) else (none))) else (none)) = some r := by rw [if_pos rfl] at H; exact H
            clear H
            have H := H1
            clear H1
            by_cases c11 : t908 = 0
            · rw [if_pos c11] at H
              have c11b0 : (t908 == 0) = true := beq_iff_eq.mpr c11
              have c11b1 : (t908 != 0) = false := bne_eq_false_iff_eq.mpr c11
              clear c11
              replace H := Option.bind_eq_some_iff.mp H
              obtain ⟨t912, A120, H⟩ := H
              replace H : (if t912 = true then ((clause_Holds.f l0 l1).bind fun t913 => ((clause_Holds.f t902 l1).bind fun t914 => (some (t913 == t914)))) else (none)) = some r := H
              have A12 := Aside0.mk A120
              clear A120
              by_cases c13 : t912 = true
              · subst c13
                have H1 : ((clause_Holds.f l0 l1).bind fun t913 => ((clause_Holds.f t902 l1).bind fun t914 => (some (t913 == t914)))) = some r := by rw [if_pos rfl] at H; exact H
                clear H
                have H := H1
                clear H1
                replace H := Option.bind_eq_some_iff.mp H
                obtain ⟨t913, A140, H⟩ := H
                replace H : ((clause_Holds.f t902 l1).bind fun t914 => (some (t913 == t914))) = some r := H
                have A14 := Aside0.mk A140
                clear A140
                replace H := Option.bind_eq_some_iff.mp H
                obtain ⟨t914, A150, H⟩ := H
                replace H : (some (t913 == t914)) = some r := H
                have A15 := Aside0.mk A150
                clear A150
                obtain rfl := Option.some.inj H
                go_wp2_with (first | ((with_reducible refine gate_callee (f := 65) rfl ?_); refine goesL_ (some 19) rfl rfl Try.func65 (by kernel_rfl) rfl #[.slice A0 l0.length c0] rfl (by (try simp only [List.map_toArray, List.map_cons, List.map_nil]); first | done | rfl | (simp only [List.length_drop, List.length_take]; rfl)) ?_; (with_reducible refine (clause_Tidy.calls _ _ l0 t902 t903 _ ?side1 ?side2 A6.out).mono ?_); (case side1 => repeat (first | exact (Kd.C_below HR0.out HB.out) | (with_reducible refine Kd.C_alloc ?_ _) | (with_reducible refine Kd.C_drewN ?_ _) | (with_reducible refine Kd.C_drew ?_))); (case side2 => exact HC0.out); rintro e w16 ⟨v904, rfl, ho0, hb⟩; refine ⟨_, rfl, ?_⟩; have n0_ := Aside0.mk (Kd.R_lower ho0 (below_size (by repeat (first | (with_reducible first | exact HB.out | apply below_alloc | apply pw_below_drewN | apply below_drew1) | exact HB.out)))); have n1_ := Aside0.mk (below_step (by repeat (first | (with_reducible first | exact HB.out | apply below_alloc | apply pw_below_drewN | apply below_drew1) | exact HB.out)) hb); clear HB; have HO905 := n0_; have HB := n1_; clear n0_ n1_; (try clear hb); (try clear hb2); (try clear hk); (try clear hi); (try clear ho0); obtain ⟨Ao17, co17, eo17⟩ := Kd.R_slice HO905.out; subst eo17) | ((with_reducible refine gate_callee (f := 65) rfl ?_); refine goesL_ (some 32) rfl rfl Try.func65 (by kernel_rfl) rfl #[.slice Ao17 t902.length co17] rfl (by (try simp only [List.map_toArray, List.map_cons, List.map_nil]); first | done | rfl | (simp only [List.length_drop, List.length_take]; rfl)) ?_; (with_reducible refine (clause_Tidy.calls _ _ t902 t907 t908 _ ?side1 ?side2 A8.out).mono ?_); (case side1 => repeat (first | exact (Kd.R_reads' HO905.out).2.2 | (with_reducible refine Kd.C_alloc ?_ _) | (with_reducible refine Kd.C_drewN ?_ _) | (with_reducible refine Kd.C_drew ?_))); (case side2 => exact (Kd.R_reads' HO905.out).2.1); rintro e w18 ⟨v909, rfl, ho0, hb⟩; refine ⟨_, rfl, ?_⟩; have n0_ := Aside0.mk (Kd.R_elder' (by (with_reducible repeat (first | apply Kd.R_alloc | apply Kd.R_drewN | apply Kd.R_drew)); exact HO905.out) (Kd.R_base ho0) hb); have n1_ := Aside0.mk (Kd.R_lower (Kd.R_new' ho0 (Kd.R_lt (by (with_reducible repeat (first | apply Kd.R_alloc | apply Kd.R_drewN | apply Kd.R_drew)); exact HO905.out))) (below_size (by repeat (first | (with_reducible first | exact HB.out | apply below_alloc | apply pw_below_drewN | apply below_drew1) | exact HB.out)))); have n2_ := Aside0.mk (below_step (by repeat (first | (with_reducible first | exact HB.out | apply below_alloc | apply pw_below_drewN | apply below_drew1) | exact HB.out)) hb); clear HO905; clear HB; have HO905 := n0_; have HO910 := n1_; have HB := n2_; clear n0_ n1_ n2_; (try clear hb); (try clear hb2); (try clear hk); (try clear hi); (try clear ho0)) | ((with_reducible refine gate_callee (f := 62) rfl ?_); refine goesL_ (some 35) rfl rfl Try.func62 (by kernel_rfl) rfl #[] rfl (by (try simp only [List.map_toArray, List.map_cons, List.map_nil]); first | done | rfl | (simp only [List.length_drop, List.length_take]; rfl)) ?_; (with_reducible refine (hoggetlaw10_clauses.calls kj2  true _ A9.out).mono ?_); rintro e w19 ⟨rfl, hb⟩; refine ⟨_, rfl, ?_⟩; have n0_ := Aside0.mk (Kd.R_below (by (with_reducible repeat (first | apply Kd.R_alloc | apply Kd.R_drewN | apply Kd.R_drew)); exact HO905.out) hb); have n1_ := Aside0.mk (Kd.R_below (by (with_reducible repeat (first | apply Kd.R_alloc | apply Kd.R_drewN | apply Kd.R_drew)); exact HO910.out) hb); have n2_ := Aside0.mk (below_step (by repeat (first | (with_reducible first | exact HB.out | apply below_alloc | apply pw_below_drewN | apply below_drew1) | exact HB.out)) hb); clear HO905; clear HO910; clear HB; have HO905 := n0_; have HO910 := n1_; have HB := n2_; clear n0_ n1_ n2_; (try clear hb); (try clear hb2); (try clear hk); (try clear hi); obtain ⟨Ao20, co20, eo20⟩ := Kd.R_slice HO910.out; subst eo20) | (go_at_call 38; (with_reducible refine (hoggetref10_Ints.calls kj2 _ _ t902 _ _ t907 true _ ?side1 ?side2 ?side3 ?side4 A12.out).mono ?_); (case side1 => repeat (first | exact (Kd.R_reads' HO905.out).2.2 | (with_reducible refine Kd.C_alloc ?_ _) | (with_reducible refine Kd.C_drewN ?_ _) | (with_reducible refine Kd.C_drew ?_))); (case side2 => exact (Kd.R_reads' HO905.out).2.1); (case side3 => repeat (first | exact (Kd.R_reads' HO910.out).2.2 | (with_reducible refine Kd.C_alloc ?_ _) | (with_reducible refine Kd.C_drewN ?_ _) | (with_reducible refine Kd.C_drew ?_))); (case side4 => exact (Kd.R_reads' HO910.out).2.1); rintro e w' ⟨rfl, ⟨nd, rfl⟩⟩) | (go_at_call 45; (with_reducible refine (clause_Holds.calls _ _ l0 _ _ l1 t913 _ ?side1 ?side2 ?side3 ?side4 A14.out).mono ?_); (case side1 => repeat (first | exact (Kd.C_below HR0.out (by repeat (first | (with_reducible first | exact HB.out | apply below_alloc | apply pw_below_drewN | apply below_drew1) | exact HB.out))) | (with_reducible refine Kd.C_alloc ?_ _) | (with_reducible refine Kd.C_drewN ?_ _) | (with_reducible refine Kd.C_drew ?_))); (case side2 => exact HC0.out); (case side3 => repeat (first | exact (Kd.C_below HR1.out (by repeat (first | (with_reducible first | exact HB.out | apply below_alloc | apply pw_below_drewN | apply below_drew1) | exact HB.out))) | (with_reducible refine Kd.C_alloc ?_ _) | (with_reducible refine Kd.C_drewN ?_ _) | (with_reducible refine Kd.C_drew ?_))); (case side4 => exact HC1.out); rintro e w21 ⟨rfl, hb⟩; have n0_ := Aside0.mk (Kd.R_below (by (with_reducible repeat (first | apply Kd.R_alloc | apply Kd.R_drewN | apply Kd.R_drew)); exact HO905.out) hb); have n1_ := Aside0.mk (Kd.R_below (by (with_reducible repeat (first | apply Kd.R_alloc | apply Kd.R_drewN | apply Kd.R_drew)); exact HO910.out) hb); have n2_ := Aside0.mk (below_step (by repeat (first | (with_reducible first | exact HB.out | apply below_alloc | apply pw_below_drewN | apply below_drew1) | exact HB.out)) hb); clear HO905; clear HO910; clear HB; have HO905 := n0_; have HO910 := n1_; have HB := n2_; clear n0_ n1_ n2_; (try clear hb); (try clear hb2); (try clear hk); (try clear hi)) | (go_at_call 45; (with_reducible refine (clause_Holds.calls _ _ t902 _ _ l1 t914 _ ?side1 ?side2 ?side3 ?side4 A15.out).mono ?_); (case side1 => repeat (first | exact (Kd.R_reads' HO905.out).2.2 | (with_reducible refine Kd.C_alloc ?_ _) | (with_reducible refine Kd.C_drewN ?_ _) | (with_reducible refine Kd.C_drew ?_))); (case side2 => exact (Kd.R_reads' HO905.out).2.1); (case side3 => repeat (first | exact (Kd.C_below HR1.out HB.out) | (with_reducible refine Kd.C_alloc ?_ _) | (with_reducible refine Kd.C_drewN ?_ _) | (with_reducible refine Kd.C_drew ?_))); (case side4 => exact HC1.out); rintro e w22 ⟨rfl, hb⟩; have n0_ := Aside0.mk (Kd.R_below (by (with_reducible repeat (first | apply Kd.R_alloc | apply Kd.R_drewN | apply Kd.R_drew)); exact HO905.out) hb); have n1_ := Aside0.mk (Kd.R_below (by (with_reducible repeat (first | apply Kd.R_alloc | apply Kd.R_drewN | apply Kd.R_drew)); exact HO910.out) hb); have n2_ := Aside0.mk (below_step (by repeat (first | (with_reducible first | exact HB.out | apply below_alloc | apply pw_below_drewN | apply below_drew1) | exact HB.out)) hb); clear HO905; clear HO910; clear HB; have HO905 := n0_; have HO910 := n1_; have HB := n2_; clear n0_ n1_ n2_; (try clear hb); (try clear hb2); (try clear hk); (try clear hi)))
                go_ret
                exact ⟨by first | rfl | (simp [errW_none, errW_some] <;> rfl) | (simp [*, errW_none, errW_some] <;> rfl), by repeat (first | (with_reducible first | exact HB.out | apply below_alloc | apply pw_below_drewN | apply below_drew1) | exact HB.out)⟩
              · replace c13 := Bool.eq_false_iff.mpr c13
                subst c13
                have H1 : (none) = some r := by rw [if_neg (show ¬ (false = true) by decide)] at H; exact H
                clear H
                have H := H1
                clear H1
                cases H
            · rw [if_neg c11] at H
              have c11b0 : (t908 == 0) = false := beq_eq_false_iff_ne.mpr c11
              have c11b1 : (t908 != 0) = true := bne_iff_ne.mpr c11
              cases H
          · replace c10 := Bool.eq_false_iff.mpr c10
            subst c10
            have H1 : (none) = some r := by rw [if_neg (show ¬ (false = true) by decide)] at H; exact H
            clear H
            have H := H1
            clear H1
            cases H
        · rw [if_neg c7] at H
          have c7b0 : (t903 == 0) = false := beq_eq_false_iff_ne.mpr c7
          have c7b1 : (t903 != 0) = true := bne_iff_ne.mpr c7
          replace H := Option.bind_eq_some_iff.mp H
          obtain ⟨t906, A360, H⟩ := H
          replace H : (if t906 = true then (some ((t902.length : Int) == 0)) else (none)) = some r := H
          have A36 := Aside0.mk A360
          clear A360
          by_cases c37 : t906 = true
          · subst c37
            have H1 : (some ((t902.length : Int) == 0)) = some r := by rw [if_pos rfl] at H; exact H
            clear H
            have H := H1
            clear H1
            obtain rfl := Option.some.inj H
            go_wp2_with (first | ((with_reducible refine gate_callee (f := 65) rfl ?_); refine goesL_ (some 19) rfl rfl Try.func65 (by kernel_rfl) rfl #[.slice A0 l0.length c0] rfl (by (try simp only [List.map_toArray, List.map_cons, List.map_nil]); first | done | rfl | (simp only [List.length_drop, List.length_take]; rfl)) ?_; (with_reducible refine (clause_Tidy.calls _ _ l0 t902 t903 _ ?side1 ?side2 A6.out).mono ?_); (case side1 => repeat (first | exact (Kd.C_below HR0.out HB.out) | (with_reducible refine Kd.C_alloc ?_ _) | (with_reducible refine Kd.C_drewN ?_ _) | (with_reducible refine Kd.C_drew ?_))); (case side2 => exact HC0.out); rintro e w38 ⟨v904, rfl, ho0, hb⟩; refine ⟨_, rfl, ?_⟩; have n0_ := Aside0.mk (Kd.R_lower ho0 (below_size (by repeat (first | (with_reducible first | exact HB.out | apply below_alloc | apply pw_below_drewN | apply below_drew1) | exact HB.out)))); have n1_ := Aside0.mk (below_step (by repeat (first | (with_reducible first | exact HB.out | apply below_alloc | apply pw_below_drewN | apply below_drew1) | exact HB.out)) hb); clear HB; have HO905 := n0_; have HB := n1_; clear n0_ n1_; (try clear hb); (try clear hb2); (try clear hk); (try clear hi); (try clear ho0)) | ((with_reducible refine gate_callee (f := 62) rfl ?_); refine goesL_ (some 24) rfl rfl Try.func62 (by kernel_rfl) rfl #[] rfl (by (try simp only [List.map_toArray, List.map_cons, List.map_nil]); first | done | rfl | (simp only [List.length_drop, List.length_take]; rfl)) ?_; (with_reducible refine (hoggetlaw10_clauses.calls kj2  true _ A36.out).mono ?_); rintro e w39 ⟨rfl, hb⟩; refine ⟨_, rfl, ?_⟩; have n0_ := Aside0.mk (Kd.R_below (by (with_reducible repeat (first | apply Kd.R_alloc | apply Kd.R_drewN | apply Kd.R_drew)); exact HO905.out) hb); have n1_ := Aside0.mk (below_step (by repeat (first | (with_reducible first | exact HB.out | apply below_alloc | apply pw_below_drewN | apply below_drew1) | exact HB.out)) hb); clear HO905; clear HB; have HO905 := n0_; have HB := n1_; clear n0_ n1_; (try clear hb); (try clear hb2); (try clear hk); (try clear hi); obtain ⟨Ao40, co40, eo40⟩ := Kd.R_slice HO905.out; subst eo40))
            go_ret
            exact ⟨by first | rfl | (simp [errW_none, errW_some] <;> rfl) | (simp [*, errW_none, errW_some] <;> rfl), by repeat (first | (with_reducible first | exact HB.out | apply below_alloc | apply pw_below_drewN | apply below_drew1) | exact HB.out)⟩
          · replace c37 := Bool.eq_false_iff.mpr c37
            subst c37
            have H1 : (none) = some r := by rw [if_neg (show ¬ (false = true) by decide)] at H; exact H
            clear H
            have H := H1
            clear H1
            cases H

end Go.Proofs.Ythnbmlpjbhhamaa.J
