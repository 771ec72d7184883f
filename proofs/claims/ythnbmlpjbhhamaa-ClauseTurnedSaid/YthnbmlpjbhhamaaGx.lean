/- The walks of hoggetlaw10_ClauseTurned, by the print over this seat. -/
import Derived.Test.YthnbmlpjbhhamaaJ0
import Derived.Test.YthnbmlpjbhhamaaGK
import Derived.Test.YthnbmlpjbhhamaaHb
namespace Go.Proofs.Ythnbmlpjbhhamaa.J
open Go.RowKit Go.Proofs.YthnbmlpjbhhamaaW.PrintWords Go.Proofs.YthnbmlpjbhhamaaW.PrintLast Go.Proofs.YthnbmlpjbhhamaaW.PrintMore
attribute [local go_sem] max2_int min2_int max_two min_two max_three min_three max_four min_four   -- for this text's walks alone
set_option linter.unusedVariables false
set_option linter.unusedSimpArgs false

/-! ### hoggetlaw10_ClauseTurned: function 24 -/
noncomputable def hoggetlaw10_ClauseTurned.j0 : Nat → List Bool → Int → Bool → Option (Bool)
  | 0, _, _, _ => none
  | k + 1, x0, x1, x17 => if x17 = true then ((hoggetlaw10_clauses.f k).bind fun t921 => (some t921)) else ((clause_Holds.f (([x1] : List Int)) x0).bind fun t925 => ((clause_Holds.f (([wrap64 (-x1)] : List Int)) x0).bind fun t929 => (if x1 > (x0.length : Int) then ((hoggetlaw10_clauses.f k).bind fun t930 => (if t930 = true then (if t925 = true then (none) else (some (!t929))) else (none))) else ((hoggetlaw10_clauses.f k).bind fun t931 => (if t931 = true then (if (t925 != t929) = true then (if 0 ≤ (wrap64 (x1 - 1)) then (if (wrap64 (x1 - 1)) < (x0.length : Int) then (if (t925 == (rdOf false x0 (wrap64 (x1 - 1)))) = true then ((clause_Holds.f (([x1, wrap64 (-x1)] : List Int)) x0).bind fun t936 => (some t936)) else (none)) else (none)) else (none)) else (none)) else (none))))))
noncomputable def hoggetlaw10_ClauseTurned.f (k : Nat) (l0 : List Bool) (a1 : Int) : Option (Bool) := if (l0.length : Int) > 200 then (hoggetlaw10_ClauseTurned.j0 k l0 a1 true) else (if a1 < 1 then (hoggetlaw10_ClauseTurned.j0 k l0 a1 true) else (hoggetlaw10_ClauseTurned.j0 k l0 a1 (decide (a1 > 60))))
theorem hoggetlaw10_ClauseTurned.mono_l : ∀ k, (∀ y0 y1 y2, LeO (hoggetlaw10_ClauseTurned.j0 k y0 y1 y2) (hoggetlaw10_ClauseTurned.j0 (k + 1) y0 y1 y2))
  | 0 => fun _ _ _ r h => by simp [hoggetlaw10_ClauseTurned.j0] at h
  | k + 1 => by
    have ih0 := hoggetlaw10_ClauseTurned.mono_l k
    · intro y0 y1 y2
      unfold hoggetlaw10_ClauseTurned.j0
      repeat' first
      | (with_reducible exact ih0 _ _ _)
      | (with_reducible exact hoggetlaw10_clauses.mono _)
      | (with_reducible exact LeO.refl _)
      | (with_reducible exact LeO.none _)
      | (with_reducible refine LeO.ite ?_ ?_)
      | (with_reducible refine LeO.bind ?_ (fun _ => ?_))
      | exact ih0 _ _ _
      | exact hoggetlaw10_clauses.mono _
      | exact LeO.none _
      | refine LeO.ite ?_ ?_
      | refine LeO.bind ?_ (fun _ => ?_)
theorem hoggetlaw10_ClauseTurned.mono : ∀ a0 a1 k, LeO (hoggetlaw10_ClauseTurned.f k a0 a1) (hoggetlaw10_ClauseTurned.f (k + 1) a0 a1) := by
  intro a0 a1 k
  have ih0 := hoggetlaw10_ClauseTurned.mono_l k
  unfold hoggetlaw10_ClauseTurned.f
  repeat' first
      | (with_reducible exact ih0 _ _ _)
      | (with_reducible exact hoggetlaw10_clauses.mono _)
      | (with_reducible exact LeO.refl _)
      | (with_reducible exact LeO.none _)
      | (with_reducible refine LeO.ite ?_ ?_)
      | (with_reducible refine LeO.bind ?_ (fun _ => ?_))
      | exact ih0 _ _ _
      | exact hoggetlaw10_clauses.mono _
      | exact LeO.none _
      | refine LeO.ite ?_ ?_
      | refine LeO.bind ?_ (fun _ => ?_)
set_option maxHeartbeats 8000000 in
set_option maxRecDepth 100000 in
theorem hoggetlaw10_ClauseTurned.calls (k : Nat) (A0 : Option Addr) (c0 : Nat) (l0 : List Bool) (a1 : Int) (r : Bool) (w : World) (hr0 : Kd.C Kd.bool w A0 l0.length l0) (hc0 : l0.length ≤ c0) (h : hoggetlaw10_ClauseTurned.f k l0 a1 = some r) :
    Calls Try.prog 24 #[.slice A0 l0.length c0, .int .i64 a1] w fun e w' => e = .returned (.bool r) ∧ Below w.heap.size w w' := by
  have HR0 := Aside0.mk hr0
  have HC0 := Aside0.mk hc0
  clear hr0 hc0
  have HB := Aside0.mk (Below.refl w.heap.size w)
  have H : (if (l0.length : Int) > 200 then (hoggetlaw10_ClauseTurned.j0 k l0 a1 true) else (if a1 < 1 then (hoggetlaw10_ClauseTurned.j0 k l0 a1 true) else (hoggetlaw10_ClauseTurned.j0 k l0 a1 (decide (a1 > 60))))) = some r := h
  clear h
  have HC3 := Aside0.mk H
  clear H
  go_enter Try.func24, Try.ntmps24
  go_upto_region 1 with (fail)
  go_cut [17] (fun v17 wc => ∃ (kq : Nat) (x17_2 : Bool), v17 = .bool x17_2 ∧ Aside0 (hoggetlaw10_ClauseTurned.j0 kq l0 a1 x17_2 = some r) ∧ Aside0 (kq ≤ k) ∧ Aside0 (Below w.heap.size w wc))
  case first =>
    have H := HC3.out
    clear HC3
    by_cases c4 : (l0.length : Int) > 200
    · rw [if_pos c4] at H
      have c4b0 : decide (200 < (l0.length : Int)) = true := decide_eq_true c4
      have c4b1 : decide (200 < l0.length) = true := decide_eq_true (by omega)
      clear c4
      (first | rw [c4b0] | (simp only [i64_w, i32_w]; rw [c4b0]) | skip)
      have H' := Aside0.mk H
      clear H
      go_wp2
      go_meet
      case rel => exact ⟨_, (true), (by first | rfl | (simp; done) | (simp [*]; done)), H', ⟨by first | omega | exact Nat.le_refl _⟩, ⟨by repeat (first | (with_reducible first | exact HB.out | apply below_alloc | apply pw_below_drewN | apply below_drew1) | exact HB.out)⟩⟩
    · rw [if_neg c4] at H
      have c4b0 : decide (200 < (l0.length : Int)) = false := decide_eq_false c4
      have c4b1 : decide (200 < l0.length) = false := decide_eq_false (by omega)
      clear c4
      (first | rw [c4b0] | (simp only [i64_w, i32_w]; rw [c4b0]) | skip)
      by_cases c5 : a1 < 1
      · rw [if_pos c5] at H
        have c5b0 : decide (a1 < 1) = true := decide_eq_true c5
        clear c5
        have H' := Aside0.mk H
        clear H
        go_wp2
        go_meet
        case rel => exact ⟨_, (true), (by first | rfl | (simp; done) | (simp [*]; done)), H', ⟨by first | omega | exact Nat.le_refl _⟩, ⟨by repeat (first | (with_reducible first | exact HB.out | apply below_alloc | apply pw_below_drewN | apply below_drew1) | exact HB.out)⟩⟩
      · rw [if_neg c5] at H
        have c5b0 : decide (a1 < 1) = false := decide_eq_false c5
        clear c5
        have H' := Aside0.mk H
        clear H
        go_wp2
        go_meet
        case rel => exact ⟨_, (decide (a1 > 60)), (by first | rfl | (simp; done) | (simp [*]; done)), H', ⟨by first | omega | exact Nat.le_refl _⟩, ⟨by repeat (first | (with_reducible first | exact HB.out | apply below_alloc | apply pw_below_drewN | apply below_drew1) | exact HB.out)⟩⟩
  case rest =>
    clear HC3
    try clear c2
    try clear p2
    try clear c4
    try clear c4b0
    try clear c4b1
    try clear c5
    try clear c5b0
    obtain ⟨kq, x17_2, rfl, HA, HJ2, HB⟩ := hcut
    cases kq with
    | zero => exact absurd HA.out (by simp [hoggetlaw10_ClauseTurned.j0])
    | succ kj2 =>
      have H := HA.out
      clear HA
      simp only [hoggetlaw10_ClauseTurned.j0] at H
      by_cases c6 : x17_2 = true
      · subst c6
        have H1 : ((hoggetlaw10_clauses.f kj2).bind fun t921 => (some t921)) = some r := by rw [if_pos rfl] at H; exact H
        clear H
        have H := H1
        clear H1
        replace H := Option.bind_eq_some_iff.mp H
        obtain ⟨t921, A70, H⟩ := H
        replace H : (some t921) = some r := H
        have A7 := Aside0.mk A70
        clear A70
        obtain rfl := Option.some.inj H
        go_wp2_with (first | ((with_reducible refine gate_callee (f := 62) rfl ?_); refine goesL_ (some 18) rfl rfl Try.func62 (by kernel_rfl) rfl #[] rfl (by (try simp only [List.map_toArray, List.map_cons, List.map_nil]); first | done | rfl | (simp only [List.length_drop, List.length_take]; rfl)) ?_; (with_reducible refine (hoggetlaw10_clauses.calls kj2  t921 _ A7.out).mono ?_); rintro e w8 ⟨rfl, hb⟩; refine ⟨_, rfl, ?_⟩; have n0_ := Aside0.mk (below_step (by repeat (first | (with_reducible first | exact HB.out | apply below_alloc | apply pw_below_drewN | apply below_drew1) | exact HB.out)) hb); clear HB; have HB := n0_; clear n0_; (try clear hb); (try clear hb2); (try clear hk); (try clear hi)))
        go_ret
        exact ⟨by first | rfl | (simp [errW_none, errW_some] <;> rfl) | (simp [*, errW_none, errW_some] <;> rfl), by repeat (first | (with_reducible first | exact HB.out | apply below_alloc | apply pw_below_drewN | apply below_drew1) | exact HB.out)⟩
      · replace c6 := Bool.eq_false_iff.mpr c6
        subst c6
        have H1 : ((clause_Holds.f (([a1] : List Int)) l0).bind fun t925 => ((clause_Holds.f (([wrap64 (-a1)] : List Int)) l0).bind fun t929 => (if a1 > (l0.length : Int) then ((hoggetlaw10_clauses.f kj2).bind fun t930 => (if t930 = true then (if t925 = true then (none) else (some (!t929))) else (none))) else ((hoggetlaw10_clauses.f kj2).bind fun t931 => (if t931 = true then (if (t925 != t929) = true then (if 0 ≤ (wrap64 (a1 - 1)) then (if (wrap64 (a1 - 1)) < (l0.length : Int) then (if (t925 == (rdOf false l0 (wrap64 (a1 - 1)))) = true then ((clause_Holds.f (([a1, wrap64 (-a1)] : List Int)) l0).bind fun t936 => (some t936)) else (none)) else (none)) else (none)) else (none)) else (none)))))) = some r := by rw [if_neg (show ¬ (false = true) by decide)] at H; exact H
        clear H
        have H := H1
        clear H1
        obtain ⟨y922, hy922⟩ : ∃ y_ : List Int, y_ = (([a1] : List Int)) := ⟨_, rfl⟩
        replace H : ((clause_Holds.f y922 l0).bind fun t925 => ((clause_Holds.f (([wrap64 (-a1)] : List Int)) l0).bind fun t929 => (if a1 > (l0.length : Int) then ((hoggetlaw10_clauses.f kj2).bind fun t930 => (if t930 = true then (if t925 = true then (none) else (some (!t929))) else (none))) else ((hoggetlaw10_clauses.f kj2).bind fun t931 => (if t931 = true then (if (t925 != t929) = true then (if 0 ≤ (wrap64 (a1 - 1)) then (if (wrap64 (a1 - 1)) < (l0.length : Int) then (if (t925 == (rdOf false l0 (wrap64 (a1 - 1)))) = true then ((clause_Holds.f (([a1, wrap64 (-a1)] : List Int)) l0).bind fun t936 => (some t936)) else (none)) else (none)) else (none)) else (none)) else (none)))))) = some r := by first | (rw [hy922]; with_reducible exact H) | (have H2_ := (Option.bind_some _ _).symm.trans H; rw [hy922]; with_reducible exact H2_) | (have H2_ := (Option.bind_some _ _).symm.trans H; with_reducible exact H2_) | with_reducible exact H | (rw [hy922]; exact H) | exact H
        have Ny922 := Aside0.mk hy922
        clear hy922
        replace H := Option.bind_eq_some_iff.mp H
        obtain ⟨t925, A90, H⟩ := H
        replace H : ((clause_Holds.f (([wrap64 (-a1)] : List Int)) l0).bind fun t929 => (if a1 > (l0.length : Int) then ((hoggetlaw10_clauses.f kj2).bind fun t930 => (if t930 = true then (if t925 = true then (none) else (some (!t929))) else (none))) else ((hoggetlaw10_clauses.f kj2).bind fun t931 => (if t931 = true then (if (t925 != t929) = true then (if 0 ≤ (wrap64 (a1 - 1)) then (if (wrap64 (a1 - 1)) < (l0.length : Int) then (if (t925 == (rdOf false l0 (wrap64 (a1 - 1)))) = true then ((clause_Holds.f (([a1, wrap64 (-a1)] : List Int)) l0).bind fun t936 => (some t936)) else (none)) else (none)) else (none)) else (none)) else (none))))) = some r := H
        have A9 := Aside0.mk A90
        clear A90
        obtain ⟨y926, hy926⟩ : ∃ y_ : List Int, y_ = (([wrap64 (-a1)] : List Int)) := ⟨_, rfl⟩
        replace H : ((clause_Holds.f y926 l0).bind fun t929 => (if a1 > (l0.length : Int) then ((hoggetlaw10_clauses.f kj2).bind fun t930 => (if t930 = true then (if t925 = true then (none) else (some (!t929))) else (none))) else ((hoggetlaw10_clauses.f kj2).bind fun t931 => (if t931 = true then (if (t925 != t929) = true then (if 0 ≤ (wrap64 (a1 - 1)) then (if (wrap64 (a1 - 1)) < (l0.length : Int) then (if (t925 == (rdOf false l0 (wrap64 (a1 - 1)))) = true then ((clause_Holds.f (([a1, wrap64 (-a1)] : List Int)) l0).bind fun t936 => (some t936)) else (none)) else (none)) else (none)) else (none)) else (none))))) = some r := by first | (rw [hy926]; with_reducible exact H) | (have H2_ := (Option.bind_some _ _).symm.trans H; rw [hy926]; with_reducible exact H2_) | (have H2_ := (Option.bind_some _ _).symm.trans H; with_reducible exact H2_) | with_reducible exact H | (rw [hy926]; exact H) | exact H
        have Ny926 := Aside0.mk hy926
        clear hy926
        replace H := Option.bind_eq_some_iff.mp H
        obtain ⟨t929, A100, H⟩ := H
        replace H : (if a1 > (l0.length : Int) then ((hoggetlaw10_clauses.f kj2).bind fun t930 => (if t930 = true then (if t925 = true then (none) else (some (!t929))) else (none))) else ((hoggetlaw10_clauses.f kj2).bind fun t931 => (if t931 = true then (if (t925 != t929) = true then (if 0 ≤ (wrap64 (a1 - 1)) then (if (wrap64 (a1 - 1)) < (l0.length : Int) then (if (t925 == (rdOf false l0 (wrap64 (a1 - 1)))) = true then ((clause_Holds.f (([a1, wrap64 (-a1)] : List Int)) l0).bind fun t936 => (some t936)) else (none)) else (none)) else (none)) else (none)) else (none)))) = some r := H
        have A10 := Aside0.mk A100
        clear A100
        by_cases c11 : a1 > (l0.length : Int)
        · rw [if_pos c11] at H
          have c11b0 : decide ((l0.length : Int) < a1) = true := decide_eq_true c11
          clear c11
          replace H := Option.bind_eq_some_iff.mp H
          obtain ⟨t930, A120, H⟩ := H
          replace H : (if t930 = true then (if t925 = true then (none) else (some (!t929))) else (none)) = some r := H
          have A12 := Aside0.mk A120
          clear A120
          by_cases c13 : t930 = true
          · subst c13
            have H1 : (if t925 = true then (none) else (some (!t929))) = some r := by rw [if_pos rfl] at H; exact H
            clear H
            have H := H1
            clear H1
            by_cases c14 : t925 = true
            · subst c14
              have H1 : (none) = some r := by rw [if_pos rfl] at H; exact H
              clear H
              have H := H1
              clear H1
              cases H
            · replace c14 := Bool.eq_false_iff.mpr c14
              subst c14
              have H1 : (some (!t929)) = some r := by rw [if_neg (show ¬ (false = true) by decide)] at H; exact H
              clear H
              have H := H1
              clear H1
              obtain rfl := Option.some.inj H
              go_wp2_with (first | ((with_reducible refine gate_dst (N := 20) rfl ?_); (try (refine gate_guard (by rfl) ?_; dsimp only)); refine Kd.R_lit (Kd.int .i64) _ 3 ?hg (N := 20) ?hd (xs := ([a1] : List Int)) (inner := [.int .i64 a1]) (ok := fun _ => True) (okp := fun _ => True) ?hr ?hp (fun _ hk => hk) trivial (Below.refl _ _) (Nat.le_refl _) (by simp) ?_; (case hd => rfl); (case hg => rfl); (case hr => first | (go_simp; done) | (go_simp; rfl)); (case hp => exact (Reps.one (show Kd.M (Kd.int .i64) _ _ _ a1 [.int .i64 a1] from rfl) (Reps.none _ _))); intro v923 w24 ho25 hb hg_ hnew_; clear hg_ hnew_; (first | rw [← Ny922.out] at ho25 | (simp only [Int.reduceToNat] at ho25; rw [← Ny922.out] at ho25)); have n0_ := Aside0.mk (Kd.R_lower ho25 (below_size (by repeat (first | (with_reducible first | exact HB.out | apply below_alloc | apply pw_below_drewN | apply below_drew1) | exact HB.out)))); have n1_ := Aside0.mk (below_step (by repeat (first | (with_reducible first | exact HB.out | apply below_alloc | apply pw_below_drewN | apply below_drew1) | exact HB.out)) hb); clear HB; have HO924 := n0_; have HB := n1_; clear n0_ n1_; clear hb ho25; obtain ⟨Ao26, co26, eo26⟩ := Kd.R_slice HO924.out; subst eo26) | ((with_reducible refine gate_callee (f := 45) rfl ?_); refine goesL_ (some 22) rfl rfl Try.func45 (by kernel_rfl) rfl #[.slice Ao26 y922.length co26, .slice A0 l0.length c0] rfl (by (try simp only [List.map_toArray, List.map_cons, List.map_nil]); first | done | rfl | (simp only [List.length_drop, List.length_take]; rfl)) ?_; (with_reducible refine (clause_Holds.calls _ _ y922 _ _ l0 false _ ?side1 ?side2 ?side3 ?side4 A9.out).mono ?_); (case side1 => repeat (first | exact (Kd.R_reads' HO924.out).2.2 | (with_reducible refine Kd.C_alloc ?_ _) | (with_reducible refine Kd.C_drewN ?_ _) | (with_reducible refine Kd.C_drew ?_))); (case side2 => exact (Kd.R_reads' HO924.out).2.1); (case side3 => repeat (first | exact (Kd.C_below HR0.out HB.out) | (with_reducible refine Kd.C_alloc ?_ _) | (with_reducible refine Kd.C_drewN ?_ _) | (with_reducible refine Kd.C_drew ?_))); (case side4 => exact HC0.out); rintro e w27 ⟨rfl, hb⟩; refine ⟨_, rfl, ?_⟩; have n0_ := Aside0.mk (Kd.R_below (by (with_reducible repeat (first | apply Kd.R_alloc | apply Kd.R_drewN | apply Kd.R_drew)); exact HO924.out) hb); have n1_ := Aside0.mk (below_step (by repeat (first | (with_reducible first | exact HB.out | apply below_alloc | apply pw_below_drewN | apply below_drew1) | exact HB.out)) hb); clear HO924; clear HB; have HO924 := n0_; have HB := n1_; clear n0_ n1_; (try clear hb); (try clear hb2); (try clear hk); (try clear hi)) | ((with_reducible refine gate_dst (N := 25) rfl ?_); (try (refine gate_guard (by rfl) ?_; dsimp only)); refine Kd.R_lit (Kd.int .i64) _ 3 ?hg (N := 25) ?hd (xs := ([wrap64 (-a1)] : List Int)) (inner := [.int .i64 (wrap64 (-a1))]) (ok := fun _ => True) (okp := fun _ => True) ?hr ?hp (fun _ hk => hk) trivial (Below.refl _ _) (Nat.le_refl _) (by simp) ?_; (case hd => rfl); (case hg => rfl); (case hr => first | (go_simp; done) | (go_simp; rfl)); (case hp => exact (Reps.one (show Kd.M (Kd.int .i64) _ _ _ (wrap64 (-a1)) [.int .i64 (wrap64 (-a1))] from rfl) (Reps.none _ _))); intro v927 w28 ho29 hb hg_ hnew_; clear hg_ hnew_; (first | rw [← Ny926.out] at ho29 | (simp only [Int.reduceToNat] at ho29; rw [← Ny926.out] at ho29)); have n0_ := Aside0.mk (Kd.R_elder' (by (with_reducible repeat (first | apply Kd.R_alloc | apply Kd.R_drewN | apply Kd.R_drew)); exact HO924.out) (Kd.R_base ho29) hb); have n1_ := Aside0.mk (Kd.R_lower (Kd.R_new' ho29 (Kd.R_lt (by (with_reducible repeat (first | apply Kd.R_alloc | apply Kd.R_drewN | apply Kd.R_drew)); exact HO924.out))) (below_size (by repeat (first | (with_reducible first | exact HB.out | apply below_alloc | apply pw_below_drewN | apply below_drew1) | exact HB.out)))); have n2_ := Aside0.mk (below_step (by repeat (first | (with_reducible first | exact HB.out | apply below_alloc | apply pw_below_drewN | apply below_drew1) | exact HB.out)) hb); clear HO924; clear HB; have HO924 := n0_; have HO928 := n1_; have HB := n2_; clear n0_ n1_ n2_; clear hb ho29; obtain ⟨Ao30, co30, eo30⟩ := Kd.R_slice HO928.out; subst eo30) | ((with_reducible refine gate_callee (f := 45) rfl ?_); refine goesL_ (some 27) rfl rfl Try.func45 (by kernel_rfl) rfl #[.slice Ao30 y926.length co30, .slice A0 l0.length c0] rfl (by (try simp only [List.map_toArray, List.map_cons, List.map_nil]); first | done | rfl | (simp only [List.length_drop, List.length_take]; rfl)) ?_; (with_reducible refine (clause_Holds.calls _ _ y926 _ _ l0 t929 _ ?side1 ?side2 ?side3 ?side4 A10.out).mono ?_); (case side1 => repeat (first | exact (Kd.R_reads' HO928.out).2.2 | (with_reducible refine Kd.C_alloc ?_ _) | (with_reducible refine Kd.C_drewN ?_ _) | (with_reducible refine Kd.C_drew ?_))); (case side2 => exact (Kd.R_reads' HO928.out).2.1); (case side3 => repeat (first | exact (Kd.C_below HR0.out HB.out) | (with_reducible refine Kd.C_alloc ?_ _) | (with_reducible refine Kd.C_drewN ?_ _) | (with_reducible refine Kd.C_drew ?_))); (case side4 => exact HC0.out); rintro e w31 ⟨rfl, hb⟩; refine ⟨_, rfl, ?_⟩; have n0_ := Aside0.mk (Kd.R_below (by (with_reducible repeat (first | apply Kd.R_alloc | apply Kd.R_drewN | apply Kd.R_drew)); exact HO924.out) hb); have n1_ := Aside0.mk (Kd.R_below (by (with_reducible repeat (first | apply Kd.R_alloc | apply Kd.R_drewN | apply Kd.R_drew)); exact HO928.out) hb); have n2_ := Aside0.mk (below_step (by repeat (first | (with_reducible first | exact HB.out | apply below_alloc | apply pw_below_drewN | apply below_drew1) | exact HB.out)) hb); clear HO924; clear HO928; clear HB; have HO924 := n0_; have HO928 := n1_; have HB := n2_; clear n0_ n1_ n2_; (try clear hb); (try clear hb2); (try clear hk); (try clear hi)) | ((with_reducible refine gate_callee (f := 62) rfl ?_); refine goesL_ (some 32) rfl rfl Try.func62 (by kernel_rfl) rfl #[] rfl (by (try simp only [List.map_toArray, List.map_cons, List.map_nil]); first | done | rfl | (simp only [List.length_drop, List.length_take]; rfl)) ?_; (with_reducible refine (hoggetlaw10_clauses.calls kj2  true _ A12.out).mono ?_); rintro e w32 ⟨rfl, hb⟩; refine ⟨_, rfl, ?_⟩; have n0_ := Aside0.mk (Kd.R_below (by (with_reducible repeat (first | apply Kd.R_alloc | apply Kd.R_drewN | apply Kd.R_drew)); exact HO924.out) hb); have n1_ := Aside0.mk (Kd.R_below (by (with_reducible repeat (first | apply Kd.R_alloc | apply Kd.R_drewN | apply Kd.R_drew)); exact HO928.out) hb); have n2_ := Aside0.mk (below_step (by repeat (first | (with_reducible first | exact HB.out | apply below_alloc | apply pw_below_drewN | apply below_drew1) | exact HB.out)) hb); clear HO924; clear HO928; clear HB; have HO924 := n0_; have HO928 := n1_; have HB := n2_; clear n0_ n1_ n2_; (try clear hb); (try clear hb2); (try clear hk); (try clear hi)))
              go_ret
              exact ⟨by first | rfl | (simp [errW_none, errW_some] <;> rfl) | (simp [*, errW_none, errW_some] <;> rfl), by repeat (first | (with_reducible first | exact HB.out | apply below_alloc | apply pw_below_drewN | apply below_drew1) | exact HB.out)⟩
          · replace c13 := Bool.eq_false_iff.mpr c13
            subst c13
            have H1 : (none) = some r := by rw [if_neg (show ¬ (false = true) by decide)] at H; exact H
            clear H
            have H := H1
            clear H1
            cases H
        · rw [if_neg c11] at H
          have c11b0 : decide ((l0.length : Int) < a1) = false := decide_eq_false c11
          clear c11
          replace H := Option.bind_eq_some_iff.mp H
          obtain ⟨t931, A420, H⟩ := H
          replace H : (if t931 = true then (if (t925 != t929) = true then (if 0 ≤ (wrap64 (a1 - 1)) then (if (wrap64 (a1 - 1)) < (l0.length : Int) then (if (t925 == (rdOf false l0 (wrap64 (a1 - 1)))) = true then ((clause_Holds.f (([a1, wrap64 (-a1)] : List Int)) l0).bind fun t936 => (some t936)) else (none)) else (none)) else (none)) else (none)) else (none)) = some r := H
          have A42 := Aside0.mk A420
          clear A420
          by_cases c43 : t931 = true
          · subst c43
            have H1 : (if (t925 != t929) = true then (if 0 ≤ (wrap64 (a1 - 1)) then (if (wrap64 (a1 - 1)) < (l0.length : Int) then (if (t925 == (rdOf false l0 (wrap64 (a1 - 1)))) = true then ((clause_Holds.f (([a1, wrap64 (-a1)] : List Int)) l0).bind fun t936 => (some t936)) else (none)) else (none)) else (none)) else (none)) = some r := by rw [if_pos rfl] at H; exact H
            clear H
            have H := H1
            clear H1
            by_cases c44 : (t925 != t929) = true
            · rw [if_pos c44] at H
              have c44b0 : (t925 != t929) = true := c44
              (try (have c44b1 : decide (t925 = t929) = false := by simpa using c44))
              (try (have c44b2 : (t925 == t929) = false := by simpa using c44))
              (try (have c44b3 : ¬ (t925 = t929) := by simpa using c44))
              clear c44
              obtain ⟨ji45, hji45⟩ : ∃ j_ : Int, (wrap64 (a1 - 1)) = j_ := ⟨_, rfl⟩
              replace H : (if 0 ≤ (ji45) then (if (ji45) < (l0.length : Int) then (if (t925 == (rdOf false l0 (ji45))) = true then ((clause_Holds.f (([a1, wrap64 (-a1)] : List Int)) l0).bind fun t936 => (some t936)) else (none)) else (none)) else (none)) = some r := by first | (rw [hji45] at H; exact H) | (simp only [hji45] at H ⊢; exact H)
              (try rw [hji45] at A9)
              (try rw [hji45] at A10)
              (try rw [hji45] at A42)
              have hji45w : (IntKind.i64.wrap (a1 - 1)) = ji45 := (i64_w _).trans hji45
              by_cases c46 : 0 ≤ (ji45)
              · rw [if_pos c46] at H
                have c46b0 : decide (0 ≤ (ji45)) = true := decide_eq_true c46
                clear c46
                by_cases c47 : (ji45) < (l0.length : Int)
                · rw [if_pos c47] at H
                  have c47b0 : decide ((ji45) < (l0.length : Int)) = true := decide_eq_true c47
                  clear c47
                  by_cases c48 : (t925 == (rdOf false l0 (ji45))) = true
                  · rw [if_pos c48] at H
                    have c48b0 : (t925 == (rdOf false l0 (ji45))) = true := c48
                    (try (have c48b1 : decide (t925 = (rdOf false l0 (ji45))) = true := by simpa using c48))
                    (try (have c48b2 : (t925 == (rdOf false l0 (ji45))) = true := by simpa using c48))
                    clear c48
                    obtain ⟨y933, hy933⟩ : ∃ y_ : List Int, y_ = (([a1, wrap64 (-a1)] : List Int)) := ⟨_, rfl⟩
                    replace H : ((clause_Holds.f y933 l0).bind fun t936 => (some t936)) = some r := by first | (rw [hy933]; with_reducible exact H) | (have H2_ := (Option.bind_some _ _).symm.trans H; rw [hy933]; with_reducible exact H2_) | (have H2_ := (Option.bind_some _ _).symm.trans H; with_reducible exact H2_) | with_reducible exact H | (rw [hy933]; exact H) | exact H
                    have Ny933 := Aside0.mk hy933
                    clear hy933
                    replace H := Option.bind_eq_some_iff.mp H
                    obtain ⟨t936, A490, H⟩ := H
                    replace H : (some t936) = some r := H
                    have A49 := Aside0.mk A490
                    clear A490
                    obtain rfl := Option.some.inj H
                    go_wp2_with (first | ((with_reducible refine gate_dst (N := 20) rfl ?_); (try (refine gate_guard (by rfl) ?_; dsimp only)); refine Kd.R_lit (Kd.int .i64) _ 3 ?hg (N := 20) ?hd (xs := ([a1] : List Int)) (inner := [.int .i64 a1]) (ok := fun _ => True) (okp := fun _ => True) ?hr ?hp (fun _ hk => hk) trivial (Below.refl _ _) (Nat.le_refl _) (by simp) ?_; (case hd => rfl); (case hg => rfl); (case hr => first | (go_simp; done) | (go_simp; rfl)); (case hp => exact (Reps.one (show Kd.M (Kd.int .i64) _ _ _ a1 [.int .i64 a1] from rfl) (Reps.none _ _))); intro v923 w50 ho51 hb hg_ hnew_; clear hg_ hnew_; (first | rw [← Ny922.out] at ho51 | (simp only [Int.reduceToNat] at ho51; rw [← Ny922.out] at ho51)); have n0_ := Aside0.mk (Kd.R_lower ho51 (below_size (by repeat (first | (with_reducible first | exact HB.out | apply below_alloc | apply pw_below_drewN | apply below_drew1) | exact HB.out)))); have n1_ := Aside0.mk (below_step (by repeat (first | (with_reducible first | exact HB.out | apply below_alloc | apply pw_below_drewN | apply below_drew1) | exact HB.out)) hb); clear HB; have HO924 := n0_; have HB := n1_; clear n0_ n1_; clear hb ho51; obtain ⟨Ao52, co52, eo52⟩ := Kd.R_slice HO924.out; subst eo52) | ((with_reducible refine gate_callee (f := 45) rfl ?_); refine goesL_ (some 22) rfl rfl Try.func45 (by kernel_rfl) rfl #[.slice Ao52 y922.length co52, .slice A0 l0.length c0] rfl (by (try simp only [List.map_toArray, List.map_cons, List.map_nil]); first | done | rfl | (simp only [List.length_drop, List.length_take]; rfl)) ?_; (with_reducible refine (clause_Holds.calls _ _ y922 _ _ l0 t925 _ ?side1 ?side2 ?side3 ?side4 A9.out).mono ?_); (case side1 => repeat (first | exact (Kd.R_reads' HO924.out).2.2 | (with_reducible refine Kd.C_alloc ?_ _) | (with_reducible refine Kd.C_drewN ?_ _) | (with_reducible refine Kd.C_drew ?_))); (case side2 => exact (Kd.R_reads' HO924.out).2.1); (case side3 => repeat (first | exact (Kd.C_below HR0.out HB.out) | (with_reducible refine Kd.C_alloc ?_ _) | (with_reducible refine Kd.C_drewN ?_ _) | (with_reducible refine Kd.C_drew ?_))); (case side4 => exact HC0.out); rintro e w53 ⟨rfl, hb⟩; refine ⟨_, rfl, ?_⟩; have n0_ := Aside0.mk (Kd.R_below (by (with_reducible repeat (first | apply Kd.R_alloc | apply Kd.R_drewN | apply Kd.R_drew)); exact HO924.out) hb); have n1_ := Aside0.mk (below_step (by repeat (first | (with_reducible first | exact HB.out | apply below_alloc | apply pw_below_drewN | apply below_drew1) | exact HB.out)) hb); clear HO924; clear HB; have HO924 := n0_; have HB := n1_; clear n0_ n1_; (try clear hb); (try clear hb2); (try clear hk); (try clear hi)) | ((with_reducible refine gate_dst (N := 25) rfl ?_); (try (refine gate_guard (by rfl) ?_; dsimp only)); refine Kd.R_lit (Kd.int .i64) _ 3 ?hg (N := 25) ?hd (xs := ([wrap64 (-a1)] : List Int)) (inner := [.int .i64 (wrap64 (-a1))]) (ok := fun _ => True) (okp := fun _ => True) ?hr ?hp (fun _ hk => hk) trivial (Below.refl _ _) (Nat.le_refl _) (by simp) ?_; (case hd => rfl); (case hg => rfl); (case hr => first | (go_simp; done) | (go_simp; rfl)); (case hp => exact (Reps.one (show Kd.M (Kd.int .i64) _ _ _ (wrap64 (-a1)) [.int .i64 (wrap64 (-a1))] from rfl) (Reps.none _ _))); intro v927 w54 ho55 hb hg_ hnew_; clear hg_ hnew_; (first | rw [← Ny926.out] at ho55 | (simp only [Int.reduceToNat] at ho55; rw [← Ny926.out] at ho55)); have n0_ := Aside0.mk (Kd.R_elder' (by (with_reducible repeat (first | apply Kd.R_alloc | apply Kd.R_drewN | apply Kd.R_drew)); exact HO924.out) (Kd.R_base ho55) hb); have n1_ := Aside0.mk (Kd.R_lower (Kd.R_new' ho55 (Kd.R_lt (by (with_reducible repeat (first | apply Kd.R_alloc | apply Kd.R_drewN | apply Kd.R_drew)); exact HO924.out))) (below_size (by repeat (first | (with_reducible first | exact HB.out | apply below_alloc | apply pw_below_drewN | apply below_drew1) | exact HB.out)))); have n2_ := Aside0.mk (below_step (by repeat (first | (with_reducible first | exact HB.out | apply below_alloc | apply pw_below_drewN | apply below_drew1) | exact HB.out)) hb); clear HO924; clear HB; have HO924 := n0_; have HO928 := n1_; have HB := n2_; clear n0_ n1_ n2_; clear hb ho55; obtain ⟨Ao56, co56, eo56⟩ := Kd.R_slice HO928.out; subst eo56) | ((with_reducible refine gate_callee (f := 45) rfl ?_); refine goesL_ (some 27) rfl rfl Try.func45 (by kernel_rfl) rfl #[.slice Ao56 y926.length co56, .slice A0 l0.length c0] rfl (by (try simp only [List.map_toArray, List.map_cons, List.map_nil]); first | done | rfl | (simp only [List.length_drop, List.length_take]; rfl)) ?_; (with_reducible refine (clause_Holds.calls _ _ y926 _ _ l0 t929 _ ?side1 ?side2 ?side3 ?side4 A10.out).mono ?_); (case side1 => repeat (first | exact (Kd.R_reads' HO928.out).2.2 | (with_reducible refine Kd.C_alloc ?_ _) | (with_reducible refine Kd.C_drewN ?_ _) | (with_reducible refine Kd.C_drew ?_))); (case side2 => exact (Kd.R_reads' HO928.out).2.1); (case side3 => repeat (first | exact (Kd.C_below HR0.out HB.out) | (with_reducible refine Kd.C_alloc ?_ _) | (with_reducible refine Kd.C_drewN ?_ _) | (with_reducible refine Kd.C_drew ?_))); (case side4 => exact HC0.out); rintro e w57 ⟨rfl, hb⟩; refine ⟨_, rfl, ?_⟩; have n0_ := Aside0.mk (Kd.R_below (by (with_reducible repeat (first | apply Kd.R_alloc | apply Kd.R_drewN | apply Kd.R_drew)); exact HO924.out) hb); have n1_ := Aside0.mk (Kd.R_below (by (with_reducible repeat (first | apply Kd.R_alloc | apply Kd.R_drewN | apply Kd.R_drew)); exact HO928.out) hb); have n2_ := Aside0.mk (below_step (by repeat (first | (with_reducible first | exact HB.out | apply below_alloc | apply pw_below_drewN | apply below_drew1) | exact HB.out)) hb); clear HO924; clear HO928; clear HB; have HO924 := n0_; have HO928 := n1_; have HB := n2_; clear n0_ n1_ n2_; (try clear hb); (try clear hb2); (try clear hk); (try clear hi)) | ((with_reducible refine gate_callee (f := 62) rfl ?_); refine goesL_ (some 41) rfl rfl Try.func62 (by kernel_rfl) rfl #[] rfl (by (try simp only [List.map_toArray, List.map_cons, List.map_nil]); first | done | rfl | (simp only [List.length_drop, List.length_take]; rfl)) ?_; (with_reducible refine (hoggetlaw10_clauses.calls kj2  true _ A42.out).mono ?_); rintro e w58 ⟨rfl, hb⟩; refine ⟨_, rfl, ?_⟩; have n0_ := Aside0.mk (Kd.R_below (by (with_reducible repeat (first | apply Kd.R_alloc | apply Kd.R_drewN | apply Kd.R_drew)); exact HO924.out) hb); have n1_ := Aside0.mk (Kd.R_below (by (with_reducible repeat (first | apply Kd.R_alloc | apply Kd.R_drewN | apply Kd.R_drew)); exact HO928.out) hb); have n2_ := Aside0.mk (below_step (by repeat (first | (with_reducible first | exact HB.out | apply below_alloc | apply pw_below_drewN | apply below_drew1) | exact HB.out)) hb); clear HO924; clear HO928; clear HB; have HO924 := n0_; have HO928 := n1_; have HB := n2_; clear n0_ n1_ n2_; (try clear hb); (try clear hb2); (try clear hk); (try clear hi); have p932 : 0 ≤ ((ji45) : Int) := of_decide_eq_true (by first | (with_reducible assumption) | assumption); have q932 : (ji45) < (l0.length : Int) := of_decide_eq_true (by first | (with_reducible assumption) | assumption); obtain ⟨ad932, e932, hx932_0⟩ := Kd.at_bool HR0.out (ji45) p932 q932; cases e932; replace hx932_0 := (HB.out.cell (World.block_lt_of_cell? w _ hx932_0)).trans hx932_0; replace p932 := eq_true p932; replace q932 := eq_true q932) | ((with_reducible refine gate_dst (N := 60) rfl ?_); (try (refine gate_guard (by rfl) ?_; dsimp only)); refine Kd.R_lit (Kd.int .i64) _ 3 ?hg (N := 60) ?hd (xs := ([a1, wrap64 (-a1)] : List Int)) (inner := [.int .i64 a1, .int .i64 (wrap64 (-a1))]) (ok := fun _ => True) (okp := fun _ => True) ?hr ?hp (fun _ hk => hk) trivial (Below.refl _ _) (Nat.le_refl _) (by simp) ?_; (case hd => rfl); (case hg => rfl); (case hr => first | (go_simp; done) | (go_simp; rfl)); (case hp => exact (Reps.one (show Kd.M (Kd.int .i64) _ _ _ a1 [.int .i64 a1] from rfl) (Reps.one (show Kd.M (Kd.int .i64) _ _ _ (wrap64 (-a1)) [.int .i64 (wrap64 (-a1))] from rfl) (Reps.none _ _)))); intro v934 w59 ho60 hb hg_ hnew_; clear hg_ hnew_; (first | rw [← Ny933.out] at ho60 | (simp only [Int.reduceToNat] at ho60; rw [← Ny933.out] at ho60)); have n0_ := Aside0.mk (Kd.R_elder' (by (with_reducible repeat (first | apply Kd.R_alloc | apply Kd.R_drewN | apply Kd.R_drew)); exact HO924.out) (Kd.R_base ho60) hb); have n1_ := Aside0.mk (Kd.R_elder' (by (with_reducible repeat (first | apply Kd.R_alloc | apply Kd.R_drewN | apply Kd.R_drew)); exact HO928.out) (Kd.R_base ho60) hb); have n2_ := Aside0.mk (Kd.R_lower (Kd.R_new' (Kd.R_new' ho60 (Kd.R_lt (by (with_reducible repeat (first | apply Kd.R_alloc | apply Kd.R_drewN | apply Kd.R_drew)); exact HO924.out))) (Kd.R_lt (by (with_reducible repeat (first | apply Kd.R_alloc | apply Kd.R_drewN | apply Kd.R_drew)); exact HO928.out))) (below_size (by repeat (first | (with_reducible first | exact HB.out | apply below_alloc | apply pw_below_drewN | apply below_drew1) | exact HB.out)))); have n3_ := Aside0.mk (below_step (by repeat (first | (with_reducible first | exact HB.out | apply below_alloc | apply pw_below_drewN | apply below_drew1) | exact HB.out)) hb); clear HO924; clear HO928; clear HB; have HO924 := n0_; have HO928 := n1_; have HO935 := n2_; have HB := n3_; clear n0_ n1_ n2_ n3_; clear hb ho60; obtain ⟨Ao61, co61, eo61⟩ := Kd.R_slice HO935.out; subst eo61) | (go_at_call 45; (with_reducible refine (clause_Holds.calls _ _ y933 _ _ l0 t936 _ ?side1 ?side2 ?side3 ?side4 A49.out).mono ?_); (case side1 => repeat (first | exact (Kd.R_reads' HO935.out).2.2 | (with_reducible refine Kd.C_alloc ?_ _) | (with_reducible refine Kd.C_drewN ?_ _) | (with_reducible refine Kd.C_drew ?_))); (case side2 => exact (Kd.R_reads' HO935.out).2.1); (case side3 => repeat (first | exact (Kd.C_below HR0.out HB.out) | (with_reducible refine Kd.C_alloc ?_ _) | (with_reducible refine Kd.C_drewN ?_ _) | (with_reducible refine Kd.C_drew ?_))); (case side4 => exact HC0.out); rintro e w62 ⟨rfl, hb⟩; have n0_ := Aside0.mk (Kd.R_below (by (with_reducible repeat (first | apply Kd.R_alloc | apply Kd.R_drewN | apply Kd.R_drew)); exact HO924.out) hb); have n1_ := Aside0.mk (Kd.R_below (by (with_reducible repeat (first | apply Kd.R_alloc | apply Kd.R_drewN | apply Kd.R_drew)); exact HO928.out) hb); have n2_ := Aside0.mk (Kd.R_below (by (with_reducible repeat (first | apply Kd.R_alloc | apply Kd.R_drewN | apply Kd.R_drew)); exact HO935.out) hb); have n3_ := Aside0.mk (below_step (by repeat (first | (with_reducible first | exact HB.out | apply below_alloc | apply pw_below_drewN | apply below_drew1) | exact HB.out)) hb); clear HO924; clear HO928; clear HO935; clear HB; have HO924 := n0_; have HO928 := n1_; have HO935 := n2_; have HB := n3_; clear n0_ n1_ n2_ n3_; (try clear hb); (try clear hb2); (try clear hk); (try clear hi)))
                    go_ret
                    exact ⟨by first | rfl | (simp [errW_none, errW_some] <;> rfl) | (simp only [← hji45]; first | rfl | (simp [errW_none, errW_some] <;> rfl)) | (simp [*, errW_none, errW_some] <;> rfl), by repeat (first | (with_reducible first | exact HB.out | apply below_alloc | apply pw_below_drewN | apply below_drew1) | exact HB.out)⟩
                  · rw [if_neg c48] at H
                    have c48b0 : (t925 == (rdOf false l0 (ji45))) = false := by simpa using c48
                    (try (have c48b1 : decide (t925 = (rdOf false l0 (ji45))) = false := by simpa using c48))
                    (try (have c48b2 : (t925 == (rdOf false l0 (ji45))) = false := by simpa using c48))
                    (try (have c48b3 : ¬ (t925 = (rdOf false l0 (ji45))) := by simpa using c48))
                    clear c48
                    cases H
                · rw [if_neg c47] at H
                  exact absurd H (by simp)
              · rw [if_neg c46] at H
                exact absurd H (by simp)
            · rw [if_neg c44] at H
              have c44b0 : (t925 != t929) = false := by simpa using c44
              (try (have c44b1 : decide (t925 = t929) = true := by simpa using c44))
              (try (have c44b2 : (t925 == t929) = true := by simpa using c44))
              clear c44
              cases H
          · replace c43 := Bool.eq_false_iff.mpr c43
            subst c43
            have H1 : (none) = some r := by rw [if_neg (show ¬ (false = true) by decide)] at H; exact H
            clear H
            have H := H1
            clear H1
            cases H

end Go.Proofs.Ythnbmlpjbhhamaa.J
