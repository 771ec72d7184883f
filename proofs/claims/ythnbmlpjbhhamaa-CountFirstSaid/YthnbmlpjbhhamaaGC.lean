/- The walks of hoggetlaw14_CountFirst, by the print over this seat. -/
import Derived.Test.YthnbmlpjbhhamaaJ0
import Derived.Test.YthnbmlpjbhhamaaGM
import Derived.Test.YthnbmlpjbhhamaaGa
import Derived.Test.YthnbmlpjbhhamaaHc
namespace Go.Proofs.Ythnbmlpjbhhamaa.J
open Go.RowKit Go.Proofs.YthnbmlpjbhhamaaW.PrintWords Go.Proofs.YthnbmlpjbhhamaaW.PrintLast Go.Proofs.YthnbmlpjbhhamaaW.PrintMore
attribute [local go_sem] max2_int min2_int max_two min_two max_three min_three max_four min_four   -- for this text's walks alone
set_option linter.unusedVariables false
set_option linter.unusedSimpArgs false

/-! ### hoggetlaw14_CountFirst: function 28 -/
mutual
noncomputable def hoggetlaw14_CountFirst.j0 : Nat → Int → List Int → Bool → Option (Bool)
  | 0, _, _, _ => none
  | k + 1, x0, x1, x16 => if x16 = true then ((hoggetlaw14_counts.f k).bind fun t1172 => (some t1172)) else ((count_Never.f x0 x1).bind fun bt1173 => (if 0 ≤ (wrap64 ((x1.length : Int) - 1)) then (if (wrap64 ((x1.length : Int) - 1)) ≤ (x1.length : Int) then ((count_Never.f x0 (x1.take ((wrap64 ((x1.length : Int) - 1)) : Int).toNat)).bind fun bt1178 => (if bt1173.2 = 0 then (hoggetlaw14_CountFirst.j1 k bt1173.1 bt1173.2 bt1178.1 (bt1178.2 != 0)) else (hoggetlaw14_CountFirst.j1 k bt1173.1 bt1173.2 bt1178.1 true))) else (none)) else (none)))
noncomputable def hoggetlaw14_CountFirst.j1 : Nat → List (List Int) → Int → List (List Int) → Bool → Option (Bool)
  | 0, _, _, _, _ => none
  | k + 1, x5, x6, x7, x39 => if x39 = true then ((hoggetlaw14_counts.f k).bind fun t1182 => (if t1182 = true then (some (x6 != 0)) else (none))) else ((hoggetlaw14_counts.f k).bind fun t1183 => (if t1183 = true then (if (wrap64 ((x5.length : Int) - 1)) = (x7.length : Int) then (if 0 ≤ (wrap64 ((x5.length : Int) - 1)) then (if (wrap64 ((x5.length : Int) - 1)) ≤ (x5.length : Int) then ((hoggetref10_Clauses.f k (x5.take ((wrap64 ((x5.length : Int) - 1)) : Int).toNat) x7).bind fun t1188 => (some t1188)) else (none)) else (none)) else (none)) else (none)))
end
noncomputable def hoggetlaw14_CountFirst.f (k : Nat) (a0 : Int) (l1 : List Int) : Option (Bool) := if (l1.length : Int) > 60 then (hoggetlaw14_CountFirst.j0 k a0 l1 true) else (hoggetlaw14_CountFirst.j0 k a0 l1 ((l1.length : Int) == 0))
theorem hoggetlaw14_CountFirst.mono_l : ∀ k, (∀ y0 y1 y2, LeO (hoggetlaw14_CountFirst.j0 k y0 y1 y2) (hoggetlaw14_CountFirst.j0 (k + 1) y0 y1 y2)) ∧ (∀ y0 y1 y2 y3, LeO (hoggetlaw14_CountFirst.j1 k y0 y1 y2 y3) (hoggetlaw14_CountFirst.j1 (k + 1) y0 y1 y2 y3))
  | 0 => ⟨fun _ _ _ r h => by simp [hoggetlaw14_CountFirst.j0] at h, fun _ _ _ _ r h => by simp [hoggetlaw14_CountFirst.j1] at h⟩
  | k + 1 => by
    obtain ⟨ih0, ih1⟩ := hoggetlaw14_CountFirst.mono_l k
    refine ⟨?_, ?_⟩
    · intro y0 y1 y2
      unfold hoggetlaw14_CountFirst.j0
      repeat' first
      | (with_reducible exact ih0 _ _ _)
      | (with_reducible exact ih1 _ _ _ _)
      | (with_reducible exact hoggetlaw14_counts.mono _)
      | (with_reducible exact hoggetref10_Clauses.mono _ _ _)
      | (with_reducible exact LeO.refl _)
      | (with_reducible exact LeO.none _)
      | (with_reducible refine LeO.ite ?_ ?_)
      | (with_reducible refine LeO.bind ?_ (fun _ => ?_))
      | exact ih0 _ _ _
      | exact ih1 _ _ _ _
      | exact hoggetlaw14_counts.mono _
      | exact hoggetref10_Clauses.mono _ _ _
      | exact LeO.none _
      | refine LeO.ite ?_ ?_
      | refine LeO.bind ?_ (fun _ => ?_)
    · intro y0 y1 y2 y3
      unfold hoggetlaw14_CountFirst.j1
      repeat' first
      | (with_reducible exact ih0 _ _ _)
      | (with_reducible exact ih1 _ _ _ _)
      | (with_reducible exact hoggetlaw14_counts.mono _)
      | (with_reducible exact hoggetref10_Clauses.mono _ _ _)
      | (with_reducible exact LeO.refl _)
      | (with_reducible exact LeO.none _)
      | (with_reducible refine LeO.ite ?_ ?_)
      | (with_reducible refine LeO.bind ?_ (fun _ => ?_))
      | exact ih0 _ _ _
      | exact ih1 _ _ _ _
      | exact hoggetlaw14_counts.mono _
      | exact hoggetref10_Clauses.mono _ _ _
      | exact LeO.none _
      | refine LeO.ite ?_ ?_
      | refine LeO.bind ?_ (fun _ => ?_)
theorem hoggetlaw14_CountFirst.mono : ∀ a0 a1 k, LeO (hoggetlaw14_CountFirst.f k a0 a1) (hoggetlaw14_CountFirst.f (k + 1) a0 a1) := by
  intro a0 a1 k
  obtain ⟨ih0, ih1⟩ := hoggetlaw14_CountFirst.mono_l k
  unfold hoggetlaw14_CountFirst.f
  repeat' first
      | (with_reducible exact ih0 _ _ _)
      | (with_reducible exact ih1 _ _ _ _)
      | (with_reducible exact hoggetlaw14_counts.mono _)
      | (with_reducible exact hoggetref10_Clauses.mono _ _ _)
      | (with_reducible exact LeO.refl _)
      | (with_reducible exact LeO.none _)
      | (with_reducible refine LeO.ite ?_ ?_)
      | (with_reducible refine LeO.bind ?_ (fun _ => ?_))
      | exact ih0 _ _ _
      | exact ih1 _ _ _ _
      | exact hoggetlaw14_counts.mono _
      | exact hoggetref10_Clauses.mono _ _ _
      | exact LeO.none _
      | refine LeO.ite ?_ ?_
      | refine LeO.bind ?_ (fun _ => ?_)
set_option maxHeartbeats 8000000 in
set_option maxRecDepth 100000 in
theorem hoggetlaw14_CountFirst.calls (k : Nat) (a0 : Int) (A1 : Option Addr) (c1 : Nat) (l1 : List Int) (r : Bool) (w : World) (hr1 : Kd.C (Kd.int .i64) w A1 l1.length l1) (hc1 : l1.length ≤ c1) (h : hoggetlaw14_CountFirst.f k a0 l1 = some r) :
    Calls Try.prog 28 #[.int .i64 a0, .slice A1 l1.length c1] w fun e w' => e = .returned (.bool r) ∧ Below w.heap.size w w' := by
  have HR1 := Aside0.mk hr1
  have HC1 := Aside0.mk hc1
  clear hr1 hc1
  have HB := Aside0.mk (Below.refl w.heap.size w)
  have H : (if (l1.length : Int) > 60 then (hoggetlaw14_CountFirst.j0 k a0 l1 true) else (hoggetlaw14_CountFirst.j0 k a0 l1 ((l1.length : Int) == 0))) = some r := h
  clear h
  have HC3 := Aside0.mk H
  clear H
  go_enter Try.func28, Try.ntmps28
  go_upto_region 1 with (fail)
  go_cut [16] (fun v16 wc => ∃ (kq : Nat) (x16_2 : Bool), v16 = .bool x16_2 ∧ Aside0 (hoggetlaw14_CountFirst.j0 kq a0 l1 x16_2 = some r) ∧ Aside0 (kq ≤ k) ∧ Aside0 (Below w.heap.size w wc))
  case first =>
    have H := HC3.out
    clear HC3
    by_cases c4 : (l1.length : Int) > 60
    · rw [if_pos c4] at H
      have c4b0 : decide (60 < (l1.length : Int)) = true := decide_eq_true c4
      have c4b1 : decide (60 < l1.length) = true := decide_eq_true (by omega)
      clear c4
      (first | rw [c4b0] | (simp only [i64_w, i32_w]; rw [c4b0]) | skip)
      have H' := Aside0.mk H
      clear H
      go_wp2
      go_meet
      case rel => exact ⟨_, (true), (by first | rfl | (simp; done) | (simp [*]; done)), H', ⟨by first | omega | exact Nat.le_refl _⟩, ⟨by repeat (first | (with_reducible first | exact HB.out | apply below_alloc | apply pw_below_drewN | apply below_drew1) | exact HB.out)⟩⟩
    · rw [if_neg c4] at H
      have c4b0 : decide (60 < (l1.length : Int)) = false := decide_eq_false c4
      have c4b1 : decide (60 < l1.length) = false := decide_eq_false (by omega)
      clear c4
      (first | rw [c4b0] | (simp only [i64_w, i32_w]; rw [c4b0]) | skip)
      have H' := Aside0.mk H
      clear H
      go_wp2
      go_meet
      case rel => exact ⟨_, (((l1.length : Int) == 0)), (by first | rfl | (simp; done) | (simp [*]; done)), H', ⟨by first | omega | exact Nat.le_refl _⟩, ⟨by repeat (first | (with_reducible first | exact HB.out | apply below_alloc | apply pw_below_drewN | apply below_drew1) | exact HB.out)⟩⟩
  case rest =>
    clear HC3
    try clear c1
    try clear c2
    try clear p2
    try clear c4
    try clear c4b0
    try clear c4b1
    obtain ⟨kq, x16_2, rfl, HA, HJ2, HB⟩ := hcut
    cases kq with
    | zero => exact absurd HA.out (by simp [hoggetlaw14_CountFirst.j0])
    | succ kj2 =>
      have H := HA.out
      clear HA
      simp only [hoggetlaw14_CountFirst.j0] at H
      by_cases c5 : x16_2 = true
      · subst c5
        have H1 : ((hoggetlaw14_counts.f kj2).bind fun t1172 => (some t1172)) = some r := by rw [if_pos rfl] at H; exact H
        clear H
        have H := H1
        clear H1
        replace H := Option.bind_eq_some_iff.mp H
        obtain ⟨t1172, A60, H⟩ := H
        replace H : (some t1172) = some r := H
        have A6 := Aside0.mk A60
        clear A60
        obtain rfl := Option.some.inj H
        go_wp2_with (first | ((with_reducible refine gate_callee (f := 77) rfl ?_); refine goesL_ (some 17) rfl rfl Try.func77 (by kernel_rfl) rfl #[] rfl (by (try simp only [List.map_toArray, List.map_cons, List.map_nil]); first | done | rfl | (simp only [List.length_drop, List.length_take]; rfl)) ?_; (with_reducible refine (hoggetlaw14_counts.calls kj2  t1172 _ A6.out).mono ?_); rintro e w7 ⟨rfl, hb⟩; refine ⟨_, rfl, ?_⟩; have n0_ := Aside0.mk (below_step (by repeat (first | (with_reducible first | exact HB.out | apply below_alloc | apply pw_below_drewN | apply below_drew1) | exact HB.out)) hb); clear HB; have HB := n0_; clear n0_; (try clear hb); (try clear hb2); (try clear hk); (try clear hi)))
        go_ret
        exact ⟨by first | rfl | (simp [errW_none, errW_some] <;> rfl) | (simp [*, errW_none, errW_some] <;> rfl), by repeat (first | (with_reducible first | exact HB.out | apply below_alloc | apply pw_below_drewN | apply below_drew1) | exact HB.out)⟩
      · replace c5 := Bool.eq_false_iff.mpr c5
        subst c5
        have H1 : ((count_Never.f a0 l1).bind fun bt1173 => (if 0 ≤ (wrap64 ((l1.length : Int) - 1)) then (if (wrap64 ((l1.length : Int) - 1)) ≤ (l1.length : Int) then ((count_Never.f a0 (l1.take ((wrap64 ((l1.length : Int) - 1)) : Int).toNat)).bind fun bt1178 => (if bt1173.2 = 0 then (hoggetlaw14_CountFirst.j1 kj2 bt1173.1 bt1173.2 bt1178.1 (bt1178.2 != 0)) else (hoggetlaw14_CountFirst.j1 kj2 bt1173.1 bt1173.2 bt1178.1 true))) else (none)) else (none))) = some r := by rw [if_neg (show ¬ (false = true) by decide)] at H; exact H
        clear H
        have H := H1
        clear H1
        replace H := Option.bind_eq_some_iff.mp H
        obtain ⟨⟨t1173, t1174⟩, A80, H⟩ := H
        replace H : (if 0 ≤ (wrap64 ((l1.length : Int) - 1)) then (if (wrap64 ((l1.length : Int) - 1)) ≤ (l1.length : Int) then ((count_Never.f a0 (l1.take ((wrap64 ((l1.length : Int) - 1)) : Int).toNat)).bind fun bt1178 => (if t1174 = 0 then (hoggetlaw14_CountFirst.j1 kj2 t1173 t1174 bt1178.1 (bt1178.2 != 0)) else (hoggetlaw14_CountFirst.j1 kj2 t1173 t1174 bt1178.1 true))) else (none)) else (none)) = some r := H
        have A8 := Aside0.mk A80
        clear A80
        obtain ⟨ji9, hji9⟩ : ∃ j_ : Int, (wrap64 ((l1.length : Int) - 1)) = j_ := ⟨_, rfl⟩
        replace H : (if 0 ≤ (ji9) then (if (ji9) ≤ (l1.length : Int) then ((count_Never.f a0 (l1.take ((ji9) : Int).toNat)).bind fun bt1178 => (if t1174 = 0 then (hoggetlaw14_CountFirst.j1 kj2 t1173 t1174 bt1178.1 (bt1178.2 != 0)) else (hoggetlaw14_CountFirst.j1 kj2 t1173 t1174 bt1178.1 true))) else (none)) else (none)) = some r := by first | (rw [hji9] at H; exact H) | (simp only [hji9] at H ⊢; exact H)
        (try rw [hji9] at A8)
        have hji9w : (IntKind.i64.wrap ((l1.length : Int) - 1)) = ji9 := (i64_w _).trans hji9
        by_cases c10 : 0 ≤ (ji9)
        · rw [if_pos c10] at H
          have c10b0 := eq_true c10
          have c10b1 : decide (0 ≤ (ji9)) = true := decide_eq_true c10
          clear c10
          by_cases c11 : (ji9) ≤ (l1.length : Int)
          · rw [if_pos c11] at H
            have c11b0 := eq_true c11
            have c11b1 : decide ((ji9) ≤ (l1.length : Int)) = true := decide_eq_true c11
            clear c11
            replace H := Option.bind_eq_some_iff.mp H
            obtain ⟨⟨t1178, t1179⟩, A120, H⟩ := H
            replace H : (if t1174 = 0 then (hoggetlaw14_CountFirst.j1 kj2 t1173 t1174 t1178 (t1179 != 0)) else (hoggetlaw14_CountFirst.j1 kj2 t1173 t1174 t1178 true)) = some r := H
            have A12 := Aside0.mk A120
            clear A120
            have HC13 := Aside0.mk H
            clear H
            go_upto_region 5 with (first | ((with_reducible refine gate_callee (f := 74) rfl ?_); refine goesL_ (some 21) rfl rfl Try.func74 (by kernel_rfl) rfl #[.int .i64 a0, .slice A1 l1.length c1] rfl (by (try simp only [List.map_toArray, List.map_cons, List.map_nil]); first | done | rfl | (simp only [List.length_drop, List.length_take]; rfl)) ?_; (with_reducible refine (count_Never.calls a0 _ _ l1 t1173 t1174 _ ?side1 ?side2 A8.out).mono ?_); (case side1 => repeat (first | exact (Kd.C_below HR1.out HB.out) | (with_reducible refine Kd.C_alloc ?_ _) | (with_reducible refine Kd.C_drewN ?_ _) | (with_reducible refine Kd.C_drew ?_))); (case side2 => exact HC1.out); rintro e w14 ⟨v1175, rfl, ho0, hb⟩; refine ⟨_, rfl, ?_⟩; have n0_ := Aside0.mk (Kd.S_lower ho0 (below_size (by repeat (first | (with_reducible first | exact HB.out | apply below_alloc | apply pw_below_drewN | apply below_drew1) | exact HB.out)))); have n1_ := Aside0.mk (below_step (by repeat (first | (with_reducible first | exact HB.out | apply below_alloc | apply pw_below_drewN | apply below_drew1) | exact HB.out)) hb); clear HB; have HO1176 := n0_; have HB := n1_; clear n0_ n1_; (try clear hb); (try clear hb2); (try clear hk); (try clear hi); (try clear ho0); obtain ⟨i015, hi015, _, hsz15, _⟩ := info_parts info3; obtain ⟨hcut15, hA15, hC15⟩ := print_take_of (P := Try.prog) (Value.int .i64) 0 25 3 .i64 Try.underlying25 hi015 hsz15 A1 c1 l1 (ji9) (of_decide_eq_true (by first | (with_reducible assumption) | assumption)) (of_decide_eq_true (by first | (with_reducible assumption) | assumption)) HC1.out; have HR1177 := Aside0.mk (Kd.C_of_reads (h1 := fun _ => rfl) (hA15 _ (Kd.reads_of_C HR1.out))); have HC1177 := Aside0.mk hC15; clear hA15 hC15 hi015 hsz15) | ((with_reducible refine gate_callee (f := 74) rfl ?_); refine goesL_ (some 31) rfl rfl Try.func74 (by kernel_rfl) rfl #[.int .i64 a0, .slice A1 (l1.take ((ji9) : Int).toNat).length c1] rfl (by (try simp only [List.map_toArray, List.map_cons, List.map_nil]); first | done | (rw [show (l1.take ((ji9) : Int).toNat).length = (ji9).toNat from (by rw [List.length_take]; have h_ : ((ji9) : Int) ≤ (l1.length : Int) := of_decide_eq_true (by first | (with_reducible assumption) | assumption); omega)] <;> rfl) | (simp only [hji9]; rfl) | rfl | (simp only [List.length_drop, List.length_take]; rfl)) ?_; (with_reducible refine (count_Never.calls a0 _ _ (l1.take ((ji9) : Int).toNat) t1178 t1179 _ ?side1 ?side2 A12.out).mono ?_); (case side1 => repeat (first | exact (Kd.C_below HR1177.out HB.out) | (with_reducible refine Kd.C_alloc ?_ _) | (with_reducible refine Kd.C_drewN ?_ _) | (with_reducible refine Kd.C_drew ?_))); (case side2 => exact HC1177.out); rintro e w16 ⟨v1180, rfl, ho0, hb⟩; refine ⟨_, rfl, ?_⟩; have n0_ := Aside0.mk (Kd.S_elder' (by (with_reducible repeat (first | apply Kd.S_alloc | apply Kd.S_drewN | apply Kd.S_drew)); exact HO1176.out) (Kd.S_base ho0) hb); have n1_ := Aside0.mk (Kd.S_lower (Kd.S_new' ho0 (Kd.S_lt (by (with_reducible repeat (first | apply Kd.S_alloc | apply Kd.S_drewN | apply Kd.S_drew)); exact HO1176.out))) (below_size (by repeat (first | (with_reducible first | exact HB.out | apply below_alloc | apply pw_below_drewN | apply below_drew1) | exact HB.out)))); have n2_ := Aside0.mk (below_step (by repeat (first | (with_reducible first | exact HB.out | apply below_alloc | apply pw_below_drewN | apply below_drew1) | exact HB.out)) hb); clear HO1176; clear HB; have HO1176 := n0_; have HO1181 := n1_; have HB := n2_; clear n0_ n1_ n2_; (try clear hb); (try clear hb2); (try clear hk); (try clear hi); (try clear ho0)))
            (try simp only [Act.put, List.setIfInBounds_toArray, List.set_cons_zero, List.set_cons_succ])
            go_cut [39] (fun v39 wc => ∃ (kq : Nat) (x39_12 : Bool), v39 = .bool x39_12 ∧ Aside0 (hoggetlaw14_CountFirst.j1 kq t1173 t1174 t1178 x39_12 = some r) ∧ Aside0 (kq ≤ kj2) ∧ Aside0 (Kd.S (Kd.slice 3 (Kd.int .i64)) 25 wc w.heap.size (fun k_ => some k_ ≠ (v1180 : Value).ownBlock) v1175 t1173) ∧ Aside0 (Kd.S (Kd.slice 3 (Kd.int .i64)) 25 wc w.heap.size (fun k_ => some k_ ≠ (v1175 : Value).ownBlock) v1180 t1178) ∧ Aside0 (Below w.heap.size w wc))
            case first =>
              have H := HC13.out
              clear HC13
              by_cases c17 : t1174 = 0
              · rw [if_pos c17] at H
                have c17b0 : (t1174 == 0) = true := beq_iff_eq.mpr c17
                have c17b1 : (t1174 != 0) = false := bne_eq_false_iff_eq.mpr c17
                clear c17
                (first | rw [c17b0] | (simp only [i64_w, i32_w]; rw [c17b0]) | skip)
                have H' := Aside0.mk H
                clear H
                go_wp2
                go_meet
                case rel => exact ⟨_, ((t1179 != 0)), (by first | rfl | (simp; done) | (simp [*]; done)), H', ⟨by have := HJ2.out; first | omega | exact Nat.le_refl _⟩, ⟨by (with_reducible repeat (first | apply Kd.S_alloc | apply Kd.S_drewN | apply Kd.S_drew)); exact Kd.S_mono HO1176.out (fun _ hk => hk.2)⟩, ⟨by (with_reducible repeat (first | apply Kd.S_alloc | apply Kd.S_drewN | apply Kd.S_drew)); exact Kd.S_mono HO1181.out (fun _ hk => hk.2)⟩, ⟨by repeat (first | (with_reducible first | exact HB.out | apply below_alloc | apply pw_below_drewN | apply below_drew1) | exact HB.out)⟩⟩
              · rw [if_neg c17] at H
                have c17b0 : (t1174 == 0) = false := beq_eq_false_iff_ne.mpr c17
                have c17b1 : (t1174 != 0) = true := bne_iff_ne.mpr c17
                (first | rw [c17b0] | (simp only [i64_w, i32_w]; rw [c17b0]) | skip)
                have H' := Aside0.mk H
                clear H
                go_wp2
                go_meet
                case rel => exact ⟨_, (true), (by first | rfl | (simp; done) | (simp [*]; done)), H', ⟨by have := HJ2.out; first | omega | exact Nat.le_refl _⟩, ⟨by (with_reducible repeat (first | apply Kd.S_alloc | apply Kd.S_drewN | apply Kd.S_drew)); exact Kd.S_mono HO1176.out (fun _ hk => hk.2)⟩, ⟨by (with_reducible repeat (first | apply Kd.S_alloc | apply Kd.S_drewN | apply Kd.S_drew)); exact Kd.S_mono HO1181.out (fun _ hk => hk.2)⟩, ⟨by repeat (first | (with_reducible first | exact HB.out | apply below_alloc | apply pw_below_drewN | apply below_drew1) | exact HB.out)⟩⟩
            case rest =>
              clear HC13
              try clear c1
              try clear c2
              try clear p2
              try clear c4
              try clear c4b0
              try clear c4b1
              try clear c5
              try clear p6
              try clear c7
              try clear c10
              try clear c10b0
              try clear c10b1
              try clear c11
              try clear c11b0
              try clear c11b1
              try clear c17
              try clear c17b0
              try clear c17b1
              try clear p2
              obtain ⟨kq, x39_12, rfl, HA, HJ12, HO_5, HO_7, HB⟩ := hcut
              cases kq with
              | zero => exact absurd HA.out (by simp [hoggetlaw14_CountFirst.j1])
              | succ kj12 =>
                have H := HA.out
                clear HA
                simp only [hoggetlaw14_CountFirst.j1] at H
                by_cases c18 : x39_12 = true
                · subst c18
                  have H1 : ((hoggetlaw14_counts.f kj12).bind fun t1182 => (if t1182 = true then (some (t1174 != 0)) else (none))) = some r := by rw [if_pos rfl] at H; exact H
                  clear H
                  have H := H1
                  clear H1
                  replace H := Option.bind_eq_some_iff.mp H
                  obtain ⟨t1182, A190, H⟩ := H
                  replace H : (if t1182 = true then (some (t1174 != 0)) else (none)) = some r := H
                  have A19 := Aside0.mk A190
                  clear A190
                  by_cases c20 : t1182 = true
                  · subst c20
                    have H1 : (some (t1174 != 0)) = some r := by rw [if_pos rfl] at H; exact H
                    clear H
                    have H := H1
                    clear H1
                    obtain rfl := Option.some.inj H
                    go_wp2_with (first | ((with_reducible refine gate_callee (f := 77) rfl ?_); refine goesL_ (some 40) rfl rfl Try.func77 (by kernel_rfl) rfl #[] rfl (by (try simp only [List.map_toArray, List.map_cons, List.map_nil]); first | done | rfl | (simp only [List.length_drop, List.length_take]; rfl)) ?_; (with_reducible refine (hoggetlaw14_counts.calls kj12  true _ A19.out).mono ?_); rintro e w21 ⟨rfl, hb⟩; refine ⟨_, rfl, ?_⟩; have n0_ := Aside0.mk (Kd.S_below (by (with_reducible repeat (first | apply Kd.S_alloc | apply Kd.S_drewN | apply Kd.S_drew)); exact HO_5.out) hb); have n1_ := Aside0.mk (Kd.S_below (by (with_reducible repeat (first | apply Kd.S_alloc | apply Kd.S_drewN | apply Kd.S_drew)); exact HO_7.out) hb); have n2_ := Aside0.mk (below_step (by repeat (first | (with_reducible first | exact HB.out | apply below_alloc | apply pw_below_drewN | apply below_drew1) | exact HB.out)) hb); clear HO_5; clear HO_7; clear HB; have HO_5 := n0_; have HO_7 := n1_; have HB := n2_; clear n0_ n1_ n2_; (try clear hb); (try clear hb2); (try clear hk); (try clear hi)))
                    go_ret
                    exact ⟨by first | rfl | (simp [errW_none, errW_some] <;> rfl) | (simp only [← hji9]; first | rfl | (simp [errW_none, errW_some] <;> rfl)) | (simp [*, errW_none, errW_some] <;> rfl), by repeat (first | (with_reducible first | exact HB.out | apply below_alloc | apply pw_below_drewN | apply below_drew1) | exact HB.out)⟩
                  · replace c20 := Bool.eq_false_iff.mpr c20
                    subst c20
                    have H1 : (none) = some r := by rw [if_neg (show ¬ (false = true) by decide)] at H; exact H
                    clear H
                    have H := H1
                    clear H1
                    cases H
                · replace c18 := Bool.eq_false_iff.mpr c18
                  subst c18
                  have H1 : ((hoggetlaw14_counts.f kj12).bind fun t1183 => (if t1183 = true then (if (wrap64 ((t1173.length : Int) - 1)) = (t1178.length : Int) then (if 0 ≤ (wrap64 ((t1173.length : Int) - 1)) then (if (wrap64 ((t1173.length : Int) - 1)) ≤ (t1173.length : Int) then ((hoggetref10_Clauses.f kj12 (t1173.take ((wrap64 ((t1173.length : Int) - 1)) : Int).toNat) t1178).bind fun t1188 => (some t1188)) else (none)) else (none)) else (none)) else (none))) = some r := by rw [if_neg (show ¬ (false = true) by decide)] at H; exact H
                  clear H
                  have H := H1
                  clear H1
                  replace H := Option.bind_eq_some_iff.mp H
                  obtain ⟨t1183, A230, H⟩ := H
                  replace H : (if t1183 = true then (if (wrap64 ((t1173.length : Int) - 1)) = (t1178.length : Int) then (if 0 ≤ (wrap64 ((t1173.length : Int) - 1)) then (if (wrap64 ((t1173.length : Int) - 1)) ≤ (t1173.length : Int) then ((hoggetref10_Clauses.f kj12 (t1173.take ((wrap64 ((t1173.length : Int) - 1)) : Int).toNat) t1178).bind fun t1188 => (some t1188)) else (none)) else (none)) else (none)) else (none)) = some r := H
                  have A23 := Aside0.mk A230
                  clear A230
                  by_cases c24 : t1183 = true
                  · subst c24
                    have H1 : (if (wrap64 ((t1173.length : Int) - 1)) = (t1178.length : Int) then (if 0 ≤ (wrap64 ((t1173.length : Int) - 1)) then (if (wrap64 ((t1173.length : Int) - 1)) ≤ (t1173.length : Int) then ((hoggetref10_Clauses.f kj12 (t1173.take ((wrap64 ((t1173.length : Int) - 1)) : Int).toNat) t1178).bind fun t1188 => (some t1188)) else (none)) else (none)) else (none)) = some r := by rw [if_pos rfl] at H; exact H
                    clear H
                    have H := H1
                    clear H1
                    by_cases c25 : (wrap64 ((t1173.length : Int) - 1)) = (t1178.length : Int)
                    · rw [if_pos c25] at H
                      have c25b0 : ((wrap64 ((t1173.length : Int) - 1)) == (t1178.length : Int)) = true := beq_iff_eq.mpr c25
                      have c25b1 : ((wrap64 ((t1173.length : Int) - 1)) != (t1178.length : Int)) = false := bne_eq_false_iff_eq.mpr c25
                      clear c25
                      obtain ⟨ji26, hji26⟩ : ∃ j_ : Int, (wrap64 ((t1173.length : Int) - 1)) = j_ := ⟨_, rfl⟩
                      replace H : (if 0 ≤ (ji26) then (if (ji26) ≤ (t1173.length : Int) then ((hoggetref10_Clauses.f kj12 (t1173.take ((ji26) : Int).toNat) t1178).bind fun t1188 => (some t1188)) else (none)) else (none)) = some r := by first | (rw [hji26] at H; exact H) | (simp only [hji26] at H ⊢; exact H)
                      (try rw [hji26] at c25b0)
                      (try rw [hji26] at c25b1)
                      (try rw [hji26] at A23)
                      have hji26w : (IntKind.i64.wrap ((t1173.length : Int) - 1)) = ji26 := (i64_w _).trans hji26
                      by_cases c27 : 0 ≤ (ji26)
                      · rw [if_pos c27] at H
                        have c27b0 := eq_true c27
                        have c27b1 : decide (0 ≤ (ji26)) = true := decide_eq_true c27
                        clear c27
                        by_cases c28 : (ji26) ≤ (t1173.length : Int)
                        · rw [if_pos c28] at H
                          have c28b0 := eq_true c28
                          have c28b1 : decide ((ji26) ≤ (t1173.length : Int)) = true := decide_eq_true c28
                          clear c28
                          obtain ⟨y1184, hy1184⟩ : ∃ y_ : List (List Int), y_ = (t1173.take ((ji26) : Int).toNat) := ⟨_, rfl⟩
                          replace H : ((hoggetref10_Clauses.f kj12 y1184 t1178).bind fun t1188 => (some t1188)) = some r := by first | (rw [hy1184]; with_reducible exact H) | (have H2_ := (Option.bind_some _ _).symm.trans H; rw [hy1184]; with_reducible exact H2_) | (have H2_ := (Option.bind_some _ _).symm.trans H; with_reducible exact H2_) | with_reducible exact H | (rw [hy1184]; exact H) | exact H
                          have Ny1184 := Aside0.mk hy1184
                          clear hy1184
                          replace H := Option.bind_eq_some_iff.mp H
                          obtain ⟨t1188, A290, H⟩ := H
                          replace H : (some t1188) = some r := H
                          have A29 := Aside0.mk A290
                          clear A290
                          obtain rfl := Option.some.inj H
                          go_wp2_with (first | ((with_reducible refine gate_callee (f := 77) rfl ?_); refine goesL_ (some 45) rfl rfl Try.func77 (by kernel_rfl) rfl #[] rfl (by (try simp only [List.map_toArray, List.map_cons, List.map_nil]); first | done | rfl | (simp only [List.length_drop, List.length_take]; rfl)) ?_; (with_reducible refine (hoggetlaw14_counts.calls kj12  true _ A23.out).mono ?_); rintro e w30 ⟨rfl, hb⟩; refine ⟨_, rfl, ?_⟩; have n0_ := Aside0.mk (Kd.S_below (by (with_reducible repeat (first | apply Kd.S_alloc | apply Kd.S_drewN | apply Kd.S_drew)); exact HO_5.out) hb); have n1_ := Aside0.mk (Kd.S_below (by (with_reducible repeat (first | apply Kd.S_alloc | apply Kd.S_drewN | apply Kd.S_drew)); exact HO_7.out) hb); have n2_ := Aside0.mk (below_step (by repeat (first | (with_reducible first | exact HB.out | apply below_alloc | apply pw_below_drewN | apply below_drew1) | exact HB.out)) hb); clear HO_5; clear HO_7; clear HB; have HO_5 := n0_; have HO_7 := n1_; have HB := n2_; clear n0_ n1_ n2_; (try clear hb); (try clear hb2); (try clear hk); (try clear hi); obtain ⟨Ao31, co31, eo31⟩ := Kd.S_slice HO_5.out; subst eo31; obtain ⟨Ao32, co32, eo32⟩ := Kd.S_slice HO_7.out; subst eo32; have q33 : ((ji26) : Int) ≤ ((t1173.length : Int) : Int) := of_decide_eq_true (by first | (with_reducible assumption) | assumption); obtain ⟨i033, hi033, _, hsz33, _⟩ := info_parts info25; have hroom33 : t1173.length ≤ co31 := (Kd.S_reads' HO_5.out).2.1; have hC33 : Kd.C (Kd.slice 3 (Kd.int .i64)) _ Ao31 t1173.length t1173 := (Kd.S_reads' HO_5.out).2.2; have hcut33 := cut_to (P := Try.prog) 22 25 .i64 Try.underlying22 hi033 Ao31 t1173.length co31 (ji26) (of_decide_eq_true (by first | (with_reducible assumption) | assumption)) q33 hroom33; have hr33 := Kd.C_take (m := ((ji26) : Int).toNat) hC33 (by omega); have hy33 : y1184.length = ((ji26) : Int).toNat := (by rw [Ny1184.out, List.length_take]; omega); rw [← Ny1184.out] at hr33; rw [← hy33] at hcut33; have HR1187 := Aside0.mk hr33; have HC1187 := Aside0.mk (show y1184.length ≤ co31 from by omega); clear hr33 hC33 hroom33 hi033 hsz33; have KY33 := Aside0.mk hy33; clear hy33; have KL33 := Aside0.mk (show ((ji26) : Int).toNat ≤ t1173.length from by omega); replace q33 := eq_true q33) | (go_at_call 41; (with_reducible refine (hoggetref10_Clauses.calls kj12 _ _ y1184 _ _ t1178 t1188 _ ?side1 ?side2 ?side3 ?side4 A29.out).mono ?_); (case side1 => repeat (first | exact (by repeat (first | (with_reducible exact HR1187.out) | (with_reducible refine Kd.C_alloc ?_ _) | (with_reducible refine Kd.C_drewN ?_ _) | (with_reducible refine Kd.C_drew ?_) | exact HR1187.out)) | (with_reducible refine Kd.C_alloc ?_ _) | (with_reducible refine Kd.C_drewN ?_ _) | (with_reducible refine Kd.C_drew ?_))); (case side2 => exact HC1187.out); (case side3 => repeat (first | exact (Kd.S_reads' HO_7.out).2.2 | (with_reducible refine Kd.C_alloc ?_ _) | (with_reducible refine Kd.C_drewN ?_ _) | (with_reducible refine Kd.C_drew ?_))); (case side4 => exact (Kd.S_reads' HO_7.out).2.1); rintro e w' ⟨rfl, ⟨nd, rfl⟩⟩))
                          go_ret
                          exact ⟨by first | rfl | (simp [errW_none, errW_some] <;> rfl) | (simp only [← hji9, ← hji26]; first | rfl | (simp [errW_none, errW_some] <;> rfl)) | (simp [*, errW_none, errW_some] <;> rfl), by repeat (first | (with_reducible first | exact HB.out | apply below_alloc | apply pw_below_drewN | apply below_drew1) | exact HB.out)⟩
                        · rw [if_neg c28] at H
                          exact absurd H (by simp)
                      · rw [if_neg c27] at H
                        exact absurd H (by simp)
                    · rw [if_neg c25] at H
                      have c25b0 : ((wrap64 ((t1173.length : Int) - 1)) == (t1178.length : Int)) = false := beq_eq_false_iff_ne.mpr c25
                      have c25b1 : ((wrap64 ((t1173.length : Int) - 1)) != (t1178.length : Int)) = true := bne_iff_ne.mpr c25
                      cases H
                  · replace c24 := Bool.eq_false_iff.mpr c24
                    subst c24
                    have H1 : (none) = some r := by rw [if_neg (show ¬ (false = true) by decide)] at H; exact H
                    clear H
                    have H := H1
                    clear H1
                    cases H
          · rw [if_neg c11] at H
            exact absurd H (by simp)
        · rw [if_neg c10] at H
          exact absurd H (by simp)

/-- THE ONE PURE STATEMENT of hoggetlaw14_CountFirst: yours. -/
noncomputable def hoggetlaw14_CountFirst.Pure : Prop := ∀ (a0 : Int) (l1 : List Int), (Lit.int .i64 a0).wf = true → l1.length ≤ maxLen → l1.length * 8 ≤ 140737488351232 → (∀ x ∈ l1, (Lit.int .i64 x).wf = true) → ∃ k, hoggetlaw14_CountFirst.f k a0 l1 = some true
theorem hoggetlaw14_CountFirst.walk (P : hoggetlaw14_CountFirst.Pure) (a0 : Int) (a1 : Option Addr) (len1 cap1 : Nat) (z1 : List Int) (w : World) (w0 : (Lit.int .i64 a0).wf = true) (w1 : (a1 = none ∧ len1 = 0 ∧ cap1 = 0 ∧ z1 = []) ∨ ∃ x, a1 = some x ∧ len1 ≤ cap1 ∧ cap1 ≤ maxLen ∧ z1.length = cap1 ∧ (∀ i, i < z1.length → w.cell? (x.add i) = some (.int .i64 (z1.getD i 0))) ∧ ∀ n ∈ z1, (Lit.int .i64 n).wf = true) (y1 : len1 * 8 ≤ 140737488351232) :
    Calls Try.prog 28 #[.int .i64 a0, .slice a1 len1 cap1] w fun e w' => e = .returned (.bool true) ∧ Below w.heap.size w w' := by
  obtain ⟨l1, rfl, hr1, hm1, hw1, hc1⟩ := ReadsInt.ofRowC w1
  obtain ⟨k, h⟩ := P a0 l1 w0 hm1 y1 hw1
  refine (hoggetlaw14_CountFirst.calls k a0 _ _ l1 true w (Kd.C_of_reads (d := (0 : Int)) (h1 := fun _ => rfl) hr1) hc1 h).mono ?_
  rintro e w' ⟨rfl, hd⟩
  exact ⟨rfl, hd⟩

end Go.Proofs.Ythnbmlpjbhhamaa.J
