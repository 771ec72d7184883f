/- The walks of hoggetlaw11_UnitPlain, by the print over this seat. -/
import Derived.Test.YthnbmlpjbhhamaaJ0
import Derived.Test.YthnbmlpjbhhamaaGa
import Derived.Test.YthnbmlpjbhhamaaGd
import Derived.Test.YthnbmlpjbhhamaaHt
import Derived.Test.YthnbmlpjbhhamaaHv
import Derived.Test.YthnbmlpjbhhamaaHw
namespace Go.Proofs.Ythnbmlpjbhhamaa.J
open Go.RowKit Go.Proofs.YthnbmlpjbhhamaaW.PrintWords Go.Proofs.YthnbmlpjbhhamaaW.PrintLast Go.Proofs.YthnbmlpjbhhamaaW.PrintMore
attribute [local go_sem] max2_int min2_int max_two min_two max_three min_three max_four min_four   -- for this text's walks alone
set_option linter.unusedVariables false
set_option linter.unusedSimpArgs false

/-! ### hoggetlaw11_UnitPlain: function 31 -/
noncomputable def hoggetlaw11_UnitPlain.l0 : Nat → List Int → List Int → Int → List Int → Int → Bool → Int → Option (Bool)
  | 0, _, _, _, _, _, _, _ => none
  | k + 1, x1, x5, x6, x7, x8, x9, x10 => if x10 < (x1.length : Int) then (if x9 = true then (hoggetlaw11_UnitPlain.l0 k x1 x5 x6 x7 x8 true (wrap64 (x10 + 1))) else (if x8 = 0 then (if 0 ≤ x10 then ((hoggetref11_Has.f k x1 (wrap64 (-(rd x1 x10)))).bind fun t1249 => (hoggetlaw11_UnitPlain.l0 k x1 x5 x6 x7 x8 t1249 (wrap64 (x10 + 1)))) else (none)) else (hoggetlaw11_UnitPlain.l0 k x1 x5 x6 x7 x8 false (wrap64 (x10 + 1))))) else (if x6 = 0 then ((hoggetlaw11_follows.f k).bind fun t1250 => (if t1250 = true then (if x8 = 0 then (if x9 = true then (none) else ((hoggetref10_Ints.f k x5 x7).bind fun t1251 => (some t1251))) else (none)) else (none))) else ((hoggetlaw11_follows.f k).bind fun t1252 => (if t1252 = true then (if (x5.length : Int) = 0 then (if x6 = 110 then (some x9) else (some true)) else (none)) else (none))))
noncomputable def hoggetlaw11_UnitPlain.f (k : Nat) (a0 : Int) (l1 : List Int) : Option (Bool) := if (l1.length : Int) > 100 then (some true) else ((unit_Propagate.f a0 ([] : List (List Int)) l1).bind fun bt1240 => ((clause_Tidy.f l1).bind fun bt1244 => (hoggetlaw11_UnitPlain.l0 k l1 bt1240.1 bt1240.2 bt1244.1 bt1244.2 false 0)))
theorem hoggetlaw11_UnitPlain.mono_l : ∀ k, (∀ y0 y1 y2 y3 y4 y5 y6, LeO (hoggetlaw11_UnitPlain.l0 k y0 y1 y2 y3 y4 y5 y6) (hoggetlaw11_UnitPlain.l0 (k + 1) y0 y1 y2 y3 y4 y5 y6))
  | 0 => fun _ _ _ _ _ _ _ r h => by simp [hoggetlaw11_UnitPlain.l0] at h
  | k + 1 => by
    have ih0 := hoggetlaw11_UnitPlain.mono_l k
    · intro y0 y1 y2 y3 y4 y5 y6
      unfold hoggetlaw11_UnitPlain.l0
      repeat' first
      | (with_reducible exact ih0 _ _ _ _ _ _ _)
      | (with_reducible exact hoggetlaw11_follows.mono _)
      | (with_reducible exact hoggetref10_Ints.mono _ _ _)
      | (with_reducible exact hoggetref11_Has.mono _ _ _)
      | (with_reducible exact LeO.refl _)
      | (with_reducible exact LeO.none _)
      | (with_reducible refine LeO.ite ?_ ?_)
      | (with_reducible refine LeO.bind ?_ (fun _ => ?_))
      | exact ih0 _ _ _ _ _ _ _
      | exact hoggetlaw11_follows.mono _
      | exact hoggetref10_Ints.mono _ _ _
      | exact hoggetref11_Has.mono _ _ _
      | exact LeO.none _
      | refine LeO.ite ?_ ?_
      | refine LeO.bind ?_ (fun _ => ?_)
theorem hoggetlaw11_UnitPlain.mono : ∀ a0 a1 k, LeO (hoggetlaw11_UnitPlain.f k a0 a1) (hoggetlaw11_UnitPlain.f (k + 1) a0 a1) := by
  intro a0 a1 k
  have ih0 := hoggetlaw11_UnitPlain.mono_l k
  unfold hoggetlaw11_UnitPlain.f
  repeat' first
      | (with_reducible exact ih0 _ _ _ _ _ _ _)
      | (with_reducible exact hoggetlaw11_follows.mono _)
      | (with_reducible exact hoggetref10_Ints.mono _ _ _)
      | (with_reducible exact hoggetref11_Has.mono _ _ _)
      | (with_reducible exact LeO.refl _)
      | (with_reducible exact LeO.none _)
      | (with_reducible refine LeO.ite ?_ ?_)
      | (with_reducible refine LeO.bind ?_ (fun _ => ?_))
      | exact ih0 _ _ _ _ _ _ _
      | exact hoggetlaw11_follows.mono _
      | exact hoggetref10_Ints.mono _ _ _
      | exact hoggetref11_Has.mono _ _ _
      | exact LeO.none _
      | refine LeO.ite ?_ ?_
      | refine LeO.bind ?_ (fun _ => ?_)
set_option maxHeartbeats 8000000 in
set_option maxRecDepth 100000 in
theorem hoggetlaw11_UnitPlain.calls (k : Nat) (a0 : Int) (A1 : Option Addr) (c1 : Nat) (l1 : List Int) (r : Bool) (w : World) (hr1 : Kd.C (Kd.int .i64) w A1 l1.length l1) (hc1 : l1.length ≤ c1) (h : hoggetlaw11_UnitPlain.f k a0 l1 = some r) :
    Calls Try.prog 31 #[.int .i64 a0, .slice A1 l1.length c1] w fun e w' => e = .returned (.bool r) ∧ Below w.heap.size w w' := by
  have hu24 := Try.underlying24
  have HR1 := Aside0.mk hr1
  have HC1 := Aside0.mk hc1
  clear hr1 hc1
  have HB := Aside0.mk (Below.refl w.heap.size w)
  have H : (if (l1.length : Int) > 100 then (some true) else ((unit_Propagate.f a0 ([] : List (List Int)) l1).bind fun bt1240 => ((clause_Tidy.f l1).bind fun bt1244 => (hoggetlaw11_UnitPlain.l0 k l1 bt1240.1 bt1240.2 bt1244.1 bt1244.2 false 0)))) = some r := h
  clear h
  by_cases c3 : (l1.length : Int) > 100
  · rw [if_pos c3] at H
    have c3b0 : decide (100 < (l1.length : Int)) = true := decide_eq_true c3
    have c3b1 : decide (100 < l1.length) = true := decide_eq_true (by omega)
    clear c3
    obtain rfl := Option.some.inj H
    go_enter Try.func31, Try.ntmps31
    go_wp2
    go_ret
    exact ⟨by first | rfl | (simp [errW_none, errW_some] <;> rfl) | (simp [*, errW_none, errW_some] <;> rfl), by repeat (first | (with_reducible first | exact HB.out | apply below_alloc | apply pw_below_drewN | apply below_drew1) | exact HB.out)⟩
  · rw [if_neg c3] at H
    have c3b0 : decide (100 < (l1.length : Int)) = false := decide_eq_false c3
    have c3b1 : decide (100 < l1.length) = false := decide_eq_false (by omega)
    clear c3
    replace H := Option.bind_eq_some_iff.mp H
    obtain ⟨⟨t1240, t1243⟩, A40, H⟩ := H
    replace H : ((clause_Tidy.f l1).bind fun bt1244 => (hoggetlaw11_UnitPlain.l0 k l1 t1240 t1243 bt1244.1 bt1244.2 false 0)) = some r := H
    have A4 := Aside0.mk A40
    clear A40
    replace H := Option.bind_eq_some_iff.mp H
    obtain ⟨⟨t1244, t1245⟩, A50, H⟩ := H
    replace H : (hoggetlaw11_UnitPlain.l0 k l1 t1240 t1243 t1244 t1245 false 0) = some r := H
    have A5 := Aside0.mk A50
    clear A50
    have H' := Aside0.mk H
    clear H
    go_enter Try.func31, Try.ntmps31
    go_wp2_with (first | ((with_reducible refine gate_callee (f := 35) rfl ?_); refine goesL_ (some 18) rfl rfl Try.func35 (by kernel_rfl) rfl #[.agg #[.int .i64 a0, .slice none 0 0], .slice A1 l1.length c1] rfl (by (try simp only [List.map_toArray, List.map_cons, List.map_nil]); first | done | rfl | (simp only [List.length_drop, List.length_take]; rfl)) ?_; (refine (unit_Propagate.calls a0 _ _ ([] : List (List Int)) _ _ l1 t1240 t1243 _ ?side1 ?side2 ?side3 ?side4 A4.out).mono ?_); (case side1 => exact Kd.C_nil _ _); (case side2 => exact Nat.le_refl _); (case side3 => repeat (first | exact HR1.out | (with_reducible refine Kd.C_alloc ?_ _) | (with_reducible refine Kd.C_drewN ?_ _) | (with_reducible refine Kd.C_drew ?_))); (case side4 => exact HC1.out); rintro e w6 ⟨v1241, rfl, ho0, hb⟩; refine ⟨_, rfl, ?_⟩; have n0_ := Aside0.mk (Kd.R_lower ho0 (below_size (by repeat (first | (with_reducible first | exact HB.out | apply below_alloc | apply pw_below_drewN | apply below_drew1) | exact HB.out)))); have n1_ := Aside0.mk (below_step (by repeat (first | (with_reducible first | exact HB.out | apply below_alloc | apply pw_below_drewN | apply below_drew1) | exact HB.out)) hb); clear HB; have HO1242 := n0_; have HB := n1_; clear n0_ n1_; (try clear hb); (try clear hb2); (try clear hk); (try clear hi); (try clear ho0)) | ((with_reducible refine gate_callee (f := 65) rfl ?_); refine goesL_ (some 23) rfl rfl Try.func65 (by kernel_rfl) rfl #[.slice A1 l1.length c1] rfl (by (try simp only [List.map_toArray, List.map_cons, List.map_nil]); first | done | rfl | (simp only [List.length_drop, List.length_take]; rfl)) ?_; (with_reducible refine (clause_Tidy.calls _ _ l1 t1244 t1245 _ ?side1 ?side2 A5.out).mono ?_); (case side1 => repeat (first | exact (Kd.C_below HR1.out HB.out) | (with_reducible refine Kd.C_alloc ?_ _) | (with_reducible refine Kd.C_drewN ?_ _) | (with_reducible refine Kd.C_drew ?_))); (case side2 => exact HC1.out); rintro e w7 ⟨v1246, rfl, ho0, hb⟩; refine ⟨_, rfl, ?_⟩; have n0_ := Aside0.mk (Kd.R_elder' (by (with_reducible repeat (first | apply Kd.R_alloc | apply Kd.R_drewN | apply Kd.R_drew)); exact HO1242.out) (Kd.R_base ho0) hb); have n1_ := Aside0.mk (Kd.R_lower (Kd.R_new' ho0 (Kd.R_lt (by (with_reducible repeat (first | apply Kd.R_alloc | apply Kd.R_drewN | apply Kd.R_drew)); exact HO1242.out))) (below_size (by repeat (first | (with_reducible first | exact HB.out | apply below_alloc | apply pw_below_drewN | apply below_drew1) | exact HB.out)))); have n2_ := Aside0.mk (below_step (by repeat (first | (with_reducible first | exact HB.out | apply below_alloc | apply pw_below_drewN | apply below_drew1) | exact HB.out)) hb); clear HO1242; clear HB; have HO1242 := n0_; have HO1247 := n1_; have HB := n2_; clear n0_ n1_ n2_; (try clear hb); (try clear hb2); (try clear hk); (try clear hi); (try clear ho0)))
    go_loopg [9, 10] k (fun kq v9 v10 w' => ∃ (x9_1 : Bool) (x10_1 : Int), v9 = .bool x9_1 ∧ v10 = .int .i64 x10_1 ∧ Aside0 (hoggetlaw11_UnitPlain.l0 kq l1 t1240 t1243 t1244 t1245 x9_1 x10_1 = some r) ∧ Aside0 (kq ≤ k) ∧ Aside0 (Kd.R (Kd.int .i64) 3 w' w.heap.size (fun k_ => some k_ ≠ (v1246 : Value).ownBlock) v1241 t1240) ∧ Aside0 (Kd.R (Kd.int .i64) 3 w' w.heap.size (fun k_ => some k_ ≠ (v1241 : Value).ownBlock) v1246 t1244) ∧ Aside0 (Below w.heap.size w w'))
    case atStart => exact ⟨(false), (0), (by first | rfl | (simp; done) | (simp [*]; done)), (by first | rfl | (simp; done) | (simp [*]; done)), H', ⟨Nat.le_refl _⟩, ⟨by (with_reducible repeat (first | apply Kd.R_alloc | apply Kd.R_drewN | apply Kd.R_drew)); exact Kd.R_mono HO1242.out (fun _ hk => hk.2)⟩, ⟨by (with_reducible repeat (first | apply Kd.R_alloc | apply Kd.R_drewN | apply Kd.R_drew)); exact Kd.R_mono HO1247.out (fun _ hk => hk.2)⟩, ⟨by repeat (first | (with_reducible first | exact HB.out | apply below_alloc | apply pw_below_drewN | apply below_drew1) | exact HB.out)⟩⟩
    case round =>
      clear H'
      try clear c1
      try clear p2
      try clear c3
      try clear c3b0
      try clear c3b1
      try clear c6
      obtain ⟨x9_1, x10_1, rfl, rfl, HA, HK1, HO_5, HO_7, HB⟩ := hrel
      cases gk with
      | zero => exact absurd HA.out (by simp [hoggetlaw11_UnitPlain.l0])
      | succ k1 =>
        have H := HA.out
        clear HA
        simp only [hoggetlaw11_UnitPlain.l0] at H
        by_cases c8 : x10_1 < (l1.length : Int)
        · rw [if_pos c8] at H
          have c8b0 : decide (x10_1 < (l1.length : Int)) = true := decide_eq_true c8
          clear c8
          by_cases c9 : x9_1 = true
          · subst c9
            have H1 : (hoggetlaw11_UnitPlain.l0 k1 l1 t1240 t1243 t1244 t1245 true (wrap64 (x10_1 + 1))) = some r := by rw [if_pos rfl] at H; exact H
            clear H
            have H := H1
            clear H1
            have H' := Aside0.mk H
            clear H
            go_wp2
            go_roundg k1
            case measure => have := HK1.out; omega
            case rel => exact ⟨(true), (wrap64 (x10_1 + 1)), (by first | rfl | (simp; done) | (simp [*]; done)), (by first | rfl | (simp; done) | (simp [*]; done)), H', ⟨by have := HK1.out; omega⟩, ⟨by (with_reducible repeat (first | apply Kd.R_alloc | apply Kd.R_drewN | apply Kd.R_drew)); exact HO_5.out⟩, ⟨by (with_reducible repeat (first | apply Kd.R_alloc | apply Kd.R_drewN | apply Kd.R_drew)); exact HO_7.out⟩, ⟨by repeat (first | (with_reducible first | exact HB.out | apply below_alloc | apply pw_below_drewN | apply below_drew1) | exact HB.out)⟩⟩
          · replace c9 := Bool.eq_false_iff.mpr c9
            subst c9
            have H1 : (if t1245 = 0 then (if 0 ≤ x10_1 then ((hoggetref11_Has.f k1 l1 (wrap64 (-(rd l1 x10_1)))).bind fun t1249 => (hoggetlaw11_UnitPlain.l0 k1 l1 t1240 t1243 t1244 t1245 t1249 (wrap64 (x10_1 + 1)))) else (none)) else (hoggetlaw11_UnitPlain.l0 k1 l1 t1240 t1243 t1244 t1245 false (wrap64 (x10_1 + 1)))) = some r := by rw [if_neg (show ¬ (false = true) by decide)] at H; exact H
            clear H
            have H := H1
            clear H1
            by_cases c10 : t1245 = 0
            · rw [if_pos c10] at H
              have c10b0 : (t1245 == 0) = true := beq_iff_eq.mpr c10
              have c10b1 : (t1245 != 0) = false := bne_eq_false_iff_eq.mpr c10
              clear c10
              by_cases c11 : 0 ≤ x10_1
              · rw [if_pos c11] at H
                have c11b0 : decide (0 ≤ x10_1) = true := decide_eq_true c11
                clear c11
                replace H := Option.bind_eq_some_iff.mp H
                obtain ⟨t1249, A120, H⟩ := H
                replace H : (hoggetlaw11_UnitPlain.l0 k1 l1 t1240 t1243 t1244 t1245 t1249 (wrap64 (x10_1 + 1))) = some r := H
                have A12 := Aside0.mk A120
                clear A120
                have H' := Aside0.mk H
                clear H
                have p1248 : 0 ≤ (x10_1 : Int) := of_decide_eq_true (by first | (with_reducible assumption) | assumption)
                have q1248 : x10_1 < (l1.length : Int) := of_decide_eq_true (by first | (with_reducible assumption) | assumption)
                obtain ⟨ad1248, e1248, hx1248_0⟩ := Kd.at_int HR1.out x10_1 p1248 q1248
                cases e1248
                replace hx1248_0 := (HB.out.cell (World.block_lt_of_cell? w _ hx1248_0)).trans hx1248_0
                replace p1248 := eq_true p1248
                replace q1248 := eq_true q1248
                go_wp2_with (first | (go_at_call 42; (with_reducible refine (hoggetref11_Has.calls k1 _ _ l1 (wrap64 (-(rd l1 x10_1))) t1249 _ ?side1 ?side2 A12.out).mono ?_); (case side1 => repeat (first | exact (Kd.C_below HR1.out HB.out) | (with_reducible refine Kd.C_alloc ?_ _) | (with_reducible refine Kd.C_drewN ?_ _) | (with_reducible refine Kd.C_drew ?_))); (case side2 => exact HC1.out); rintro e w' ⟨rfl, ⟨nd, rfl⟩⟩))
                go_roundg k1
                case measure => have := HK1.out; omega
                case rel => exact ⟨(t1249), (wrap64 (x10_1 + 1)), (by first | rfl | (simp; done) | (simp [*]; done)), (by first | rfl | (simp; done) | (simp [*]; done)), H', ⟨by have := HK1.out; omega⟩, ⟨by (with_reducible repeat (first | apply Kd.R_alloc | apply Kd.R_drewN | apply Kd.R_drew)); exact HO_5.out⟩, ⟨by (with_reducible repeat (first | apply Kd.R_alloc | apply Kd.R_drewN | apply Kd.R_drew)); exact HO_7.out⟩, ⟨by repeat (first | (with_reducible first | exact HB.out | apply below_alloc | apply pw_below_drewN | apply below_drew1) | exact HB.out)⟩⟩
              · rw [if_neg c11] at H
                exact absurd H (by simp)
            · rw [if_neg c10] at H
              have c10b0 : (t1245 == 0) = false := beq_eq_false_iff_ne.mpr c10
              have c10b1 : (t1245 != 0) = true := bne_iff_ne.mpr c10
              have H' := Aside0.mk H
              clear H
              go_wp2
              go_roundg k1
              case measure => have := HK1.out; omega
              case rel => exact ⟨(false), (wrap64 (x10_1 + 1)), (by first | rfl | (simp; done) | (simp [*]; done)), (by first | rfl | (simp; done) | (simp [*]; done)), H', ⟨by have := HK1.out; omega⟩, ⟨by (with_reducible repeat (first | apply Kd.R_alloc | apply Kd.R_drewN | apply Kd.R_drew)); exact HO_5.out⟩, ⟨by (with_reducible repeat (first | apply Kd.R_alloc | apply Kd.R_drewN | apply Kd.R_drew)); exact HO_7.out⟩, ⟨by repeat (first | (with_reducible first | exact HB.out | apply below_alloc | apply pw_below_drewN | apply below_drew1) | exact HB.out)⟩⟩
        · rw [if_neg c8] at H
          have c8b0 : decide (x10_1 < (l1.length : Int)) = false := decide_eq_false c8
          clear c8
          by_cases c13 : t1243 = 0
          · rw [if_pos c13] at H
            have c13b0 : (t1243 == 0) = true := beq_iff_eq.mpr c13
            have c13b1 : (t1243 != 0) = false := bne_eq_false_iff_eq.mpr c13
            clear c13
            replace H := Option.bind_eq_some_iff.mp H
            obtain ⟨t1250, A140, H⟩ := H
            replace H : (if t1250 = true then (if t1245 = 0 then (if x9_1 = true then (none) else ((hoggetref10_Ints.f k1 t1240 t1244).bind fun t1251 => (some t1251))) else (none)) else (none)) = some r := H
            have A14 := Aside0.mk A140
            clear A140
            by_cases c15 : t1250 = true
            · subst c15
              have H1 : (if t1245 = 0 then (if x9_1 = true then (none) else ((hoggetref10_Ints.f k1 t1240 t1244).bind fun t1251 => (some t1251))) else (none)) = some r := by rw [if_pos rfl] at H; exact H
              clear H
              have H := H1
              clear H1
              by_cases c16 : t1245 = 0
              · rw [if_pos c16] at H
                have c16b0 : (t1245 == 0) = true := beq_iff_eq.mpr c16
                have c16b1 : (t1245 != 0) = false := bne_eq_false_iff_eq.mpr c16
                clear c16
                by_cases c17 : x9_1 = true
                · subst c17
                  have H1 : (none) = some r := by rw [if_pos rfl] at H; exact H
                  clear H
                  have H := H1
                  clear H1
                  cases H
                · replace c17 := Bool.eq_false_iff.mpr c17
                  subst c17
                  have H1 : ((hoggetref10_Ints.f k1 t1240 t1244).bind fun t1251 => (some t1251)) = some r := by rw [if_neg (show ¬ (false = true) by decide)] at H; exact H
                  clear H
                  have H := H1
                  clear H1
                  replace H := Option.bind_eq_some_iff.mp H
                  obtain ⟨t1251, A190, H⟩ := H
                  replace H : (some t1251) = some r := H
                  have A19 := Aside0.mk A190
                  clear A190
                  obtain rfl := Option.some.inj H
                  go_wp2_with (first | ((with_reducible refine gate_callee (f := 37) rfl ?_); refine goesL_ (some 48) rfl rfl Try.func37 (by kernel_rfl) rfl #[] rfl (by (try simp only [List.map_toArray, List.map_cons, List.map_nil]); first | done | rfl | (simp only [List.length_drop, List.length_take]; rfl)) ?_; (with_reducible refine (hoggetlaw11_follows.calls k1  true _ A14.out).mono ?_); rintro e w20 ⟨rfl, hb⟩; refine ⟨_, rfl, ?_⟩; have n0_ := Aside0.mk (Kd.R_below (by (with_reducible repeat (first | apply Kd.R_alloc | apply Kd.R_drewN | apply Kd.R_drew)); exact HO_5.out) hb); have n1_ := Aside0.mk (Kd.R_below (by (with_reducible repeat (first | apply Kd.R_alloc | apply Kd.R_drewN | apply Kd.R_drew)); exact HO_7.out) hb); have n2_ := Aside0.mk (below_step (by repeat (first | (with_reducible first | exact HB.out | apply below_alloc | apply pw_below_drewN | apply below_drew1) | exact HB.out)) hb); clear HO_5; clear HO_7; clear HB; have HO_5 := n0_; have HO_7 := n1_; have HB := n2_; clear n0_ n1_ n2_; (try clear hb); (try clear hb2); (try clear hk); (try clear hi); obtain ⟨Ao21, co21, eo21⟩ := Kd.R_slice HO_5.out; subst eo21; obtain ⟨Ao22, co22, eo22⟩ := Kd.R_slice HO_7.out; subst eo22) | (go_at_call 38; (with_reducible refine (hoggetref10_Ints.calls k1 _ _ t1240 _ _ t1244 t1251 _ ?side1 ?side2 ?side3 ?side4 A19.out).mono ?_); (case side1 => repeat (first | exact (Kd.R_reads' HO_5.out).2.2 | (with_reducible refine Kd.C_alloc ?_ _) | (with_reducible refine Kd.C_drewN ?_ _) | (with_reducible refine Kd.C_drew ?_))); (case side2 => exact (Kd.R_reads' HO_5.out).2.1); (case side3 => repeat (first | exact (Kd.R_reads' HO_7.out).2.2 | (with_reducible refine Kd.C_alloc ?_ _) | (with_reducible refine Kd.C_drewN ?_ _) | (with_reducible refine Kd.C_drew ?_))); (case side4 => exact (Kd.R_reads' HO_7.out).2.1); rintro e w' ⟨rfl, ⟨nd, rfl⟩⟩))
                  go_ret
                  exact ⟨by first | rfl | (simp [errW_none, errW_some] <;> rfl) | (simp [*, errW_none, errW_some] <;> rfl), by repeat (first | (with_reducible first | exact HB.out | apply below_alloc | apply pw_below_drewN | apply below_drew1) | exact HB.out)⟩
              · rw [if_neg c16] at H
                have c16b0 : (t1245 == 0) = false := beq_eq_false_iff_ne.mpr c16
                have c16b1 : (t1245 != 0) = true := bne_iff_ne.mpr c16
                cases H
            · replace c15 := Bool.eq_false_iff.mpr c15
              subst c15
              have H1 : (none) = some r := by rw [if_neg (show ¬ (false = true) by decide)] at H; exact H
              clear H
              have H := H1
              clear H1
              cases H
          · rw [if_neg c13] at H
            have c13b0 : (t1243 == 0) = false := beq_eq_false_iff_ne.mpr c13
            have c13b1 : (t1243 != 0) = true := bne_iff_ne.mpr c13
            replace H := Option.bind_eq_some_iff.mp H
            obtain ⟨t1252, A250, H⟩ := H
            replace H : (if t1252 = true then (if (t1240.length : Int) = 0 then (if t1243 = 110 then (some x9_1) else (some true)) else (none)) else (none)) = some r := H
            have A25 := Aside0.mk A250
            clear A250
            by_cases c26 : t1252 = true
            · subst c26
              have H1 : (if (t1240.length : Int) = 0 then (if t1243 = 110 then (some x9_1) else (some true)) else (none)) = some r := by rw [if_pos rfl] at H; exact H
              clear H
              have H := H1
              clear H1
              by_cases c27 : (t1240.length : Int) = 0
              · rw [if_pos c27] at H
                have c27b0 : ((t1240.length : Int) == 0) = true := beq_iff_eq.mpr c27
                have c27b1 : ((t1240.length : Int) != 0) = false := bne_eq_false_iff_eq.mpr c27
                clear c27
                by_cases c28 : t1243 = 110
                · rw [if_pos c28] at H
                  have c28b0 : (t1243 == 110) = true := beq_iff_eq.mpr c28
                  have c28b1 : (t1243 != 110) = false := bne_eq_false_iff_eq.mpr c28
                  clear c28
                  obtain rfl := Option.some.inj H
                  go_wp2_with (first | ((with_reducible refine gate_callee (f := 37) rfl ?_); refine goesL_ (some 62) rfl rfl Try.func37 (by kernel_rfl) rfl #[] rfl (by (try simp only [List.map_toArray, List.map_cons, List.map_nil]); first | done | rfl | (simp only [List.length_drop, List.length_take]; rfl)) ?_; (with_reducible refine (hoggetlaw11_follows.calls k1  true _ A25.out).mono ?_); rintro e w29 ⟨rfl, hb⟩; refine ⟨_, rfl, ?_⟩; have n0_ := Aside0.mk (Kd.R_below (by (with_reducible repeat (first | apply Kd.R_alloc | apply Kd.R_drewN | apply Kd.R_drew)); exact HO_5.out) hb); have n1_ := Aside0.mk (Kd.R_below (by (with_reducible repeat (first | apply Kd.R_alloc | apply Kd.R_drewN | apply Kd.R_drew)); exact HO_7.out) hb); have n2_ := Aside0.mk (below_step (by repeat (first | (with_reducible first | exact HB.out | apply below_alloc | apply pw_below_drewN | apply below_drew1) | exact HB.out)) hb); clear HO_5; clear HO_7; clear HB; have HO_5 := n0_; have HO_7 := n1_; have HB := n2_; clear n0_ n1_ n2_; (try clear hb); (try clear hb2); (try clear hk); (try clear hi); obtain ⟨Ao30, co30, eo30⟩ := Kd.R_slice HO_5.out; subst eo30))
                  go_ret
                  exact ⟨by first | rfl | (simp [errW_none, errW_some] <;> rfl) | (simp [*, errW_none, errW_some] <;> rfl), by repeat (first | (with_reducible first | exact HB.out | apply below_alloc | apply pw_below_drewN | apply below_drew1) | exact HB.out)⟩
                · rw [if_neg c28] at H
                  have c28b0 : (t1243 == 110) = false := beq_eq_false_iff_ne.mpr c28
                  have c28b1 : (t1243 != 110) = true := bne_iff_ne.mpr c28
                  obtain rfl := Option.some.inj H
                  go_wp2_with (first | ((with_reducible refine gate_callee (f := 37) rfl ?_); refine goesL_ (some 62) rfl rfl Try.func37 (by kernel_rfl) rfl #[] rfl (by (try simp only [List.map_toArray, List.map_cons, List.map_nil]); first | done | rfl | (simp only [List.length_drop, List.length_take]; rfl)) ?_; (with_reducible refine (hoggetlaw11_follows.calls k1  true _ A25.out).mono ?_); rintro e w31 ⟨rfl, hb⟩; refine ⟨_, rfl, ?_⟩; have n0_ := Aside0.mk (Kd.R_below (by (with_reducible repeat (first | apply Kd.R_alloc | apply Kd.R_drewN | apply Kd.R_drew)); exact HO_5.out) hb); have n1_ := Aside0.mk (Kd.R_below (by (with_reducible repeat (first | apply Kd.R_alloc | apply Kd.R_drewN | apply Kd.R_drew)); exact HO_7.out) hb); have n2_ := Aside0.mk (below_step (by repeat (first | (with_reducible first | exact HB.out | apply below_alloc | apply pw_below_drewN | apply below_drew1) | exact HB.out)) hb); clear HO_5; clear HO_7; clear HB; have HO_5 := n0_; have HO_7 := n1_; have HB := n2_; clear n0_ n1_ n2_; (try clear hb); (try clear hb2); (try clear hk); (try clear hi); obtain ⟨Ao32, co32, eo32⟩ := Kd.R_slice HO_5.out; subst eo32))
                  go_ret
                  exact ⟨by first | rfl | (simp [errW_none, errW_some] <;> rfl) | (simp [*, errW_none, errW_some] <;> rfl), by repeat (first | (with_reducible first | exact HB.out | apply below_alloc | apply pw_below_drewN | apply below_drew1) | exact HB.out)⟩
              · rw [if_neg c27] at H
                have c27b0 : ((t1240.length : Int) == 0) = false := beq_eq_false_iff_ne.mpr c27
                have c27b1 : ((t1240.length : Int) != 0) = true := bne_iff_ne.mpr c27
                have c27b2 : ¬ (t1240 = []) := fun h_ => c27 (by rw [h_]; rfl)
                cases H
            · replace c26 := Bool.eq_false_iff.mpr c26
              subst c26
              have H1 : (none) = some r := by rw [if_neg (show ¬ (false = true) by decide)] at H; exact H
              clear H
              have H := H1
              clear H1
              cases H

/-- THE ONE PURE STATEMENT of hoggetlaw11_UnitPlain: yours. -/
noncomputable def hoggetlaw11_UnitPlain.Pure : Prop := ∀ (a0 : Int) (l1 : List Int), (Lit.int .i64 a0).wf = true → l1.length ≤ maxLen → l1.length * 8 ≤ 140737488351232 → (∀ x ∈ l1, (Lit.int .i64 x).wf = true) → ∃ k, hoggetlaw11_UnitPlain.f k a0 l1 = some true
theorem hoggetlaw11_UnitPlain.walk (P : hoggetlaw11_UnitPlain.Pure) (a0 : Int) (a1 : Option Addr) (len1 cap1 : Nat) (z1 : List Int) (w : World) (w0 : (Lit.int .i64 a0).wf = true) (w1 : (a1 = none ∧ len1 = 0 ∧ cap1 = 0 ∧ z1 = []) ∨ ∃ x, a1 = some x ∧ len1 ≤ cap1 ∧ cap1 ≤ maxLen ∧ z1.length = cap1 ∧ (∀ i, i < z1.length → w.cell? (x.add i) = some (.int .i64 (z1.getD i 0))) ∧ ∀ n ∈ z1, (Lit.int .i64 n).wf = true) (y1 : len1 * 8 ≤ 140737488351232) :
    Calls Try.prog 31 #[.int .i64 a0, .slice a1 len1 cap1] w fun e w' => e = .returned (.bool true) ∧ Below w.heap.size w w' := by
  obtain ⟨l1, rfl, hr1, hm1, hw1, hc1⟩ := ReadsInt.ofRowC w1
  obtain ⟨k, h⟩ := P a0 l1 w0 hm1 y1 hw1
  refine (hoggetlaw11_UnitPlain.calls k a0 _ _ l1 true w (Kd.C_of_reads (d := (0 : Int)) (h1 := fun _ => rfl) hr1) hc1 h).mono ?_
  rintro e w' ⟨rfl, hd⟩
  exact ⟨rfl, hd⟩

end Go.Proofs.Ythnbmlpjbhhamaa.J
