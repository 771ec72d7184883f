/- The walks of hoggetlaw14_CountTurned, by the print over this seat. -/
import Derived.Test.YthnbmlpjbhhamaaJ0
import Derived.Test.YthnbmlpjbhhamaaGA
import Derived.Test.YthnbmlpjbhhamaaGM
import Derived.Test.YthnbmlpjbhhamaaHc
namespace Go.Proofs.Ythnbmlpjbhhamaa.J
open Go.RowKit Go.Proofs.YthnbmlpjbhhamaaW.PrintWords Go.Proofs.YthnbmlpjbhhamaaW.PrintLast Go.Proofs.YthnbmlpjbhhamaaW.PrintMore
attribute [local go_sem] max2_int min2_int max_two min_two max_three min_three max_four min_four   -- for this text's walks alone
set_option linter.unusedVariables false
set_option linter.unusedSimpArgs false

/-! ### hoggetlaw14_CountTurned: function 30 -/
mutual
noncomputable def hoggetlaw14_CountTurned.j0 : Nat → List Int → List Bool → Bool → Option (Bool)
  | 0, _, _, _ => none
  | k + 1, x0, x1, x18 => if x18 = true then (some true) else (hoggetlaw14_CountTurned.l0 k x0 x1 ([] : List Int) (wrap64 ((x0.length : Int) - 1)))
noncomputable def hoggetlaw14_CountTurned.l0 : Nat → List Int → List Bool → List Int → Int → Option (Bool)
  | 0, _, _, _, _ => none
  | k + 1, x0, x1, x5, x6 => if x6 ≥ 0 then (if 0 ≤ x6 then (if x6 < (x0.length : Int) then (if x5.length < 17592186044416 then (hoggetlaw14_CountTurned.l0 k x0 x1 (x5 ++ [rd x0 x6]) (wrap64 (x6 - 1))) else (none)) else (none)) else (none)) else ((count_AtMost.f x0).bind fun bt1229 => ((count_AtMost.f x5).bind fun bt1233 => ((hoggetlaw14_counts.f k).bind fun t1237 => (if t1237 = true then (if bt1229.2 = bt1233.2 then (if (bt1229.1.length : Int) = (bt1233.1.length : Int) then ((hoggetlaw14_holds.f k bt1229.1 x1).bind fun t1238 => ((hoggetlaw14_holds.f k bt1233.1 x1).bind fun t1239 => (some (t1238 == t1239)))) else (none)) else (none)) else (none)))))
end
noncomputable def hoggetlaw14_CountTurned.f (k : Nat) (l0 : List Int) (l1 : List Bool) : Option (Bool) := if (l0.length : Int) > 60 then (hoggetlaw14_CountTurned.j0 k l0 l1 true) else (hoggetlaw14_CountTurned.j0 k l0 l1 (decide ((l1.length : Int) > 100)))
theorem hoggetlaw14_CountTurned.mono_l : ∀ k, (∀ y0 y1 y2, LeO (hoggetlaw14_CountTurned.j0 k y0 y1 y2) (hoggetlaw14_CountTurned.j0 (k + 1) y0 y1 y2)) ∧ (∀ y0 y1 y2 y3, LeO (hoggetlaw14_CountTurned.l0 k y0 y1 y2 y3) (hoggetlaw14_CountTurned.l0 (k + 1) y0 y1 y2 y3))
  | 0 => ⟨fun _ _ _ r h => by simp [hoggetlaw14_CountTurned.j0] at h, fun _ _ _ _ r h => by simp [hoggetlaw14_CountTurned.l0] at h⟩
  | k + 1 => by
    obtain ⟨ih0, ih1⟩ := hoggetlaw14_CountTurned.mono_l k
    refine ⟨?_, ?_⟩
    · intro y0 y1 y2
      unfold hoggetlaw14_CountTurned.j0
      repeat' first
      | (with_reducible exact ih0 _ _ _)
      | (with_reducible exact ih1 _ _ _ _)
      | (with_reducible exact hoggetlaw14_counts.mono _)
      | (with_reducible exact hoggetlaw14_holds.mono _ _ _)
      | (with_reducible exact LeO.refl _)
      | (with_reducible exact LeO.none _)
      | (with_reducible refine LeO.ite ?_ ?_)
      | (with_reducible refine LeO.bind ?_ (fun _ => ?_))
      | exact ih0 _ _ _
      | exact ih1 _ _ _ _
      | exact hoggetlaw14_counts.mono _
      | exact hoggetlaw14_holds.mono _ _ _
      | exact LeO.none _
      | refine LeO.ite ?_ ?_
      | refine LeO.bind ?_ (fun _ => ?_)
    · intro y0 y1 y2 y3
      unfold hoggetlaw14_CountTurned.l0
      repeat' first
      | (with_reducible exact ih0 _ _ _)
      | (with_reducible exact ih1 _ _ _ _)
      | (with_reducible exact hoggetlaw14_counts.mono _)
      | (with_reducible exact hoggetlaw14_holds.mono _ _ _)
      | (with_reducible exact LeO.refl _)
      | (with_reducible exact LeO.none _)
      | (with_reducible refine LeO.ite ?_ ?_)
      | (with_reducible refine LeO.bind ?_ (fun _ => ?_))
      | exact ih0 _ _ _
      | exact ih1 _ _ _ _
      | exact hoggetlaw14_counts.mono _
      | exact hoggetlaw14_holds.mono _ _ _
      | exact LeO.none _
      | refine LeO.ite ?_ ?_
      | refine LeO.bind ?_ (fun _ => ?_)
theorem hoggetlaw14_CountTurned.mono : ∀ a0 a1 k, LeO (hoggetlaw14_CountTurned.f k a0 a1) (hoggetlaw14_CountTurned.f (k + 1) a0 a1) := by
  intro a0 a1 k
  obtain ⟨ih0, ih1⟩ := hoggetlaw14_CountTurned.mono_l k
  unfold hoggetlaw14_CountTurned.f
  repeat' first
      | (with_reducible exact ih0 _ _ _)
      | (with_reducible exact ih1 _ _ _ _)
      | (with_reducible exact hoggetlaw14_counts.mono _)
      | (with_reducible exact hoggetlaw14_holds.mono _ _ _)
      | (with_reducible exact LeO.refl _)
      | (with_reducible exact LeO.none _)
      | (with_reducible refine LeO.ite ?_ ?_)
      | (with_reducible refine LeO.bind ?_ (fun _ => ?_))
      | exact ih0 _ _ _
      | exact ih1 _ _ _ _
      | exact hoggetlaw14_counts.mono _
      | exact hoggetlaw14_holds.mono _ _ _
      | exact LeO.none _
      | refine LeO.ite ?_ ?_
      | refine LeO.bind ?_ (fun _ => ?_)
set_option maxHeartbeats 8000000 in
set_option maxRecDepth 100000 in
theorem hoggetlaw14_CountTurned.calls (k : Nat) (A0 : Option Addr) (c0 : Nat) (l0 : List Int) (A1 : Option Addr) (c1 : Nat) (l1 : List Bool) (r : Bool) (w : World) (hr0 : Kd.C (Kd.int .i64) w A0 l0.length l0) (hc0 : l0.length ≤ c0) (hr1 : Kd.C Kd.bool w A1 l1.length l1) (hc1 : l1.length ≤ c1) (h : hoggetlaw14_CountTurned.f k l0 l1 = some r) :
    Calls Try.prog 30 #[.slice A0 l0.length c0, .slice A1 l1.length c1] w fun e w' => e = .returned (.bool r) ∧ Below w.heap.size w w' := by
  have HR0 := Aside0.mk hr0
  have HC0 := Aside0.mk hc0
  clear hr0 hc0
  have HR1 := Aside0.mk hr1
  have HC1 := Aside0.mk hc1
  clear hr1 hc1
  have HB := Aside0.mk (Below.refl w.heap.size w)
  have H : (if (l0.length : Int) > 60 then (hoggetlaw14_CountTurned.j0 k l0 l1 true) else (hoggetlaw14_CountTurned.j0 k l0 l1 (decide ((l1.length : Int) > 100)))) = some r := h
  clear h
  have HC3 := Aside0.mk H
  clear H
  go_enter Try.func30, Try.ntmps30
  go_upto_region 1 with (fail)
  go_cut [18] (fun v18 wc => ∃ (kq : Nat) (x18_2 : Bool), v18 = .bool x18_2 ∧ Aside0 (hoggetlaw14_CountTurned.j0 kq l0 l1 x18_2 = some r) ∧ Aside0 (kq ≤ k) ∧ Aside0 (Below w.heap.size w wc))
  case first =>
    have H := HC3.out
    clear HC3
    by_cases c4 : (l0.length : Int) > 60
    · rw [if_pos c4] at H
      have c4b0 : decide (60 < (l0.length : Int)) = true := decide_eq_true c4
      have c4b1 : decide (60 < l0.length) = true := decide_eq_true (by omega)
      clear c4
      (first | rw [c4b0] | (simp only [i64_w, i32_w]; rw [c4b0]) | skip)
      have H' := Aside0.mk H
      clear H
      go_wp2
      go_meet
      case rel => exact ⟨_, (true), (by first | rfl | (simp; done) | (simp [*]; done)), H', ⟨by first | omega | exact Nat.le_refl _⟩, ⟨by repeat (first | (with_reducible first | exact HB.out | apply below_alloc | apply pw_below_drewN | apply below_drew1) | exact HB.out)⟩⟩
    · rw [if_neg c4] at H
      have c4b0 : decide (60 < (l0.length : Int)) = false := decide_eq_false c4
      have c4b1 : decide (60 < l0.length) = false := decide_eq_false (by omega)
      clear c4
      (first | rw [c4b0] | (simp only [i64_w, i32_w]; rw [c4b0]) | skip)
      have H' := Aside0.mk H
      clear H
      go_wp2
      go_meet
      case rel => exact ⟨_, (decide ((l1.length : Int) > 100)), (by first | rfl | (simp; done) | (simp [*]; done)), H', ⟨by first | omega | exact Nat.le_refl _⟩, ⟨by repeat (first | (with_reducible first | exact HB.out | apply below_alloc | apply pw_below_drewN | apply below_drew1) | exact HB.out)⟩⟩
  case rest =>
    clear HC3
    try clear c1
    try clear p2
    try clear c3
    try clear c4
    try clear c4b0
    try clear c4b1
    obtain ⟨kq, x18_2, rfl, HA, HJ2, HB⟩ := hcut
    cases kq with
    | zero => exact absurd HA.out (by simp [hoggetlaw14_CountTurned.j0])
    | succ kj2 =>
      have H := HA.out
      clear HA
      simp only [hoggetlaw14_CountTurned.j0] at H
      by_cases c5 : x18_2 = true
      · subst c5
        have H1 : (some true) = some r := by rw [if_pos rfl] at H; exact H
        clear H
        have H := H1
        clear H1
        obtain rfl := Option.some.inj H
        go_wp2
        go_ret
        exact ⟨by first | rfl | (simp [errW_none, errW_some] <;> rfl) | (simp [*, errW_none, errW_some] <;> rfl), by repeat (first | (with_reducible first | exact HB.out | apply below_alloc | apply pw_below_drewN | apply below_drew1) | exact HB.out)⟩
      · replace c5 := Bool.eq_false_iff.mpr c5
        subst c5
        have H1 : (hoggetlaw14_CountTurned.l0 kj2 l0 l1 ([] : List Int) (wrap64 ((l0.length : Int) - 1))) = some r := by rw [if_neg (show ¬ (false = true) by decide)] at H; exact H
        clear H
        have H := H1
        clear H1
        have H' := Aside0.mk H
        clear H
        go_wp2
        go_loopg [5, 6] kj2 (fun kq v5 v6 w' => ∃ (x5_2 : List Int) (x6_2 : Int), v6 = .int .i64 x6_2 ∧ Aside0 (hoggetlaw14_CountTurned.l0 kq l0 l1 x5_2 x6_2 = some r) ∧ Aside0 (kq ≤ kj2) ∧ Aside0 (Kd.R (Kd.int .i64) 3 w' w.heap.size (fun _ => True) v5 x5_2) ∧ Aside0 (Below w.heap.size w w'))
        case atStart => exact ⟨(([] : List Int)), (wrap64 ((l0.length : Int) - 1)), (by first | rfl | (simp; done) | (simp [*]; done)), H', ⟨Nat.le_refl _⟩, ⟨by first | exact Kd.R_nil _ _ _ _ _ | exact Kd.N_nil _ _ _ _ _ | exact Kd.V_nil _ _ _ _ _ | exact Kd.Q_nil _ _ _ _ _ | exact Kd.S_nil _ _ _ _ _⟩, ⟨by repeat (first | (with_reducible first | exact HB.out | apply below_alloc | apply pw_below_drewN | apply below_drew1) | exact HB.out)⟩⟩
        case round =>
          clear H'
          try clear c1
          try clear p2
          try clear c3
          try clear c4
          try clear c4b0
          try clear c4b1
          try clear c5
          try clear p2
          obtain ⟨x5_2, x6_2, rfl, HA, HK2, HO_5, HB⟩ := hrel
          cases gk with
          | zero => exact absurd HA.out (by simp [hoggetlaw14_CountTurned.l0])
          | succ k2 =>
            have H := HA.out
            clear HA
            simp only [hoggetlaw14_CountTurned.l0] at H
            by_cases c6 : x6_2 ≥ 0
            · rw [if_pos c6] at H
              have c6b0 : decide (0 ≤ x6_2) = true := decide_eq_true c6
              clear c6
              by_cases c7 : 0 ≤ x6_2
              · rw [if_pos c7] at H
                have c7b0 : decide (0 ≤ x6_2) = true := decide_eq_true c7
                clear c7
                by_cases c8 : x6_2 < (l0.length : Int)
                · rw [if_pos c8] at H
                  have c8b0 : decide (x6_2 < (l0.length : Int)) = true := decide_eq_true c8
                  clear c8
                  by_cases c9 : x5_2.length < 17592186044416
                  · rw [if_pos c9] at H
                    have LMc9 := Aside0.mk c9
                    clear c9
                    obtain ⟨y1226, hy1226⟩ : ∃ y_ : List Int, y_ = (x5_2 ++ [rd l0 x6_2]) := ⟨_, rfl⟩
                    replace H : (hoggetlaw14_CountTurned.l0 k2 l0 l1 y1226 (wrap64 (x6_2 - 1))) = some r := by first | (rw [hy1226]; with_reducible exact H) | (have H2_ := (Option.bind_some _ _).symm.trans H; rw [hy1226]; with_reducible exact H2_) | (have H2_ := (Option.bind_some _ _).symm.trans H; with_reducible exact H2_) | with_reducible exact H | (rw [hy1226]; exact H) | exact H
                    have Ny1226 := Aside0.mk hy1226
                    clear hy1226
                    have H' := Aside0.mk H
                    clear H
                    have p1225 : 0 ≤ (x6_2 : Int) := of_decide_eq_true (by first | (with_reducible assumption) | assumption)
                    have q1225 : x6_2 < (l0.length : Int) := of_decide_eq_true (by first | (with_reducible assumption) | assumption)
                    obtain ⟨ad1225, e1225, hx1225_0⟩ := Kd.at_int HR0.out x6_2 p1225 q1225
                    cases e1225
                    replace hx1225_0 := (HB.out.cell (World.block_lt_of_cell? w _ hx1225_0)).trans hx1225_0
                    replace p1225 := eq_true p1225
                    replace q1225 := eq_true q1225
                    go_wp2_with (first | ((with_reducible refine gate_builtin (b := .append) (xs := #[.tmp 26, .tmp 31]) rfl ?_); (try (refine gate_guard (by rfl) ?_; dsimp only)); at_builtin; refine Kd.R_append (Kd.int .i64) (w0 := w) w.heap.size rfl (.tmp 26) (.tmp 31) 25 3 (.int .i64 0) 8 rfl Try.underlying25 info3 rfl (by decide) (by omega) u5 x5_2 (rd l0 x6_2) [.int .i64 (rd l0 x6_2)] (fun _ => True) (fun _ => False) rfl rfl ?aP (fun _ hk => hk.elim) ?aF ?aO ?aB ?aS ?aL ?_; (case aP => exact rfl); (case aB => exact (by repeat (first | (with_reducible first | exact HB.out | apply below_alloc | apply pw_below_drewN | apply below_drew1) | exact HB.out))); (case aF => exact (fun _ _ => trivial)); (case aO => exact (by (with_reducible repeat (first | apply Kd.R_alloc | apply Kd.R_drewN | apply Kd.R_drew)); exact HO_5.out)); (case aS => exact (below_size (by repeat (first | (with_reducible first | exact HB.out | apply below_alloc | apply pw_below_drewN | apply below_drew1) | exact HB.out)))); (case aL => have := LMc9.out; omega); intro v1227 w10 ho hb hg hat; rw [← Ny1226.out] at ho; have n0_ := Aside0.mk (hb); have n1_ := Aside0.mk (ho); clear HB; clear HO_5; have HB := n0_; have HO1228 := n1_; clear n0_ n1_; clear ho hb hg hat))
                    go_roundg k2
                    case measure => have := HJ2.out; have := HK2.out; omega
                    case rel => exact ⟨(y1226), (wrap64 (x6_2 - 1)), (by first | rfl | (simp; done) | (simp [*]; done)), H', ⟨by have := HJ2.out; have := HK2.out; omega⟩, ⟨by (with_reducible repeat (first | apply Kd.R_alloc | apply Kd.R_drewN | apply Kd.R_drew)); exact HO1228.out⟩, ⟨by repeat (first | (with_reducible first | exact HB.out | apply below_alloc | apply pw_below_drewN | apply below_drew1) | exact HB.out)⟩⟩
                  · rw [if_neg c9] at H
                    exact absurd H (by simp)
                · rw [if_neg c8] at H
                  exact absurd H (by simp)
              · rw [if_neg c7] at H
                exact absurd H (by simp)
            · rw [if_neg c6] at H
              have c6b0 : decide (0 ≤ x6_2) = false := decide_eq_false c6
              clear c6
              replace H := Option.bind_eq_some_iff.mp H
              obtain ⟨⟨t1229, t1230⟩, A110, H⟩ := H
              replace H : ((count_AtMost.f x5_2).bind fun bt1233 => ((hoggetlaw14_counts.f k2).bind fun t1237 => (if t1237 = true then (if t1230 = bt1233.2 then (if (t1229.length : Int) = (bt1233.1.length : Int) then ((hoggetlaw14_holds.f k2 t1229 l1).bind fun t1238 => ((hoggetlaw14_holds.f k2 bt1233.1 l1).bind fun t1239 => (some (t1238 == t1239)))) else (none)) else (none)) else (none)))) = some r := H
              have A11 := Aside0.mk A110
              clear A110
              replace H := Option.bind_eq_some_iff.mp H
              obtain ⟨⟨t1233, t1234⟩, A120, H⟩ := H
              replace H : ((hoggetlaw14_counts.f k2).bind fun t1237 => (if t1237 = true then (if t1230 = t1234 then (if (t1229.length : Int) = (t1233.length : Int) then ((hoggetlaw14_holds.f k2 t1229 l1).bind fun t1238 => ((hoggetlaw14_holds.f k2 t1233 l1).bind fun t1239 => (some (t1238 == t1239)))) else (none)) else (none)) else (none))) = some r := H
              have A12 := Aside0.mk A120
              clear A120
              replace H := Option.bind_eq_some_iff.mp H
              obtain ⟨t1237, A130, H⟩ := H
              replace H : (if t1237 = true then (if t1230 = t1234 then (if (t1229.length : Int) = (t1233.length : Int) then ((hoggetlaw14_holds.f k2 t1229 l1).bind fun t1238 => ((hoggetlaw14_holds.f k2 t1233 l1).bind fun t1239 => (some (t1238 == t1239)))) else (none)) else (none)) else (none)) = some r := H
              have A13 := Aside0.mk A130
              clear A130
              by_cases c14 : t1237 = true
              · subst c14
                have H1 : (if t1230 = t1234 then (if (t1229.length : Int) = (t1233.length : Int) then ((hoggetlaw14_holds.f k2 t1229 l1).bind fun t1238 => ((hoggetlaw14_holds.f k2 t1233 l1).bind fun t1239 => (some (t1238 == t1239)))) else (none)) else (none)) = some r := by rw [if_pos rfl] at H; exact H
                clear H
                have H := H1
                clear H1
                by_cases c15 : t1230 = t1234
                · rw [if_pos c15] at H
                  have c15b0 : (t1230 == t1234) = true := beq_iff_eq.mpr c15
                  have c15b1 : (t1230 != t1234) = false := bne_eq_false_iff_eq.mpr c15
                  clear c15
                  by_cases c16 : (t1229.length : Int) = (t1233.length : Int)
                  · rw [if_pos c16] at H
                    have c16b0 : ((t1229.length : Int) == (t1233.length : Int)) = true := beq_iff_eq.mpr c16
                    have c16b1 : ((t1229.length : Int) != (t1233.length : Int)) = false := bne_eq_false_iff_eq.mpr c16
                    have c16b2 : (t1229.length == t1233.length) = true := by first | simpa using c16 | (simp at c16 ⊢; omega)
                    clear c16
                    replace H := Option.bind_eq_some_iff.mp H
                    obtain ⟨t1238, A170, H⟩ := H
                    replace H : ((hoggetlaw14_holds.f k2 t1233 l1).bind fun t1239 => (some (t1238 == t1239))) = some r := H
                    have A17 := Aside0.mk A170
                    clear A170
                    replace H := Option.bind_eq_some_iff.mp H
                    obtain ⟨t1239, A180, H⟩ := H
                    replace H : (some (t1238 == t1239)) = some r := H
                    have A18 := Aside0.mk A180
                    clear A180
                    obtain rfl := Option.some.inj H
                    go_wp2_with (first | ((with_reducible refine gate_callee (f := 68) rfl ?_); refine goesL_ (some 35) rfl rfl Try.func68 (by kernel_rfl) rfl #[.slice A0 l0.length c0] rfl (by (try simp only [List.map_toArray, List.map_cons, List.map_nil]); first | done | rfl | (simp only [List.length_drop, List.length_take]; rfl)) ?_; (with_reducible refine (count_AtMost.calls _ _ l0 t1229 t1230 _ ?side1 ?side2 A11.out).mono ?_); (case side1 => repeat (first | exact (Kd.C_below HR0.out HB.out) | (with_reducible refine Kd.C_alloc ?_ _) | (with_reducible refine Kd.C_drewN ?_ _) | (with_reducible refine Kd.C_drew ?_))); (case side2 => exact HC0.out); rintro e w19 ⟨v1231, rfl, ho0, hb⟩; refine ⟨_, rfl, ?_⟩; have n0_ := Aside0.mk (Kd.R_below (by (with_reducible repeat (first | apply Kd.R_alloc | apply Kd.R_drewN | apply Kd.R_drew)); exact HO_5.out) hb); have n1_ := Aside0.mk (Kd.S_lower (Kd.S_new' ho0 (Kd.R_lt (by (with_reducible repeat (first | apply Kd.R_alloc | apply Kd.R_drewN | apply Kd.R_drew)); exact HO_5.out))) (below_size (by repeat (first | (with_reducible first | exact HB.out | apply below_alloc | apply pw_below_drewN | apply below_drew1) | exact HB.out)))); have n2_ := Aside0.mk (below_step (by repeat (first | (with_reducible first | exact HB.out | apply below_alloc | apply pw_below_drewN | apply below_drew1) | exact HB.out)) hb); clear HO_5; clear HB; have HO_5 := n0_; have HO1232 := n1_; have HB := n2_; clear n0_ n1_ n2_; (try clear hb); (try clear hb2); (try clear hk); (try clear hi); (try clear ho0); obtain ⟨Ao20, co20, eo20⟩ := Kd.R_slice HO_5.out; subst eo20) | ((with_reducible refine gate_callee (f := 68) rfl ?_); refine goesL_ (some 40) rfl rfl Try.func68 (by kernel_rfl) rfl #[.slice Ao20 x5_2.length co20] rfl (by (try simp only [List.map_toArray, List.map_cons, List.map_nil]); first | done | rfl | (simp only [List.length_drop, List.length_take]; rfl)) ?_; (with_reducible refine (count_AtMost.calls _ _ x5_2 t1233 t1234 _ ?side1 ?side2 A12.out).mono ?_); (case side1 => repeat (first | exact (Kd.R_reads' HO_5.out).2.2 | (with_reducible refine Kd.C_alloc ?_ _) | (with_reducible refine Kd.C_drewN ?_ _) | (with_reducible refine Kd.C_drew ?_))); (case side2 => exact (Kd.R_reads' HO_5.out).2.1); rintro e w21 ⟨v1235, rfl, ho0, hb⟩; refine ⟨_, rfl, ?_⟩; have n0_ := Aside0.mk (Kd.R_below (by (with_reducible repeat (first | apply Kd.R_alloc | apply Kd.R_drewN | apply Kd.R_drew)); exact HO_5.out) hb); have n1_ := Aside0.mk (Kd.S_elder' (by (with_reducible repeat (first | apply Kd.S_alloc | apply Kd.S_drewN | apply Kd.S_drew)); exact HO1232.out) (Kd.S_base ho0) hb); have n2_ := Aside0.mk (Kd.S_lower (Kd.S_new' (Kd.S_new' ho0 (Kd.R_lt (by (with_reducible repeat (first | apply Kd.R_alloc | apply Kd.R_drewN | apply Kd.R_drew)); exact HO_5.out))) (Kd.S_lt (by (with_reducible repeat (first | apply Kd.S_alloc | apply Kd.S_drewN | apply Kd.S_drew)); exact HO1232.out))) (below_size (by repeat (first | (with_reducible first | exact HB.out | apply below_alloc | apply pw_below_drewN | apply below_drew1) | exact HB.out)))); have n3_ := Aside0.mk (below_step (by repeat (first | (with_reducible first | exact HB.out | apply below_alloc | apply pw_below_drewN | apply below_drew1) | exact HB.out)) hb); clear HO_5; clear HO1232; clear HB; have HO_5 := n0_; have HO1232 := n1_; have HO1236 := n2_; have HB := n3_; clear n0_ n1_ n2_ n3_; (try clear hb); (try clear hb2); (try clear hk); (try clear hi); (try clear ho0)) | ((with_reducible refine gate_callee (f := 77) rfl ?_); refine goesL_ (some 43) rfl rfl Try.func77 (by kernel_rfl) rfl #[] rfl (by (try simp only [List.map_toArray, List.map_cons, List.map_nil]); first | done | rfl | (simp only [List.length_drop, List.length_take]; rfl)) ?_; (with_reducible refine (hoggetlaw14_counts.calls k2  true _ A13.out).mono ?_); rintro e w22 ⟨rfl, hb⟩; refine ⟨_, rfl, ?_⟩; have n0_ := Aside0.mk (Kd.R_below (by (with_reducible repeat (first | apply Kd.R_alloc | apply Kd.R_drewN | apply Kd.R_drew)); exact HO_5.out) hb); have n1_ := Aside0.mk (Kd.S_below (by (with_reducible repeat (first | apply Kd.S_alloc | apply Kd.S_drewN | apply Kd.S_drew)); exact HO1232.out) hb); have n2_ := Aside0.mk (Kd.S_below (by (with_reducible repeat (first | apply Kd.S_alloc | apply Kd.S_drewN | apply Kd.S_drew)); exact HO1236.out) hb); have n3_ := Aside0.mk (below_step (by repeat (first | (with_reducible first | exact HB.out | apply below_alloc | apply pw_below_drewN | apply below_drew1) | exact HB.out)) hb); clear HO_5; clear HO1232; clear HO1236; clear HB; have HO_5 := n0_; have HO1232 := n1_; have HO1236 := n2_; have HB := n3_; clear n0_ n1_ n2_ n3_; (try clear hb); (try clear hb2); (try clear hk); (try clear hi); obtain ⟨Ao23, co23, eo23⟩ := Kd.S_slice HO1232.out; subst eo23; obtain ⟨Ao24, co24, eo24⟩ := Kd.S_slice HO1236.out; subst eo24) | (go_at_call 78; (with_reducible refine (hoggetlaw14_holds.calls k2 _ _ t1229 _ _ l1 t1238 _ ?side1 ?side2 ?side3 ?side4 A17.out).mono ?_); (case side1 => repeat (first | exact (Kd.S_reads' HO1232.out).2.2 | (with_reducible refine Kd.C_alloc ?_ _) | (with_reducible refine Kd.C_drewN ?_ _) | (with_reducible refine Kd.C_drew ?_))); (case side2 => exact (Kd.S_reads' HO1232.out).2.1); (case side3 => repeat (first | exact (Kd.C_below HR1.out HB.out) | (with_reducible refine Kd.C_alloc ?_ _) | (with_reducible refine Kd.C_drewN ?_ _) | (with_reducible refine Kd.C_drew ?_))); (case side4 => exact HC1.out); rintro e w25 ⟨rfl, hb⟩; have n0_ := Aside0.mk (Kd.R_below (by (with_reducible repeat (first | apply Kd.R_alloc | apply Kd.R_drewN | apply Kd.R_drew)); exact HO_5.out) hb); have n1_ := Aside0.mk (Kd.S_below (by (with_reducible repeat (first | apply Kd.S_alloc | apply Kd.S_drewN | apply Kd.S_drew)); exact HO1232.out) hb); have n2_ := Aside0.mk (Kd.S_below (by (with_reducible repeat (first | apply Kd.S_alloc | apply Kd.S_drewN | apply Kd.S_drew)); exact HO1236.out) hb); have n3_ := Aside0.mk (below_step (by repeat (first | (with_reducible first | exact HB.out | apply below_alloc | apply pw_below_drewN | apply below_drew1) | exact HB.out)) hb); clear HO_5; clear HO1232; clear HO1236; clear HB; have HO_5 := n0_; have HO1232 := n1_; have HO1236 := n2_; have HB := n3_; clear n0_ n1_ n2_ n3_; (try clear hb); (try clear hb2); (try clear hk); (try clear hi)) | (go_at_call 78; (with_reducible refine (hoggetlaw14_holds.calls k2 _ _ t1233 _ _ l1 t1239 _ ?side1 ?side2 ?side3 ?side4 A18.out).mono ?_); (case side1 => repeat (first | exact (Kd.S_reads' HO1236.out).2.2 | (with_reducible refine Kd.C_alloc ?_ _) | (with_reducible refine Kd.C_drewN ?_ _) | (with_reducible refine Kd.C_drew ?_))); (case side2 => exact (Kd.S_reads' HO1236.out).2.1); (case side3 => repeat (first | exact (Kd.C_below HR1.out HB.out) | (with_reducible refine Kd.C_alloc ?_ _) | (with_reducible refine Kd.C_drewN ?_ _) | (with_reducible refine Kd.C_drew ?_))); (case side4 => exact HC1.out); rintro e w26 ⟨rfl, hb⟩; have n0_ := Aside0.mk (Kd.R_below (by (with_reducible repeat (first | apply Kd.R_alloc | apply Kd.R_drewN | apply Kd.R_drew)); exact HO_5.out) hb); have n1_ := Aside0.mk (Kd.S_below (by (with_reducible repeat (first | apply Kd.S_alloc | apply Kd.S_drewN | apply Kd.S_drew)); exact HO1232.out) hb); have n2_ := Aside0.mk (Kd.S_below (by (with_reducible repeat (first | apply Kd.S_alloc | apply Kd.S_drewN | apply Kd.S_drew)); exact HO1236.out) hb); have n3_ := Aside0.mk (below_step (by repeat (first | (with_reducible first | exact HB.out | apply below_alloc | apply pw_below_drewN | apply below_drew1) | exact HB.out)) hb); clear HO_5; clear HO1232; clear HO1236; clear HB; have HO_5 := n0_; have HO1232 := n1_; have HO1236 := n2_; have HB := n3_; clear n0_ n1_ n2_ n3_; (try clear hb); (try clear hb2); (try clear hk); (try clear hi)))
                    go_ret
                    exact ⟨by first | rfl | (simp [errW_none, errW_some] <;> rfl) | (simp [*, errW_none, errW_some] <;> rfl), by repeat (first | (with_reducible first | exact HB.out | apply below_alloc | apply pw_below_drewN | apply below_drew1) | exact HB.out)⟩
                  · rw [if_neg c16] at H
                    have c16b0 : ((t1229.length : Int) == (t1233.length : Int)) = false := beq_eq_false_iff_ne.mpr c16
                    have c16b1 : ((t1229.length : Int) != (t1233.length : Int)) = true := bne_iff_ne.mpr c16
                    have c16b2 : (t1229.length == t1233.length) = false := by first | simpa using c16 | (simp at c16 ⊢; omega)
                    cases H
                · rw [if_neg c15] at H
                  have c15b0 : (t1230 == t1234) = false := beq_eq_false_iff_ne.mpr c15
                  have c15b1 : (t1230 != t1234) = true := bne_iff_ne.mpr c15
                  cases H
              · replace c14 := Bool.eq_false_iff.mpr c14
                subst c14
                have H1 : (none) = some r := by rw [if_neg (show ¬ (false = true) by decide)] at H; exact H
                clear H
                have H := H1
                clear H1
                cases H

end Go.Proofs.Ythnbmlpjbhhamaa.J
