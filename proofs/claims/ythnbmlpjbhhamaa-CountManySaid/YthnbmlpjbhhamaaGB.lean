/- The walks of hoggetlaw14_CountMany, by the print over this seat. -/
import Derived.Test.YthnbmlpjbhhamaaJ0
import Derived.Test.YthnbmlpjbhhamaaGM
import Derived.Test.YthnbmlpjbhhamaaGa
import Derived.Test.YthnbmlpjbhhamaaHc
namespace Go.Proofs.Ythnbmlpjbhhamaa.J
open Go.RowKit Go.Proofs.YthnbmlpjbhhamaaW.PrintWords Go.Proofs.YthnbmlpjbhhamaaW.PrintLast Go.Proofs.YthnbmlpjbhhamaaW.PrintMore
attribute [local go_sem] max2_int min2_int max_two min_two max_three min_three max_four min_four   -- for this text's walks alone
set_option linter.unusedVariables false
set_option linter.unusedSimpArgs false

/-! ### hoggetlaw14_CountMany: function 27 -/
noncomputable def hoggetlaw14_CountMany.l0 : Nat → List Int → List (List Int) → List (List Int) → Int → Option (Bool)
  | 0, _, _, _, _ => none
  | k + 1, x0, x3, x5, x7 => if x7 < (x3.length : Int) then (if 0 ≤ x7 then (if ((rd_L1 x3 x7).length : Int) = 2 then (hoggetlaw14_CountMany.l0 k x0 x3 x5 (wrap64 (x7 + 1))) else (none)) else (none)) else ((hoggetlaw14_counts.f k).bind fun t1164 => (if t1164 = true then (if (wrap64 (2 * (x3.length : Int))) = (wrap64 ((x0.length : Int) * (wrap64 ((x0.length : Int) - 1)))) then (if (wrap64 ((x5.length : Int) - 1)) = (x3.length : Int) then (if 1 ≤ (x5.length : Int) then ((hoggetref10_Clauses.f k (x5.drop 1) x3).bind fun t1169 => (if t1169 = true then (if 0 < (x5.length : Int) then ((hoggetref10_Ints.f k (rd_L1 x5 0) x0).bind fun t1171 => (some t1171)) else (none)) else (none))) else (none)) else (none)) else (none)) else (none)))
noncomputable def hoggetlaw14_CountMany.f (k : Nat) (l0 : List Int) : Option (Bool) := if (l0.length : Int) > 60 then (some true) else ((count_AtMost.f l0).bind fun bt1154 => ((count_Exactly.f l0).bind fun bt1158 => (if bt1154.2 = bt1158.2 then (if bt1154.2 = 0 then (hoggetlaw14_CountMany.l0 k l0 bt1154.1 bt1158.1 0) else ((hoggetlaw14_counts.f k).bind fun t1162 => (if t1162 = true then (if (bt1154.1.length : Int) = 0 then (some ((bt1158.1.length : Int) == 0)) else (none)) else (none)))) else (none))))
theorem hoggetlaw14_CountMany.mono_l : ∀ k, (∀ y0 y1 y2 y3, LeO (hoggetlaw14_CountMany.l0 k y0 y1 y2 y3) (hoggetlaw14_CountMany.l0 (k + 1) y0 y1 y2 y3))
  | 0 => fun _ _ _ _ r h => by simp [hoggetlaw14_CountMany.l0] at h
  | k + 1 => by
    have ih0 := hoggetlaw14_CountMany.mono_l k
    · intro y0 y1 y2 y3
      unfold hoggetlaw14_CountMany.l0
      repeat' first
      | (with_reducible exact ih0 _ _ _ _)
      | (with_reducible exact hoggetlaw14_counts.mono _)
      | (with_reducible exact hoggetref10_Clauses.mono _ _ _)
      | (with_reducible exact hoggetref10_Ints.mono _ _ _)
      | (with_reducible exact LeO.refl _)
      | (with_reducible exact LeO.none _)
      | (with_reducible refine LeO.ite ?_ ?_)
      | (with_reducible refine LeO.bind ?_ (fun _ => ?_))
      | exact ih0 _ _ _ _
      | exact hoggetlaw14_counts.mono _
      | exact hoggetref10_Clauses.mono _ _ _
      | exact hoggetref10_Ints.mono _ _ _
      | exact LeO.none _
      | refine LeO.ite ?_ ?_
      | refine LeO.bind ?_ (fun _ => ?_)
theorem hoggetlaw14_CountMany.mono : ∀ a0 k, LeO (hoggetlaw14_CountMany.f k a0) (hoggetlaw14_CountMany.f (k + 1) a0) := by
  intro a0 k
  have ih0 := hoggetlaw14_CountMany.mono_l k
  unfold hoggetlaw14_CountMany.f
  repeat' first
      | (with_reducible exact ih0 _ _ _ _)
      | (with_reducible exact hoggetlaw14_counts.mono _)
      | (with_reducible exact hoggetref10_Clauses.mono _ _ _)
      | (with_reducible exact hoggetref10_Ints.mono _ _ _)
      | (with_reducible exact LeO.refl _)
      | (with_reducible exact LeO.none _)
      | (with_reducible refine LeO.ite ?_ ?_)
      | (with_reducible refine LeO.bind ?_ (fun _ => ?_))
      | exact ih0 _ _ _ _
      | exact hoggetlaw14_counts.mono _
      | exact hoggetref10_Clauses.mono _ _ _
      | exact hoggetref10_Ints.mono _ _ _
      | exact LeO.none _
      | refine LeO.ite ?_ ?_
      | refine LeO.bind ?_ (fun _ => ?_)
set_option maxHeartbeats 8000000 in
set_option maxRecDepth 100000 in
theorem hoggetlaw14_CountMany.calls (k : Nat) (A0 : Option Addr) (c0 : Nat) (l0 : List Int) (r : Bool) (w : World) (hr0 : Kd.C (Kd.int .i64) w A0 l0.length l0) (hc0 : l0.length ≤ c0) (h : hoggetlaw14_CountMany.f k l0 = some r) :
    Calls Try.prog 27 #[.slice A0 l0.length c0] w fun e w' => e = .returned (.bool r) ∧ Below w.heap.size w w' := by
  have HR0 := Aside0.mk hr0
  have HC0 := Aside0.mk hc0
  clear hr0 hc0
  have HB := Aside0.mk (Below.refl w.heap.size w)
  have H : (if (l0.length : Int) > 60 then (some true) else ((count_AtMost.f l0).bind fun bt1154 => ((count_Exactly.f l0).bind fun bt1158 => (if bt1154.2 = bt1158.2 then (if bt1154.2 = 0 then (hoggetlaw14_CountMany.l0 k l0 bt1154.1 bt1158.1 0) else ((hoggetlaw14_counts.f k).bind fun t1162 => (if t1162 = true then (if (bt1154.1.length : Int) = 0 then (some ((bt1158.1.length : Int) == 0)) else (none)) else (none)))) else (none))))) = some r := h
  clear h
  by_cases c2 : (l0.length : Int) > 60
  · rw [if_pos c2] at H
    have c2b0 : decide (60 < (l0.length : Int)) = true := decide_eq_true c2
    have c2b1 : decide (60 < l0.length) = true := decide_eq_true (by omega)
    clear c2
    obtain rfl := Option.some.inj H
    go_enter Try.func27, Try.ntmps27
    go_wp2
    go_ret
    exact ⟨by first | rfl | (simp [errW_none, errW_some] <;> rfl) | (simp [*, errW_none, errW_some] <;> rfl), by repeat (first | (with_reducible first | exact HB.out | apply below_alloc | apply pw_below_drewN | apply below_drew1) | exact HB.out)⟩
  · rw [if_neg c2] at H
    have c2b0 : decide (60 < (l0.length : Int)) = false := decide_eq_false c2
    have c2b1 : decide (60 < l0.length) = false := decide_eq_false (by omega)
    clear c2
    replace H := Option.bind_eq_some_iff.mp H
    obtain ⟨⟨t1154, t1155⟩, A30, H⟩ := H
    replace H : ((count_Exactly.f l0).bind fun bt1158 => (if t1155 = bt1158.2 then (if t1155 = 0 then (hoggetlaw14_CountMany.l0 k l0 t1154 bt1158.1 0) else ((hoggetlaw14_counts.f k).bind fun t1162 => (if t1162 = true then (if (t1154.length : Int) = 0 then (some ((bt1158.1.length : Int) == 0)) else (none)) else (none)))) else (none))) = some r := H
    have A3 := Aside0.mk A30
    clear A30
    replace H := Option.bind_eq_some_iff.mp H
    obtain ⟨⟨t1158, t1159⟩, A40, H⟩ := H
    replace H : (if t1155 = t1159 then (if t1155 = 0 then (hoggetlaw14_CountMany.l0 k l0 t1154 t1158 0) else ((hoggetlaw14_counts.f k).bind fun t1162 => (if t1162 = true then (if (t1154.length : Int) = 0 then (some ((t1158.length : Int) == 0)) else (none)) else (none)))) else (none)) = some r := H
    have A4 := Aside0.mk A40
    clear A40
    by_cases c5 : t1155 = t1159
    · rw [if_pos c5] at H
      have c5b0 : (t1155 == t1159) = true := beq_iff_eq.mpr c5
      have c5b1 : (t1155 != t1159) = false := bne_eq_false_iff_eq.mpr c5
      clear c5
      by_cases c6 : t1155 = 0
      · rw [if_pos c6] at H
        have c6b0 : (t1155 == 0) = true := beq_iff_eq.mpr c6
        have c6b1 : (t1155 != 0) = false := bne_eq_false_iff_eq.mpr c6
        clear c6
        have H' := Aside0.mk H
        clear H
        go_enter Try.func27, Try.ntmps27
        go_wp2_with (first | ((with_reducible refine gate_callee (f := 68) rfl ?_); refine goesL_ (some 13) rfl rfl Try.func68 (by kernel_rfl) rfl #[.slice A0 l0.length c0] rfl (by (try simp only [List.map_toArray, List.map_cons, List.map_nil]); first | done | rfl | (simp only [List.length_drop, List.length_take]; rfl)) ?_; (with_reducible refine (count_AtMost.calls _ _ l0 t1154 t1155 _ ?side1 ?side2 A3.out).mono ?_); (case side1 => repeat (first | exact HR0.out | (with_reducible refine Kd.C_alloc ?_ _) | (with_reducible refine Kd.C_drewN ?_ _) | (with_reducible refine Kd.C_drew ?_))); (case side2 => exact HC0.out); rintro e w7 ⟨v1156, rfl, ho0, hb⟩; refine ⟨_, rfl, ?_⟩; have n0_ := Aside0.mk (Kd.S_lower ho0 (below_size (by repeat (first | (with_reducible first | exact HB.out | apply below_alloc | apply pw_below_drewN | apply below_drew1) | exact HB.out)))); have n1_ := Aside0.mk (below_step (by repeat (first | (with_reducible first | exact HB.out | apply below_alloc | apply pw_below_drewN | apply below_drew1) | exact HB.out)) hb); clear HB; have HO1157 := n0_; have HB := n1_; clear n0_ n1_; (try clear hb); (try clear hb2); (try clear hk); (try clear hi); (try clear ho0)) | ((with_reducible refine gate_callee (f := 70) rfl ?_); refine goesL_ (some 18) rfl rfl Try.func70 (by kernel_rfl) rfl #[.slice A0 l0.length c0] rfl (by (try simp only [List.map_toArray, List.map_cons, List.map_nil]); first | done | rfl | (simp only [List.length_drop, List.length_take]; rfl)) ?_; (with_reducible refine (count_Exactly.calls _ _ l0 t1158 t1159 _ ?side1 ?side2 A4.out).mono ?_); (case side1 => repeat (first | exact (Kd.C_below HR0.out HB.out) | (with_reducible refine Kd.C_alloc ?_ _) | (with_reducible refine Kd.C_drewN ?_ _) | (with_reducible refine Kd.C_drew ?_))); (case side2 => exact HC0.out); rintro e w8 ⟨v1160, rfl, ho0, hb⟩; refine ⟨_, rfl, ?_⟩; have n0_ := Aside0.mk (Kd.S_elder' (by (with_reducible repeat (first | apply Kd.S_alloc | apply Kd.S_drewN | apply Kd.S_drew)); exact HO1157.out) (Kd.S_base ho0) hb); have n1_ := Aside0.mk (Kd.S_lower (Kd.S_new' ho0 (Kd.S_lt (by (with_reducible repeat (first | apply Kd.S_alloc | apply Kd.S_drewN | apply Kd.S_drew)); exact HO1157.out))) (below_size (by repeat (first | (with_reducible first | exact HB.out | apply below_alloc | apply pw_below_drewN | apply below_drew1) | exact HB.out)))); have n2_ := Aside0.mk (below_step (by repeat (first | (with_reducible first | exact HB.out | apply below_alloc | apply pw_below_drewN | apply below_drew1) | exact HB.out)) hb); clear HO1157; clear HB; have HO1157 := n0_; have HO1161 := n1_; have HB := n2_; clear n0_ n1_ n2_; (try clear hb); (try clear hb2); (try clear hk); (try clear hi); (try clear ho0)))
        go_loopg [7] k (fun kq v7 w' => ∃ (x7_1 : Int), v7 = .int .i64 x7_1 ∧ Aside0 (hoggetlaw14_CountMany.l0 kq l0 t1154 t1158 x7_1 = some r) ∧ Aside0 (kq ≤ k) ∧ Aside0 (Kd.S (Kd.slice 3 (Kd.int .i64)) 25 w' w.heap.size (fun k_ => some k_ ≠ (v1160 : Value).ownBlock) v1156 t1154) ∧ Aside0 (Kd.S (Kd.slice 3 (Kd.int .i64)) 25 w' w.heap.size (fun k_ => some k_ ≠ (v1156 : Value).ownBlock) v1160 t1158) ∧ Aside0 (Below w.heap.size w w'))
        case atStart => exact ⟨(0), (by first | rfl | (simp; done) | (simp [*]; done)), H', ⟨Nat.le_refl _⟩, ⟨by (with_reducible repeat (first | apply Kd.S_alloc | apply Kd.S_drewN | apply Kd.S_drew)); exact Kd.S_mono HO1157.out (fun _ hk => hk.2)⟩, ⟨by (with_reducible repeat (first | apply Kd.S_alloc | apply Kd.S_drewN | apply Kd.S_drew)); exact Kd.S_mono HO1161.out (fun _ hk => hk.2)⟩, ⟨by repeat (first | (with_reducible first | exact HB.out | apply below_alloc | apply pw_below_drewN | apply below_drew1) | exact HB.out)⟩⟩
        case round =>
          clear H'
          try clear c2
          try clear c2b0
          try clear c2b1
          try clear p2
          try clear c5
          try clear c5b0
          try clear c5b1
          try clear c6
          try clear c6b0
          try clear c6b1
          try clear c7
          obtain ⟨x7_1, rfl, HA, HK1, HO_3, HO_5, HB⟩ := hrel
          cases gk with
          | zero => exact absurd HA.out (by simp [hoggetlaw14_CountMany.l0])
          | succ k1 =>
            have H := HA.out
            clear HA
            simp only [hoggetlaw14_CountMany.l0] at H
            by_cases c9 : x7_1 < (t1154.length : Int)
            · rw [if_pos c9] at H
              have c9b0 : decide (x7_1 < (t1154.length : Int)) = true := decide_eq_true c9
              clear c9
              by_cases c10 : 0 ≤ x7_1
              · rw [if_pos c10] at H
                have c10b0 : decide (0 ≤ x7_1) = true := decide_eq_true c10
                clear c10
                by_cases c11 : ((rd_L1 t1154 x7_1).length : Int) = 2
                · rw [if_pos c11] at H
                  have c11b0 : (((rd_L1 t1154 x7_1).length : Int) == 2) = true := beq_iff_eq.mpr c11
                  have c11b1 : (((rd_L1 t1154 x7_1).length : Int) != 2) = false := bne_eq_false_iff_eq.mpr c11
                  clear c11
                  have H' := Aside0.mk H
                  clear H
                  obtain ⟨Ao12, co12, eo12⟩ := Kd.S_slice HO_3.out
                  subst eo12
                  have p1163 : 0 ≤ (x7_1 : Int) := of_decide_eq_true (by first | (with_reducible assumption) | assumption)
                  have q1163 : x7_1 < (t1154.length : Int) := of_decide_eq_true (by first | (with_reducible assumption) | assumption)
                  obtain ⟨ad1163, A1163_0, c1163_0, e1163, hx1163_0, hl1163_0, hi1163_0⟩ := at_L1 (Kd.S_reads' HO_3.out).2.2 x7_1 p1163 q1163
                  cases e1163
                  obtain ⟨ce1163, hce1163, hMe1163, hcc1163⟩ := Kd.S_get HO_3.out [] x7_1 p1163 (by first | exact q1163 | exact of_decide_eq_true (by first | (with_reducible assumption) | assumption) | (have e_ := (Kd.S_reads' HO_3.out).1; omega))
                  obtain ⟨ve1163_0, rfl, ge1163_0⟩ := hMe1163
                  have hv1163_0 := hcc1163 0 _ rfl
                  rw [Nat.add_zero, show ((Kd.slice 3 (Kd.int .i64))).sz = 1 from rfl, Nat.mul_one] at hv1163_0
                  replace hv1163_0 := Option.some.inj (hv1163_0.symm.trans hx1163_0)
                  rw [hv1163_0] at ge1163_0
                  have HL1163_0 := Aside0.mk (show Kd.R (Kd.int .i64) 3 _ _ _ _ (rd_L1 t1154 x7_1) from ge1163_0)
                  clear hv1163_0 ge1163_0
                  clear hcc1163 hce1163
                  have HR1163_0 := Aside0.mk hi1163_0
                  have HC1163_0 := Aside0.mk hl1163_0
                  clear hi1163_0 hl1163_0
                  replace p1163 := eq_true p1163
                  replace q1163 := eq_true q1163
                  go_wp2
                  go_roundg k1
                  case measure => have := HK1.out; omega
                  case rel => exact ⟨(wrap64 (x7_1 + 1)), (by first | rfl | (simp; done) | (simp [*]; done)), H', ⟨by have := HK1.out; omega⟩, ⟨by (with_reducible repeat (first | apply Kd.S_alloc | apply Kd.S_drewN | apply Kd.S_drew)); exact HO_3.out⟩, ⟨by (with_reducible repeat (first | apply Kd.S_alloc | apply Kd.S_drewN | apply Kd.S_drew)); exact HO_5.out⟩, ⟨by repeat (first | (with_reducible first | exact HB.out | apply below_alloc | apply pw_below_drewN | apply below_drew1) | exact HB.out)⟩⟩
                · rw [if_neg c11] at H
                  cases H
              · rw [if_neg c10] at H
                exact absurd H (by simp)
            · rw [if_neg c9] at H
              have c9b0 : decide (x7_1 < (t1154.length : Int)) = false := decide_eq_false c9
              clear c9
              replace H := Option.bind_eq_some_iff.mp H
              obtain ⟨t1164, A140, H⟩ := H
              replace H : (if t1164 = true then (if (wrap64 (2 * (t1154.length : Int))) = (wrap64 ((l0.length : Int) * (wrap64 ((l0.length : Int) - 1)))) then (if (wrap64 ((t1158.length : Int) - 1)) = (t1154.length : Int) then (if 1 ≤ (t1158.length : Int) then ((hoggetref10_Clauses.f k1 (t1158.drop 1) t1154).bind fun t1169 => (if t1169 = true then (if 0 < (t1158.length : Int) then ((hoggetref10_Ints.f k1 (rd_L1 t1158 0) l0).bind fun t1171 => (some t1171)) else (none)) else (none))) else (none)) else (none)) else (none)) else (none)) = some r := H
              have A14 := Aside0.mk A140
              clear A140
              by_cases c15 : t1164 = true
              · subst c15
                have H1 : (if (wrap64 (2 * (t1154.length : Int))) = (wrap64 ((l0.length : Int) * (wrap64 ((l0.length : Int) - 1)))) then (if (wrap64 ((t1158.length : Int) - 1)) = (t1154.length : Int) then (if 1 ≤ (t1158.length : Int) then ((hoggetref10_Clauses.f k1 (t1158.drop 1) t1154).bind fun t1169 => (if t1169 = true then (if 0 < (t1158.length : Int) then ((hoggetref10_Ints.f k1 (rd_L1 t1158 0) l0).bind fun t1171 => (some t1171)) else (none)) else (none))) else (none)) else (none)) else (none)) = some r := by rw [if_pos rfl] at H; exact H
                clear H
                have H := H1
                clear H1
                by_cases c16 : (wrap64 (2 * (t1154.length : Int))) = (wrap64 ((l0.length : Int) * (wrap64 ((l0.length : Int) - 1))))
                · rw [if_pos c16] at H
                  have c16b0 : ((wrap64 (2 * (t1154.length : Int))) == (wrap64 ((l0.length : Int) * (wrap64 ((l0.length : Int) - 1))))) = true := beq_iff_eq.mpr c16
                  have c16b1 : ((wrap64 (2 * (t1154.length : Int))) != (wrap64 ((l0.length : Int) * (wrap64 ((l0.length : Int) - 1))))) = false := bne_eq_false_iff_eq.mpr c16
                  clear c16
                  by_cases c17 : (wrap64 ((t1158.length : Int) - 1)) = (t1154.length : Int)
                  · rw [if_pos c17] at H
                    have c17b0 : ((wrap64 ((t1158.length : Int) - 1)) == (t1154.length : Int)) = true := beq_iff_eq.mpr c17
                    have c17b1 : ((wrap64 ((t1158.length : Int) - 1)) != (t1154.length : Int)) = false := bne_eq_false_iff_eq.mpr c17
                    clear c17
                    by_cases c18 : 1 ≤ (t1158.length : Int)
                    · rw [if_pos c18] at H
                      have c18b0 := eq_true c18
                      have c18b1 : decide (1 ≤ (t1158.length : Int)) = true := decide_eq_true c18
                      clear c18
                      obtain ⟨y1165, hy1165⟩ : ∃ y_ : List (List Int), y_ = (t1158.drop 1) := ⟨_, rfl⟩
                      replace H : ((hoggetref10_Clauses.f k1 y1165 t1154).bind fun t1169 => (if t1169 = true then (if 0 < (t1158.length : Int) then ((hoggetref10_Ints.f k1 (rd_L1 t1158 0) l0).bind fun t1171 => (some t1171)) else (none)) else (none))) = some r := by first | (rw [hy1165]; with_reducible exact H) | (have H2_ := (Option.bind_some _ _).symm.trans H; rw [hy1165]; with_reducible exact H2_) | (have H2_ := (Option.bind_some _ _).symm.trans H; with_reducible exact H2_) | with_reducible exact H | (rw [hy1165]; exact H) | exact H
                      have Ny1165 := Aside0.mk hy1165
                      clear hy1165
                      replace H := Option.bind_eq_some_iff.mp H
                      obtain ⟨t1169, A190, H⟩ := H
                      replace H : (if t1169 = true then (if 0 < (t1158.length : Int) then ((hoggetref10_Ints.f k1 (rd_L1 t1158 0) l0).bind fun t1171 => (some t1171)) else (none)) else (none)) = some r := H
                      have A19 := Aside0.mk A190
                      clear A190
                      by_cases c20 : t1169 = true
                      · subst c20
                        have H1 : (if 0 < (t1158.length : Int) then ((hoggetref10_Ints.f k1 (rd_L1 t1158 0) l0).bind fun t1171 => (some t1171)) else (none)) = some r := by rw [if_pos rfl] at H; exact H
                        clear H
                        have H := H1
                        clear H1
                        by_cases c21 : 0 < (t1158.length : Int)
                        · rw [if_pos c21] at H
                          have c21b0 : decide (0 < (t1158.length : Int)) = true := decide_eq_true c21
                          have c21b1 : decide (0 < t1158.length) = true := decide_eq_true (by omega)
                          clear c21
                          replace H := Option.bind_eq_some_iff.mp H
                          obtain ⟨t1171, A220, H⟩ := H
                          replace H : (some t1171) = some r := H
                          have A22 := Aside0.mk A220
                          clear A220
                          obtain rfl := Option.some.inj H
                          obtain ⟨Ao23, co23, eo23⟩ := Kd.S_slice HO_3.out
                          subst eo23
                          go_wp2_with (first | ((with_reducible refine gate_callee (f := 77) rfl ?_); refine goesL_ (some 49) rfl rfl Try.func77 (by kernel_rfl) rfl #[] rfl (by (try simp only [List.map_toArray, List.map_cons, List.map_nil]); first | done | rfl | (simp only [List.length_drop, List.length_take]; rfl)) ?_; (with_reducible refine (hoggetlaw14_counts.calls k1  true _ A14.out).mono ?_); rintro e w24 ⟨rfl, hb⟩; refine ⟨_, rfl, ?_⟩; have n0_ := Aside0.mk (Kd.S_below (by (with_reducible repeat (first | apply Kd.S_alloc | apply Kd.S_drewN | apply Kd.S_drew)); exact HO_3.out) hb); have n1_ := Aside0.mk (Kd.S_below (by (with_reducible repeat (first | apply Kd.S_alloc | apply Kd.S_drewN | apply Kd.S_drew)); exact HO_5.out) hb); have n2_ := Aside0.mk (below_step (by repeat (first | (with_reducible first | exact HB.out | apply below_alloc | apply pw_below_drewN | apply below_drew1) | exact HB.out)) hb); clear HO_3; clear HO_5; clear HB; have HO_3 := n0_; have HO_5 := n1_; have HB := n2_; clear n0_ n1_ n2_; (try clear hb); (try clear hb2); (try clear hk); (try clear hi); obtain ⟨Ao25, co25, eo25⟩ := Kd.S_slice HO_5.out; subst eo25; have q26 : (1 : Int) ≤ ((t1158.length : Int) : Int) := of_decide_eq_true (by first | (with_reducible assumption) | assumption); obtain ⟨i026, hi026, _, hsz26, _⟩ := info_parts info25; have hroom26 : t1158.length ≤ co25 := (Kd.S_reads' HO_5.out).2.1; have hC26 : Kd.C (Kd.slice 3 (Kd.int .i64)) _ Ao25 t1158.length t1158 := (Kd.S_reads' HO_5.out).2.2; have hcut26 := cut_from (P := Try.prog) 22 25 .i64 Try.underlying22 hi026 1 hsz26 Ao25 t1158.length co25 1 (by omega) q26; have hr26 := Kd.C_drop (m := (1 : Int).toNat) (c := co25) hC26 (by omega) hroom26; obtain ⟨A26, hA26⟩ : ∃ A1, A1 = (if co25 = (1 : Int).toNat then Ao25 else (Ao25 : Option Addr).map (·.add ((1 : Int).toNat * 1))) := ⟨_, rfl⟩; obtain ⟨c26, hc26⟩ : ∃ c1, c1 = co25 - (1 : Int).toNat := ⟨_, rfl⟩; have hy26 : y1165.length = t1158.length - (1 : Int).toNat := (by rw [Ny1165.out, List.length_drop] <;> omega); rw [show (t1158).drop (1 : Int).toNat = y1165 from Ny1165.out.symm] at hr26; replace hr26 : Kd.C (Kd.slice 3 (Kd.int .i64)) _ A26 y1165.length y1165 := (by rw [hA26]; exact hr26); rw [← hy26, ← hA26, ← hc26] at hcut26; have HR1168 := Aside0.mk hr26; have HC1168 := Aside0.mk (show y1165.length ≤ c26 from by rw [hy26, hc26]; exact Nat.sub_le_sub_right hroom26 _); clear hr26 hC26 hroom26 hi026 hsz26 hc26; have KY26 := Aside0.mk hy26; have KA26 := Aside0.mk hA26; clear hy26 hA26; have KL26 := Aside0.mk (show 1 ≤ t1158.length from by omega); replace q26 := eq_true q26) | (go_at_call 41; (with_reducible refine (hoggetref10_Clauses.calls k1 _ _ y1165 _ _ t1154 true _ ?side1 ?side2 ?side3 ?side4 A19.out).mono ?_); (case side1 => repeat (first | exact (by repeat (first | (with_reducible exact HR1168.out) | (with_reducible refine Kd.C_alloc ?_ _) | (with_reducible refine Kd.C_drewN ?_ _) | (with_reducible refine Kd.C_drew ?_) | exact HR1168.out)) | (with_reducible refine Kd.C_alloc ?_ _) | (with_reducible refine Kd.C_drewN ?_ _) | (with_reducible refine Kd.C_drew ?_))); (case side2 => exact HC1168.out); (case side3 => repeat (first | exact (Kd.S_reads' HO_3.out).2.2 | (with_reducible refine Kd.C_alloc ?_ _) | (with_reducible refine Kd.C_drewN ?_ _) | (with_reducible refine Kd.C_drew ?_))); (case side4 => exact (Kd.S_reads' HO_3.out).2.1); rintro e w' ⟨rfl, ⟨nd, rfl⟩⟩; have p1170 : 0 ≤ (0 : Int) := (by omega); have q1170 : 0 < (t1158.length : Int) := of_decide_eq_true (by first | (with_reducible assumption) | assumption); obtain ⟨ad1170, A1170_0, c1170_0, e1170, hx1170_0, hl1170_0, hi1170_0⟩ := at_L1 (Kd.S_reads' HO_5.out).2.2 0 p1170 q1170; cases e1170; obtain ⟨ce1170, hce1170, hMe1170, hcc1170⟩ := Kd.S_get HO_5.out [] 0 p1170 (by first | exact q1170 | exact of_decide_eq_true (by first | (with_reducible assumption) | assumption) | (have e_ := (Kd.S_reads' HO_5.out).1; omega)); obtain ⟨ve1170_0, rfl, ge1170_0⟩ := hMe1170; have hv1170_0 := hcc1170 0 _ rfl; rw [Nat.add_zero, show ((Kd.slice 3 (Kd.int .i64))).sz = 1 from rfl, Nat.mul_one] at hv1170_0; replace hv1170_0 := Option.some.inj (hv1170_0.symm.trans hx1170_0); rw [hv1170_0] at ge1170_0; have HL1170_0 := Aside0.mk (show Kd.R (Kd.int .i64) 3 _ _ _ _ (rd_L1 t1158 0) from ge1170_0); clear hv1170_0 ge1170_0; clear hcc1170 hce1170; have qi1170 : (0 < t1158.length) = True := eq_true (by omega); (try rw [show ((0 : Int)).toNat = 0 from rfl] at hx1170_0); (try rw [Addr.add_zero'] at hx1170_0); have HR1170_0 := Aside0.mk hi1170_0; have HC1170_0 := Aside0.mk hl1170_0; clear hi1170_0 hl1170_0; replace p1170 := eq_true p1170; replace q1170 := eq_true q1170) | (go_at_call 38; (with_reducible refine (hoggetref10_Ints.calls k1 _ _ (rd_L1 t1158 0) _ _ l0 t1171 _ ?side1 ?side2 ?side3 ?side4 A22.out).mono ?_); (case side1 => repeat (first | exact (by repeat (first | (with_reducible exact HR1170_0.out) | (with_reducible refine Kd.C_alloc ?_ _) | (with_reducible refine Kd.C_drewN ?_ _) | (with_reducible refine Kd.C_drew ?_) | exact HR1170_0.out)) | (with_reducible refine Kd.C_alloc ?_ _) | (with_reducible refine Kd.C_drewN ?_ _) | (with_reducible refine Kd.C_drew ?_))); (case side2 => exact HC1170_0.out); (case side3 => repeat (first | exact (Kd.C_below HR0.out (by repeat (first | (with_reducible first | exact HB.out | apply below_alloc | apply pw_below_drewN | apply below_drew1) | exact HB.out))) | (with_reducible refine Kd.C_alloc ?_ _) | (with_reducible refine Kd.C_drewN ?_ _) | (with_reducible refine Kd.C_drew ?_))); (case side4 => exact HC0.out); rintro e w' ⟨rfl, ⟨nd, rfl⟩⟩))
                          go_ret
                          exact ⟨by first | rfl | (simp [errW_none, errW_some] <;> rfl) | (simp [*, errW_none, errW_some] <;> rfl), by repeat (first | (with_reducible first | exact HB.out | apply below_alloc | apply pw_below_drewN | apply below_drew1) | exact HB.out)⟩
                        · rw [if_neg c21] at H
                          exact absurd H (by simp)
                      · replace c20 := Bool.eq_false_iff.mpr c20
                        subst c20
                        have H1 : (none) = some r := by rw [if_neg (show ¬ (false = true) by decide)] at H; exact H
                        clear H
                        have H := H1
                        clear H1
                        cases H
                    · rw [if_neg c18] at H
                      exact absurd H (by simp)
                  · rw [if_neg c17] at H
                    have c17b0 : ((wrap64 ((t1158.length : Int) - 1)) == (t1154.length : Int)) = false := beq_eq_false_iff_ne.mpr c17
                    have c17b1 : ((wrap64 ((t1158.length : Int) - 1)) != (t1154.length : Int)) = true := bne_iff_ne.mpr c17
                    cases H
                · rw [if_neg c16] at H
                  have c16b0 : ((wrap64 (2 * (t1154.length : Int))) == (wrap64 ((l0.length : Int) * (wrap64 ((l0.length : Int) - 1))))) = false := beq_eq_false_iff_ne.mpr c16
                  have c16b1 : ((wrap64 (2 * (t1154.length : Int))) != (wrap64 ((l0.length : Int) * (wrap64 ((l0.length : Int) - 1))))) = true := bne_iff_ne.mpr c16
                  cases H
              · replace c15 := Bool.eq_false_iff.mpr c15
                subst c15
                have H1 : (none) = some r := by rw [if_neg (show ¬ (false = true) by decide)] at H; exact H
                clear H
                have H := H1
                clear H1
                cases H
      · rw [if_neg c6] at H
        have c6b0 : (t1155 == 0) = false := beq_eq_false_iff_ne.mpr c6
        have c6b1 : (t1155 != 0) = true := bne_iff_ne.mpr c6
        replace H := Option.bind_eq_some_iff.mp H
        obtain ⟨t1162, A380, H⟩ := H
        replace H : (if t1162 = true then (if (t1154.length : Int) = 0 then (some ((t1158.length : Int) == 0)) else (none)) else (none)) = some r := H
        have A38 := Aside0.mk A380
        clear A380
        by_cases c39 : t1162 = true
        · subst c39
          have H1 : (if (t1154.length : Int) = 0 then (some ((t1158.length : Int) == 0)) else (none)) = some r := by rw [if_pos rfl] at H; exact H
          clear H
          have H := H1
          clear H1
          by_cases c40 : (t1154.length : Int) = 0
          · rw [if_pos c40] at H
            have c40b0 : ((t1154.length : Int) == 0) = true := beq_iff_eq.mpr c40
            have c40b1 : ((t1154.length : Int) != 0) = false := bne_eq_false_iff_eq.mpr c40
            clear c40
            obtain rfl := Option.some.inj H
            go_enter Try.func27, Try.ntmps27
            go_wp2_with (first | ((with_reducible refine gate_callee (f := 68) rfl ?_); refine goesL_ (some 13) rfl rfl Try.func68 (by kernel_rfl) rfl #[.slice A0 l0.length c0] rfl (by (try simp only [List.map_toArray, List.map_cons, List.map_nil]); first | done | rfl | (simp only [List.length_drop, List.length_take]; rfl)) ?_; (with_reducible refine (count_AtMost.calls _ _ l0 t1154 t1155 _ ?side1 ?side2 A3.out).mono ?_); (case side1 => repeat (first | exact HR0.out | (with_reducible refine Kd.C_alloc ?_ _) | (with_reducible refine Kd.C_drewN ?_ _) | (with_reducible refine Kd.C_drew ?_))); (case side2 => exact HC0.out); rintro e w41 ⟨v1156, rfl, ho0, hb⟩; refine ⟨_, rfl, ?_⟩; have n0_ := Aside0.mk (Kd.S_lower ho0 (below_size (by repeat (first | (with_reducible first | exact HB.out | apply below_alloc | apply pw_below_drewN | apply below_drew1) | exact HB.out)))); have n1_ := Aside0.mk (below_step (by repeat (first | (with_reducible first | exact HB.out | apply below_alloc | apply pw_below_drewN | apply below_drew1) | exact HB.out)) hb); clear HB; have HO1157 := n0_; have HB := n1_; clear n0_ n1_; (try clear hb); (try clear hb2); (try clear hk); (try clear hi); (try clear ho0)) | ((with_reducible refine gate_callee (f := 70) rfl ?_); refine goesL_ (some 18) rfl rfl Try.func70 (by kernel_rfl) rfl #[.slice A0 l0.length c0] rfl (by (try simp only [List.map_toArray, List.map_cons, List.map_nil]); first | done | rfl | (simp only [List.length_drop, List.length_take]; rfl)) ?_; (with_reducible refine (count_Exactly.calls _ _ l0 t1158 t1159 _ ?side1 ?side2 A4.out).mono ?_); (case side1 => repeat (first | exact (Kd.C_below HR0.out HB.out) | (with_reducible refine Kd.C_alloc ?_ _) | (with_reducible refine Kd.C_drewN ?_ _) | (with_reducible refine Kd.C_drew ?_))); (case side2 => exact HC0.out); rintro e w42 ⟨v1160, rfl, ho0, hb⟩; refine ⟨_, rfl, ?_⟩; have n0_ := Aside0.mk (Kd.S_elder' (by (with_reducible repeat (first | apply Kd.S_alloc | apply Kd.S_drewN | apply Kd.S_drew)); exact HO1157.out) (Kd.S_base ho0) hb); have n1_ := Aside0.mk (Kd.S_lower (Kd.S_new' ho0 (Kd.S_lt (by (with_reducible repeat (first | apply Kd.S_alloc | apply Kd.S_drewN | apply Kd.S_drew)); exact HO1157.out))) (below_size (by repeat (first | (with_reducible first | exact HB.out | apply below_alloc | apply pw_below_drewN | apply below_drew1) | exact HB.out)))); have n2_ := Aside0.mk (below_step (by repeat (first | (with_reducible first | exact HB.out | apply below_alloc | apply pw_below_drewN | apply below_drew1) | exact HB.out)) hb); clear HO1157; clear HB; have HO1157 := n0_; have HO1161 := n1_; have HB := n2_; clear n0_ n1_ n2_; (try clear hb); (try clear hb2); (try clear hk); (try clear hi); (try clear ho0)) | ((with_reducible refine gate_callee (f := 77) rfl ?_); refine goesL_ (some 26) rfl rfl Try.func77 (by kernel_rfl) rfl #[] rfl (by (try simp only [List.map_toArray, List.map_cons, List.map_nil]); first | done | rfl | (simp only [List.length_drop, List.length_take]; rfl)) ?_; (with_reducible refine (hoggetlaw14_counts.calls k  true _ A38.out).mono ?_); rintro e w43 ⟨rfl, hb⟩; refine ⟨_, rfl, ?_⟩; have n0_ := Aside0.mk (Kd.S_below (by (with_reducible repeat (first | apply Kd.S_alloc | apply Kd.S_drewN | apply Kd.S_drew)); exact HO1157.out) hb); have n1_ := Aside0.mk (Kd.S_below (by (with_reducible repeat (first | apply Kd.S_alloc | apply Kd.S_drewN | apply Kd.S_drew)); exact HO1161.out) hb); have n2_ := Aside0.mk (below_step (by repeat (first | (with_reducible first | exact HB.out | apply below_alloc | apply pw_below_drewN | apply below_drew1) | exact HB.out)) hb); clear HO1157; clear HO1161; clear HB; have HO1157 := n0_; have HO1161 := n1_; have HB := n2_; clear n0_ n1_ n2_; (try clear hb); (try clear hb2); (try clear hk); (try clear hi); obtain ⟨Ao44, co44, eo44⟩ := Kd.S_slice HO1157.out; subst eo44; obtain ⟨Ao45, co45, eo45⟩ := Kd.S_slice HO1161.out; subst eo45))
            go_ret
            exact ⟨by first | rfl | (simp [errW_none, errW_some] <;> rfl) | (simp [*, errW_none, errW_some] <;> rfl), by repeat (first | (with_reducible first | exact HB.out | apply below_alloc | apply pw_below_drewN | apply below_drew1) | exact HB.out)⟩
          · rw [if_neg c40] at H
            have c40b0 : ((t1154.length : Int) == 0) = false := beq_eq_false_iff_ne.mpr c40
            have c40b1 : ((t1154.length : Int) != 0) = true := bne_iff_ne.mpr c40
            have c40b2 : ¬ (t1154 = []) := fun h_ => c40 (by rw [h_]; rfl)
            cases H
        · replace c39 := Bool.eq_false_iff.mpr c39
          subst c39
          have H1 : (none) = some r := by rw [if_neg (show ¬ (false = true) by decide)] at H; exact H
          clear H
          have H := H1
          clear H1
          cases H
    · rw [if_neg c5] at H
      have c5b0 : (t1155 == t1159) = false := beq_eq_false_iff_ne.mpr c5
      have c5b1 : (t1155 != t1159) = true := bne_iff_ne.mpr c5
      cases H

/-- THE ONE PURE STATEMENT of hoggetlaw14_CountMany: yours. -/
noncomputable def hoggetlaw14_CountMany.Pure : Prop := ∀ (l0 : List Int), l0.length ≤ maxLen → l0.length * 8 ≤ 140737488351232 → (∀ x ∈ l0, (Lit.int .i64 x).wf = true) → ∃ k, hoggetlaw14_CountMany.f k l0 = some true
theorem hoggetlaw14_CountMany.walk (P : hoggetlaw14_CountMany.Pure) (a0 : Option Addr) (len0 cap0 : Nat) (z0 : List Int) (w : World) (w0 : (a0 = none ∧ len0 = 0 ∧ cap0 = 0 ∧ z0 = []) ∨ ∃ x, a0 = some x ∧ len0 ≤ cap0 ∧ cap0 ≤ maxLen ∧ z0.length = cap0 ∧ (∀ i, i < z0.length → w.cell? (x.add i) = some (.int .i64 (z0.getD i 0))) ∧ ∀ n ∈ z0, (Lit.int .i64 n).wf = true) (y0 : len0 * 8 ≤ 140737488351232) :
    Calls Try.prog 27 #[.slice a0 len0 cap0] w fun e w' => e = .returned (.bool true) ∧ Below w.heap.size w w' := by
  obtain ⟨l0, rfl, hr0, hm0, hw0, hc0⟩ := ReadsInt.ofRowC w0
  obtain ⟨k, h⟩ := P l0 hm0 y0 hw0
  refine (hoggetlaw14_CountMany.calls k _ _ l0 true w (Kd.C_of_reads (d := (0 : Int)) (h1 := fun _ => rfl) hr0) hc0 h).mono ?_
  rintro e w' ⟨rfl, hd⟩
  exact ⟨rfl, hd⟩

end Go.Proofs.Ythnbmlpjbhhamaa.J
