/- ProofFirst: it is true. -/
import Derived.Test.YthnbmlpjbhhamaaP3
import Derived.Test.YthnbmlpjbhhamaaPt
import Derived.Test.YthnbmlpjbhhamaaHg
import Derived.Deep.RegionLaw
namespace Go.Proofs.Ythnbmlpjbhhamaa.J
open Go.RowKit Go.Shelf Go.Proofs.YthnbmlpjbhhamaaW.PrintWords Go.Proofs.YthnbmlpjbhhamaaW.PrintLast Go.Proofs.YthnbmlpjbhhamaaW.PrintMore
set_option linter.unusedVariables false
set_option linter.unusedSimpArgs false

theorem grown_none {w w' : World} (h : w.grownBy w' none) : Below w.heap.size w w' :=
  ⟨h.os, h.tape, h.output, h.size, fun k hk => h.block k hk (by simp)⟩
set_option maxHeartbeats 4000000 in
set_option maxRecDepth 100000 in
theorem ProofFirst_walk {W : World} (a0 : Int) (A0 : Option Addr) (c0 : Nat) (l0 : List (List Int)) (hr0 : Kd.C (Kd.slice 3 (Kd.int .i64)) W A0 l0.length l0) (hc0 : l0.length ≤ c0) (w0 : (Lit.int .i64 a0).wf = true) (wl0 : ∀ c ∈ l0, ∀ n ∈ c, (Lit.int .i64 n).wf = true)
    (A1 : Option Addr) (c1 : Nat) (l1 : List (List Int)) (hr1 : Kd.C (Kd.slice 3 (Kd.int .i64)) W A1 l1.length l1) (hc1 : l1.length ≤ c1) (wl1 : ∀ c ∈ l1, ∀ n ∈ c, (Lit.int .i64 n).wf = true)
    (A2 : Option Addr) (c2 : Nat) (l2 : List (List Int)) (hr2 : Kd.C (Kd.slice 3 (Kd.int .i64)) W A2 l2.length l2) (hc2 : l2.length ≤ c2) (wl2 : ∀ c ∈ l2, ∀ n ∈ c, (Lit.int .i64 n).wf = true) :
    Calls Try.prog 11 #[.agg #[.int .i64 a0, .slice A0 l0.length c0], .slice A1 l1.length c1, .slice A2 l2.length c2] W fun e w' => e = .returned (.bool true) ∧ Below W.heap.size W w' := by
  obtain ⟨kL, hkL⟩ := (large13_ev a0 l0 l1).rounds
  have HKL := Aside0.mk hkL
  obtain ⟨kM, hkM⟩ := (large13_ev a0 l0 l2).rounds
  have HKM := Aside0.mk hkM
  have HR := Aside0.mk hr0
  have HR1 := Aside0.mk hr1
  have HR2 := Aside0.mk hr2
  have HC := Aside0.mk hc0
  have HC1 := Aside0.mk hc1
  have HC2 := Aside0.mk hc2
  obtain ⟨W0, hW0, hb0, hs0, hw0⟩ := boxed_formula W a0 A0 c0 l0.length
  have HB0 := Aside0.mk hb0
  have HW := Aside0.mk hw0
  have q1 : W0.cell? ⟨W.heap.size, 0, none⟩ = some (.int .i64 a0) := (hw0 W0 (Below.refl _ _)).2.1
  have q2 : W0.cell? ⟨W.heap.size, 1, none⟩ = some (.slice A0 l0.length c0) := (hw0 W0 (Below.refl _ _)).2.2
  obtain ⟨rl, hrl⟩ : ∃ rl, large13 l0 l1 = rl := ⟨_, rfl⟩
  rw [hrl] at HKL
  obtain ⟨rm, hrm⟩ : ∃ rm, large13 l0 l2 = rm := ⟨_, rfl⟩
  rw [hrm] at HKM
  clear hkL hkM hr0 hr1 hr2 hc0 hc1 hc2 hb0 hw0 hs0 w0 wl0 wl1 wl2
  cases rl with
  | true =>
    go_enter Try.func11, Try.ntmps11
    go_upto_region 1 with (fail)
    rw [← hW0]
    clear hW0 hrl hrm
    go_wp2_with (first | (go_at_call 46; refine (hoggetlaw13_large.calls kL a0 _ _ l0 _ _ l1 _ _ (Kd.C_below HR.out HB0.out) HC.out (Kd.C_below HR1.out HB0.out) HC1.out HKL.out).mono ?_; clear HKL; rintro e w7 ⟨rfl, hb7⟩; have HB7 := Aside0.mk (below_step HB0.out hb7); have HB07 := Aside0.mk hb7; obtain ⟨_, q71, q72⟩ := HW.out _ HB07.out; clear hb7) | (go_at_call 46; refine (hoggetlaw13_large.calls kM a0 _ _ l0 _ _ l2 _ _ (Kd.C_below HR.out HB7.out) HC.out (Kd.C_below HR2.out HB7.out) HC2.out HKM.out).mono ?_; clear HKM; rintro e w8 ⟨rfl, hb8⟩; have HB8 := Aside0.mk (below_step HB7.out hb8); have HB08 := Aside0.mk (below_step HB07.out hb8); obtain ⟨_, q81, q82⟩ := HW.out _ HB08.out; clear hb8))
    go_ret
    exact ⟨rfl, HB7.out⟩
  | false =>
    obtain ⟨b1, b2, b3, b4⟩ := large13_bounds hrl
    clear hrl
    cases rm with
    | true =>
      go_enter Try.func11, Try.ntmps11
      go_upto_region 1 with (fail)
      rw [← hW0]
      clear hW0 hrm b1 b2 b3 b4
      go_wp2_with (first | (go_at_call 46; refine (hoggetlaw13_large.calls kL a0 _ _ l0 _ _ l1 _ _ (Kd.C_below HR.out HB0.out) HC.out (Kd.C_below HR1.out HB0.out) HC1.out HKL.out).mono ?_; clear HKL; rintro e w7 ⟨rfl, hb7⟩; have HB7 := Aside0.mk (below_step HB0.out hb7); have HB07 := Aside0.mk hb7; obtain ⟨_, q71, q72⟩ := HW.out _ HB07.out; clear hb7) | (go_at_call 46; refine (hoggetlaw13_large.calls kM a0 _ _ l0 _ _ l2 _ _ (Kd.C_below HR.out HB7.out) HC.out (Kd.C_below HR2.out HB7.out) HC2.out HKM.out).mono ?_; clear HKM; rintro e w8 ⟨rfl, hb8⟩; have HB8 := Aside0.mk (below_step HB7.out hb8); have HB08 := Aside0.mk (below_step HB07.out hb8); obtain ⟨_, q81, q82⟩ := HW.out _ HB08.out; clear hb8))
      go_ret
      exact ⟨rfl, HB8.out⟩
    | false =>
      obtain ⟨b5, b6, b7, b8⟩ := large13_bounds hrm
      obtain ⟨n, h1, h2, h3, h4⟩ := Pf.check_first a0 l0 l1 l2
      obtain ⟨ys, hys⟩ : ∃ ys, l1 ++ l2 = ys := ⟨_, rfl⟩
      have HYS := Aside0.mk hys
      obtain ⟨ts, hts⟩ : ∃ ts, l1.take n = ts := ⟨_, rfl⟩
      have HTS := Aside0.mk hts
      have hyl : ys.length ≤ 80 := by rw [← hys, List.length_append]; omega
      have htl : ts.length = n := by rw [← hts, List.length_take]; omega
      rw [hys] at h4
      rw [hts] at h3
      obtain ⟨x1, o1, e1⟩ : ∃ x1 o1, Pf.check a0 l0 l1 = (x1, o1) := ⟨_, _, rfl⟩
      obtain ⟨x2, o2, e2⟩ : ∃ x2 o2, Pf.check a0 l0 ys = (x2, o2) := ⟨_, _, rfl⟩
      obtain ⟨x3, o3, e3⟩ : ∃ x3 o3, Pf.check a0 l0 ts = (x3, o3) := ⟨_, _, rfl⟩
      have HP1 := Aside0.mk (show proof_Check.f a0 l0 l1 = some (x1, o1) by rw [proof_Check.f_eq, if_pos ⟨by omega, by omega⟩, e1])
      have HP2 := Aside0.mk (show proof_Check.f a0 l0 ys = some (x2, o2) by rw [proof_Check.f_eq, if_pos ⟨by omega, by omega⟩, e2])
      have HP3 := Aside0.mk (show proof_Check.f a0 l0 ts = some (x3, o3) by rw [proof_Check.f_eq, if_pos ⟨by omega, by omega⟩, e3])
      have HPR := Aside0.mk proves_f
      have HTR := Aside0.mk (show Kd.C (Kd.slice 3 (Kd.int .i64)) W A1 ts.length ts by rw [← hts]; exact Kd.C_take HR1.out h1)
      have HTC := Aside0.mk (show ts.length ≤ c1 by have := HC1.out; omega)
      rw [e1] at h2 h4
      rw [e2] at h4
      rw [e3] at h3
      replace h2 : x1 = (n : Int) := h2
      replace h3 : x3 = (n : Int) := h3
      replace h4 : (n < l1.length ∧ o1 = false ∧ x2 = (n : Int)) ∨ (n = l1.length ∧ (n : Int) ≤ x2) := h4
      subst h2 h3
      have HLN1 := Aside0.mk (show (([] : List (List Int)).length + l1.length) * 24 ≤ 140737488355328 by simp only [List.length_nil]; omega)
      have HLN2 := Aside0.mk (show (l1.length + l2.length) * 24 ≤ 140737488355328 by omega)
      have z0 : (0 : Int) ≤ (n : Int) := by omega
      have z1 : (n : Int) ≤ (l1.length : Int) := by omega
      have z2 : n ≤ c1 := by have := HC1.out; omega
      have z3 : (n : Int) ≤ (c1 : Int) := by omega
      clear b1 b2 b3 b4 b5 b6 b7 b8 hrm hys hts hyl e1 e2 e3
      subst htl
      rcases h4 with ⟨g1, rfl, rfl⟩ | ⟨g1, g2⟩
      · go_enter Try.func11, Try.ntmps11
        go_upto_region 1 with (fail)
        rw [← hW0]
        clear hW0
        have g3 : (ts.length : Int) < (l1.length : Int) := by omega
        go_wp2_with (first | (go_at_call 46; refine (hoggetlaw13_large.calls kL a0 _ _ l0 _ _ l1 _ _ (Kd.C_below HR.out HB0.out) HC.out (Kd.C_below HR1.out HB0.out) HC1.out HKL.out).mono ?_; clear HKL; rintro e w7 ⟨rfl, hb7⟩; have HB7 := Aside0.mk (below_step HB0.out hb7); have HB07 := Aside0.mk hb7; obtain ⟨_, q71, q72⟩ := HW.out _ HB07.out; clear hb7) | (go_at_call 46; refine (hoggetlaw13_large.calls kM a0 _ _ l0 _ _ l2 _ _ (Kd.C_below HR.out HB7.out) HC.out (Kd.C_below HR2.out HB7.out) HC2.out HKM.out).mono ?_; clear HKM; rintro e w8 ⟨rfl, hb8⟩; have HB8 := Aside0.mk (below_step HB7.out hb8); have HB08 := Aside0.mk (below_step HB07.out hb8); obtain ⟨_, q81, q82⟩ := HW.out _ HB08.out; clear hb8) | (go_at_call 47; refine (proof_Check.calls a0 _ _ l0 _ _ l1 _ _ _ (Kd.C_below HR.out HB8.out) HC.out (Kd.C_below HR1.out HB8.out) HC1.out HP1.out).mono ?_; clear HP1; rintro e w9 ⟨rfl, hb9⟩; have HB9 := Aside0.mk (below_step HB8.out hb9); have HB09 := Aside0.mk (below_step HB08.out hb9); obtain ⟨_, q91, q92⟩ := HW.out _ HB09.out; clear hb9) | (at_builtin; refine Kd.N_append_rows (Kd.slice 3 (Kd.int .i64)) (w0 := W0) W0.heap.size rfl (.tmp 36) (.tmp 37) 22 25 (.slice none 0 0) 24 rfl Try.underlying22 info_rows rfl (by decide) (by omega) (.slice none 0 0) [] l1 A1 l1.length c1 (fun _ => True) (fun k => k < W0.heap.size) rfl rfl (Kd.N_nil _ _ _ _ _) (shared_rows (Kd.C_below HR1.out HB0.out) HB09.out) (fun k hk => ⟨trivial, by simp [Value.ownBlock]⟩) (fun _ _ => trivial) HB09.out HB09.out.size HLN1.out ?_; clear HLN1; intro v1 w11 hn1 hb1 hg1 hat1; rw [List.nil_append] at hn1; obtain ⟨A9, c9, ev⟩ := Kd.N_slice hn1; subst ev; have HN1 := Aside0.mk hn1; have HB011 := Aside0.mk hb1; clear hn1 hb1 hg1 hat1) | (at_builtin; refine Kd.N_append_rows (Kd.slice 3 (Kd.int .i64)) (w0 := W0) W0.heap.size rfl (.tmp 39) (.tmp 40) 22 25 (.slice none 0 0) 24 rfl Try.underlying22 info_rows rfl (by decide) (by omega) (.slice A9 l1.length c9) l1 l2 A2 l2.length c2 (fun _ => True) (fun k => k < W0.heap.size) rfl rfl HN1.out (shared_rows (Kd.C_below HR2.out HB0.out) HB011.out) (fun k hk => ⟨trivial, fun e => by have := Kd.N_base HN1.out k e.symm; omega⟩) (fun _ _ => trivial) HB011.out HB011.out.size HLN2.out ?_; clear HLN2; intro v1 w12 hn1 hb1 hg1 hat1; rw [HYS.out] at hn1; obtain ⟨A10, c10, ev⟩ := Kd.N_slice hn1; subst ev; have HN2 := Aside0.mk (Kd.N_reads' hn1).2; have HB012 := Aside0.mk hb1; obtain ⟨qb12, q121, q122⟩ := HW.out _ hb1; have HB12 := Aside0.mk qb12; clear hn1 hb1 hg1 hat1 qb12) | (go_at_call 47; refine (proof_Check.calls a0 _ _ l0 _ _ ys _ _ _ (Kd.C_below HR.out HB12.out) HC.out HN2.out.2 HN2.out.1 HP2.out).mono ?_; clear HP2; rintro e w13 ⟨rfl, hb13⟩; have HB13 := Aside0.mk (below_step HB12.out hb13); have HB013 := Aside0.mk (below_step HB012.out hb13); obtain ⟨_, q131, q132⟩ := HW.out _ HB013.out; clear hb13))
        (have HB14 := Aside0.mk (below_drew1 HB13.out); obtain ⟨_, y1, y2⟩ := HW.out _ (below_drew1 HB013.out); go_region_with ((go_at_call 47; refine (proof_Check.calls a0 _ _ l0 _ _ ts _ _ _ (Kd.C_below HR.out HB14.out) HC.out (Kd.C_below HTR.out HB14.out) HTC.out HP3.out).mono ?_; clear HP3; rintro e w15 ⟨rfl, hb15⟩; have HB15 := Aside0.mk (below_step HB14.out hb15); clear hb15)))
        all_goals (
          go_wp2_with ((go_at_call 49; refine (hoggetlaw13_proves.calls true _ HPR.out).mono ?_; rintro e w16 ⟨rfl, hb16⟩; have HB16 := Aside0.mk (below_step HB15.out hb16); clear hb16))
          go_ret
          exact ⟨rfl, HB16.out⟩)
      · go_enter Try.func11, Try.ntmps11
        go_upto_region 1 with (fail)
        rw [← hW0]
        clear hW0
        have g3 : ¬ (ts.length : Int) < (l1.length : Int) := by omega
        clear g1
        go_wp2_with (first | (go_at_call 46; refine (hoggetlaw13_large.calls kL a0 _ _ l0 _ _ l1 _ _ (Kd.C_below HR.out HB0.out) HC.out (Kd.C_below HR1.out HB0.out) HC1.out HKL.out).mono ?_; clear HKL; rintro e w7 ⟨rfl, hb7⟩; have HB7 := Aside0.mk (below_step HB0.out hb7); have HB07 := Aside0.mk hb7; obtain ⟨_, q71, q72⟩ := HW.out _ HB07.out; clear hb7) | (go_at_call 46; refine (hoggetlaw13_large.calls kM a0 _ _ l0 _ _ l2 _ _ (Kd.C_below HR.out HB7.out) HC.out (Kd.C_below HR2.out HB7.out) HC2.out HKM.out).mono ?_; clear HKM; rintro e w8 ⟨rfl, hb8⟩; have HB8 := Aside0.mk (below_step HB7.out hb8); have HB08 := Aside0.mk (below_step HB07.out hb8); obtain ⟨_, q81, q82⟩ := HW.out _ HB08.out; clear hb8) | (go_at_call 47; refine (proof_Check.calls a0 _ _ l0 _ _ l1 _ _ _ (Kd.C_below HR.out HB8.out) HC.out (Kd.C_below HR1.out HB8.out) HC1.out HP1.out).mono ?_; clear HP1; rintro e w9 ⟨rfl, hb9⟩; have HB9 := Aside0.mk (below_step HB8.out hb9); have HB09 := Aside0.mk (below_step HB08.out hb9); obtain ⟨_, q91, q92⟩ := HW.out _ HB09.out; clear hb9) | (at_builtin; refine Kd.N_append_rows (Kd.slice 3 (Kd.int .i64)) (w0 := W0) W0.heap.size rfl (.tmp 36) (.tmp 37) 22 25 (.slice none 0 0) 24 rfl Try.underlying22 info_rows rfl (by decide) (by omega) (.slice none 0 0) [] l1 A1 l1.length c1 (fun _ => True) (fun k => k < W0.heap.size) rfl rfl (Kd.N_nil _ _ _ _ _) (shared_rows (Kd.C_below HR1.out HB0.out) HB09.out) (fun k hk => ⟨trivial, by simp [Value.ownBlock]⟩) (fun _ _ => trivial) HB09.out HB09.out.size HLN1.out ?_; clear HLN1; intro v1 w11 hn1 hb1 hg1 hat1; rw [List.nil_append] at hn1; obtain ⟨A9, c9, ev⟩ := Kd.N_slice hn1; subst ev; have HN1 := Aside0.mk hn1; have HB011 := Aside0.mk hb1; clear hn1 hb1 hg1 hat1) | (at_builtin; refine Kd.N_append_rows (Kd.slice 3 (Kd.int .i64)) (w0 := W0) W0.heap.size rfl (.tmp 39) (.tmp 40) 22 25 (.slice none 0 0) 24 rfl Try.underlying22 info_rows rfl (by decide) (by omega) (.slice A9 l1.length c9) l1 l2 A2 l2.length c2 (fun _ => True) (fun k => k < W0.heap.size) rfl rfl HN1.out (shared_rows (Kd.C_below HR2.out HB0.out) HB011.out) (fun k hk => ⟨trivial, fun e => by have := Kd.N_base HN1.out k e.symm; omega⟩) (fun _ _ => trivial) HB011.out HB011.out.size HLN2.out ?_; clear HLN2; intro v1 w12 hn1 hb1 hg1 hat1; rw [HYS.out] at hn1; obtain ⟨A10, c10, ev⟩ := Kd.N_slice hn1; subst ev; have HN2 := Aside0.mk (Kd.N_reads' hn1).2; have HB012 := Aside0.mk hb1; obtain ⟨qb12, q121, q122⟩ := HW.out _ hb1; have HB12 := Aside0.mk qb12; clear hn1 hb1 hg1 hat1 qb12) | (go_at_call 47; refine (proof_Check.calls a0 _ _ l0 _ _ ys _ _ _ (Kd.C_below HR.out HB12.out) HC.out HN2.out.2 HN2.out.1 HP2.out).mono ?_; clear HP2; rintro e w13 ⟨rfl, hb13⟩; have HB13 := Aside0.mk (below_step HB12.out hb13); have HB013 := Aside0.mk (below_step HB012.out hb13); obtain ⟨_, q131, q132⟩ := HW.out _ HB013.out; clear hb13))
        (have HB14 := Aside0.mk (below_drew1 HB13.out); obtain ⟨_, y1, y2⟩ := HW.out _ (below_drew1 HB013.out); go_region_with ((go_at_call 47; refine (proof_Check.calls a0 _ _ l0 _ _ ts _ _ _ (Kd.C_below HR.out HB14.out) HC.out (Kd.C_below HTR.out HB14.out) HTC.out HP3.out).mono ?_; clear HP3; rintro e w15 ⟨rfl, hb15⟩; have HB15 := Aside0.mk (below_step HB14.out hb15); clear hb15)))
        all_goals (
          go_wp2_with ((go_at_call 49; refine (hoggetlaw13_proves.calls true _ HPR.out).mono ?_; rintro e w16 ⟨rfl, hb16⟩; have HB16 := Aside0.mk (below_step HB15.out hb16); clear hb16))
          go_ret
          exact ⟨rfl, HB16.out⟩)
end Go.Proofs.Ythnbmlpjbhhamaa.J
