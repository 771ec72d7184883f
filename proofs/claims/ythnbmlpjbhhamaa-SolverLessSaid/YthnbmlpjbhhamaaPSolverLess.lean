/- SolverLess: it is true. -/
import Derived.Test.YthnbmlpjbhhamaaP12
import Derived.Test.YthnbmlpjbhhamaaSl
import Derived.Test.YthnbmlpjbhhamaaHg
import Derived.Test.YthnbmlpjbhhamaaHp
namespace Go.Proofs.Ythnbmlpjbhhamaa.J
open Go.RowKit Go.Shelf Go.Proofs.YthnbmlpjbhhamaaW.PrintWords Go.Proofs.YthnbmlpjbhhamaaW.PrintLast Go.Proofs.YthnbmlpjbhhamaaW.PrintMore
set_option linter.unusedVariables false
set_option linter.unusedSimpArgs false

set_option maxHeartbeats 4000000 in
set_option maxRecDepth 100000 in
theorem SolverLess_walk {W : World} (a0 : Int) (A0 : Option Addr) (c0 : Nat) (l0 : List (List Int)) (hr0 : Kd.C (Kd.slice 3 (Kd.int .i64)) W A0 l0.length l0) (hc0 : l0.length ≤ c0) (w0 : (Lit.int .i64 a0).wf = true) (wl0 : ∀ c ∈ l0, ∀ n ∈ c, (Lit.int .i64 n).wf = true)
    (A1 : Option Addr) (c1 : Nat) (l1 : List Int) (hr1 : Kd.C (Kd.int .i64) W A1 l1.length l1) (hc1 : l1.length ≤ c1) (wl1 : ∀ n ∈ l1, (Lit.int .i64 n).wf = true) :
    Calls Try.prog 16 #[.agg #[.int .i64 a0, .slice A0 l0.length c0], .slice A1 l1.length c1] W fun e w' => e = .returned (.bool true) ∧ Below W.heap.size W w' := by
  obtain ⟨kL, hkL⟩ := (large12_ev a0 l0 10).rounds
  have HKL := Aside0.mk hkL
  have HR := Aside0.mk hr0
  have HR1 := Aside0.mk hr1
  have HC := Aside0.mk hc0
  have HC1 := Aside0.mk hc1
  obtain ⟨W0, hW0, hb0, hs0, hw0⟩ := boxed_formula W a0 A0 c0 l0.length
  have HB0 := Aside0.mk hb0
  have HW := Aside0.mk hw0
  have q1 : W0.cell? ⟨W.heap.size, 0, none⟩ = some (.int .i64 a0) := (hw0 W0 (Below.refl _ _)).2.1
  have q2 : W0.cell? ⟨W.heap.size, 1, none⟩ = some (.slice A0 l0.length c0) := (hw0 W0 (Below.refl _ _)).2.2
  obtain ⟨rl, hrl⟩ : ∃ rl, large12 a0 l0 10 = rl := ⟨_, rfl⟩
  rw [hrl] at HKL
  clear hkL hr0 hr1 hc0 hc1 hb0 hw0 hs0 w0 wl0 wl1
  cases rl with
  | true =>
    go_enter Try.func16, Try.ntmps16
    go_upto_region 1 with (fail)
    rw [← hW0]
    clear hW0 hrl
    go_wp2_with ((go_at_call 52; refine (hoggetlaw12_large.calls kL a0 _ _ l0 10 _ _ (Kd.C_below HR.out HB0.out) HC.out HKL.out).mono ?_; clear HKL; rintro e w8 ⟨rfl, hb8⟩; have HB8 := Aside0.mk (below_step HB0.out hb8); have HB08 := Aside0.mk hb8; obtain ⟨_, q81, q82⟩ := HW.out _ HB08.out; clear hb8))
    go_ret
    exact ⟨rfl, HB8.out⟩
  | false =>
    obtain ⟨b1, b2, b3, b4⟩ := large12_bounds hrl
    clear hrl
    by_cases hl20 : 20 < (l1.length : Int)
    · go_enter Try.func16, Try.ntmps16
      go_upto_region 1 with (fail)
      rw [← hW0]
      clear hW0 b1 b2 b3 b4
      go_wp2_with ((go_at_call 52; refine (hoggetlaw12_large.calls kL a0 _ _ l0 10 _ _ (Kd.C_below HR.out HB0.out) HC.out HKL.out).mono ?_; clear HKL; rintro e w8 ⟨rfl, hb8⟩; have HB8 := Aside0.mk (below_step HB0.out hb8); have HB08 := Aside0.mk hb8; obtain ⟨_, q81, q82⟩ := HW.out _ HB08.out; clear hb8))
      go_ret
      exact ⟨rfl, HB8.out⟩
    obtain ⟨kS, hkS⟩ := solves_ev.rounds
    have HS := Aside0.mk hkS
    obtain ⟨ys, hys⟩ : ∃ ys, l0 ++ [l1] = ys := ⟨_, rfl⟩
    have HYS := Aside0.mk hys
    obtain ⟨ra, ma, ta, ea, ha⟩ : ∃ ra ma ta ea, Sv.solve a0 l0 = (ra, ma, ta, ea) := ⟨_, _, _, _, rfl⟩
    obtain ⟨rb, mb, tb, eb, hb⟩ : ∃ rb mb tb eb, Sv.solve a0 ys = (rb, mb, tb, eb) := ⟨_, _, _, _, rfl⟩
    have HSA := Aside0.mk (show solver_Solve.f a0 l0 = some (ra, ma, ta, ea) by rw [solve_f, ha])
    have HSB := Aside0.mk (show solver_Solve.f a0 ys = some (rb, mb, tb, eb) by rw [solve_f, hb])
    have hfin : ea = 0 → eb = 0 → rb = true → ra = true := by
      intro h1 h2 h3
      subst h1 h2
      exact Sv.solve_less (fun c hc => by rw [← hys]; simp [hc]) ha hb h3
    have HLN := Aside0.mk b2
    clear ha hb hys b1 b2 b3 b4 hkS
    have HLN2 := Aside0.mk (show (0 + l0.length) * 24 ≤ 140737488355328 by have := HLN.out; omega)
    go_enter Try.func16, Try.ntmps16
    go_upto_region 1 with (fail)
    rw [← hW0]
    clear hW0
    go_upto_region 5 with ((go_at_call 52; refine (hoggetlaw12_large.calls kL a0 _ _ l0 10 _ _ (Kd.C_below HR.out HB0.out) HC.out HKL.out).mono ?_; clear HKL; rintro e w8 ⟨rfl, hb8⟩; have HB8 := Aside0.mk (below_step HB0.out hb8); have HB08 := Aside0.mk hb8; obtain ⟨_, q81, q82⟩ := HW.out _ HB08.out; clear hb8))
    have hG := Aside0.mk (show Gst w8 (w8.alloc (.cells #[.int .i64 a0, .slice none 0 0] 24)) w8.heap.size a0 (.slice none 0 0) [] from ⟨heap_alloc_new w8 _, Kd.N_nil _ _ _ _ _, Nat.le_refl _, below_alloc (Below.refl _ w8) _⟩)
    generalize hb : w8.heap.size = b at hG ⊢
    obtain ⟨W5, hW5⟩ : ∃ W5, W5 = w8.alloc (.cells #[.int .i64 a0, .slice none 0 0] 24) := ⟨_, rfl⟩
    rw [← hW5] at hG ⊢
    clear hW5
    obtain ⟨k0, k1⟩ := hG.out.fld
    have k2 := blk_frozen hG.out.hg 1
    have q91 := pw_cell_below hG.out.hb q81
    have q92 := pw_cell_below hG.out.hb q82
    have HFR := Aside0.mk (shared_rows (Kd.C_below HR.out HB8.out) hG.out.hb)
    go_upto_region 6 with ((at_builtin; refine Kd.N_append_rows (Kd.slice 3 (Kd.int .i64)) (w0 := w8) w8.heap.size rfl (.tmp 20) (.tmp 22) 22 25 (.slice none 0 0) 24 rfl Try.underlying22 info_rows rfl (by decide) (by omega) (.slice none 0 0) [] l0 A0 l0.length c0 (fun k => k ≠ b) (fun k => k < w8.heap.size) rfl rfl hG.out.hn HFR.out (shared_ok hG.out) (fresh_ok hG.out) hG.out.hb hG.out.hb.size HLN2.out ?_; intro v1 w1 hn1 hb1 hg1 hat1; rw [List.nil_append] at hn1; obtain ⟨A9, c9, ev⟩ := Kd.N_slice hn1; subst ev; have z1 := blk_frozen (hG.out.kept hg1) 1; have z2 : w1.cell? ⟨b, 1, none⟩ = some (.slice none 0 0) := (blk_cell (hG.out.kept hg1) 1).trans rfl; have HG1 := Aside0.mk (hG.out.put hn1 hb1 hg1); clear hn1 hb1 hg1 hat1))
    obtain ⟨W6, hW6⟩ : ∃ W6, W6 = w1.setCell ⟨b, 1, none⟩ (.slice A9 l0.length c9) := ⟨_, rfl⟩
    rw [← hW6] at HG1 ⊢
    clear hW6 z1 z2 k0 k1 k2 q91 q92 hG HFR
    obtain ⟨k0, k1⟩ := HG1.out.fld
    have k2 := blk_frozen HG1.out.hg 1
    have k3 := HG1.out.lt
    have HC2' := Aside0.mk (Kd.C_below HR1.out HB8.out)
    have HF2 := Aside0.mk (shared_row HC1.out HC2'.out HG1.out.hb)
    have HLN3 := Aside0.mk (show (l0.length + 1) * 24 ≤ 140737488355328 by have := HLN.out; omega)
    have k4 : ∀ o, (W6.alloc o).cell? ⟨b, 1, none⟩ = some (.slice A9 l0.length c9) := fun o => pw_cell_below (below_alloc (Below.refl _ W6) o) k1
    go_upto_region 7 with (at_builtin; refine Kd.N_append (Kd.slice 3 (Kd.int .i64)) (w0 := w8) w8.heap.size rfl (.tmp 26) (.tmp 28) 22 25 (.slice none 0 0) 24 rfl Try.underlying22 info_rows rfl (by decide) (by omega) (.slice A9 l0.length c9) l0 l1 [.slice A1 l1.length c1] (fun k => k ≠ b) (fun k => k < w8.heap.size) rfl rfl HF2.out (shared_ok HG1.out) (fresh_ok HG1.out) HG1.out.hn HG1.out.hb HG1.out.hb.size HLN3.out ?_; intro v1 w11 hn1 hb1 hg1 hat1; rw [HYS.out] at hn1; obtain ⟨A10, c10, ev⟩ := Kd.N_slice hn1; subst ev; have z1 := blk_frozen (HG1.out.kept hg1) 1; have z2 : w11.cell? ⟨b, 1, none⟩ = some (.slice A9 l0.length c9) := (blk_cell (HG1.out.kept hg1) 1).trans rfl; have HG2 := Aside0.mk (HG1.out.put hn1 hb1 hg1); clear hn1 hb1 hg1 hat1)
    obtain ⟨W7, hW7⟩ : ∃ W7, W7 = w11.setCell ⟨b, 1, none⟩ (.slice A10 ys.length c10) := ⟨_, rfl⟩
    rw [← hW7] at HG2 ⊢
    clear hW7 z1 z2 k0 k1 k2 k3 k4 HG1 HF2 HC2'
    have q91 := pw_cell_below HG2.out.hb q81
    have q92 := pw_cell_below HG2.out.hb q82
    have HB9 := Aside0.mk (below_step HB8.out HG2.out.hb)
    go_upto_region 8 with (go_at_call 53; refine (solver_Solve.calls a0 _ _ l0 ra ma ta ea _ (Kd.C_below HR.out HB9.out) HC.out HSA.out).mono ?_; rintro e w12 ⟨v1, v2, rfl, hv1, hv2, hb12⟩; obtain ⟨Am, cm, rfl⟩ := Kd.R_slice hv1; obtain ⟨At, ct, rfl⟩ := Kd.S_slice hv2; have HB12 := Aside0.mk (below_step HB9.out hb12); have HG3 := Aside0.mk (HG2.out.below hb12); clear hv1 hv2 hb12)
    have hA := Aside0.mk (heap_alloc_new w12 (.cells #[.bool ra, .slice Am ma.length cm, .slice At ta.length ct] 51))
    generalize hba : w12.heap.size = ba at hA ⊢
    have hbB := Aside0.mk (below_alloc (Below.refl _ w12) (.cells #[.bool ra, .slice Am ma.length cm, .slice At ta.length ct] 51))
    obtain ⟨W13, hW13⟩ : ∃ W13, W13 = w12.alloc (.cells #[.bool ra, .slice Am ma.length cm, .slice At ta.length ct] 51) := ⟨_, rfl⟩
    rw [← hW13] at hA hbB ⊢
    clear hW13
    have HB13 := Aside0.mk (below_step HB12.out hbB.out)
    have HG4 := Aside0.mk (HG3.out.below hbB.out)
    obtain ⟨k0, k1⟩ := HG4.out.fld
    go_upto_region 9 with (go_at_call 53; refine (solver_Solve.calls a0 _ _ ys rb mb tb eb _ (Kd.N_reads' HG4.out.hn).2.2 (Kd.N_reads' HG4.out.hn).2.1 HSB.out).mono ?_; rintro e w14 ⟨v1, v2, rfl, hv1, hv2, hb14⟩; obtain ⟨An, cn, rfl⟩ := Kd.R_slice hv1; obtain ⟨Au, cu, rfl⟩ := Kd.S_slice hv2; have HB14 := Aside0.mk (below_step HB13.out hb14); have y1 := pw_cell_below hb14 ((blk_cell hA.out 0).trans rfl : W13.cell? ⟨ba, 0, none⟩ = some (.bool ra)); clear hv1 hv2 hb14 k0 k1)
    have hB := Aside0.mk (heap_alloc_new w14 (.cells #[.bool rb, .slice An mb.length cn, .slice Au tb.length cu] 51))
    generalize hbc : w14.heap.size = bc at hB ⊢
    have hbC := Aside0.mk (below_alloc (Below.refl _ w14) (.cells #[.bool rb, .slice An mb.length cn, .slice Au tb.length cu] 51))
    obtain ⟨W15, hW15⟩ : ∃ W15, W15 = w14.alloc (.cells #[.bool rb, .slice An mb.length cn, .slice Au tb.length cu] 51) := ⟨_, rfl⟩
    rw [← hW15] at hB hbC ⊢
    clear hW15
    have HB15 := Aside0.mk (below_step HB14.out hbC.out)
    replace y1 := pw_cell_below hbC.out y1
    have y2 : W15.cell? ⟨bc, 0, none⟩ = some (.bool rb) := (blk_cell hB.out 0).trans rfl
    clear hA HG4 HG2 HG3 q81 q82 q91 q92
    by_cases ha0 : ea = 0
    · subst ha0
      by_cases hb0 : eb = 0
      · subst hb0
        have hfin := hfin rfl rfl
        cases rb with
        | false =>
          clear hfin
          go_wp2_with ((go_at_call 55; refine (hoggetlaw12_solves.calls kS true _ HS.out).mono ?_; rintro e w16 ⟨rfl, hb16⟩; have HB16 := Aside0.mk (below_step HB15.out hb16); replace y1 := pw_cell_below hb16 y1; replace y2 := pw_cell_below hb16 y2; clear hb16))
          go_ret
          exact ⟨rfl, HB16.out⟩
        | true =>
          obtain rfl := hfin rfl
          go_wp2_with ((go_at_call 55; refine (hoggetlaw12_solves.calls kS true _ HS.out).mono ?_; rintro e w16 ⟨rfl, hb16⟩; have HB16 := Aside0.mk (below_step HB15.out hb16); replace y1 := pw_cell_below hb16 y1; replace y2 := pw_cell_below hb16 y2; clear hb16))
          go_ret
          exact ⟨rfl, HB16.out⟩
      · have hb1 : (eb != 0) = true := bne_iff_ne.2 hb0
        clear hfin hb0
        go_wp2_with ((go_at_call 55; refine (hoggetlaw12_solves.calls kS true _ HS.out).mono ?_; rintro e w16 ⟨rfl, hb16⟩; have HB16 := Aside0.mk (below_step HB15.out hb16); replace y1 := pw_cell_below hb16 y1; replace y2 := pw_cell_below hb16 y2; clear hb16))
        go_ret
        exact ⟨rfl, HB16.out⟩
    · have ha1 : (ea != 0) = true := bne_iff_ne.2 ha0
      clear hfin ha0
      go_wp2_with ((go_at_call 55; refine (hoggetlaw12_solves.calls kS true _ HS.out).mono ?_; rintro e w16 ⟨rfl, hb16⟩; have HB16 := Aside0.mk (below_step HB15.out hb16); replace y1 := pw_cell_below hb16 y1; replace y2 := pw_cell_below hb16 y2; clear hb16))
      go_ret
      exact ⟨rfl, HB16.out⟩
end Go.Proofs.Ythnbmlpjbhhamaa.J
