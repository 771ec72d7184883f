/- SolverFixed: it is true. -/
import Derived.Test.YthnbmlpjbhhamaaP12
import Derived.Test.YthnbmlpjbhhamaaSm
import Derived.Test.YthnbmlpjbhhamaaHg
import Derived.Test.YthnbmlpjbhhamaaHp
namespace Go.Proofs.Ythnbmlpjbhhamaa.J
open Go.RowKit Go.Shelf Go.Proofs.YthnbmlpjbhhamaaW.PrintWords Go.Proofs.YthnbmlpjbhhamaaW.PrintLast Go.Proofs.YthnbmlpjbhhamaaW.PrintMore
set_option linter.unusedVariables false
set_option linter.unusedSimpArgs false

set_option maxHeartbeats 4000000 in
set_option maxRecDepth 100000 in
theorem SolverFixed_walk {W : World} (a0 : Int) (A0 : Option Addr) (c0 : Nat) (l0 : List (List Int)) (hr0 : Kd.C (Kd.slice 3 (Kd.int .i64)) W A0 l0.length l0) (hc0 : l0.length ≤ c0) (w0 : (Lit.int .i64 a0).wf = true) (wl0 : ∀ c ∈ l0, ∀ n ∈ c, (Lit.int .i64 n).wf = true) :
    Calls Try.prog 17 #[.agg #[.int .i64 a0, .slice A0 l0.length c0]] W fun e w' => e = .returned (.bool true) ∧ Below W.heap.size W w' := by
  obtain ⟨kL, hkL⟩ := (large12_ev a0 l0 10).rounds
  have HKL := Aside0.mk hkL
  have HR := Aside0.mk hr0
  have HC := Aside0.mk hc0
  obtain ⟨W0, hW0, hb0, hs0, hw0⟩ := boxed_formula W a0 A0 c0 l0.length
  have HB0 := Aside0.mk hb0
  have HW := Aside0.mk hw0
  have q1 : W0.cell? ⟨W.heap.size, 0, none⟩ = some (.int .i64 a0) := (hw0 W0 (Below.refl _ _)).2.1
  have q2 : W0.cell? ⟨W.heap.size, 1, none⟩ = some (.slice A0 l0.length c0) := (hw0 W0 (Below.refl _ _)).2.2
  obtain ⟨rl, hrl⟩ : ∃ rl, large12 a0 l0 10 = rl := ⟨_, rfl⟩
  rw [hrl] at HKL
  clear hkL hr0 hc0 hb0 hw0 hs0 w0 wl0
  cases rl with
  | true =>
    go_enter Try.func17, Try.ntmps17
    go_upto_region 1 with (fail)
    rw [← hW0]
    clear hW0 hrl
    go_wp2_with ((go_at_call 52; refine (hoggetlaw12_large.calls kL a0 _ _ l0 10 _ _ (Kd.C_below HR.out HB0.out) HC.out HKL.out).mono ?_; clear HKL; rintro e w8 ⟨rfl, hb8⟩; have HB8 := Aside0.mk (below_step HB0.out hb8); have HB08 := Aside0.mk hb8; obtain ⟨_, q81, q82⟩ := HW.out _ HB08.out; clear hb8))
    go_ret
    exact ⟨rfl, HB8.out⟩
  | false =>
    obtain ⟨b1, b2, b3, b4⟩ := large12_bounds hrl
    clear hrl
    obtain ⟨kS, hkS⟩ := solves_ev.rounds
    have HS := Aside0.mk hkS
    obtain ⟨ra, ma, ta, ea, ha⟩ : ∃ ra ma ta ea, Sv.solve a0 l0 = (ra, ma, ta, ea) := ⟨_, _, _, _, rfl⟩
    have HSA := Aside0.mk (show solver_Solve.f a0 l0 = some (ra, ma, ta, ea) by rw [solve_f, ha])
    go_enter Try.func17, Try.ntmps17
    go_upto_region 1 with (fail)
    rw [← hW0]
    clear hW0
    go_upto_region 4 with (first | (go_at_call 52; refine (hoggetlaw12_large.calls kL a0 _ _ l0 10 _ _ (Kd.C_below HR.out HB0.out) HC.out HKL.out).mono ?_; clear HKL; rintro e w8 ⟨rfl, hb8⟩; have HB8 := Aside0.mk (below_step HB0.out hb8); have HB08 := Aside0.mk hb8; obtain ⟨_, q81, q82⟩ := HW.out _ HB08.out; clear hb8) | (go_at_call 53; refine (solver_Solve.calls a0 _ _ l0 ra ma ta ea _ (Kd.C_below HR.out HB8.out) HC.out HSA.out).mono ?_; clear HSA; rintro e w2 ⟨v1, v2, rfl, hv1, hv2, hb2⟩; obtain ⟨Am, cm, rfl⟩ := Kd.R_slice hv1; obtain ⟨At, ct, rfl⟩ := Kd.S_slice hv2; have HM2 := Aside0.mk (Kd.R_reads' hv1).2; have HB2 := Aside0.mk (below_step HB8.out hb2); have HB02 := Aside0.mk (below_step HB08.out hb2); clear hv1 hv2 hb2 q81 q82))
    have hA := Aside0.mk (heap_alloc_new w2 (.cells #[.bool ra, .slice Am ma.length cm, .slice At ta.length ct] 51))
    generalize hba : w2.heap.size = ba at hA ⊢
    have hbA := Aside0.mk (below_alloc (Below.refl _ w2) (.cells #[.bool ra, .slice Am ma.length cm, .slice At ta.length ct] 51))
    obtain ⟨W4, hW4⟩ : ∃ W4, W4 = w2.alloc (.cells #[.bool ra, .slice Am ma.length cm, .slice At ta.length ct] 51) := ⟨_, rfl⟩
    rw [← hW4] at hA hbA ⊢
    clear hW4
    have HB4 := Aside0.mk (below_step HB2.out hbA.out)
    have HB04 := Aside0.mk (below_step HB02.out hbA.out)
    have HM4 := Aside0.mk (Kd.C_below HM2.out.2 hbA.out)
    have HMC := Aside0.mk HM2.out.1
    have y0 : W4.cell? ⟨ba, 0, none⟩ = some (.bool ra) := (blk_cell hA.out 0).trans rfl
    have y1 : W4.cell? ⟨ba, 1, none⟩ = some (.slice Am ma.length cm) := (blk_cell hA.out 1).trans rfl
    obtain ⟨_, q81, q82⟩ := HW.out _ HB04.out
    clear hA hbA HM2
    by_cases ha0 : ea = 0
    · subst ha0
      cases ra with
      | false =>
        clear ha
        go_wp2_with ((go_at_call 55; refine (hoggetlaw12_solves.calls kS true _ HS.out).mono ?_; rintro e w16 ⟨rfl, hb16⟩; have HB16 := Aside0.mk (below_step HB4.out hb16); clear hb16))
        go_ret
        exact ⟨rfl, HB16.out⟩
      | true =>
        have hml : (ma.length : Int) ≤ 10 := by
          rcases Sv.solve_ends ha with ⟨_, _, hs, _⟩ | ⟨e, _⟩
          · have h1 := (Uk.sat_iff.1 hs).2.1
            have h2 := (Sp.check_ok (Sv.solve_check ha)).2.1
            omega
          · exact absurd e (by decide)
        have hlc := (Sp.check_iff.1 (Sv.solve_check ha)).2.1
        have hm12 : ¬ 12 < (ma.length : Int) := by omega
        obtain ⟨hf1, hf2⟩ := Sv.solve_fixed ha (by omega)
        obtain ⟨ys, hys⟩ : ∃ ys, l0 ++ Sv.units ma = ys := ⟨_, rfl⟩
        rw [hys] at hf1 hf2
        have HYS := Aside0.mk hys
        have HSB := Aside0.mk (show solver_Solve.f a0 ys = some (true, ma, [], 0) by rw [solve_f, hf1])
        have HLB := Aside0.mk (show solver_Looks.f a0 ys = some 1 by rw [solver_Looks.f_eq, hf2])
        obtain ⟨kB, hkB⟩ := (bools_same ma (by omega)).rounds
        have HKB := Aside0.mk hkB
        have HML := Aside0.mk hml
        have HLN := Aside0.mk b2
        have HLN2 := Aside0.mk (show (0 + l0.length) * 24 ≤ 140737488355328 by have := HLN.out; omega)
        clear ha b1 b2 b3 b4 hkS hkB hlc hf1 hf2 hys hml
        go_upto_region 8 with (fail)
        have hG := Aside0.mk (show Gst W4 (W4.alloc (.cells #[.int .i64 a0, .slice none 0 0] 24)) W4.heap.size a0 (.slice none 0 0) [] from ⟨heap_alloc_new W4 _, Kd.N_nil _ _ _ _ _, Nat.le_refl _, below_alloc (Below.refl _ W4) _⟩)
        generalize hb : W4.heap.size = b at hG ⊢
        obtain ⟨W5, hW5⟩ : ∃ W5, W5 = W4.alloc (.cells #[.int .i64 a0, .slice none 0 0] 24) := ⟨_, rfl⟩
        rw [← hW5] at hG ⊢
        clear hW5
        obtain ⟨k0, k1⟩ := hG.out.fld
        have k2 := blk_frozen hG.out.hg 1
        have q91 := pw_cell_below hG.out.hb q81
        have q92 := pw_cell_below hG.out.hb q82
        have HFR := Aside0.mk (shared_rows (Kd.C_below HR.out HB4.out) hG.out.hb)
        go_upto_region 9 with ((at_builtin; refine Kd.N_append_rows (Kd.slice 3 (Kd.int .i64)) (w0 := W4) W4.heap.size rfl (.tmp 34) (.tmp 36) 22 25 (.slice none 0 0) 24 rfl Try.underlying22 info_rows rfl (by decide) (by omega) (.slice none 0 0) [] l0 A0 l0.length c0 (fun k => k ≠ b) (fun k => k < W4.heap.size) rfl rfl hG.out.hn HFR.out (shared_ok hG.out) (fresh_ok hG.out) hG.out.hb hG.out.hb.size HLN2.out ?_; intro v1 w1 hn1 hb1 hg1 hat1; rw [List.nil_append] at hn1; obtain ⟨A9, c9, ev⟩ := Kd.N_slice hn1; subst ev; have z1 := blk_frozen (hG.out.kept hg1) 1; have z2 : w1.cell? ⟨b, 1, none⟩ = some (.slice none 0 0) := (blk_cell (hG.out.kept hg1) 1).trans rfl; have HG1 := Aside0.mk (hG.out.put hn1 hb1 hg1); clear hn1 hb1 hg1 hat1))
        obtain ⟨W6, hW6⟩ : ∃ W6, W6 = w1.setCell ⟨b, 1, none⟩ (.slice A9 l0.length c9) := ⟨_, rfl⟩
        rw [← hW6] at HG1 ⊢
        clear hW6 z1 z2 k0 k1 k2 q91 q92 hG HFR
        go_wp2
        go_loopg [6] ma.length (fun gg s6 wq => ∃ (j : Nat) (gv : Value), j ≤ ma.length ∧ ma.length - j ≤ gg ∧ s6 = .int .i64 (j : Int) ∧ Aside0 (Gst W4 wq b a0 gv (l0 ++ (List.range j).map (fun i => [Sv.unitAt ma i]))))
        case atStart => exact ⟨0, _, Nat.zero_le _, by omega, rfl, ⟨by rw [List.range_zero, List.map_nil, List.append_nil]; exact HG1.out⟩⟩
        case round =>
          clear HG1
          obtain ⟨j, gv, hj, hg, rfl, HG⟩ := hrel
          obtain ⟨k0, k1⟩ := HG.out.fld
          have k2 := blk_frozen HG.out.hg 1
          have y2 := pw_cell_below HG.out.hb y1
          by_cases hjl : j < ma.length
          · have hjz : (j : Int) < (ma.length : Int) := by omega
            obtain ⟨ad, eA, hx⟩ := C_bool_at (Kd.C_below HM4.out HG.out.hb) j hjl
            subst eA
            have hml := HML.out
            have h64 : IntKind.i64.wrap ((j : Int) + 1) = (j : Int) + 1 := IntWalk.i64_in _ (by omega)
            have h65 : IntKind.i64.wrap (-((j : Int) + 1)) = -((j : Int) + 1) := IntWalk.i64_in _ (by omega)
            have HX := Aside0.mk (show l0 ++ (List.range (j + 1)).map (fun i => [Sv.unitAt ma i]) = (l0 ++ (List.range j).map (fun i => [Sv.unitAt ma i])) ++ [[Sv.unitAt ma j]] by rw [List.range_succ, List.map_append, List.append_assoc]; rfl)
            have HXL := Aside0.mk (show (l0 ++ (List.range j).map (fun i => [Sv.unitAt ma i])).length = l0.length + j by rw [List.length_append, List.length_map, List.length_range])
            generalize l0 ++ (List.range j).map (fun i => [Sv.unitAt ma i]) = xs at HG HX HXL
            obtain ⟨Ag, cg, eg⟩ := Kd.N_slice HG.out.hn
            subst eg
            have HU := Aside0.mk (show Sv.unitAt ma j = if ma.getD j false = true then (j : Int) + 1 else -((j : Int) + 1) from rfl)
            have k3 : ∀ o, (wr.alloc o).cell? ⟨b, 1, none⟩ = some (.slice Ag xs.length cg) := fun o => pw_cell_below (below_alloc (Below.refl _ wr) o) k1
            cases hmj : ma.getD j false
            · rw [hmj] at hx HU
              clear hmj hml
              have HU2 := Aside0.mk (HU.out.trans (if_neg Bool.false_ne_true))
              clear HU
              go_wp2_with (first | ((with_reducible refine gate_dst (N := 59) rfl ?_); refine Kd.R_lit (Kd.int .i64) (w0 := wr) wr.heap.size 3 ?hg (N := 59) ?hd (xs := [(-((j : Int) + 1))]) (inner := [.int .i64 (-((j : Int) + 1))]) (ok := fun k => wr.heap.size ≤ k) (okp := fun _ => False) ?hr ?hp (fun _ hk => hk.elim) (Nat.le_refl _) (Below.refl _ _) (Nat.le_refl _) (by simp) ?_; (case hd => rfl); (case hg => rfl); (case hr => first | (go_simp; done) | (go_simp; rfl)); (case hp => exact Reps.one (show Kd.M (Kd.int .i64) _ _ _ (-((j : Int) + 1)) [.int .i64 (-((j : Int) + 1))] from rfl) (Reps.none _ _)); intro v5 w5 hn5 hb5 hg5 hat5; obtain ⟨A5, c5, e5⟩ := Kd.R_slice hn5; have e5 : v5 = .slice A5 1 c5 := e5; subst e5; have HF5 := Aside0.mk (show Kd.FK (Kd.slice 3 (Kd.int .i64)) w5 (fun k => wr.heap.size ≤ k) [(-((j : Int) + 1))] [.slice A5 1 c5] from Kd.FK_slice_mk (Kd.R_reads' hn5).2.1 (Kd.R_F hn5)); have HG5 := Aside0.mk (HG.out.below hb5); have HOK := Aside0.mk (show ∀ k, wr.heap.size ≤ k → k ≠ b ∧ some k ≠ (Value.slice Ag xs.length cg).ownBlock from fun k hk => ⟨fun e => by have := HG.out.lt; omega, fun e => by have := Kd.N_lt HG.out.hn k e.symm; omega⟩); clear hn5 hb5 hg5 hat5) | (at_builtin; refine Kd.N_append (Kd.slice 3 (Kd.int .i64)) (w0 := W4) W4.heap.size rfl (.tmp 57) (.tmp 60) 22 25 (.slice none 0 0) 24 rfl Try.underlying22 info_rows rfl (by decide) (by omega) (.slice Ag xs.length cg) xs [(-((j : Int) + 1))] [.slice A5 1 c5] (fun k => k ≠ b) (fun k => wr.heap.size ≤ k) rfl rfl HF5.out HOK.out (fresh_ok HG5.out) HG5.out.hn HG5.out.hb HG5.out.hb.size (by have := HLN.out; have := HXL.out; have := HML.out; omega) ?_; intro v1 w1 hn1 hb1 hg1 hat1; obtain ⟨A6, c6, ev⟩ := Kd.N_slice hn1; rw [List.length_append, List.length_singleton] at ev; subst ev; have z1 := blk_frozen (HG5.out.kept hg1) 1; have z2 : w1.cell? ⟨b, 1, none⟩ = some (.slice Ag xs.length cg) := (blk_cell (HG5.out.kept hg1) 1).trans rfl; have HG1 := Aside0.mk (HG5.out.put hn1 hb1 hg1); clear hn1 hb1 hg1 hat1))
              go_roundg (ma.length - (j + 1))
              case measure => omega
              case rel => exact ⟨j + 1, _, by omega, by omega, by go_num, ⟨by rw [HX.out, HU2.out]; exact HG1.out⟩⟩
            · rw [hmj] at hx HU
              clear hmj hml
              have HU2 := Aside0.mk (HU.out.trans (if_pos rfl))
              clear HU
              go_wp2_with (first | ((with_reducible refine gate_dst (N := 59) rfl ?_); refine Kd.R_lit (Kd.int .i64) (w0 := wr) wr.heap.size 3 ?hg (N := 59) ?hd (xs := [((j : Int) + 1)]) (inner := [.int .i64 ((j : Int) + 1)]) (ok := fun k => wr.heap.size ≤ k) (okp := fun _ => False) ?hr ?hp (fun _ hk => hk.elim) (Nat.le_refl _) (Below.refl _ _) (Nat.le_refl _) (by simp) ?_; (case hd => rfl); (case hg => rfl); (case hr => first | (go_simp; done) | (go_simp; rfl)); (case hp => exact Reps.one (show Kd.M (Kd.int .i64) _ _ _ ((j : Int) + 1) [.int .i64 ((j : Int) + 1)] from rfl) (Reps.none _ _)); intro v5 w5 hn5 hb5 hg5 hat5; obtain ⟨A5, c5, e5⟩ := Kd.R_slice hn5; have e5 : v5 = .slice A5 1 c5 := e5; subst e5; have HF5 := Aside0.mk (show Kd.FK (Kd.slice 3 (Kd.int .i64)) w5 (fun k => wr.heap.size ≤ k) [((j : Int) + 1)] [.slice A5 1 c5] from Kd.FK_slice_mk (Kd.R_reads' hn5).2.1 (Kd.R_F hn5)); have HG5 := Aside0.mk (HG.out.below hb5); have HOK := Aside0.mk (show ∀ k, wr.heap.size ≤ k → k ≠ b ∧ some k ≠ (Value.slice Ag xs.length cg).ownBlock from fun k hk => ⟨fun e => by have := HG.out.lt; omega, fun e => by have := Kd.N_lt HG.out.hn k e.symm; omega⟩); clear hn5 hb5 hg5 hat5) | (at_builtin; refine Kd.N_append (Kd.slice 3 (Kd.int .i64)) (w0 := W4) W4.heap.size rfl (.tmp 57) (.tmp 60) 22 25 (.slice none 0 0) 24 rfl Try.underlying22 info_rows rfl (by decide) (by omega) (.slice Ag xs.length cg) xs [((j : Int) + 1)] [.slice A5 1 c5] (fun k => k ≠ b) (fun k => wr.heap.size ≤ k) rfl rfl HF5.out HOK.out (fresh_ok HG5.out) HG5.out.hn HG5.out.hb HG5.out.hb.size (by have := HLN.out; have := HXL.out; have := HML.out; omega) ?_; intro v1 w1 hn1 hb1 hg1 hat1; obtain ⟨A6, c6, ev⟩ := Kd.N_slice hn1; rw [List.length_append, List.length_singleton] at ev; subst ev; have z1 := blk_frozen (HG5.out.kept hg1) 1; have z2 : w1.cell? ⟨b, 1, none⟩ = some (.slice Ag xs.length cg) := (blk_cell (HG5.out.kept hg1) 1).trans rfl; have HG1 := Aside0.mk (HG5.out.put hn1 hb1 hg1); clear hn1 hb1 hg1 hat1))
              go_roundg (ma.length - (j + 1))
              case measure => omega
              case rel => exact ⟨j + 1, _, by omega, by omega, by go_num, ⟨by rw [HX.out, HU2.out]; exact HG1.out⟩⟩
          · have hjz : ¬ (j : Int) < (ma.length : Int) := by omega
            obtain rfl : j = ma.length := by omega
            have HG9 := Aside0.mk (show Gst W4 wr b a0 gv ys from by rw [← HYS.out]; exact HG.out)
            obtain ⟨A10, c10, e10⟩ := Kd.N_slice HG9.out.hn
            subst e10
            clear HG hj hg
            have HB9 := Aside0.mk (below_step HB4.out HG9.out.hb)
            have HMR := Aside0.mk (Kd.C_below HM4.out HG9.out.hb)
            go_upto_region 17 with (go_at_call 53; refine (solver_Solve.calls a0 _ _ ys true ma [] 0 _ (Kd.N_reads' HG9.out.hn).2.2 (Kd.N_reads' HG9.out.hn).2.1 HSB.out).mono ?_; rintro e w14 ⟨v1, v2, rfl, hv1, hv2, hb14⟩; obtain ⟨An, cn, rfl⟩ := Kd.R_slice hv1; obtain ⟨Au, cu, rfl⟩ := Kd.S_slice hv2; have HN14 := Aside0.mk (Kd.R_reads' hv1).2; have HB14 := Aside0.mk (below_step HB9.out hb14); have HG14 := Aside0.mk (HG9.out.below hb14); have HM14 := Aside0.mk (Kd.C_below HMR.out hb14); replace y2 := pw_cell_below hb14 y2; clear hv1 hv2 hb14 k0 k1 k2)
            have hB := Aside0.mk (heap_alloc_new w14 (.cells #[.bool true, .slice An ma.length cn, .slice Au 0 cu] 51))
            generalize hbc : w14.heap.size = bc at hB ⊢
            have hbC := Aside0.mk (below_alloc (Below.refl _ w14) (.cells #[.bool true, .slice An ma.length cn, .slice Au 0 cu] 51))
            obtain ⟨W15, hW15⟩ : ∃ W15, W15 = w14.alloc (.cells #[.bool true, .slice An ma.length cn, .slice Au 0 cu] 51) := ⟨_, rfl⟩
            rw [← hW15] at hB hbC ⊢
            clear hW15
            have HB15 := Aside0.mk (below_step HB14.out hbC.out)
            have HG15 := Aside0.mk (HG14.out.below hbC.out)
            have HM15 := Aside0.mk (Kd.C_below HM14.out hbC.out)
            have HN15 := Aside0.mk (Kd.C_below HN14.out.2 hbC.out)
            replace y2 := pw_cell_below hbC.out y2
            have y3 : W15.cell? ⟨bc, 0, none⟩ = some (.bool true) := (blk_cell hB.out 0).trans rfl
            have y4 : W15.cell? ⟨bc, 1, none⟩ = some (.slice An ma.length cn) := (blk_cell hB.out 1).trans rfl
            obtain ⟨k0, k1⟩ := HG15.out.fld
            clear hB y0 q81 q82 hbC
            go_wp2_with (first
              | (go_at_call 55; refine (hoggetlaw12_solves.calls kS true _ HS.out).mono ?_; clear HS; rintro e w16 ⟨rfl, hb16⟩; have HB16 := Aside0.mk (below_step HB15.out hb16); have HG16 := Aside0.mk (HG15.out.below hb16); have HM16 := Aside0.mk (Kd.C_below HM15.out hb16); have HN16 := Aside0.mk (Kd.C_below HN15.out hb16); replace y2 := pw_cell_below hb16 y2; replace y3 := pw_cell_below hb16 y3; replace y4 := pw_cell_below hb16 y4; replace k0 := pw_cell_below hb16 k0; replace k1 := pw_cell_below hb16 k1; clear hb16)
              | (go_at_call 60; refine (hoggetref10_Bools.calls kB _ _ ma _ _ ma true _ HM16.out HMC.out HN16.out HN14.out.1 HKB.out).mono ?_; clear HKB; rintro e w17 ⟨rfl, hb17⟩; have HB17 := Aside0.mk (below_step HB16.out hb17.below); have HG17 := Aside0.mk (HG16.out.below hb17.below); replace k0 := pw_cell_below hb17.below k0; replace k1 := pw_cell_below hb17.below k1; clear hb17)
              | (go_at_call 57; refine (solver_Looks.calls a0 _ _ ys 1 _ (Kd.N_reads' HG17.out.hn).2.2 (Kd.N_reads' HG17.out.hn).2.1 HLB.out).mono ?_; clear HLB; rintro e w18 ⟨rfl, hb18⟩; have HB18 := Aside0.mk (below_step HB17.out hb18); clear hb18))
            go_ret
            exact ⟨rfl, HB18.out⟩
    · have ha1 : (ea != 0) = true := bne_iff_ne.2 ha0
      clear ha ha0
      go_wp2_with ((go_at_call 55; refine (hoggetlaw12_solves.calls kS true _ HS.out).mono ?_; rintro e w16 ⟨rfl, hb16⟩; have HB16 := Aside0.mk (below_step HB4.out hb16); clear hb16))
      go_ret
      exact ⟨rfl, HB16.out⟩
end Go.Proofs.Ythnbmlpjbhhamaa.J
