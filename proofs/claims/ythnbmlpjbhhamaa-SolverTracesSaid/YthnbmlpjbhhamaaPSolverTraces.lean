/- SolverTraces: it is true. -/
import Derived.Test.YthnbmlpjbhhamaaP12
import Derived.Test.YthnbmlpjbhhamaaSl
import Derived.Test.YthnbmlpjbhhamaaPq
import Derived.Test.YthnbmlpjbhhamaaHg
import Derived.Test.YthnbmlpjbhhamaaHp
namespace Go.Proofs.Ythnbmlpjbhhamaa.J
open Go.RowKit Go.Shelf Go.Proofs.YthnbmlpjbhhamaaW.PrintWords Go.Proofs.YthnbmlpjbhhamaaW.PrintLast Go.Proofs.YthnbmlpjbhhamaaW.PrintMore
set_option linter.unusedVariables false
set_option linter.unusedSimpArgs false

set_option maxHeartbeats 4000000 in
set_option maxRecDepth 100000 in
theorem SolverTraces_walk {W : World} (a0 : Int) (A0 : Option Addr) (c0 : Nat) (l0 : List (List Int)) (hr0 : Kd.C (Kd.slice 3 (Kd.int .i64)) W A0 l0.length l0) (hc0 : l0.length ≤ c0) (w0 : (Lit.int .i64 a0).wf = true) (wl0 : ∀ c ∈ l0, ∀ n ∈ c, (Lit.int .i64 n).wf = true) :
    Calls Try.prog 15 #[.agg #[.int .i64 a0, .slice A0 l0.length c0]] W fun e w' => e = .returned (.bool true) ∧ Below W.heap.size W w' := by
  obtain ⟨kL, hkL⟩ := (large12_ev a0 l0 10).rounds
  have HKL := Aside0.mk hkL
  have HR := Aside0.mk hr0
  have HC := Aside0.mk hc0
  obtain ⟨W0, hW0, hb0, hs0, hw0⟩ := boxed_formula W a0 A0 c0 l0.length
  have HB0 := Aside0.mk hb0
  have HW := Aside0.mk hw0
  have q1 : W0.cell? ⟨W.heap.size, 0, none⟩ = some (.int .i64 a0) := (hw0 W0 (Below.refl _ _)).2.1
  have q2 : W0.cell? ⟨W.heap.size, 1, none⟩ = some (.slice A0 l0.length c0) := (hw0 W0 (Below.refl _ _)).2.2
  obtain ⟨rl, hrl⟩ : ∃ rl, large12 a0 l0 10 = rl := ⟨_, rfl⟩
  rw [hrl] at HKL
  clear hkL hr0 hc0 hb0 hw0 hs0 w0 wl0
  cases rl with
  | true =>
    go_enter Try.func15, Try.ntmps15
    go_upto_region 1 with (fail)
    rw [← hW0]
    clear hW0 hrl
    go_wp2_with ((go_at_call 52; refine (hoggetlaw12_large.calls kL a0 _ _ l0 10 _ _ (Kd.C_below HR.out HB0.out) HC.out HKL.out).mono ?_; clear HKL; rintro e w8 ⟨rfl, hb8⟩; have HB8 := Aside0.mk (below_step HB0.out hb8); have HB08 := Aside0.mk hb8; obtain ⟨_, q81, q82⟩ := HW.out _ HB08.out; clear hb8))
    go_ret
    exact ⟨rfl, HB8.out⟩
  | false =>
    obtain ⟨b1, b2, b3, b4⟩ := large12_bounds hrl
    clear hrl
    obtain ⟨kS, hkS⟩ := solves_ev.rounds
    have HS := Aside0.mk hkS
    obtain ⟨ra, ma, ta, ea, ha⟩ : ∃ ra ma ta ea, Sv.solve a0 l0 = (ra, ma, ta, ea) := ⟨_, _, _, _, rfl⟩
    have HSA := Aside0.mk (show solver_Solve.f a0 l0 = some (ra, ma, ta, ea) by rw [solve_f, ha])
    go_enter Try.func15, Try.ntmps15
    go_upto_region 1 with (fail)
    rw [← hW0]
    clear hW0
    go_upto_region 4 with (first | (go_at_call 52; refine (hoggetlaw12_large.calls kL a0 _ _ l0 10 _ _ (Kd.C_below HR.out HB0.out) HC.out HKL.out).mono ?_; clear HKL; rintro e w8 ⟨rfl, hb8⟩; have HB8 := Aside0.mk (below_step HB0.out hb8); have HB08 := Aside0.mk hb8; obtain ⟨_, q81, q82⟩ := HW.out _ HB08.out; clear hb8) | (go_at_call 53; refine (solver_Solve.calls a0 _ _ l0 ra ma ta ea _ (Kd.C_below HR.out HB8.out) HC.out HSA.out).mono ?_; clear HSA; rintro e w2 ⟨v1, v2, rfl, hv1, hv2, hb2⟩; obtain ⟨Am, cm, rfl⟩ := Kd.R_slice hv1; obtain ⟨At, ct, rfl⟩ := Kd.S_slice hv2; have HM2 := Aside0.mk (Kd.S_reads' hv2).2; have HB2 := Aside0.mk (below_step HB8.out hb2); have HB02 := Aside0.mk (below_step HB08.out hb2); clear hv1 hv2 hb2 q81 q82))
    have hA := Aside0.mk (heap_alloc_new w2 (.cells #[.bool ra, .slice Am ma.length cm, .slice At ta.length ct] 51))
    generalize hba : w2.heap.size = ba at hA ⊢
    have hbA := Aside0.mk (below_alloc (Below.refl _ w2) (.cells #[.bool ra, .slice Am ma.length cm, .slice At ta.length ct] 51))
    obtain ⟨W4, hW4⟩ : ∃ W4, W4 = w2.alloc (.cells #[.bool ra, .slice Am ma.length cm, .slice At ta.length ct] 51) := ⟨_, rfl⟩
    rw [← hW4] at hA hbA ⊢
    clear hW4
    have HB4 := Aside0.mk (below_step HB2.out hbA.out)
    have HB04 := Aside0.mk (below_step HB02.out hbA.out)
    have HT4 := Aside0.mk (Kd.C_below HM2.out.2 hbA.out)
    have HTC := Aside0.mk HM2.out.1
    have y0 : W4.cell? ⟨ba, 0, none⟩ = some (.bool ra) := (blk_cell hA.out 0).trans rfl
    have y1 : W4.cell? ⟨ba, 2, none⟩ = some (.slice At ta.length ct) := (blk_cell hA.out 2).trans rfl
    obtain ⟨_, q81, q82⟩ := HW.out _ HB04.out
    clear hA hbA HM2
    by_cases ha0 : ea = 0
    · subst ha0
      cases ra with
      | true =>
        clear ha
        go_wp2_with ((go_at_call 55; refine (hoggetlaw12_solves.calls kS true _ HS.out).mono ?_; rintro e w16 ⟨rfl, hb16⟩; have HB16 := Aside0.mk (below_step HB4.out hb16); clear hb16))
        go_ret
        exact ⟨rfl, HB16.out⟩
      | false =>
        by_cases ht200 : 200 < (ta.length : Int)
        · clear ha
          go_wp2_with ((go_at_call 55; refine (hoggetlaw12_solves.calls kS true _ HS.out).mono ?_; rintro e w16 ⟨rfl, hb16⟩; have HB16 := Aside0.mk (below_step HB4.out hb16); clear hb16))
          go_ret
          exact ⟨rfl, HB16.out⟩
        have hlc := (Sp.check_iff.1 (Sv.solve_check ha)).2.1
        have hck := Sv.solve_check ha
        obtain ⟨t0, ht0, hall⟩ : ∃ t0, ta = t0 ++ [[]] ∧ Sv.All a0 l0 ta := by
          rcases Sv.solve_ends ha with ⟨e, _⟩ | ⟨_, _, ⟨t0, e⟩, _, h⟩
          · exact absurd e (by decide)
          · exact ⟨t0, e, h⟩
        have hv60 := (Sp.check_ok hck).2.1
        have hgo := Pf.all_goes hck (by omega) (by omega) hall
        have HGO := Aside0.mk (show ∀ (j : Nat) (hj : j < ta.length), unit_Propagate.f a0 (l0 ++ ta.take j) (Pf.turned ta[j]) = some ([], 110) ∧ (∀ x ∈ ta[j], -60 ≤ x ∧ x ≤ 60) ∧ ta[j].length ≤ 60 from fun j hj => by
          have h1 := hgo j hj
          unfold Pf.goes at h1
          have e : ta.getD j [] = ta[j] := by simp [List.getD_eq_getElem?_getD, hj]
          rw [e] at h1
          obtain ⟨_, h2, h3⟩ := Pf.follows_true.1 h1
          obtain ⟨⟨h4, h5, h6⟩, _, h7⟩ := Sp.check_iff.1 h2
          refine ⟨?_, fun x hx => ?_, by have := h7 ta[j] (by simp); omega⟩
          · unfold unit_Propagate.f
            have h8 := Uk.prop_bad (vars := a0) (cls := l0 ++ ta.take j) (fixed := Pf.turned ta[j]) (by rw [h3]; decide)
            rw [← h8, ← h3]
          · have := Sp.lit_iff.1 (h6 ta[j] (by simp) x hx)
            omega)
        obtain ⟨n, hn⟩ : ∃ n, ta.length = n + 1 := ⟨t0.length, by rw [ht0, List.length_append]; rfl⟩
        have HN := Aside0.mk hn
        have HLAST := Aside0.mk (show ∀ h : n < ta.length, ta[n] = [] from fun h => by
          have hn0 : t0.length = n := by have := hn; rw [ht0, List.length_append, List.length_singleton] at this; omega
          subst ht0
          subst hn0
          rw [List.getElem_append_right (Nat.le_refl _)]
          simp)
        have HTL := Aside0.mk ht200
        have HLN := Aside0.mk b2
        have HLN2 := Aside0.mk (show (0 + l0.length) * 24 ≤ 140737488355328 by have := HLN.out; omega)
        clear ha b1 b2 b3 b4 hkS hlc hck hv60 hall hgo ht0 t0 hn
        go_upto_region 8 with (fail)
        have hG := Aside0.mk (show Gst W4 (W4.alloc (.cells #[.int .i64 a0, .slice none 0 0] 24)) W4.heap.size a0 (.slice none 0 0) [] from ⟨heap_alloc_new W4 _, Kd.N_nil _ _ _ _ _, Nat.le_refl _, below_alloc (Below.refl _ W4) _⟩)
        generalize hb : W4.heap.size = b at hG ⊢
        obtain ⟨W5, hW5⟩ : ∃ W5, W5 = W4.alloc (.cells #[.int .i64 a0, .slice none 0 0] 24) := ⟨_, rfl⟩
        rw [← hW5] at hG ⊢
        clear hW5
        obtain ⟨k0, k1⟩ := hG.out.fld
        have k2 := blk_frozen hG.out.hg 1
        have q91 := pw_cell_below hG.out.hb q81
        have q92 := pw_cell_below hG.out.hb q82
        have HFR := Aside0.mk (shared_rows (Kd.C_below HR.out HB4.out) hG.out.hb)
        go_upto_region 9 with ((at_builtin; refine Kd.N_append_rows (Kd.slice 3 (Kd.int .i64)) (w0 := W4) W4.heap.size rfl (.tmp 34) (.tmp 36) 22 25 (.slice none 0 0) 24 rfl Try.underlying22 info_rows rfl (by decide) (by omega) (.slice none 0 0) [] l0 A0 l0.length c0 (fun k => k ≠ b) (fun k => k < W4.heap.size) rfl rfl hG.out.hn HFR.out (shared_ok hG.out) (fresh_ok hG.out) hG.out.hb hG.out.hb.size HLN2.out ?_; intro v1 w1 hn1 hb1 hg1 hat1; rw [List.nil_append] at hn1; obtain ⟨A9, c9, ev⟩ := Kd.N_slice hn1; subst ev; have z1 := blk_frozen (hG.out.kept hg1) 1; have z2 : w1.cell? ⟨b, 1, none⟩ = some (.slice none 0 0) := (blk_cell (hG.out.kept hg1) 1).trans rfl; have HG1 := Aside0.mk (hG.out.put hn1 hb1 hg1); clear hn1 hb1 hg1 hat1))
        obtain ⟨W6, hW6⟩ : ∃ W6, W6 = w1.setCell ⟨b, 1, none⟩ (.slice A9 l0.length c9) := ⟨_, rfl⟩
        rw [← hW6] at HG1 ⊢
        clear hW6 z1 z2 k0 k1 k2 q91 q92 hG HFR
        go_wp2
        go_loopg [6] ta.length (fun gg s6 wq => ∃ (j : Nat) (gv : Value), j ≤ ta.length ∧ ta.length - j ≤ gg ∧ s6 = .int .i64 (j : Int) ∧ Aside0 (Gst W4 wq b a0 gv (l0 ++ ta.take j)))
        case atStart => exact ⟨0, _, Nat.zero_le _, by omega, rfl, ⟨by rw [List.take_zero, List.append_nil]; exact HG1.out⟩⟩
        case round =>
          clear HG1
          obtain ⟨j, gv, hj, hg, rfl, HG⟩ := hrel
          obtain ⟨k0, k1⟩ := HG.out.fld
          have y2 := pw_cell_below HG.out.hb y1
          by_cases hjl : j < ta.length
          · obtain ⟨hp1, hp2, hp3⟩ := HGO.out j hjl
            obtain ⟨ad, A5, c5, eA, hx, hl5, hC5⟩ := at_L1 HT4.out (j : Int) (by omega) (by omega)
            rw [rdL_at ta j hjl] at hx hl5 hC5
            simp only [Int.toNat_natCast] at hx
            subst eA
            have HTK := Aside0.mk (show ta.take (j + 1) = ta.take j ++ [ta[j]] from List.take_succ_eq_append_getElem hjl)
            have HTLJ := Aside0.mk (show (l0 ++ ta.take j).length = l0.length + j by rw [List.length_append, List.length_take]; omega)
            generalize ta[j] = cl at hx hl5 hC5 hp1 hp2 hp3 HTK
            have HX := Aside0.mk (show l0 ++ ta.take (j + 1) = (l0 ++ ta.take j) ++ [cl] by rw [HTK.out, List.append_assoc])
            generalize l0 ++ ta.take j = xs at HG HX hp1 HTLJ
            obtain ⟨Ag, cg, eg⟩ := Kd.N_slice HG.out.hn
            subst eg
            have hjz : (j : Int) < (ta.length : Int) := by omega
            have hjz0 : (0 : Int) ≤ (j : Int) := by omega
            have HC5 := Aside0.mk hC5
            have HL5 := Aside0.mk hl5
            have HP := Aside0.mk hp1
            have HX60 := Aside0.mk hp2
            have HL60 := Aside0.mk hp3
            have hx1 := pw_cell_below HG.out.hb hx
            clear hC5 hl5 hp1 hp2 hp3 HTK
            go_wp2
            obtain ⟨W8, hW8⟩ : ∃ W8, W8 = wr := ⟨_, rfl⟩
            rw [← hW8] at HG k0 k1 y2 hx1 ⊢
            clear hW8
            go_loopg [7, 8] cl.length (fun gg s7 s8 wq => ∃ k : Nat, k ≤ cl.length ∧ cl.length - k ≤ gg ∧ s8 = .int .i64 (k : Int) ∧ Aside0 (Kd.R (Kd.int .i64) 3 wq W8.heap.size (fun _ => True) s7 (Pf.turned (cl.take k))) ∧ Aside0 (Below W8.heap.size W8 wq))
            case atStart => exact ⟨0, Nat.zero_le _, by omega, by go_num, ⟨Kd.R_nil _ _ _ _ _⟩, ⟨Below.refl _ _⟩⟩
            case round =>
              obtain ⟨k, hk, hgk, rfl, HT, HBT⟩ := hrel
              have hl60 := HL60.out
              have y3 := pw_cell_below HBT.out y2
              have hx2 := pw_cell_below HBT.out hx1
              by_cases hkl : k < cl.length
              · have hkz : (k : Int) < (cl.length : Int) := by omega
                have hxb := HX60.out _ (List.getElem_mem hkl)
                obtain ⟨ad2, eA, hx3⟩ := C_int_at (Kd.C_below HC5.out (below_step HG.out.hb HBT.out)) k hkl
                subst eA
                have HTK := Aside0.mk (show Pf.turned (cl.take (k + 1)) = Pf.turned (cl.take k) ++ [-cl[k]] by rw [List.take_succ_eq_append_getElem hkl]; unfold Pf.turned; rw [List.map_append]; rfl)
                have HLE := Aside0.mk (show (Pf.turned (cl.take k)).length = k by unfold Pf.turned; rw [List.length_map, List.length_take]; omega)
                generalize cl[k] = x at hx3 HTK hxb
                have hneg : IntKind.i64.wrap (0 - x) = -x := by rw [Int.zero_sub]; exact IntWalk.i64_in _ (by omega)
                go_wp2_with (at_builtin; refine Kd.R_append (Kd.int .i64) (w0 := W8) W8.heap.size rfl (.tmp 56) (.tmp 66) 25 3 (.int .i64 0) 8 rfl Try.underlying25 info_int rfl (by decide) (by omega) u7 (Pf.turned (cl.take k)) (-x) [.int .i64 (-x)] (fun _ => True) (fun _ => False) rfl rfl ?aP (fun _ hk => hk.elim) ?aF ?aO ?aB ?aS ?aL ?_; (case aP => exact rfl); (case aB => exact HBT.out); (case aF => exact (fun _ _ => trivial)); (case aO => exact HT.out); (case aS => exact HBT.out.size); (case aL => have h1 := HLE.out; have h2 := HL60.out; omega); intro v1 w4 hR2 hB2 hg2 hat2; have HT2 := Aside0.mk hR2; have HB2 := Aside0.mk hB2; clear hR2 hB2 hg2 hat2)
                go_roundg (cl.length - (k + 1))
                case measure => omega
                case rel => exact ⟨k + 1, by omega, by omega, by go_num, ⟨by rw [HTK.out]; exact HT2.out⟩, HB2⟩
              · have hkz : ¬ (k : Int) < (cl.length : Int) := by omega
                have hT9 := HT.out
                rw [List.take_of_length_le (by omega)] at hT9
                obtain ⟨A8, c8, e8, hC8, hc8⟩ := row_reads hT9
                subst e8
                have HC8 := Aside0.mk hC8
                have HC8c := Aside0.mk hc8
                have HG4 := Aside0.mk (HG.out.below HBT.out)
                have HB8 := Aside0.mk (below_step HB4.out (below_step HG.out.hb HBT.out))
                obtain ⟨k3, k4⟩ := HG4.out.fld
                generalize Pf.turned cl = tcl at HC8 HC8c HP
                clear hT9 hC8 hc8 HT k0 k1 y2 hx1
                go_upto_region 20 with (go_at_call 35; refine (unit_Propagate.calls a0 _ _ xs _ _ tcl [] 110 _ (Kd.N_reads' HG4.out.hn).2.2 (Kd.N_reads' HG4.out.hn).2.1 HC8.out HC8c.out HP.out).mono ?_; rintro e w5 ⟨v, rfl, ho, hb5⟩; have HG5 := Aside0.mk (HG4.out.below hb5); have k5 := pw_cell_below hb5 k4; have y4 := pw_cell_below hb5 y3; have hx4 := pw_cell_below hb5 hx2; clear ho hb5 y3 hx2 k3 k4)
                have k6 := blk_frozen HG5.out.hg 1
                have k7 : ∀ o, (w5.alloc o).cell? ⟨b, 1, none⟩ = some (.slice Ag xs.length cg) := fun o => pw_cell_below (below_alloc (Below.refl _ w5) o) k5
                have HF := Aside0.mk (shared_row HL5.out HC5.out HG5.out.hb)
                go_region_law (refine Kd.N_append_step (Kd.slice 3 (Kd.int .i64)) W4.heap.size rfl (.tmp 77) (.tmp 83) 22 25 (.slice none 0 0) 24 rfl Try.underlying22 info_rows rfl (by decide) (by omega) (.slice Ag xs.length cg) xs cl [.slice A5 cl.length c5] (fun k => k ≠ b) (fun k => k < W4.heap.size) rfl rfl (Kd.FK_below HF.out (below_drew (Below.refl _ _))) (shared_ok HG5.out.drew) (fresh_ok HG5.out.drew) HG5.out.drew.hn HG5.out.drew.hb HG5.out.drew.hb.size (by have h1 := HTLJ.out; have h2 := HLN.out; have h3 := HTL.out; omega) ?_; intro v1 w1 hn1 hb1 hg1 hat1; obtain ⟨A7, c7, ev⟩ := Kd.N_slice hn1; rw [List.length_append, List.length_singleton] at ev; subst ev; have z1 := blk_frozen (HG5.out.drew.kept hg1) 1; have z2 : w1.cell? ⟨b, 1, none⟩ = some (.slice Ag xs.length cg) := (blk_cell (HG5.out.drew.kept hg1) 1).trans rfl; have HG1 := Aside0.mk (HG5.out.drew.put hn1 hb1 hg1); clear hn1 hb1 hg1 hat1)
                all_goals (
                  go_wp2
                  go_roundg (ta.length - (j + 1))
                  case measure => omega
                  case rel => exact ⟨j + 1, _, by omega, by omega, by go_num, ⟨by rw [HX.out]; exact HG1.out⟩⟩)
          · have hjz : ¬ (j : Int) < (ta.length : Int) := by omega
            have hn := HN.out
            have hla := HLAST.out (by omega)
            obtain ⟨ad, A5, c5, eA, hx, hl5, hC5⟩ := at_L1 HT4.out (n : Int) (by omega) (by omega)
            rw [rdL_at ta n (by omega), hla] at hx
            simp only [Int.toNat_natCast, List.length_nil] at hx
            subst eA
            have hx1 := pw_cell_below HG.out.hb hx
            have HB9 := Aside0.mk (below_step HB4.out HG.out.hb)
            rw [hn] at y2
            have hpos : (0 : Int) < (n : Int) + 1 := by omega
            have htl := HTL.out
            have hn200 : n ≤ 200 := by omega
            have hw1 : IntKind.i64.wrap (((n : Int) + 1) - 1) = (n : Int) := by rw [show ((n : Int) + 1) - 1 = (n : Int) by omega]; exact IntWalk.i64_in _ (by omega)
            have hn0 : (0 : Int) ≤ (n : Int) := by omega
            have hn1 : (n : Int) < (n : Int) + 1 := by omega
            rw [hn] at hjz
            clear hla hl5 hC5 hx hn htl k0 k1 y1 hjl
            go_wp2_with (go_at_call 55; refine (hoggetlaw12_solves.calls kS true _ HS.out).mono ?_; rintro e w16 ⟨rfl, hb16⟩; have HB16 := Aside0.mk (below_step HB9.out hb16); replace y2 := pw_cell_below hb16 y2; replace hx1 := pw_cell_below hb16 hx1; clear hb16)
            go_ret
            exact ⟨rfl, HB16.out⟩
    · have ha1 : (ea != 0) = true := bne_iff_ne.2 ha0
      clear ha ha0
      go_wp2_with ((go_at_call 55; refine (hoggetlaw12_solves.calls kS true _ HS.out).mono ?_; rintro e w16 ⟨rfl, hb16⟩; have HB16 := Aside0.mk (below_step HB4.out hb16); clear hb16))
      go_ret
      exact ⟨rfl, HB16.out⟩
end Go.Proofs.Ythnbmlpjbhhamaa.J
