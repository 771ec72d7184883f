/- UnitAgain, walked: what is known is known again from itself, and the order plays no part. -/
import Derived.Test.YthnbmlpjbhhamaaHg
import Derived.Test.YthnbmlpjbhhamaaHw
import Derived.Test.YthnbmlpjbhhamaaPe
import Derived.Test.YthnbmlpjbhhamaaUs
import Derived.Deep.RegionLaw
namespace Go.Proofs.Ythnbmlpjbhhamaa.J
open Go.RowKit Go.Shelf Go.Proofs.YthnbmlpjbhhamaaW.PrintWords Go.Proofs.YthnbmlpjbhhamaaW.PrintLast Go.Proofs.YthnbmlpjbhhamaaW.PrintMore
set_option linter.unusedVariables false
set_option linter.unusedSimpArgs false

theorem take_rev {α : Type} {l : List α} {i j : Nat} (hi : i < l.length) (h : (l.length : Int) - 1 - (j : Int) = (i : Int)) : l.reverse.take (j + 1) = l.reverse.take j ++ [l[i]] := by
  have hj : j < l.reverse.length := by rw [List.length_reverse]; omega
  rw [List.take_succ_eq_append_getElem hj, List.getElem_reverse]
  congr 3
  omega

set_option maxHeartbeats 4000000 in
set_option maxRecDepth 100000 in
theorem UnitAgain_walk {W : World} (a0 : Int) (A0 : Option Addr) (c0 : Nat) (l0 : List (List Int)) (hr0 : Kd.C (Kd.slice 3 (Kd.int .i64)) W A0 l0.length l0) (hc0 : l0.length ≤ c0) (w0 : (Lit.int .i64 a0).wf = true) (wl0 : ∀ c ∈ l0, ∀ n ∈ c, (Lit.int .i64 n).wf = true)
    (A1 : Option Addr) (c1 : Nat) (l1 : List Int) (hr1 : Kd.C (Kd.int .i64) W A1 l1.length l1) (hc1 : l1.length ≤ c1) (wl1 : ∀ n ∈ l1, (Lit.int .i64 n).wf = true) :
    Calls Try.prog 4 #[.agg #[.int .i64 a0, .slice A0 l0.length c0], .slice A1 l1.length c1] W fun e w' => e = .returned (.bool true) ∧ Below W.heap.size W w' := by
  obtain ⟨kL, hkL⟩ := (large11_ev a0 l0 l1).rounds
  obtain ⟨W0, hW0, hb0, hs0, hw0⟩ := boxed_formula W a0 A0 c0 l0.length
  have HB0 := Aside0.mk hb0
  have HW := Aside0.mk hw0
  have HLG := Aside0.mk (hoggetlaw11_large.calls kL a0 A0 c0 l0 A1 c1 l1 _ W0 (Kd.C_below hr0 hb0) hc0 (Kd.C_below hr1 hb0) hc1 hkL)
  have HR0 := Aside0.mk hr0
  have HR1 := Aside0.mk hr1
  have HC0 := Aside0.mk hc0
  have HC1 := Aside0.mk hc1
  have hm0 : l0.length ≤ 9223372036854775807 := hr0.2.1
  have hm1 : l1.length ≤ 9223372036854775807 := hr1.2.1
  clear hb0 hw0 hr0 hr1 hc0 hc1 w0 wl0 wl1 hkL
  cases hL : large11 l0 l1 with
  | true =>
    rw [hL] at HLG
    go_enter Try.func4, Try.ntmps4
    go_wp2_with fail
    rw [← hW0]
    clear hW0
    refine HLG.out.mono ?_
    rintro e w1 ⟨rfl, hb1⟩
    obtain ⟨q0, q1, q2⟩ := HW.out w1 hb1
    go_wp2
    go_ret
    exact ⟨rfl, q0⟩
  | false =>
    rw [hL] at HLG
    obtain ⟨b1, b2, b3⟩ := large11_bounds hL
    obtain ⟨pl, pe, hp⟩ : ∃ pl pe, Uk.prop a0 l0 l1 = (pl, pe) := ⟨_, _, rfl⟩
    have HP1 := Aside0.mk (show unit_Propagate.f a0 l0 l1 = some (pl, pe) by unfold unit_Propagate.f; rw [hp])
    obtain ⟨cr, hcr⟩ : ∃ cr, cr = l0.reverse := ⟨_, rfl⟩
    obtain ⟨fr, hfr⟩ : ∃ fr, fr = l1.reverse := ⟨_, rfl⟩
    have HP2 := Aside0.mk (show unit_Propagate.f a0 cr fr = some (pl, pe) by unfold unit_Propagate.f; rw [hcr, hfr, Uk.prop_rev, hp])
    have HCR := Aside0.mk hcr
    have HFR := Aside0.mk hfr
    clear hcr hfr
    go_enter Try.func4, Try.ntmps4
    go_wp2_with fail
    rw [← hW0]
    clear hW0
    refine HLG.out.mono ?_
    rintro e w1 ⟨rfl, hb1⟩
    obtain ⟨q0, q1, q2⟩ := HW.out w1 hb1
    have HB1 := Aside0.mk q0
    have HB01 := Aside0.mk hb1
    clear hb1 q0
    go_wp2_with (first | (go_at_call 35; refine (unit_Propagate.calls a0 _ _ l0 _ _ l1 pl pe w1 (Kd.C_below HR0.out HB1.out) HC0.out (Kd.C_below HR1.out HB1.out) HC1.out HP1.out).mono ?_; rintro e w2 ⟨v, rfl, ho, hb2⟩; have HB2 := Aside0.mk (below_step HB1.out hb2); obtain ⟨q3, q4, q5⟩ := HW.out w2 (below_step HB01.out hb2); obtain ⟨A3, c3, rfl, hc1, hc2⟩ := lit_reads ho; have HL := Aside0.mk hc1; have HLc := Aside0.mk hc2; have q6 : ∀ o, (w2.alloc o).cell? ⟨W.heap.size, 1, none⟩ = some (.slice A0 l0.length c0) := fun o => pw_cell_below (below_alloc (Below.refl _ w2) o) q5; clear ho hc1 hc2 q1 q2 q3 hb2))
    have hG := Aside0.mk (show Gst w2 (w2.alloc (.cells #[.int .i64 a0, .slice none 0 0] 24)) w2.heap.size a0 (.slice none 0 0) [] from ⟨heap_alloc_new w2 _, Kd.N_nil _ _ _ _ _, Nat.le_refl _, below_alloc (Below.refl _ w2) _⟩)
    generalize hb : w2.heap.size = b at hG ⊢
    go_loopg [8] l0.length (fun gg s8 wq => ∃ (j : Nat) (gv : Value), j ≤ l0.length ∧ l0.length - j ≤ gg ∧ s8 = .int .i64 ((l0.length : Int) - 1 - (j : Int)) ∧ Aside0 (Gst w2 wq b a0 gv (l0.reverse.take j)))
    case atStart => exact ⟨0, .slice none 0 0, Nat.zero_le _, by omega, by go_num, hG⟩
    case round =>
      clear hG
      obtain ⟨j, gv, hj, hg, rfl, HG⟩ := hrel
      obtain ⟨k0, k1⟩ := HG.out.fld
      have k2 := blk_frozen HG.out.hg 1
      have k3 : wr.cell? ⟨W.heap.size, 1, none⟩ = some (.slice A0 l0.length c0) := pw_cell_below HG.out.hb q5
      by_cases hjl : j < l0.length
      · obtain ⟨i, hi⟩ : ∃ i : Nat, (l0.length : Int) - 1 - (j : Int) = (i : Int) := ⟨l0.length - 1 - j, by omega⟩
        have hil : i < l0.length := by omega
        obtain ⟨ad, A5, c5, eA, hx, hl5, hC5⟩ := at_L1 (Kd.C_below HR0.out HB2.out) (i : Int) (by omega) (by omega)
        rw [rdL_at l0 i hil] at hx hl5 hC5
        simp only [Int.toNat_natCast] at hx
        have hx1 := pw_cell_below HG.out.hb hx
        have HF := Aside0.mk (shared_row hl5 hC5 HG.out.hb)
        subst eA
        rw [hi]
        have hz : (i : Int) < (l0.length : Int) := by omega
        have hz0 : (0 : Int) ≤ (i : Int) := by omega
        have k4 : ∀ o, (wr.alloc o).cell? ⟨b, 1, none⟩ = some gv := fun o => pw_cell_below (below_alloc (Below.refl _ wr) o) k1
        have HI := Aside0.mk hi
        have HLEN := Aside0.mk (show (l0.reverse.take j ++ [l0[i]]).length = j + 1 by rw [List.length_append, List.length_take, List.length_reverse, List.length_singleton]; omega)
        clear hi hx hl5 hC5
        go_wp2
        go_region_law (refine Kd.N_append_step (Kd.slice 3 (Kd.int .i64)) w2.heap.size rfl (.tmp 36) (.tmp 42) 22 25 (.slice none 0 0) 24 rfl Try.underlying22 info_rows rfl (by decide) (by omega) gv (l0.reverse.take j) l0[i] [.slice A5 l0[i].length c5] (fun k => k ≠ b) (fun k => k < w2.heap.size) rfl rfl (Kd.FK_below HF.out (below_drew (Below.refl _ _))) (shared_ok HG.out.drew) (fresh_ok HG.out.drew) HG.out.drew.hn HG.out.drew.hb HG.out.drew.hb.size (by rw [List.length_take, List.length_reverse]; omega) ?_; intro v1 w1 hn1 hb1 hg1 hat1; obtain ⟨A7, c7, ev⟩ := Kd.N_slice hn1; rw [HLEN.out] at ev; subst ev; have z1 := blk_frozen (HG.out.drew.kept hg1) 1; have z2 : w1.cell? ⟨b, 1, none⟩ = some gv := (blk_cell (HG.out.drew.kept hg1) 1).trans rfl; have HG1 := Aside0.mk (HG.out.drew.put hn1 hb1 hg1); clear hn1 hb1 hg1 hat1)
        all_goals (
          go_wp2
          go_roundg (l0.length - (j + 1))
          case measure => omega
          case rel => exact ⟨j + 1, _, by omega, by omega, (by have hi1 := HI.out; go_num), ⟨by rw [take_rev hil HI.out]; exact HG1.out⟩⟩)
      · have hi : (l0.length : Int) - 1 - (j : Int) = -1 := by omega
        rw [hi]
        have hG9 : Gst w2 wr b a0 gv cr := by
          have h9 := HG.out
          rw [List.take_of_length_le (by rw [List.length_reverse]; omega), ← HCR.out] at h9
          exact h9
        obtain ⟨A7, c7, e7⟩ := Kd.N_slice hG9.hn
        subst e7
        have HG9 := Aside0.mk hG9
        clear hG9 HG hi
        obtain ⟨W3, rfl⟩ : ∃ W3, W3 = wr := ⟨_, rfl⟩
        have HB3 := Aside0.mk (below_step HB2.out HG9.out.hb)
        clear k0 k1 k2 k3 q6
        go_wp2
        go_loopg [9, 10] l1.length (fun gg s9 s10 wq => ∃ j : Nat, j ≤ l1.length ∧ l1.length - j ≤ gg ∧ s10 = .int .i64 ((l1.length : Int) - 1 - (j : Int)) ∧ Aside0 (Kd.R (Kd.int .i64) 3 wq W3.heap.size (fun _ => True) s9 (l1.reverse.take j)) ∧ Aside0 (Below W3.heap.size W3 wq))
        case atStart => exact ⟨0, Nat.zero_le _, by omega, by go_num, ⟨Kd.R_nil _ _ _ _ _⟩, ⟨Below.refl _ _⟩⟩
        case round =>
          obtain ⟨j1, hj1, hg1, rfl, HT, HBT⟩ := hrel
          by_cases hjl1 : j1 < l1.length
          · obtain ⟨i, hi⟩ : ∃ i : Nat, (l1.length : Int) - 1 - (j1 : Int) = (i : Int) := ⟨l1.length - 1 - j1, by omega⟩
            have hil : i < l1.length := by omega
            obtain ⟨ad, eA, hx⟩ := C_int_at (Kd.C_below HR1.out (below_step HB3.out HBT.out)) i hil
            subst eA
            rw [hi]
            have hz : (i : Int) < (l1.length : Int) := by omega
            have hz0 : (0 : Int) ≤ (i : Int) := by omega
            have HI := Aside0.mk hi
            have HLE := Aside0.mk (show (l1.reverse.take j1).length ≤ 100 by rw [List.length_take, List.length_reverse]; omega)
            clear hi
            go_wp2_with (at_builtin; refine Kd.R_append (Kd.int .i64) (w0 := W3) W3.heap.size rfl (.tmp 52) (.tmp 57) 25 3 (.int .i64 0) 8 rfl Try.underlying25 info_int rfl (by decide) (by omega) u9 (l1.reverse.take j1) l1[i] [.int .i64 l1[i]] (fun _ => True) (fun _ => False) rfl rfl ?aP (fun _ hk => hk.elim) ?aF ?aO ?aB ?aS ?aL ?_; (case aP => exact rfl); (case aB => exact HBT.out); (case aF => exact (fun _ _ => trivial)); (case aO => exact HT.out); (case aS => exact HBT.out.size); (case aL => have := HLE.out; omega); intro v1 w4 hR2 hB2 hg2 hat2; have HT2 := Aside0.mk hR2; have HBT2 := Aside0.mk hB2; clear hR2 hB2 hg2 hat2)
            go_roundg (l1.length - (j1 + 1))
            case measure => omega
            case rel => exact ⟨j1 + 1, by omega, by omega, (by have hi1 := HI.out; go_num), ⟨by rw [take_rev hil HI.out]; exact HT2.out⟩, HBT2⟩
          · have hi : (l1.length : Int) - 1 - (j1 : Int) = -1 := by omega
            rw [hi]
            have hT9 := HT.out
            rw [List.take_of_length_le (by rw [List.length_reverse]; omega), ← HFR.out] at hT9
            obtain ⟨A8, c8, e8, hC8, hc8⟩ := lit_reads hT9
            subst e8
            have HC8 := Aside0.mk hC8
            have HC8c := Aside0.mk hc8
            have HG4 := Aside0.mk (HG9.out.below HBT.out)
            obtain ⟨k0, k1⟩ := HG4.out.fld
            have HC7 := Aside0.mk (Kd.N_reads' HG4.out.hn).2
            have HB4 := Aside0.mk (below_step HB3.out HBT.out)
            have HL4 := Aside0.mk (Kd.C_below HL.out (below_then HG9.out.hb HG9.out.hb.size HBT.out))
            have HB24 := Aside0.mk (below_step HG9.out.hb HBT.out)
            have q7 := pw_cell_below HB24.out q4
            have q8 := pw_cell_below HB24.out q5
            obtain ⟨KI, hki⟩ := (ints_ev pl pl (by have := Uk.prop_small a0 l0 l1; rw [hp] at this; simp only at this; omega)).rounds
            rw [decide_eq_true rfl] at hki
            have HKI := Aside0.mk hki
            have ne0 : (pe != pe) = false := by simp
            clear hT9 hC8 hc8 HT hi hki q4 q5
            by_cases hpe : pe = 0
            · subst hpe
              have hok := Uk.ok_iff.1 (show (Uk.prop a0 l0 l1).2 = 0 by rw [hp])
              have HP3 := Aside0.mk (show unit_Propagate.f a0 l0 pl = some (pl, 0) by have h1 := Uk.prop_again hok; rw [hp] at h1; unfold unit_Propagate.f; rw [h1])
              have HF := Aside0.mk (show ∀ x ∈ l1, x ∈ pl from fun x hx => by have h1 := hok.prop; rw [hp] at h1; injection h1 with h1 _; rw [h1]; exact (hok.mem x).2 (.fix hx))
              have hpl := Uk.prop_small a0 l0 l1
              rw [hp] at hpl
              simp only at hpl
              clear hok hp
              go_wp2_with (first
                | (go_at_call 35; refine (unit_Propagate.calls a0 _ _ cr _ _ fr pl 0 _ HC7.out.2 HC7.out.1 HC8.out HC8c.out HP2.out).mono ?_; rintro e w5 ⟨v, rfl, ho, hb5⟩; obtain ⟨A9, c9, rfl, hc9, hc9c⟩ := lit_reads ho; have HM := Aside0.mk hc9; have HMc := Aside0.mk hc9c; have HL5 := Aside0.mk (Kd.C_below HL4.out hb5); have HB5 := Aside0.mk (below_step HB4.out hb5); replace q8 := pw_cell_below hb5 q8; replace q7 := pw_cell_below hb5 q7; clear HC7 HC8 HL4 HB4 ho hb5 hc9 hc9c)
                | (go_at_call 38; refine (hoggetref10_Ints.calls KI _ _ pl _ _ pl true _ HL5.out HLc.out HM.out HMc.out HKI.out).mono ?_; rintro e w6 ⟨rfl, hb6⟩; have HL6 := Aside0.mk (Kd.C_below HL5.out hb6.below); have HB6 := Aside0.mk (below_step HB5.out hb6.below); replace q8 := pw_cell_below hb6.below q8; replace q7 := pw_cell_below hb6.below q7; clear HL5 HM HB5 hb6)
                | (go_at_call 35; refine (unit_Propagate.calls a0 _ _ l0 _ _ pl pl 0 _ (Kd.C_below HR0.out HB6.out) HC0.out HL6.out HLc.out HP3.out).mono ?_; rintro e w7 ⟨v, rfl, ho, hb7⟩; obtain ⟨A9, c9, rfl, hc9, hc9c⟩ := lit_reads ho; have HN := Aside0.mk hc9; have HNc := Aside0.mk hc9c; have HL7 := Aside0.mk (Kd.C_below HL6.out hb7); have HB7 := Aside0.mk (below_step HB6.out hb7); clear HL6 HB6 ho hb7 hc9 hc9c q7 q8))
              go_loopg [15] l1.length (fun gg s15 wq => ∃ j : Nat, j ≤ l1.length ∧ l1.length - j ≤ gg ∧ s15 = .int .i64 (j : Int) ∧ Aside0 (Below w7.heap.size w7 wq))
              case atStart => exact ⟨0, Nat.zero_le _, by omega, by go_num, ⟨Below.refl _ _⟩⟩
              case round =>
                clear hj1 hg1 hjl1 hj hg hjl
                obtain ⟨j, hj, hg, rfl, HB8⟩ := hrel
                have HB9 := Aside0.mk (below_step HB7.out HB8.out)
                have HL8 := Aside0.mk (Kd.C_below HL7.out HB8.out)
                by_cases hjl : j < l1.length
                · have hjz : (j : Int) < (l1.length : Int) := by omega
                  obtain ⟨ad, eA, hx⟩ := C_int_at (Kd.C_below HR1.out HB9.out) j hjl
                  subst eA
                  obtain ⟨kh, hkh⟩ := (has_ev pl l1[j] (by omega)).rounds
                  rw [List.contains_iff_mem.2 (HF.out _ (List.getElem_mem hjl))] at hkh
                  have HKH := Aside0.mk hkh
                  clear hkh
                  generalize l1[j] = x at hx HKH
                  go_wp2_with (go_at_call 42; refine (hoggetref11_Has.calls kh _ _ pl x true _ HL8.out HLc.out HKH.out).mono ?_; rintro e w9 ⟨rfl, hb9⟩; have HB10 := Aside0.mk (below_step HB8.out hb9.below); clear hb9)
                  go_roundg (l1.length - (j + 1))
                  case measure => omega
                  case rel => exact ⟨j + 1, by omega, by omega, by go_num, HB10⟩
                · have hjz : ¬ (j : Int) < (l1.length : Int) := by omega
                  have HN8 := Aside0.mk (Kd.C_below HN.out HB8.out)
                  go_wp2_with (first
                    | (go_at_call 37; refine (hoggetlaw11_follows.calls 0 true _ rfl).mono ?_; rintro e w9 ⟨rfl, hb9⟩; have HL9 := Aside0.mk (Kd.C_below HL8.out hb9); have HN9 := Aside0.mk (Kd.C_below HN8.out hb9); have HB10 := Aside0.mk (below_step HB9.out hb9); clear hb9)
                    | (go_at_call 38; refine (hoggetref10_Ints.calls KI _ _ pl _ _ pl true _ HL9.out HLc.out HN9.out HNc.out HKI.out).mono ?_; rintro e w10 ⟨rfl, hb10⟩; have HB11 := Aside0.mk (below_step HB10.out hb10.below); clear hb10))
                  go_ret
                  exact ⟨rfl, HB11.out⟩
            · have hpe0 : (pe != 0) = true := bne_iff_ne.2 hpe
              have epl : pl = [] := by have h1 := Uk.prop_bad (vars := a0) (cls := l0) (fixed := l1) (by rw [hp]; exact hpe); rw [hp] at h1; exact h1
              have hlz : ((pl.length : Int) == 0) = true := by rw [epl]; rfl
              clear epl hp
              go_wp2_with (first
                | (go_at_call 35; refine (unit_Propagate.calls a0 _ _ cr _ _ fr pl pe _ HC7.out.2 HC7.out.1 HC8.out HC8c.out HP2.out).mono ?_; rintro e w5 ⟨v, rfl, ho, hb5⟩; obtain ⟨A9, c9, rfl, hc9, hc9c⟩ := lit_reads ho; have HM := Aside0.mk hc9; have HMc := Aside0.mk hc9c; have HL5 := Aside0.mk (Kd.C_below HL4.out hb5); have HB5 := Aside0.mk (below_step HB4.out hb5); clear HC7 HC8 HL4 HB4 ho hb5 hc9 hc9c)
                | (go_at_call 38; refine (hoggetref10_Ints.calls KI _ _ pl _ _ pl true _ HL5.out HLc.out HM.out HMc.out HKI.out).mono ?_; rintro e w6 ⟨rfl, hb6⟩; have HB6 := Aside0.mk (below_step HB5.out hb6.below); clear HL5 HM HB5 hb6)
                | (go_at_call 37; refine (hoggetlaw11_follows.calls 0 true _ rfl).mono ?_; rintro e w9 ⟨rfl, hb9⟩; have HB10 := Aside0.mk (below_step HB6.out hb9); clear hb9))
              go_ret
              exact ⟨rfl, HB10.out⟩
end Go.Proofs.Ythnbmlpjbhhamaa.J
