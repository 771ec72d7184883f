/- manifest.right and manifest.Check, walked. -/
import Derived.Test.YteinkjhimceljaaGreatDoorT18
import Derived.Laws.Cover1
namespace Go.Proofs.YteinkjhimceljaaGreatDoor.J
open Go Go.RowKit Go.Shelf Go.Proofs.YteinkjhimceljaaGreatDoorW.PrintWords Go.Proofs.YteinkjhimceljaaGreatDoorW.PrintLast Go.Proofs.YteinkjhimceljaaGreatDoorW.PrintMore
set_option linter.unusedVariables false
set_option linter.unusedSimpArgs false
theorem man_false1 {root : Bool} {m : S27} (h : headB root m = false) : manB root m = false := by unfold manB; rw [h]; rfl
theorem man_false2 {root : Bool} {m : S27} (h : chainB (depB root) depLt none m.f2 = false) : manB root m = false := by unfold manB; rw [h]; simp
theorem man_false3 {root : Bool} {m : S27} (h : chainB ruleB ruleLt none m.f3 = false) : manB root m = false := by unfold manB; rw [h]; simp
theorem prev_pos {α : Type} {l : List α} {i : Nat} (h0 : 0 < i) (h : i - 1 < l.length) : prevAt l i = some l[i - 1] := by unfold prevAt; rw [if_neg (by omega), List.getElem?_eq_getElem h]
set_option maxRecDepth 100000 in
set_option maxHeartbeats 16000000 in
theorem man_right_walk (m : S27) (A5 : Option Addr) (c5 : Nat) (A6 : Option Addr) (c6 : Nat) (root : Bool) (hm : MOk m) (w : World) (HGL : Glob w) (hr : ManC w A5 c5 A6 c6 m) :
 Calls Tryz.prog 45 #[.agg #[.string m.f0, .int .i64 m.f1.f0, .int .i64 m.f1.f1, .int .i64 m.f1.f2, .string m.f1.f3, .slice A5 m.f2.length c5, .slice A6 m.f3.length c6], .bool root] w fun e w' => e = .returned (.bool (manB root m)) ∧ Below w.heap.size w w' := by
 have HM := Aside0.mk hm
 have HR := Aside0.mk hr
 have hdl := hm.dlen
 have hrl := hm.rlen
 have BX := Aside0.mk (blk_new w (.cells #[.string m.f0, .int .i64 m.f1.f0, .int .i64 m.f1.f1, .int .i64 m.f1.f2, .string m.f1.f3, .slice A5 m.f2.length c5, .slice A6 m.f3.length c6] 27))
 have HB := Aside0.mk (below_alloc (Below.refl w.heap.size w) (.cells #[.string m.f0, .int .i64 m.f1.f0, .int .i64 m.f1.f1, .int .i64 m.f1.f2, .string m.f1.f3, .slice A5 m.f2.length c5, .slice A6 m.f3.length c6] 27))
 have HP := Aside0.mk (print_walk m.f1 hm.ver.pre hm.ver.ints _ (HGL.below HB.out))
 have HG := Aside0.mk (fun W h => good_walk m.f0 hm.name W h)
 have HHD := Aside0.mk (show headB root m = (vright m.f1 && ((goodB m.f0 || (m.f0.toList == [] && root)) && (decide (m.f3.length = 0) || root))) from rfl)
 clear hm hr
 generalize vright m.f1 = b1 at HP HHD
 generalize goodB m.f0 = b2 at HG HHD
 go_enter Tryz.func45, Tryz.ntmps45
 go_upto_region 2 with (go_at_call 67; refine HP.out.mono ?_; rintro e w4 ⟨s, rfl, hb4, _⟩; have BX4 := Aside0.mk (blk_below BX.out hb4); have x0 := blk_at BX4.out 0 (v := .string m.f0) rfl; have x6 := blk_at BX4.out 6 (v := .slice A6 m.f3.length c6) rfl; have HB4 := Aside0.mk (below_step HB.out hb4); clear HP hb4 BX HB)
 go_cut [43] (fun v43 wc => v43 = .bool (!headB root m) ∧ Aside0 (wc.heap[w.heap.size]? = some (.cells #[.string m.f0, .int .i64 m.f1.f0, .int .i64 m.f1.f1, .int .i64 m.f1.f2, .string m.f1.f3, .slice A5 m.f2.length c5, .slice A6 m.f3.length c6] 27 (0, 0))) ∧ Aside0 (Below w.heap.size w wc))
 case first =>
  cases b1 with
  | false =>
   go_wp2
   go_meet
   case rel => exact ⟨by rw [HHD.out]; rfl, BX4, HB4⟩
  | true =>
   obtain ⟨b3, h3⟩ : ∃ b3, (m.f0.toList == ([] : List UInt8)) = b3 := ⟨_, rfl⟩
   have h4 : (m.f0.toList != ([] : List UInt8)) = !b3 := by rw [← h3]; rfl
   rw [h3] at HHD
   by_cases h0 : (m.f3.length : Int) > 0
   · have HH0 := Aside0.mk (show decide (m.f3.length = 0) = false from decide_eq_false (by omega))
     rw [HH0.out] at HHD
     cases b2 <;> cases b3 <;> cases root
     all_goals
      go_wp2_with (go_at_call 68; refine (HG.out _ (HGL.below HB4.out)).mono ?_; rintro e w5 ⟨rfl, hb5⟩; have BX5 := Aside0.mk (blk_below BX4.out hb5); have x6 := blk_at BX5.out 6 (v := .slice A6 m.f3.length c6) rfl; have x0 := blk_at BX5.out 0 (v := .string m.f0) rfl; have HB5 := Aside0.mk (below_step HB4.out hb5); clear HG hb5)
      go_meet
      case rel => exact ⟨by rw [HHD.out]; rfl, BX5, HB5⟩
   · have HH0 := Aside0.mk (show decide (m.f3.length = 0) = true from decide_eq_true (by omega))
     rw [HH0.out] at HHD
     cases b2 <;> cases b3 <;> cases root
     all_goals
      go_wp2_with (go_at_call 68; refine (HG.out _ (HGL.below HB4.out)).mono ?_; rintro e w5 ⟨rfl, hb5⟩; have BX5 := Aside0.mk (blk_below BX4.out hb5); have x6 := blk_at BX5.out 6 (v := .slice A6 m.f3.length c6) rfl; have x0 := blk_at BX5.out 0 (v := .string m.f0) rfl; have HB5 := Aside0.mk (below_step HB4.out hb5); clear HG hb5)
      go_meet
      case rel => exact ⟨by rw [HHD.out]; rfl, BX5, HB5⟩
 case rest =>
  obtain ⟨rfl, BX, HB⟩ := hcut
  clear BX4 HB4 x0 x6 HHD HG
  cases hh : headB root m with
  | false =>
   have HE := Aside0.mk (man_false1 hh)
   clear hh
   go_wp2
   go_ret
   exact ⟨by rw [HE.out]; rfl, HB.out⟩
  | true =>
   have HH := Aside0.mk hh
   clear hh
   have x5 := blk_at BX.out 5 (v := .slice A5 m.f2.length c5) rfl
   have HT0 := Aside0.mk (show chainB (depB root) depLt none m.f2 = chainB (depB root) depLt (prevAt m.f2 0) (m.f2.drop 0) by rw [List.drop_zero]; rfl)
   go_wp2
   go_loopg [47] (m.f2.length + 1) (fun gg s47 wq => ∃ j : Nat, j ≤ m.f2.length ∧ m.f2.length - j < gg ∧ s47 = .int .i64 (j : Int) ∧ Aside0 (chainB (depB root) depLt none m.f2 = chainB (depB root) depLt (prevAt m.f2 j) (m.f2.drop j)) ∧ Aside0 (wq.heap[w.heap.size]? = some (.cells #[.string m.f0, .int .i64 m.f1.f0, .int .i64 m.f1.f1, .int .i64 m.f1.f2, .string m.f1.f3, .slice A5 m.f2.length c5, .slice A6 m.f3.length c6] 27 (0, 0))) ∧ Aside0 (Below w.heap.size w wq))
   case atStart => exact ⟨0, Nat.zero_le _, by omega, rfl, HT0, BX, HB⟩
   case round =>
    clear BX HB x5 HT0
    obtain ⟨j, hj1, hjg, rfl, HT, BX, HB⟩ := hrel
    by_cases hlt : j < m.f2.length
    · obtain ⟨ad, A2, c2, rfl, d0, d1, d2, hrc⟩ := dep_at HR.out.dr HB.out j hlt
      have ja : (j : Int) < (m.f2.length : Int) := by omega
      have hdk := HM.out.deps _ (List.getElem_mem hlt)
      have HCA := Aside0.mk (chain_at (depB root) depLt hlt)
      generalize m.f2[j] = d at d0 d1 d2 hrc hdk HCA
      have HRC := Aside0.mk hrc
      have HDK := Aside0.mk hdk
      clear hrc hdk
      have HDB := Aside0.mk (show depB root d = ((decide (1 ≤ d.f0) && decide (d.f0 ≤ 4)) && ((decide (d.f0 ≠ 2) || root) && ruledB d.f1 d.f2.f0)) from rfl)
      go_upto_region 7 with (fail)
      have BD := Aside0.mk (blk_new wr (.cells #[.int .i64 d.f0, .string d.f1, .slice A2 d.f2.f0.length c2] 75))
      have BX1 := Aside0.mk (blk_alloc BX.out (.cells #[.int .i64 d.f0, .string d.f1, .slice A2 d.f2.f0.length c2] 75))
      have HB1 := Aside0.mk (below_alloc HB.out (.cells #[.int .i64 d.f0, .string d.f1, .slice A2 d.f2.f0.length c2] 75))
      go_cut [76] (fun v76 wc => v76 = .bool (!depB root d) ∧ Aside0 (wc.heap[w.heap.size]? = some (.cells #[.string m.f0, .int .i64 m.f1.f0, .int .i64 m.f1.f1, .int .i64 m.f1.f2, .string m.f1.f3, .slice (some ad) m.f2.length c5, .slice A6 m.f3.length c6] 27 (0, 0))) ∧ Aside0 (wc.heap[wr.heap.size]? = some (.cells #[.int .i64 d.f0, .string d.f1, .slice A2 d.f2.f0.length c2] 75 (0, 0))) ∧ Aside0 (Below w.heap.size w wc))
      case first =>
       have HU := Aside0.mk (fun W (h : Below w.heap.size w W) => ruled_walk d.f1 HDK.out.name A2 c2 d.f2.f0 HDK.out.range W (HGL.below h) (Kd.C_below HRC.out.2 h) HRC.out.1)
       generalize ruledB d.f1 d.f2.f0 = b at HU HDB
       by_cases h1 : d.f0 < 1
       · have H1 := Aside0.mk (decide_eq_false (show ¬ 1 ≤ d.f0 by omega))
         go_wp2
         go_meet
         case rel => exact ⟨by rw [HDB.out, H1.out]; rfl, BX1, BD, HB1⟩
       · have H1 := Aside0.mk (decide_eq_true (show 1 ≤ d.f0 by omega))
         by_cases h4 : d.f0 > 4
         · have H4 := Aside0.mk (decide_eq_false (show ¬ d.f0 ≤ 4 by omega))
           go_wp2
           go_meet
           case rel => exact ⟨by rw [HDB.out, H1.out, H4.out]; rfl, BX1, BD, HB1⟩
         · have H4 := Aside0.mk (decide_eq_true (show d.f0 ≤ 4 by omega))
           by_cases h2 : d.f0 = 2
           · have e2 : (d.f0 == 2) = true := beq_iff_eq.mpr h2
             have H2 := Aside0.mk (decide_eq_false (show ¬ d.f0 ≠ 2 by omega))
             clear h2
             cases root with
             | false =>
              go_wp2
              go_meet
              case rel => exact ⟨by rw [HDB.out, H1.out, H4.out, H2.out]; rfl, BX1, BD, HB1⟩
             | true =>
              cases b
              all_goals
               go_wp2_with (go_at_call 69; refine (HU.out _ HB1.out).mono ?_; rintro e w5 ⟨rfl, hb5⟩; have BX5 := Aside0.mk (blk_below BX1.out hb5); have BD5 := Aside0.mk (blk_below BD.out hb5); have HB5 := Aside0.mk (below_step HB1.out hb5); clear HU hb5)
               go_meet
               case rel => exact ⟨by rw [HDB.out, H1.out, H4.out, H2.out]; rfl, BX5, BD5, HB5⟩
           · have e2 : (d.f0 == 2) = false := beq_eq_false_iff_ne.mpr h2
             have H2 := Aside0.mk (decide_eq_true (show d.f0 ≠ 2 by omega))
             clear h2
             cases b
             all_goals
              go_wp2_with (go_at_call 69; refine (HU.out _ HB1.out).mono ?_; rintro e w5 ⟨rfl, hb5⟩; have BX5 := Aside0.mk (blk_below BX1.out hb5); have BD5 := Aside0.mk (blk_below BD.out hb5); have HB5 := Aside0.mk (below_step HB1.out hb5); clear HU hb5)
              go_meet
              case rel => exact ⟨by rw [HDB.out, H1.out, H4.out, H2.out]; rfl, BX5, BD5, HB5⟩
      case rest =>
       obtain ⟨rfl, BX, BD, HB⟩ := hcut
       clear BX1 HB1 d0 d1 d2 HDB
       cases hdb : depB root d with
       | false =>
        have HE := Aside0.mk (show manB root m = false from man_false2 (by rw [HT.out, HCA.out, hdb]; rfl))
        clear hdb
        go_wp2
        go_ret
        exact ⟨by rw [HE.out]; rfl, HB.out⟩
       | true =>
        have HDT := Aside0.mk hdb
        clear hdb
        obtain ⟨W0, rfl⟩ : ∃ W0, W0 = wc := ⟨_, rfl⟩
        by_cases hj0 : j = 0
        · subst hj0
          go_upto_region 9 with (fail)
          go_quiet (fail)
          go_wp2
          go_roundg (m.f2.length - (0 + 1) + 1)
          case measure => omega
          case rel => exact ⟨0 + 1, by omega, by omega, by go_num, ⟨by rw [HT.out, HCA.out, HDT.out]; rfl⟩, ⟨blk_drewN BX.out _⟩, ⟨pw_below_drewN HB.out _⟩⟩
        · obtain ⟨ad', A2', c2', e9, p0, p1, _, _⟩ := dep_at HR.out.dr HB.out (j - 1) (by omega)
          injection e9 with e9
          subst e9
          have HPV := Aside0.mk (prev_pos (l := m.f2) (i := j) (by omega) (by omega))
          generalize m.f2[j - 1] = p at p0 p1 HPV
          have q5 := blk_at BX.out 5 (v := .slice (some ad) m.f2.length c5) rfl
          have d0 := blk_at BD.out 0 (v := .int .i64 d.f0) rfl
          have d1 := blk_at BD.out 1 (v := .string d.f1) rfl
          have HS := Aside0.mk (fun W (h : Below W0.heap.size W0 W) => (⟨pw_cell_below h q5, pw_cell_below h p0, pw_cell_below h p1, pw_cell_below h d0, pw_cell_below h d1⟩ : W.cell? ⟨w.heap.size, 5, none⟩ = some (.slice (some ad) m.f2.length c5) ∧ W.cell? (ad.add ((j - 1) * 3)) = some (.int .i64 p.f0) ∧ W.cell? ⟨(ad.add ((j - 1) * 3)).block, (ad.add ((j - 1) * 3)).off + 1, none⟩ = some (.string p.f1) ∧ W.cell? ⟨wr.heap.size, 0, none⟩ = some (.int .i64 d.f0) ∧ W.cell? ⟨wr.heap.size, 1, none⟩ = some (.string d.f1)))
          have HK0 := Aside0.mk (below_drew (Below.refl W0.heap.size W0))
          clear p0 p1 q5 d0 d1
          have HLT := Aside0.mk (show depLt p d = decide (orI [cmpI p.f0 d.f0, cmpS p.f1 d.f1] < 0) from rfl)
          have HC0 := Aside0.mk (fun W => cmpK_walk p.f0 d.f0 W)
          have HC1 := Aside0.mk (fun W => cmpS_walk p.f1 d.f1 W)
          generalize cmpI p.f0 d.f0 = x0 at HC0 HLT
          generalize cmpS p.f1 d.f1 = x1 at HC1 HLT
          have HO := Aside0.mk (fun A c W h => or_walk A c [x0, x1] (by simp) W h)
          generalize orI [x0, x1] = o at HO HLT
          have t3 : IntKind.i64.wrap ((j : Int) - 1) = (j : Int) - 1 := IntWalk.i64_in _ (by omega)
          have t4 : 0 ≤ (j : Int) - 1 := by omega
          have t5 : ((j : Int) - 1).toNat = j - 1 := by omega
          have t6 : (j : Int) - 1 < (m.f2.length : Int) := by omega
          have t7 : decide (0 < (j : Int)) = true := decide_eq_true (by omega)
          have t9 : (1 : Int) ≤ (j : Int) := by omega
          have ta : (0 : Int) < (j : Int) := by omega
          have tb : (j : Int) < (m.f2.length : Int) + 1 := by omega
          have tc : (j : Int) ≤ (m.f2.length : Int) := by omega
          have t8 : decide (0 < j) = true := decide_eq_true (by omega)
          have HJ := Aside0.mk hj0
          clear hj0
          go_upto_region 9 with (fail)
          go_region_held3 (fun W => W.cell? ⟨w.heap.size, 5, none⟩ = some (.slice (some ad) m.f2.length c5) ∧ W.cell? (ad.add ((j - 1) * 3)) = some (.int .i64 p.f0) ∧ W.cell? ⟨(ad.add ((j - 1) * 3)).block, (ad.add ((j - 1) * 3)).off + 1, none⟩ = some (.string p.f1) ∧ W.cell? ⟨wr.heap.size, 0, none⟩ = some (.int .i64 d.f0) ∧ W.cell? ⟨wr.heap.size, 1, none⟩ = some (.string d.f1)) (first | (with_reducible exact HS.out _ HK4.out) | (with_reducible exact HS.out _ HK3.out) | (with_reducible exact HS.out _ HK2.out) | (with_reducible exact HS.out _ HK1.out) | (with_reducible exact HS.out _ HK0.out))
           (first
            | (go_at_call 71; refine (HC0.out _).mono ?_; rintro e w1 ⟨rfl, hb1⟩; have HK1 := Aside0.mk (below_step HK0.out hb1); clear HC0 hb1)
            | (go_at_call 72; refine (HC1.out _).mono ?_; rintro e w2 ⟨rfl, hb2⟩; have HK2 := Aside0.mk (below_step HK1.out hb2); have HK3 := Aside0.mk (below_alloc HK2.out (.cells #[.int .i64 x0, .int .i64 x1] 3)); clear HC1 hb2)
            | (go_at_call 70; refine (HO.out _ 2 _ (lit2_int _ x0 x1)).mono ?_; rintro e w4 ⟨rfl, hb4⟩; have HK4 := Aside0.mk (below_step HK3.out hb4); clear HO hb4))
          clear t3 t4 t5 t6 t7 t8 t9 ta tb tc
          have BX5 := Aside0.mk (blk_below BX.out HK4.out)
          have HB5 := Aside0.mk (below_step HB.out HK4.out)
          by_cases ho : o ≥ 0
          · have HE := Aside0.mk (show manB root m = false from man_false2 (by rw [HT.out, HCA.out, HPV.out]; show (depB root d && (depLt p d && _)) = false; rw [HLT.out, decide_eq_false (by omega)]; simp))
            go_wp2
            go_ret
            exact ⟨by rw [HE.out]; rfl, HB5.out⟩
          · have HE := Aside0.mk (show chainB (depB root) depLt none m.f2 = chainB (depB root) depLt (prevAt m.f2 (j + 1)) (m.f2.drop (j + 1)) by rw [HT.out, HCA.out, HPV.out, HDT.out]; show (true && (depLt p d && _)) = _; rw [HLT.out, decide_eq_true (by omega)]; rfl)
            go_wp2
            go_roundg (m.f2.length - (j + 1) + 1)
            case measure => omega
            case rel => exact ⟨j + 1, by omega, by omega, by go_num, HE, BX5, HB5⟩
    · have hje : j = m.f2.length := by omega
      subst hje
      have HTD := Aside0.mk (show chainB (depB root) depLt none m.f2 = true by rw [HT.out, List.drop_length]; unfold chainB; rfl)
      clear HT
      have HT0 := Aside0.mk (show chainB ruleB ruleLt none m.f3 = chainB ruleB ruleLt (prevAt m.f3 0) (m.f3.drop 0) by rw [List.drop_zero]; rfl)
      have x6 := blk_at BX.out 6 (v := .slice A6 m.f3.length c6) rfl
      go_wp2
      go_loopg [108] (m.f3.length + 1) (fun gg s108 wq => ∃ i : Nat, i ≤ m.f3.length ∧ m.f3.length - i < gg ∧ s108 = .int .i64 (i : Int) ∧ Aside0 (chainB ruleB ruleLt none m.f3 = chainB ruleB ruleLt (prevAt m.f3 i) (m.f3.drop i)) ∧ Aside0 (wq.heap[w.heap.size]? = some (.cells #[.string m.f0, .int .i64 m.f1.f0, .int .i64 m.f1.f1, .int .i64 m.f1.f2, .string m.f1.f3, .slice A5 m.f2.length c5, .slice A6 m.f3.length c6] 27 (0, 0))) ∧ Aside0 (Below w.heap.size w wq))
      case atStart => exact ⟨0, Nat.zero_le _, by omega, rfl, HT0, BX, HB⟩
      case round =>
       clear BX HB x6 HT0
       obtain ⟨i, hi1, hig, rfl, HT, BX, HB⟩ := hrel
       by_cases hlt : i < m.f3.length
       · obtain ⟨ad, A2, c2, rfl, d0, d1, hrc⟩ := rule_at HR.out.rr HB.out i hlt
         have ia : (i : Int) < (m.f3.length : Int) := by omega
         have hdk := HM.out.rules _ (List.getElem_mem hlt)
         have HCA := Aside0.mk (chain_at ruleB ruleLt hlt)
         generalize m.f3[i] = d at d0 d1 hrc hdk HCA
         have HRC := Aside0.mk hrc
         have HDK := Aside0.mk hdk
         clear hrc hdk
         have HDB := Aside0.mk (show ruleB d = ruledB d.f0 d.f1.f0 from rfl)
         have HU := Aside0.mk (fun W (h : Below w.heap.size w W) => ruled_walk d.f0 HDK.out.name A2 c2 d.f1.f0 HDK.out.range W (HGL.below h) (Kd.C_below HRC.out.2 h) HRC.out.1)
         generalize ruledB d.f0 d.f1.f0 = b at HU HDB
         go_upto_region 15 with (fail)
         have BD := Aside0.mk (blk_new wr (.cells #[.string d.f0, .slice A2 d.f1.f0.length c2] 78))
         have BX1 := Aside0.mk (blk_alloc BX.out (.cells #[.string d.f0, .slice A2 d.f1.f0.length c2] 78))
         have HB1 := Aside0.mk (below_alloc HB.out (.cells #[.string d.f0, .slice A2 d.f1.f0.length c2] 78))
         obtain ⟨W0, hW0⟩ : ∃ W0, wr.alloc (.cells #[.string d.f0, .slice A2 d.f1.f0.length c2] 78) = W0 := ⟨_, rfl⟩
         rw [hW0] at BD BX1 HB1 ⊢
         clear hW0 BX HB d0 d1
         cases b with
         | false =>
          have HE := Aside0.mk (show manB root m = false from man_false3 (by rw [HT.out, HCA.out, HDB.out]; rfl))
          have BX := BX1
          have HB := HB1
          clear BX1 HB1
          have n0_ := Aside0.mk (blk_drew BD.out)
          have n1_ := Aside0.mk (blk_below BX.out (below_drew (Below.refl _ _)))
          have n2_ := Aside0.mk (below_drew1 HB.out)
          clear BD BX HB
          have BD := n0_
          have BX := n1_
          have HB := n2_
          clear n0_ n1_ n2_
          refine start_ (n := 22) (S := fun w' => w'.cell? ⟨wr.heap.size, 0, none⟩ = some (.string d.f0) ∧ w'.cell? ⟨wr.heap.size, 1, none⟩ = some (.slice A2 d.f1.f0.length c2)) (ds := []) (bts 22 0) (by kernel_rfl) rfl (by kernel_rfl) ⟨(blk_cell BD.out 0).trans rfl, (blk_cell BD.out 1).trans rfl⟩ (fun hHeld => ?_)
          generalize W0.drew = wda1 at BD BX HB hHeld ⊢
          refine pure_ (i := 0) (N := some 113) (v := ?_) (a' := ?_) (bts 22 1) rfl rfl (by kernel_rfl) (fun _ _ _ h => h) (Or.inl ⟨by rfl, ?_⟩) ?_ ?_
          rotate_left
          · intro w'
            go_simp
            with_reducible rfl
          rotate_left
          · simp only [Act.put, List.setIfInBounds_toArray, List.set_cons_zero, List.set_cons_succ, i64_w, i32_w]
            rfl
          refine pure_ (i := 2) (N := some 115) (v := ?_) (a' := ?_) (bts 22 5) rfl rfl (by kernel_rfl) (fun _ _ _ h => h) (Or.inl ⟨by rfl, ?_⟩) ?_ ?_
          rotate_left
          · intro w'
            go_simp
            with_reducible rfl
          rotate_left
          · simp only [Act.put, List.setIfInBounds_toArray, List.set_cons_zero, List.set_cons_succ, i64_w, i32_w]
            rfl
          refine take_ (i := 1) (N := some 114) (v := ?_) (a' := ?_) (bts 22 7) rfl rfl (by kernel_rfl) (fun _ _ _ h => h) (Or.inl ⟨by rfl, ?_⟩) hHeld ?_ ?_
          rotate_left
          · intro w'
            rintro ⟨s0, s1⟩
            go_simp
            with_reducible rfl
          rotate_left
          · simp only [Act.put, List.setIfInBounds_toArray, List.set_cons_zero, List.set_cons_succ, i64_w, i32_w]
            rfl
          refine take_ (i := 3) (N := some 116) (v := ?_) (a' := ?_) (bts 22 15) rfl rfl (by kernel_rfl) (fun _ _ _ h => h) (Or.inl ⟨by rfl, ?_⟩) hHeld ?_ ?_
          rotate_left
          · intro w'
            rintro ⟨s0, s1⟩
            go_simp
            with_reducible rfl
          rotate_left
          · simp only [Act.put, List.setIfInBounds_toArray, List.set_cons_zero, List.set_cons_succ, i64_w, i32_w]
            rfl
          refine one_ (i := 4) (N := some 117) (bts 22 31) rfl rfl (by kernel_rfl) (by decide) (fun K hK => ?_)
          refine goes_ Tryz.func69 (by kernel_rfl) rfl #[.string d.f0, .agg #[.slice A2 d.f1.f0.length c2]] (by rfl) rfl rfl (by (try simp only [List.map_toArray, List.map_cons, List.map_nil]); first | done | rfl) ?_
          refine (HU.out _ HB.out).mono ?_
          rintro e wda2 ⟨rfl, hb⟩
          have n0_ := Aside0.mk (blk_below BD.out hb)
          have n1_ := Aside0.mk (blk_below BX.out hb)
          have n2_ := Aside0.mk (below_step HB.out hb)
          clear BD BX HB hb
          have BD := n0_
          have BX := n1_
          have HB := n2_
          clear n0_ n1_ n2_
          refine ⟨_, rfl, ?_⟩
          refine hK.out _ _ ⟨(blk_cell BD.out 0).trans rfl, (blk_cell BD.out 1).trans rfl⟩ (fun hHeld => ?_)
          clear hK K
          refine norm_ (a' := ?_) ?_ ?_
          rotate_left
          · show Act.put _ (some 117) _ = _
            simp only [Act.put, List.setIfInBounds_toArray, List.set_cons_zero, List.set_cons_succ, i64_w, i32_w]
            rfl
          refine pure_ (i := 5) (N := some 118) (v := ?_) (a' := ?_) (bts 22 63) rfl rfl (by kernel_rfl) (fun _ _ _ h => h) (Or.inl ⟨by rfl, ?_⟩) ?_ ?_
          rotate_left
          · intro w'
            go_simp
            with_reducible rfl
          rotate_left
          · simp only [Act.put, List.setIfInBounds_toArray, List.set_cons_zero, List.set_cons_succ, i64_w, i32_w]
            rfl
          refine pure_ (i := 6) (N := some 119) (v := ?_) (a' := ?_) (bts 22 127) rfl rfl (by kernel_rfl) (fun _ _ _ h => h) (Or.inl ⟨by rfl, ?_⟩) ?_ ?_
          rotate_left
          · intro w'
            go_simp
            with_reducible rfl
          rotate_left
          · simp only [Act.put, List.setIfInBounds_toArray, List.set_cons_zero, List.set_cons_succ, i64_w, i32_w]
            rfl
          refine pure_ (i := 7) (N := some 120) (v := undef) (a' := ?_) (bts 22 255) rfl rfl (by kernel_rfl) (fun _ _ _ h => h) (Or.inr ⟨by rfl, rfl⟩) ?_ ?_
          rotate_left
          · simp only [Act.put, List.setIfInBounds_toArray, List.set_cons_zero, List.set_cons_succ, i64_w, i32_w]
            rfl
          refine pure_ (i := 8) (N := some 121) (v := undef) (a' := ?_) (bts 22 511) rfl rfl (by kernel_rfl) (fun _ _ _ h => h) (Or.inr ⟨by rfl, rfl⟩) ?_ ?_
          rotate_left
          · simp only [Act.put, List.setIfInBounds_toArray, List.set_cons_zero, List.set_cons_succ, i64_w, i32_w]
            rfl
          refine pure_ (i := 9) (N := some 122) (v := undef) (a' := ?_) (bts 22 1023) rfl rfl (by kernel_rfl) (fun _ _ _ h => h) (Or.inr ⟨by rfl, rfl⟩) ?_ ?_
          rotate_left
          · simp only [Act.put, List.setIfInBounds_toArray, List.set_cons_zero, List.set_cons_succ, i64_w, i32_w]
            rfl
          refine pure_ (i := 10) (N := some 123) (v := undef) (a' := ?_) (bts 22 2047) rfl rfl (by kernel_rfl) (fun _ _ _ h => h) (Or.inr ⟨by rfl, rfl⟩) ?_ ?_
          rotate_left
          · simp only [Act.put, List.setIfInBounds_toArray, List.set_cons_zero, List.set_cons_succ, i64_w, i32_w]
            rfl
          refine pure_ (i := 11) (N := some 124) (v := undef) (a' := ?_) (bts 22 4095) rfl rfl (by kernel_rfl) (fun _ _ _ h => h) (Or.inr ⟨by rfl, rfl⟩) ?_ ?_
          rotate_left
          · simp only [Act.put, List.setIfInBounds_toArray, List.set_cons_zero, List.set_cons_succ, i64_w, i32_w]
            rfl
          refine pure_ (i := 12) (N := some 125) (v := undef) (a' := ?_) (bts 22 8191) rfl rfl (by kernel_rfl) (fun _ _ _ h => h) (Or.inr ⟨by rfl, rfl⟩) ?_ ?_
          rotate_left
          · simp only [Act.put, List.setIfInBounds_toArray, List.set_cons_zero, List.set_cons_succ, i64_w, i32_w]
            rfl
          refine pure_ (i := 13) (N := some 126) (v := undef) (a' := ?_) (bts 22 16383) rfl rfl (by kernel_rfl) (fun _ _ _ h => h) (Or.inr ⟨by rfl, rfl⟩) ?_ ?_
          rotate_left
          · simp only [Act.put, List.setIfInBounds_toArray, List.set_cons_zero, List.set_cons_succ, i64_w, i32_w]
            rfl
          refine pure_ (i := 14) (N := some 127) (v := undef) (a' := ?_) (bts 22 32767) rfl rfl (by kernel_rfl) (fun _ _ _ h => h) (Or.inr ⟨by rfl, rfl⟩) ?_ ?_
          rotate_left
          · simp only [Act.put, List.setIfInBounds_toArray, List.set_cons_zero, List.set_cons_succ, i64_w, i32_w]
            rfl
          refine pure_ (i := 15) (N := some 128) (v := undef) (a' := ?_) (bts 22 65535) rfl rfl (by kernel_rfl) (fun _ _ _ h => h) (Or.inr ⟨by rfl, rfl⟩) ?_ ?_
          rotate_left
          · simp only [Act.put, List.setIfInBounds_toArray, List.set_cons_zero, List.set_cons_succ, i64_w, i32_w]
            rfl
          refine pure_ (i := 16) (N := some 129) (v := undef) (a' := ?_) (bts 22 131071) rfl rfl (by kernel_rfl) (fun _ _ _ h => h) (Or.inr ⟨by rfl, rfl⟩) ?_ ?_
          rotate_left
          · simp only [Act.put, List.setIfInBounds_toArray, List.set_cons_zero, List.set_cons_succ, i64_w, i32_w]
            rfl
          refine pure_ (i := 17) (N := some 130) (v := undef) (a' := ?_) (bts 22 262143) rfl rfl (by kernel_rfl) (fun _ _ _ h => h) (Or.inr ⟨by rfl, rfl⟩) ?_ ?_
          rotate_left
          · simp only [Act.put, List.setIfInBounds_toArray, List.set_cons_zero, List.set_cons_succ, i64_w, i32_w]
            rfl
          refine pure_ (i := 18) (N := some 131) (v := undef) (a' := ?_) (bts 22 524287) rfl rfl (by kernel_rfl) (fun _ _ _ h => h) (Or.inr ⟨by rfl, rfl⟩) ?_ ?_
          rotate_left
          · simp only [Act.put, List.setIfInBounds_toArray, List.set_cons_zero, List.set_cons_succ, i64_w, i32_w]
            rfl
          refine pure_ (i := 19) (N := some 132) (v := undef) (a' := ?_) (bts 22 1048575) rfl rfl (by kernel_rfl) (fun _ _ _ h => h) (Or.inr ⟨by rfl, rfl⟩) ?_ ?_
          rotate_left
          · simp only [Act.put, List.setIfInBounds_toArray, List.set_cons_zero, List.set_cons_succ, i64_w, i32_w]
            rfl
          refine pure_ (i := 20) (N := some 133) (v := undef) (a' := ?_) (bts 22 2097151) rfl rfl (by kernel_rfl) (fun _ _ _ h => h) (Or.inr ⟨by rfl, rfl⟩) ?_ ?_
          rotate_left
          · simp only [Act.put, List.setIfInBounds_toArray, List.set_cons_zero, List.set_cons_succ, i64_w, i32_w]
            rfl
          refine pure_ (i := 21) (N := some 134) (v := ?_) (a' := ?_) (bts 22 4194303) rfl rfl (by kernel_rfl) (fun _ _ _ h => h) (Or.inl ⟨by rfl, ?_⟩) ?_ ?_
          rotate_left
          · intro w'
            go_simp
            with_reducible rfl
          rotate_left
          · simp only [Act.put, List.setIfInBounds_toArray, List.set_cons_zero, List.set_cons_succ, i64_w, i32_w]
            rfl
          refine done_ (by kernel_rfl) ?_
          go_wp2
          go_ret
          exact ⟨by rw [HE.out]; rfl, HB.out⟩
         | true =>
          by_cases hi0 : i = 0
          · subst hi0
            have BX := BX1
            have HB := HB1
            clear BX1 HB1
            have n0_ := Aside0.mk (blk_drew BD.out)
            have n1_ := Aside0.mk (blk_below BX.out (below_drew (Below.refl _ _)))
            have n2_ := Aside0.mk (below_drew1 HB.out)
            clear BD BX HB
            have BD := n0_
            have BX := n1_
            have HB := n2_
            clear n0_ n1_ n2_
            refine start_ (n := 22) (S := fun w' => w'.cell? ⟨wr.heap.size, 0, none⟩ = some (.string d.f0) ∧ w'.cell? ⟨wr.heap.size, 1, none⟩ = some (.slice A2 d.f1.f0.length c2)) (ds := []) (bts 22 0) (by kernel_rfl) rfl (by kernel_rfl) ⟨(blk_cell BD.out 0).trans rfl, (blk_cell BD.out 1).trans rfl⟩ (fun hHeld => ?_)
            generalize W0.drew = wdb1 at BD BX HB hHeld ⊢
            refine pure_ (i := 0) (N := some 113) (v := ?_) (a' := ?_) (bts 22 1) rfl rfl (by kernel_rfl) (fun _ _ _ h => h) (Or.inl ⟨by rfl, ?_⟩) ?_ ?_
            rotate_left
            · intro w'
              go_simp
              with_reducible rfl
            rotate_left
            · simp only [Act.put, List.setIfInBounds_toArray, List.set_cons_zero, List.set_cons_succ, i64_w, i32_w]
              rfl
            refine pure_ (i := 2) (N := some 115) (v := ?_) (a' := ?_) (bts 22 5) rfl rfl (by kernel_rfl) (fun _ _ _ h => h) (Or.inl ⟨by rfl, ?_⟩) ?_ ?_
            rotate_left
            · intro w'
              go_simp
              with_reducible rfl
            rotate_left
            · simp only [Act.put, List.setIfInBounds_toArray, List.set_cons_zero, List.set_cons_succ, i64_w, i32_w]
              rfl
            refine take_ (i := 1) (N := some 114) (v := ?_) (a' := ?_) (bts 22 7) rfl rfl (by kernel_rfl) (fun _ _ _ h => h) (Or.inl ⟨by rfl, ?_⟩) hHeld ?_ ?_
            rotate_left
            · intro w'
              rintro ⟨s0, s1⟩
              go_simp
              with_reducible rfl
            rotate_left
            · simp only [Act.put, List.setIfInBounds_toArray, List.set_cons_zero, List.set_cons_succ, i64_w, i32_w]
              rfl
            refine take_ (i := 3) (N := some 116) (v := ?_) (a' := ?_) (bts 22 15) rfl rfl (by kernel_rfl) (fun _ _ _ h => h) (Or.inl ⟨by rfl, ?_⟩) hHeld ?_ ?_
            rotate_left
            · intro w'
              rintro ⟨s0, s1⟩
              go_simp
              with_reducible rfl
            rotate_left
            · simp only [Act.put, List.setIfInBounds_toArray, List.set_cons_zero, List.set_cons_succ, i64_w, i32_w]
              rfl
            refine one_ (i := 4) (N := some 117) (bts 22 31) rfl rfl (by kernel_rfl) (by decide) (fun K hK => ?_)
            refine goes_ Tryz.func69 (by kernel_rfl) rfl #[.string d.f0, .agg #[.slice A2 d.f1.f0.length c2]] (by rfl) rfl rfl (by (try simp only [List.map_toArray, List.map_cons, List.map_nil]); first | done | rfl) ?_
            refine (HU.out _ HB.out).mono ?_
            rintro e wdb2 ⟨rfl, hb⟩
            have n0_ := Aside0.mk (blk_below BD.out hb)
            have n1_ := Aside0.mk (blk_below BX.out hb)
            have n2_ := Aside0.mk (below_step HB.out hb)
            clear BD BX HB hb
            have BD := n0_
            have BX := n1_
            have HB := n2_
            clear n0_ n1_ n2_
            refine ⟨_, rfl, ?_⟩
            refine hK.out _ _ ⟨(blk_cell BD.out 0).trans rfl, (blk_cell BD.out 1).trans rfl⟩ (fun hHeld => ?_)
            clear hK K
            refine norm_ (a' := ?_) ?_ ?_
            rotate_left
            · show Act.put _ (some 117) _ = _
              simp only [Act.put, List.setIfInBounds_toArray, List.set_cons_zero, List.set_cons_succ, i64_w, i32_w]
              rfl
            refine pure_ (i := 5) (N := some 118) (v := ?_) (a' := ?_) (bts 22 63) rfl rfl (by kernel_rfl) (fun _ _ _ h => h) (Or.inl ⟨by rfl, ?_⟩) ?_ ?_
            rotate_left
            · intro w'
              go_simp
              with_reducible rfl
            rotate_left
            · simp only [Act.put, List.setIfInBounds_toArray, List.set_cons_zero, List.set_cons_succ, i64_w, i32_w]
              rfl
            refine pure_ (i := 6) (N := some 119) (v := ?_) (a' := ?_) (bts 22 127) rfl rfl (by kernel_rfl) (fun _ _ _ h => h) (Or.inl ⟨by rfl, ?_⟩) ?_ ?_
            rotate_left
            · intro w'
              go_simp
              with_reducible rfl
            rotate_left
            · simp only [Act.put, List.setIfInBounds_toArray, List.set_cons_zero, List.set_cons_succ, i64_w, i32_w]
              rfl
            refine pure_ (i := 7) (N := some 120) (v := ?_) (a' := ?_) (bts 22 255) rfl rfl (by kernel_rfl) (fun _ _ _ h => h) (Or.inl ⟨by rfl, ?_⟩) ?_ ?_
            rotate_left
            · intro w'
              go_simp
              with_reducible rfl
            rotate_left
            · simp only [Act.put, List.setIfInBounds_toArray, List.set_cons_zero, List.set_cons_succ, i64_w, i32_w]
              rfl
            refine pure_ (i := 8) (N := some 121) (v := ?_) (a' := ?_) (bts 22 511) rfl rfl (by kernel_rfl) (fun _ _ _ h => h) (Or.inl ⟨by rfl, ?_⟩) ?_ ?_
            rotate_left
            · intro w'
              go_simp
              with_reducible rfl
            rotate_left
            · simp only [Act.put, List.setIfInBounds_toArray, List.set_cons_zero, List.set_cons_succ, i64_w, i32_w]
              rfl
            refine pure_ (i := 9) (N := some 122) (v := ?_) (a' := ?_) (bts 22 1023) rfl rfl (by kernel_rfl) (fun _ _ _ h => h) (Or.inl ⟨by rfl, ?_⟩) ?_ ?_
            rotate_left
            · intro w'
              go_simp
              with_reducible rfl
            rotate_left
            · simp only [Act.put, List.setIfInBounds_toArray, List.set_cons_zero, List.set_cons_succ, i64_w, i32_w]
              rfl
            refine pure_ (i := 10) (N := some 123) (v := undef) (a' := ?_) (bts 22 2047) rfl rfl (by kernel_rfl) (fun _ _ _ h => h) (Or.inr ⟨by rfl, rfl⟩) ?_ ?_
            rotate_left
            · simp only [Act.put, List.setIfInBounds_toArray, List.set_cons_zero, List.set_cons_succ, i64_w, i32_w]
              rfl
            refine pure_ (i := 11) (N := some 124) (v := undef) (a' := ?_) (bts 22 4095) rfl rfl (by kernel_rfl) (fun _ _ _ h => h) (Or.inr ⟨by rfl, rfl⟩) ?_ ?_
            rotate_left
            · simp only [Act.put, List.setIfInBounds_toArray, List.set_cons_zero, List.set_cons_succ, i64_w, i32_w]
              rfl
            refine pure_ (i := 12) (N := some 125) (v := undef) (a' := ?_) (bts 22 8191) rfl rfl (by kernel_rfl) (fun _ _ _ h => h) (Or.inr ⟨by rfl, rfl⟩) ?_ ?_
            rotate_left
            · simp only [Act.put, List.setIfInBounds_toArray, List.set_cons_zero, List.set_cons_succ, i64_w, i32_w]
              rfl
            refine pure_ (i := 13) (N := some 126) (v := undef) (a' := ?_) (bts 22 16383) rfl rfl (by kernel_rfl) (fun _ _ _ h => h) (Or.inr ⟨by rfl, rfl⟩) ?_ ?_
            rotate_left
            · simp only [Act.put, List.setIfInBounds_toArray, List.set_cons_zero, List.set_cons_succ, i64_w, i32_w]
              rfl
            refine pure_ (i := 14) (N := some 127) (v := undef) (a' := ?_) (bts 22 32767) rfl rfl (by kernel_rfl) (fun _ _ _ h => h) (Or.inr ⟨by rfl, rfl⟩) ?_ ?_
            rotate_left
            · simp only [Act.put, List.setIfInBounds_toArray, List.set_cons_zero, List.set_cons_succ, i64_w, i32_w]
              rfl
            refine pure_ (i := 15) (N := some 128) (v := undef) (a' := ?_) (bts 22 65535) rfl rfl (by kernel_rfl) (fun _ _ _ h => h) (Or.inr ⟨by rfl, rfl⟩) ?_ ?_
            rotate_left
            · simp only [Act.put, List.setIfInBounds_toArray, List.set_cons_zero, List.set_cons_succ, i64_w, i32_w]
              rfl
            refine pure_ (i := 16) (N := some 129) (v := undef) (a' := ?_) (bts 22 131071) rfl rfl (by kernel_rfl) (fun _ _ _ h => h) (Or.inr ⟨by rfl, rfl⟩) ?_ ?_
            rotate_left
            · simp only [Act.put, List.setIfInBounds_toArray, List.set_cons_zero, List.set_cons_succ, i64_w, i32_w]
              rfl
            refine pure_ (i := 17) (N := some 130) (v := undef) (a' := ?_) (bts 22 262143) rfl rfl (by kernel_rfl) (fun _ _ _ h => h) (Or.inr ⟨by rfl, rfl⟩) ?_ ?_
            rotate_left
            · simp only [Act.put, List.setIfInBounds_toArray, List.set_cons_zero, List.set_cons_succ, i64_w, i32_w]
              rfl
            refine pure_ (i := 18) (N := some 131) (v := undef) (a' := ?_) (bts 22 524287) rfl rfl (by kernel_rfl) (fun _ _ _ h => h) (Or.inr ⟨by rfl, rfl⟩) ?_ ?_
            rotate_left
            · simp only [Act.put, List.setIfInBounds_toArray, List.set_cons_zero, List.set_cons_succ, i64_w, i32_w]
              rfl
            refine pure_ (i := 19) (N := some 132) (v := undef) (a' := ?_) (bts 22 1048575) rfl rfl (by kernel_rfl) (fun _ _ _ h => h) (Or.inr ⟨by rfl, rfl⟩) ?_ ?_
            rotate_left
            · simp only [Act.put, List.setIfInBounds_toArray, List.set_cons_zero, List.set_cons_succ, i64_w, i32_w]
              rfl
            refine pure_ (i := 20) (N := some 133) (v := ?_) (a' := ?_) (bts 22 2097151) rfl rfl (by kernel_rfl) (fun _ _ _ h => h) (Or.inl ⟨by rfl, ?_⟩) ?_ ?_
            rotate_left
            · intro w'
              go_simp
              with_reducible rfl
            rotate_left
            · simp only [Act.put, List.setIfInBounds_toArray, List.set_cons_zero, List.set_cons_succ, i64_w, i32_w]
              rfl
            refine pure_ (i := 21) (N := some 134) (v := ?_) (a' := ?_) (bts 22 4194303) rfl rfl (by kernel_rfl) (fun _ _ _ h => h) (Or.inl ⟨by rfl, ?_⟩) ?_ ?_
            rotate_left
            · intro w'
              go_simp
              with_reducible rfl
            rotate_left
            · simp only [Act.put, List.setIfInBounds_toArray, List.set_cons_zero, List.set_cons_succ, i64_w, i32_w]
              rfl
            refine done_ (by kernel_rfl) ?_
            go_wp2
            go_roundg (m.f3.length - (0 + 1) + 1)
            case measure => omega
            case rel => exact ⟨0 + 1, by omega, by omega, by go_num, ⟨by rw [HT.out, HCA.out, HDB.out]; rfl⟩, BX, HB⟩
          · obtain ⟨ad', A2', c2', e9, p0, _, _⟩ := rule_at HR.out.rr HB1.out (i - 1) (by omega)
            injection e9 with e9
            subst e9
            have HPV := Aside0.mk (prev_pos (l := m.f3) (i := i) (by omega) (by omega))
            generalize m.f3[i - 1] = p at p0 HPV
            have q6 := blk_at BX1.out 6 (v := .slice (some ad) m.f3.length c6) rfl
            have d0 := blk_at BD.out 0 (v := .string d.f0) rfl
            have d1 := blk_at BD.out 1 (v := .slice A2 d.f1.f0.length c2) rfl
            have HS := Aside0.mk (fun W (h : Below W0.heap.size W0 W) => (⟨pw_cell_below h q6, pw_cell_below h p0, pw_cell_below h d0, pw_cell_below h d1⟩ : W.cell? ⟨w.heap.size, 6, none⟩ = some (.slice (some ad) m.f3.length c6) ∧ W.cell? (ad.add ((i - 1) * 2)) = some (.string p.f0) ∧ W.cell? ⟨wr.heap.size, 0, none⟩ = some (.string d.f0) ∧ W.cell? ⟨wr.heap.size, 1, none⟩ = some (.slice A2 d.f1.f0.length c2)))
            have HK0 := Aside0.mk (below_drew (Below.refl W0.heap.size W0))
            clear p0 q6 d0 d1
            have HLT := Aside0.mk (show ruleLt p d = Op.bytesLess p.f0.toList d.f0.toList from rfl)
            obtain ⟨bl, hbl⟩ : ∃ bl, Op.bytesLess p.f0.toList d.f0.toList = bl := ⟨_, rfl⟩
            rw [hbl] at HLT
            have t3 : IntKind.i64.wrap ((i : Int) - 1) = (i : Int) - 1 := IntWalk.i64_in _ (by omega)
            have t4 : 0 ≤ (i : Int) - 1 := by omega
            have t5 : ((i : Int) - 1).toNat = i - 1 := by omega
            have t6 : (i : Int) - 1 < (m.f3.length : Int) := by omega
            have t7 : decide (0 < (i : Int)) = true := decide_eq_true (by omega)
            have t9 : (1 : Int) ≤ (i : Int) := by omega
            have ta : (0 : Int) < (i : Int) := by omega
            have tb : (i : Int) < (m.f3.length : Int) + 1 := by omega
            have tc : (i : Int) ≤ (m.f3.length : Int) := by omega
            have t8 : decide (0 < i) = true := decide_eq_true (by omega)
            have HJ := Aside0.mk hi0
            clear hi0
            go_region_held3 (fun W => W.cell? ⟨w.heap.size, 6, none⟩ = some (.slice (some ad) m.f3.length c6) ∧ W.cell? (ad.add ((i - 1) * 2)) = some (.string p.f0) ∧ W.cell? ⟨wr.heap.size, 0, none⟩ = some (.string d.f0) ∧ W.cell? ⟨wr.heap.size, 1, none⟩ = some (.slice A2 d.f1.f0.length c2)) (first | (with_reducible exact HS.out _ HK4.out) | (with_reducible exact HS.out _ HK3.out) | (with_reducible exact HS.out _ HK2.out) | (with_reducible exact HS.out _ HK1.out) | (with_reducible exact HS.out _ HK0.out))
             ((go_at_call 69; refine (HU.out _ (below_step HB1.out HK0.out)).mono ?_; rintro e w1 ⟨rfl, hb1⟩; have HK1 := Aside0.mk (below_step HK0.out hb1); clear HU hb1))
            clear t3 t4 t5 t6 t7 t8 t9 ta tb tc
            have BX5 := Aside0.mk (blk_below BX1.out HK1.out)
            have HB5 := Aside0.mk (below_step HB1.out HK1.out)
            cases bl with
            | false =>
             have HE := Aside0.mk (show manB root m = false from man_false3 (by rw [HT.out, HCA.out, HPV.out]; show (ruleB d && (ruleLt p d && _)) = false; rw [HLT.out]; simp))
             go_wp2
             go_ret
             exact ⟨by rw [HE.out]; rfl, HB5.out⟩
            | true =>
             have HE := Aside0.mk (show chainB ruleB ruleLt none m.f3 = chainB ruleB ruleLt (prevAt m.f3 (i + 1)) (m.f3.drop (i + 1)) by rw [HT.out, HCA.out, HPV.out, HDB.out]; show (true && (ruleLt p d && _)) = _; rw [HLT.out]; rfl)
             go_wp2
             go_roundg (m.f3.length - (i + 1) + 1)
             case measure => omega
             case rel => exact ⟨i + 1, by omega, by omega, by go_num, HE, BX5, HB5⟩
       · have hie : i = m.f3.length := by omega
         subst hie
         have HE := Aside0.mk (show manB root m = true by
          have h3 : chainB ruleB ruleLt none m.f3 = true := by rw [HT.out, List.drop_length]; unfold chainB; rfl
          unfold manB; rw [HH.out, HTD.out, h3]; rfl)
         go_wp2
         go_ret
         exact ⟨by rw [HE.out]; rfl, HB.out⟩
set_option maxRecDepth 100000 in
set_option maxHeartbeats 4000000 in
theorem man_check_walk (m : S27) (A5 : Option Addr) (c5 : Nat) (A6 : Option Addr) (c6 : Nat) (root : Bool) (hm : MOk m) (w : World) (HGL : Glob w) (hr : ManC w A5 c5 A6 c6 m) :
 Calls Tryz.prog 22 #[.agg #[.string m.f0, .int .i64 m.f1.f0, .int .i64 m.f1.f1, .int .i64 m.f1.f2, .string m.f1.f3, .slice A5 m.f2.length c5, .slice A6 m.f3.length c6], .bool root] w fun e w' => e = .returned (.int .i64 (manI root m)) ∧ Below w.heap.size w w' := by
 have HB := Aside0.mk (below_alloc (Below.refl w.heap.size w) (.cells #[.string m.f0, .int .i64 m.f1.f0, .int .i64 m.f1.f1, .int .i64 m.f1.f2, .string m.f1.f3, .slice A5 m.f2.length c5, .slice A6 m.f3.length c6] 27))
 have HW := Aside0.mk (man_right_walk m A5 c5 A6 c6 root hm _ (HGL.below HB.out) (hr.below HB.out))
 have hdl := hm.dlen
 have hrl := hm.rlen
 clear hm hr
 unfold manI
 by_cases h1 : (m.f2.length : Int) > 30
 · rw [if_pos (.inl (by omega))]
   go_enter Tryz.func22, Tryz.ntmps22
   go_wp2
   go_ret
   exact ⟨rfl, HB.out⟩
 · by_cases h2 : (m.f3.length : Int) > 30
   · rw [if_pos (.inr (by omega))]
     go_enter Tryz.func22, Tryz.ntmps22
     go_wp2
     go_ret
     exact ⟨rfl, HB.out⟩
   · rw [if_neg (by omega)]
     generalize manB root m = b at HW
     cases b
     all_goals
      go_enter Tryz.func22, Tryz.ntmps22
      go_wp2_with (go_at_call 45; refine HW.out.mono ?_; rintro e w5 ⟨rfl, hb5⟩; have HB5 := Aside0.mk (below_step HB.out hb5); clear HW hb5)
      go_ret
      exact ⟨rfl, HB5.out⟩
end Go.Proofs.YteinkjhimceljaaGreatDoor.J
