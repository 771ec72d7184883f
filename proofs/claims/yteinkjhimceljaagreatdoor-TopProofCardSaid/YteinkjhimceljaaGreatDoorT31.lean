/- span.holds, span.near and span.Holds, walked. -/
import Derived.Test.YteinkjhimceljaaGreatDoorT18
import Derived.Test.YteinkjhimceljaaGreatDoorT30
namespace Go.Proofs.YteinkjhimceljaaGreatDoor.J
open Go Go.RowKit Go.Shelf Go.Proofs.YteinkjhimceljaaGreatDoorW.PrintWords Go.Proofs.YteinkjhimceljaaGreatDoorW.PrintLast Go.Proofs.YteinkjhimceljaaGreatDoorW.PrintMore
set_option linter.unusedVariables false
set_option linter.unusedSimpArgs false
theorem ord_equal (n : Int) (w : World) : Calls Tryz.prog 114 #[.int .i64 n] w fun e w' => e = .returned (.bool (decide (n = 0))) ∧ w' = w := by
 go_enter Tryz.func114, Tryz.ntmps114
 go_wp2
 go_ret
 exact ⟨rfl, rfl⟩
theorem ord_below (n : Int) (w : World) : Calls Tryz.prog 115 #[.int .i64 n] w fun e w' => e = .returned (.bool (decide (n < 0))) ∧ w' = w := by
 go_enter Tryz.func115, Tryz.ntmps115
 go_wp2
 go_ret
 exact ⟨rfl, rfl⟩
theorem ord_most (n : Int) (w : World) : Calls Tryz.prog 116 #[.int .i64 n] w fun e w' => e = .returned (.bool (decide (n ≤ 0))) ∧ w' = w := by
 go_enter Tryz.func116, Tryz.ntmps116
 go_wp2
 go_ret
 exact ⟨rfl, rfl⟩
theorem ord_above (n : Int) (w : World) : Calls Tryz.prog 117 #[.int .i64 n] w fun e w' => e = .returned (.bool (decide (n > 0))) ∧ w' = w := by
 go_enter Tryz.func117, Tryz.ntmps117
 go_wp2
 go_ret
 exact ⟨rfl, rfl⟩
theorem ord_least (n : Int) (w : World) : Calls Tryz.prog 113 #[.int .i64 n] w fun e w' => e = .returned (.bool (decide (n ≥ 0))) ∧ w' = w := by
 go_enter Tryz.func113, Tryz.ntmps113
 go_wp2
 go_ret
 exact ⟨rfl, rfl⟩
set_option maxRecDepth 100000 in
set_option maxHeartbeats 4000000 in
theorem bound_walk (b : S112) (v : S23) (hb : b.f1.f3.size ≤ 1000) (hv : v.f3.size ≤ 1000) (w : World) (HGL : Glob w) :
 Calls Tryz.prog 84 #[.agg #[.int .i64 b.f0, .int .i64 b.f1.f0, .int .i64 b.f1.f1, .int .i64 b.f1.f2, .string b.f1.f3], .agg #[.int .i64 v.f0, .int .i64 v.f1, .int .i64 v.f2, .string v.f3]] w fun e w' => e = .returned (.bool (boundHolds b v)) ∧ Below w.heap.size w w' := by
 have HB := Aside0.mk (below_alloc (below_alloc (Below.refl w.heap.size w) (.cells #[.int .i64 b.f0, .int .i64 b.f1.f0, .int .i64 b.f1.f1, .int .i64 b.f1.f2, .string b.f1.f3] 112)) (.cells #[.int .i64 v.f0, .int .i64 v.f1, .int .i64 v.f2, .string v.f3] 23))
 have HC := Aside0.mk (compare_walk v b.f1 hv hb _ (HGL.below HB.out))
 clear hb hv
 unfold boundHolds
 generalize compareI v b.f1 = n at HC
 by_cases h1 : b.f0 = 1
 · have e1 : (b.f0 == 1) = true := beq_iff_eq.mpr h1
   rw [if_pos h1]
   clear h1
   go_enter Tryz.func84, Tryz.ntmps84
   go_wp2_with (first | (go_at_call 73; refine HC.out.mono ?_; rintro e w4 ⟨rfl, hb4⟩; have HB4 := Aside0.mk (below_step HB.out hb4); clear HC hb4) | (go_at_call 114; refine (ord_equal _ _).mono ?_; rintro e w5 ⟨rfl, rfl⟩))
   go_ret
   exact ⟨rfl, HB4.out⟩
 · have e1 : (b.f0 == 1) = false := beq_eq_false_iff_ne.mpr h1
   rw [if_neg h1]
   clear h1
   by_cases h2 : b.f0 = 2
   · have e2 : (b.f0 == 2) = true := beq_iff_eq.mpr h2
     rw [if_pos h2]
     clear h2
     go_enter Tryz.func84, Tryz.ntmps84
     go_wp2_with (first | (go_at_call 73; refine HC.out.mono ?_; rintro e w4 ⟨rfl, hb4⟩; have HB4 := Aside0.mk (below_step HB.out hb4); clear HC hb4) | (go_at_call 115; refine (ord_below _ _).mono ?_; rintro e w5 ⟨rfl, rfl⟩))
     go_ret
     exact ⟨rfl, HB4.out⟩
   · have e2 : (b.f0 == 2) = false := beq_eq_false_iff_ne.mpr h2
     rw [if_neg h2]
     clear h2
     by_cases h3 : b.f0 = 3
     · have e3 : (b.f0 == 3) = true := beq_iff_eq.mpr h3
       rw [if_pos h3]
       clear h3
       go_enter Tryz.func84, Tryz.ntmps84
       go_wp2_with (first | (go_at_call 73; refine HC.out.mono ?_; rintro e w4 ⟨rfl, hb4⟩; have HB4 := Aside0.mk (below_step HB.out hb4); clear HC hb4) | (go_at_call 116; refine (ord_most _ _).mono ?_; rintro e w5 ⟨rfl, rfl⟩))
       go_ret
       exact ⟨rfl, HB4.out⟩
     · have e3 : (b.f0 == 3) = false := beq_eq_false_iff_ne.mpr h3
       rw [if_neg h3]
       clear h3
       by_cases h4 : b.f0 = 4
       · have e4 : (b.f0 == 4) = true := beq_iff_eq.mpr h4
         rw [if_pos h4]
         clear h4
         go_enter Tryz.func84, Tryz.ntmps84
         go_wp2_with (first | (go_at_call 73; refine HC.out.mono ?_; rintro e w4 ⟨rfl, hb4⟩; have HB4 := Aside0.mk (below_step HB.out hb4); clear HC hb4) | (go_at_call 117; refine (ord_above _ _).mono ?_; rintro e w5 ⟨rfl, rfl⟩))
         go_ret
         exact ⟨rfl, HB4.out⟩
       · have e4 : (b.f0 == 4) = false := beq_eq_false_iff_ne.mpr h4
         rw [if_neg h4]
         clear h4
         go_enter Tryz.func84, Tryz.ntmps84
         go_wp2_with (first | (go_at_call 73; refine HC.out.mono ?_; rintro e w4 ⟨rfl, hb4⟩; have HB4 := Aside0.mk (below_step HB.out hb4); clear HC hb4) | (go_at_call 113; refine (ord_least _ _).mono ?_; rintro e w5 ⟨rfl, rfl⟩))
         go_ret
         exact ⟨rfl, HB4.out⟩
theorem eqVer (d : Nat) (w : World) (x0 y0 : Int) (x1 y1 : Int) (x2 y2 : Int) (x3 y3 : ByteArray) :
 (Op.equalIn (d + 2) 23 (.agg #[.int .i64 x0, .int .i64 x1, .int .i64 x2, .string x3]) (.agg #[.int .i64 y0, .int .i64 y1, .int .i64 y2, .string y3])).run Tryz.prog w = .ok (x0 == y0 && (x1 == y1 && (x2 == y2 && (x3.toList == y3.toList)))) w := by
 refine eqA_of Tryz.underlying23 (by kernel_rfl) ?_
 refine eqf_cons (by rfl) (by go_simp; rfl) (by go_simp; rfl) (by go_simp) ?_
 refine eqf_cons (by rfl) (by go_simp; rfl) (by go_simp; rfl) (by go_simp) ?_
 refine eqf_cons (by rfl) (by go_simp; rfl) (by go_simp; rfl) (by go_simp) ?_
 exact eqf_last (by rfl) (by go_simp; rfl) (by go_simp; rfl) (by go_simp)
attribute [local go_sem high] eqVer
set_option maxRecDepth 100000 in
set_option maxHeartbeats 4000000 in
theorem near_walk (b : S112) (v : S23) (w : World) :
 Calls Tryz.prog 85 #[.agg #[.int .i64 b.f0, .int .i64 b.f1.f0, .int .i64 b.f1.f1, .int .i64 b.f1.f2, .string b.f1.f3], .agg #[.int .i64 v.f0, .int .i64 v.f1, .int .i64 v.f2, .string v.f3]] w fun e w' => e = .returned (.bool (nearB b v)) ∧ Below w.heap.size w w' := by
 unfold nearB
 by_cases h0 : b.f1.f3.toList = []
 · have e0 : (b.f1.f3.toList == ([] : List UInt8)) = true := beq_iff_eq.mpr h0
   have e1 : (b.f1.f3.toList != ([] : List UInt8)) = false := bne_eq_false_iff_eq.mpr h0
   clear h0
   go_enter Tryz.func85, Tryz.ntmps85
   go_wp2
   go_ret
   exact ⟨by first | rfl | (rw [e1]; rfl), by repeat (first | (with_reducible first | exact Below.refl _ _ | apply below_alloc))⟩
 · have e0 : (b.f1.f3.toList == ([] : List UInt8)) = false := beq_eq_false_iff_ne.mpr h0
   have e1 : (b.f1.f3.toList != ([] : List UInt8)) = true := bne_iff_ne.mpr h0
   have e2 : (v.f3.toList == v.f3.toList) = true := beq_self_eq_true _
   clear h0
   go_enter Tryz.func85, Tryz.ntmps85
   go_wp2
   go_ret
   exact ⟨by rw [e1]; first | rfl | (simp; done), by repeat (first | (with_reducible first | exact Below.refl _ _ | apply below_alloc))⟩
theorem alt_false {v : S23} {x : List S112} {i : Nat} (h : i < x.length) (hb : boundHolds x[i] v = false) : altHolds v x = false := by
 unfold altHolds
 rw [show x.all (fun b => boundHolds b v) = false from List.all_eq_false.2 ⟨_, List.getElem_mem h, by simp [hb]⟩]
 rfl
set_option maxRecDepth 100000 in
set_option maxHeartbeats 8000000 in
theorem holds_walk (A : Option Addr) (c : Nat) (l : List (List S112)) (hl : ROk l) (v : S23) (hv : VOk v) (w : World) (HGL : Glob w) (hr : Kd.C (Kd.slice 112 k112) w A l.length l) (hc : l.length ≤ c) :
 Calls Tryz.prog 56 #[.agg #[.slice A l.length c], .agg #[.int .i64 v.f0, .int .i64 v.f1, .int .i64 v.f2, .string v.f3]] w fun e w' => e = .returned (.bool (holdsB l v)) ∧ Below w.heap.size w w' := by
 have HR := Aside0.mk hr
 have HL := Aside0.mk hl
 have HV := Aside0.mk hv
 have hlen := hl.len
 have BX := Aside0.mk (blk_alloc (blk_new w (.cells #[.slice A l.length c] 73)) (.cells #[.int .i64 v.f0, .int .i64 v.f1, .int .i64 v.f2, .string v.f3] 23))
 have BV := Aside0.mk (blk_new (w.alloc (.cells #[.slice A l.length c] 73)) (.cells #[.int .i64 v.f0, .int .i64 v.f1, .int .i64 v.f2, .string v.f3] 23))
 have HB := Aside0.mk (below_alloc (below_alloc (Below.refl w.heap.size w) (.cells #[.slice A l.length c] 73)) (.cells #[.int .i64 v.f0, .int .i64 v.f1, .int .i64 v.f2, .string v.f3] 23))
 have HP := Aside0.mk (print_walk v hv.pre hv.ints _ (HGL.below HB.out))
 have HS := Aside0.mk (fun W (hb : Below w.heap.size w W) => span_right_walk A c l hl W (HGL.below hb) (Kd.C_below HR.out hb) hc)
 rw [World.size_alloc] at BV
 clear hr hc hl hv
 unfold holdsB
 cases h1 : vright v with
 | false =>
  rw [h1] at HP
  clear h1
  go_enter Tryz.func56, Tryz.ntmps56
  go_wp2
  go_step3
  go_wp2_with (go_at_call 67; refine HP.out.mono ?_; rintro e w4 ⟨s, rfl, hb4, _⟩; have HB4 := Aside0.mk (below_step HB.out hb4); clear HP hb4)
  rw [Exit.noGoto_ret]
  go_ret
  exact ⟨rfl, HB4.out⟩
 | true =>
  rw [h1] at HP
  clear h1
  cases h2 : spanB l with
  | false =>
   rw [h2] at HS
   clear h2
   go_enter Tryz.func56, Tryz.ntmps56
   go_wp2
   go_step3
   go_wp2_with (first
    | (go_at_call 67; refine HP.out.mono ?_; rintro e w4 ⟨s, rfl, hb4, _⟩; have x0 := blk_at (blk_below BX.out hb4) 0 (v := .slice A l.length c) rfl; have HB4 := Aside0.mk (below_step HB.out hb4); clear HP hb4)
    | (go_at_call 83; refine (HS.out _ HB4.out).mono ?_; rintro e w5 ⟨rfl, hb5⟩; have HB5 := Aside0.mk (below_step HB4.out hb5); clear HS hb5))
   rw [Exit.noGoto_ret]
   go_ret
   exact ⟨rfl, HB5.out⟩
  | true =>
   rw [h2] at HS
   clear h2
   go_enter Tryz.func56, Tryz.ntmps56
   go_wp2
   go_step3
   go_wp2_with (first
    | (go_at_call 67; refine HP.out.mono ?_; rintro e w4 ⟨s, rfl, hb4, _⟩; have x0 := blk_at (blk_below BX.out hb4) 0 (v := .slice A l.length c) rfl; have BX4 := Aside0.mk (blk_below BX.out hb4); have BV4 := Aside0.mk (blk_below BV.out hb4); have HB4 := Aside0.mk (below_step HB.out hb4); clear HP hb4)
    | (go_at_call 83; refine (HS.out _ HB4.out).mono ?_; rintro e w5 ⟨rfl, hb5⟩; have x1 := blk_at (blk_below BX4.out hb5) 0 (v := .slice A l.length c) rfl; have BX5 := Aside0.mk (blk_below BX4.out hb5); have BV5 := Aside0.mk (blk_below BV4.out hb5); have HB5 := Aside0.mk (below_step HB4.out hb5); clear HS hb5 BX4 BV4 HB4 BX BV HB))
   go_step3
   go_wp2
   go_loopg [27] (l.length + 1) (fun gg s27 wq => ∃ j : Nat, j ≤ l.length ∧ l.length - j < gg ∧ s27 = .int .i64 (j : Int) ∧ Aside0 ((l.take j).any (altHolds v) = false) ∧ Aside0 (wq.heap[w.heap.size + 1]? = some (.cells #[.int .i64 v.f0, .int .i64 v.f1, .int .i64 v.f2, .string v.f3] 23 (0, 0))) ∧ Aside0 (Below w.heap.size w wq))
   case atStart => exact ⟨0, Nat.zero_le _, by omega, rfl, ⟨rfl⟩, BV5, HB5⟩
   case round =>
    clear BV5 HB5 x0 x1
    obtain ⟨j, hj1, hjg, rfl, HT, BV, HB⟩ := hrel
    by_cases hlt : j < l.length
    · obtain ⟨ad, A0, c0, rfl, hx, hl0, hC0⟩ := alt_at HR.out (Below.refl _ _) j hlt
      have hx := pw_cell_below HB.out hx
      have ja : (j : Int) < (l.length : Int) := by omega
      obtain ⟨hxl, hxb⟩ := HL.out.each _ (List.getElem_mem hlt)
      have HTK := Aside0.mk (show l.take (j + 1) = l.take j ++ [l[j]] by rw [List.take_succ_eq_append_getElem hlt])
      have HSP := Aside0.mk (show altHolds v l[j] = true → l.any (altHolds v) = true from fun h => List.any_eq_true.2 ⟨_, List.getElem_mem hlt, h⟩)
      generalize l[j] = x at hx hl0 hC0 hxl hxb HTK HSP
      have HC0 := Aside0.mk hC0
      have HL0 := Aside0.mk hl0
      have HXB := Aside0.mk hxb
      clear hC0 hl0 hxb
      have v3 := blk_at BV.out 3 (v := .string v.f3) rfl
      obtain ⟨m0, hm0⟩ : ∃ m0, (v.f3.toList == ([] : List UInt8)) = m0 := ⟨_, rfl⟩
      go_wp2
      have HM0 := Aside0.mk hm0
      clear hm0 v3
      go_loopg [9, 36] (x.length + 1) (fun gg s9 s36 wq => ∃ (i : Nat) (mb : Bool), i ≤ x.length ∧ x.length - i < gg ∧ s36 = .int .i64 (i : Int) ∧ s9 = .bool mb ∧ Aside0 (mb = (m0 || (x.take i).any (fun b => nearB b v))) ∧ Aside0 ((x.take i).all (fun b => boundHolds b v) = true) ∧ Aside0 (wq.heap[w.heap.size + 1]? = some (.cells #[.int .i64 v.f0, .int .i64 v.f1, .int .i64 v.f2, .string v.f3] 23 (0, 0))) ∧ Aside0 (Below w.heap.size w wq))
      case atStart => exact ⟨0, m0, Nat.zero_le _, by omega, rfl, rfl, ⟨by simp⟩, ⟨rfl⟩, BV, HB⟩
      case round =>
       clear BV HB hx
       obtain ⟨i, mb, hi1, hig, rfl, rfl, HMB, HTI, BV, HB⟩ := hrel
       by_cases hli : i < x.length
       · obtain ⟨ab, rfl, x0, x1, x2, x3, x4⟩ := bound_at HC0.out HB.out i hli
         have ia : (i : Int) < (x.length : Int) := by omega
         have hv := HXB.out _ (List.getElem_mem hli)
         have HTK2 := Aside0.mk (show x.take (i + 1) = x.take i ++ [x[i]] by rw [List.take_succ_eq_append_getElem hli])
         have HAL := Aside0.mk (show boundHolds x[i] v = false → altHolds v x = false from alt_false hli)
         generalize x[i] = b at x0 x1 x2 x3 x4 hv HTK2 HAL
         have v0 := blk_at (blk_alloc BV.out (.cells #[.int .i64 b.f0, .int .i64 b.f1.f0, .int .i64 b.f1.f1, .int .i64 b.f1.f2, .string b.f1.f3] 112)) 0 (v := .int .i64 v.f0) rfl
         have v1 := blk_at (blk_alloc BV.out (.cells #[.int .i64 b.f0, .int .i64 b.f1.f0, .int .i64 b.f1.f1, .int .i64 b.f1.f2, .string b.f1.f3] 112)) 1 (v := .int .i64 v.f1) rfl
         have v2 := blk_at (blk_alloc BV.out (.cells #[.int .i64 b.f0, .int .i64 b.f1.f0, .int .i64 b.f1.f1, .int .i64 b.f1.f2, .string b.f1.f3] 112)) 2 (v := .int .i64 v.f2) rfl
         have v3 := blk_at (blk_alloc BV.out (.cells #[.int .i64 b.f0, .int .i64 b.f1.f0, .int .i64 b.f1.f1, .int .i64 b.f1.f2, .string b.f1.f3] 112)) 3 (v := .string v.f3) rfl
         have HW := Aside0.mk (fun W h => bound_walk b v hv.pre HV.out.pre W h)
         have HN := Aside0.mk (fun W => near_walk b v W)
         have HNX := Aside0.mk (show (x.take (i + 1)).any (fun b => nearB b v) = ((x.take i).any (fun b => nearB b v) || nearB b v) by rw [HTK2.out, List.any_append]; simp)
         have HBX := Aside0.mk (show (x.take (i + 1)).all (fun b => boundHolds b v) = boundHolds b v by rw [HTK2.out, List.all_append, HTI.out]; simp)
         clear hv HTK2
         generalize boundHolds b v = h1 at HW HAL HBX
         generalize nearB b v = h2 at HN HNX
         cases h1 with
         | false =>
          go_wp2_with (go_at_call 84; refine (HW.out _ (HGL.below (below_alloc HB.out _))).mono ?_; rintro e w4 ⟨rfl, hb4⟩; have BV4 := Aside0.mk (blk_below (blk_alloc BV.out (.cells #[.int .i64 b.f0, .int .i64 b.f1.f0, .int .i64 b.f1.f1, .int .i64 b.f1.f2, .string b.f1.f3] 112)) hb4); have HB4 := Aside0.mk (below_step (below_alloc HB.out _) hb4); clear HW hb4)
          go_roundg (l.length - (j + 1) + 1)
          case measure => omega
          case rel => exact ⟨j + 1, by omega, by omega, by go_num, ⟨by rw [HTK.out, List.any_append, HT.out]; simp [HAL.out (by first | rfl | trivial)]⟩, BV4, HB4⟩
         | true =>
          cases mb with
          | true =>
           go_wp2_with (go_at_call 84; refine (HW.out _ (HGL.below (below_alloc HB.out _))).mono ?_; rintro e w4 ⟨rfl, hb4⟩; have BV4 := Aside0.mk (blk_below (blk_alloc BV.out (.cells #[.int .i64 b.f0, .int .i64 b.f1.f0, .int .i64 b.f1.f1, .int .i64 b.f1.f2, .string b.f1.f3] 112)) hb4); have HB4 := Aside0.mk (below_step (below_alloc HB.out _) hb4); clear HW hb4)
           go_roundg (x.length - (i + 1) + 1)
           case measure => omega
           case rel => exact ⟨i + 1, true, by omega, by omega, by go_num, rfl, ⟨by rw [HNX.out, ← Bool.or_assoc, ← HMB.out]; rfl⟩, HBX, BV4, HB4⟩
          | false =>
           go_wp2_with (first
            | (go_at_call 84; refine (HW.out _ (HGL.below (below_alloc HB.out _))).mono ?_; rintro e w4 ⟨rfl, hb4⟩; have BB4 := blk_below (blk_new wr (.cells #[.int .i64 b.f0, .int .i64 b.f1.f0, .int .i64 b.f1.f1, .int .i64 b.f1.f2, .string b.f1.f3] 112)) hb4; have BV4 := Aside0.mk (blk_below (blk_alloc BV.out (.cells #[.int .i64 b.f0, .int .i64 b.f1.f0, .int .i64 b.f1.f1, .int .i64 b.f1.f2, .string b.f1.f3] 112)) hb4); have y0 := blk_at BB4 0 (v := .int .i64 b.f0) rfl; have y1 := blk_at BB4 1 (v := .int .i64 b.f1.f0) rfl; have y2 := blk_at BB4 2 (v := .int .i64 b.f1.f1) rfl; have y3 := blk_at BB4 3 (v := .int .i64 b.f1.f2) rfl; have y4 := blk_at BB4 4 (v := .string b.f1.f3) rfl; have v0 := blk_at BV4.out 0 (v := .int .i64 v.f0) rfl; have v1 := blk_at BV4.out 1 (v := .int .i64 v.f1) rfl; have v2 := blk_at BV4.out 2 (v := .int .i64 v.f2) rfl; have v3 := blk_at BV4.out 3 (v := .string v.f3) rfl; have HB4 := Aside0.mk (below_step (below_alloc HB.out _) hb4); clear HW hb4 BB4)
            | (go_at_call 85; refine (HN.out _).mono ?_; rintro e w5 ⟨rfl, hb5⟩; have BV5 := Aside0.mk (blk_below BV4.out hb5); have HB5 := Aside0.mk (below_step HB4.out hb5); clear HN hb5))
           go_roundg (x.length - (i + 1) + 1)
           case measure => omega
           case rel => exact ⟨i + 1, h2, by omega, by omega, by go_num, rfl, ⟨by rw [HNX.out, ← Bool.or_assoc, ← HMB.out]; rfl⟩, HBX, BV5, HB5⟩
       · have hie : i = x.length := by omega
         subst hie
         have HAX := Aside0.mk (show altHolds v x = mb by
          have h1 := HTI.out
          have h2 := HMB.out
          rw [List.take_length] at h1 h2
          unfold altHolds
          rw [h1, h2, ← HM0.out]; rfl)
         cases mb with
         | true =>
          go_wp2
          rw [Exit.noGoto_ret]
          go_ret
          exact ⟨by rw [HSP.out (by first | exact HAX.out | simp [HAX.out])]; rfl, HB.out⟩
         | false =>
          go_wp2
          go_roundg (l.length - (j + 1) + 1)
          case measure => omega
          case rel => exact ⟨j + 1, by omega, by omega, by go_num, ⟨by rw [HTK.out, List.any_append, HT.out]; simp [HAX.out]⟩, BV, HB⟩
    · have hje : j = l.length := by omega
      subst hje
      go_wp2
      rw [Exit.noGoto_ret]
      go_ret
      exact ⟨by have := HT.out; rw [List.take_length] at this; rw [this]; rfl, HB.out⟩
end Go.Proofs.YteinkjhimceljaaGreatDoor.J
