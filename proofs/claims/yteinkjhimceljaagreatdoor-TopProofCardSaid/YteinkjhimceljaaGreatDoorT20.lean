/- index.Check and index.Names, walked. flat's tree, in plain words: what is asked for, round by round. No program in sight. What small lets in; narrow, few, small and tree.New, walked. -/
import Derived.Test.YteinkjhimceljaaGreatDoorT19
import Derived.Shelf.Slices.Cells
import Derived.Shelf.Slices.CompactS
import Derived.Test.YteinkjhimceljaaGreatDoorT18
namespace Go.Proofs.YteinkjhimceljaaGreatDoor.J
open Go Go.RowKit Go.Shelf Go.Proofs.YteinkjhimceljaaGreatDoorW.PrintWords Go.Proofs.YteinkjhimceljaaGreatDoorW.PrintLast Go.Proofs.YteinkjhimceljaaGreatDoorW.PrintMore
set_option linter.unusedVariables false
set_option linter.unusedSimpArgs false
theorem idx_false {x : List S27} (hx : ¬ 100 < x.length) (h : chainB idxB idxLt none x = false) : idxI x = 1 := by unfold idxI; rw [if_neg hx, h, if_neg (by decide)]
theorem idx_true {x : List S27} (hx : ¬ 100 < x.length) (h : chainB idxB idxLt none x = true) : idxI x = 0 := by unfold idxI; rw [if_neg hx, h, if_pos rfl]
structure XOk (x : List S27) : Prop where
 len : x.length ≤ 1000
 each : ∀ m ∈ x, MOk m
set_option maxRecDepth 100000 in
set_option maxHeartbeats 16000000 in
theorem idx_check_walk (A : Option Addr) (c : Nat) (x : List S27) (hx : XOk x) (w : World) (HGL : Glob w) (hr : Kd.C k27 w A x.length x) :
 Calls Tryz.prog 23 #[.slice A x.length c] w fun e w' => e = .returned (.int .i64 (idxI x)) ∧ Below w.heap.size w w' := by
 have HX := Aside0.mk hx
 have HR := Aside0.mk hr
 have hlen := hx.len
 clear hx hr
 by_cases h1 : (x.length : Int) > 100
 · have HE := Aside0.mk (show idxI x = 2 by unfold idxI; rw [if_pos (by omega)])
   go_enter Tryz.func23, Tryz.ntmps23
   go_wp2
   go_ret
   exact ⟨by rw [HE.out]; rfl, Below.refl _ _⟩
 · have HN := Aside0.mk (show ¬ 100 < x.length by omega)
   have HT0 := Aside0.mk (show chainB idxB idxLt none x = chainB idxB idxLt (prevAt x 0) (x.drop 0) by rw [List.drop_zero]; rfl)
   go_enter Tryz.func23, Tryz.ntmps23
   go_wp2
   go_loopg [10] (x.length + 1) (fun gg s10 wq => ∃ j : Nat, j ≤ x.length ∧ x.length - j < gg ∧ s10 = .int .i64 (j : Int) ∧ Aside0 (chainB idxB idxLt none x = chainB idxB idxLt (prevAt x j) (x.drop j)) ∧ Aside0 (Below w.heap.size w wq))
   case atStart => exact ⟨0, Nat.zero_le _, by omega, rfl, HT0, ⟨Below.refl _ _⟩⟩
   case round =>
    clear HT0
    obtain ⟨j, hj1, hjg, rfl, HT, HB⟩ := hrel
    by_cases hlt : j < x.length
    · obtain ⟨ad, A5, c5, A6, c6, rfl, ⟨m0, m1, m2, m3, m4, m5, m6⟩, hmc⟩ := man_at HR.out HB.out j hlt
      have ja : (j : Int) < (x.length : Int) := by omega
      have hmo := HX.out.each _ (List.getElem_mem hlt)
      have HCA := Aside0.mk (chain_at idxB idxLt hlt)
      generalize x[j] = m at m0 m1 m2 m3 m4 m5 m6 hmc hmo HCA
      have HMC := Aside0.mk hmc
      have HMO := Aside0.mk hmo
      clear hmc hmo
      have HU := Aside0.mk (fun W (h : Below w.heap.size w W) => man_check_walk m A5 c5 A6 c6 false HMO.out W (HGL.below h) (HMC.out.below h))
      have HDB := Aside0.mk (show idxB m = decide (manI false m = 0) from rfl)
      generalize manI false m = k at HU HDB
      go_upto_region 6 with (fail)
      have BD := Aside0.mk (blk_new wr (.cells #[.string m.f0, .int .i64 m.f1.f0, .int .i64 m.f1.f1, .int .i64 m.f1.f2, .string m.f1.f3, .slice A5 m.f2.length c5, .slice A6 m.f3.length c6] 27))
      have HB1 := Aside0.mk (below_alloc HB.out (.cells #[.string m.f0, .int .i64 m.f1.f0, .int .i64 m.f1.f1, .int .i64 m.f1.f2, .string m.f1.f3, .slice A5 m.f2.length c5, .slice A6 m.f3.length c6] 27))
      obtain ⟨W0, hW0⟩ : ∃ W0, wr.alloc (.cells #[.string m.f0, .int .i64 m.f1.f0, .int .i64 m.f1.f1, .int .i64 m.f1.f2, .string m.f1.f3, .slice A5 m.f2.length c5, .slice A6 m.f3.length c6] 27) = W0 := ⟨_, rfl⟩
      rw [hW0] at BD HB1 ⊢
      clear hW0 HB m0 m1 m2 m3 m4 m5 m6
      by_cases hk : k = 0
      · have e1 : (k != 0) = false := bne_eq_false_iff_eq.mpr hk
        have HDT := Aside0.mk (show idxB m = true by rw [HDB.out]; exact decide_eq_true hk)
        clear hk
        by_cases hj0 : j = 0
        · subst hj0
          have HB := HB1
          clear HB1
          have n0_ := Aside0.mk (blk_drew BD.out)
          have n1_ := Aside0.mk (below_drew1 HB.out)
          clear BD HB
          have BD := n0_
          have HB := n1_
          clear n0_ n1_
          refine start_ (n := 17) (S := fun w' => w'.cell? ⟨wr.heap.size, 0, none⟩ = some (.string m.f0) ∧ w'.cell? ⟨wr.heap.size, 1, none⟩ = some (.int .i64 m.f1.f0) ∧ w'.cell? ⟨wr.heap.size, 2, none⟩ = some (.int .i64 m.f1.f1) ∧ w'.cell? ⟨wr.heap.size, 3, none⟩ = some (.int .i64 m.f1.f2) ∧ w'.cell? ⟨wr.heap.size, 4, none⟩ = some (.string m.f1.f3) ∧ w'.cell? ⟨wr.heap.size, 5, none⟩ = some (.slice A5 m.f2.length c5) ∧ w'.cell? ⟨wr.heap.size, 6, none⟩ = some (.slice A6 m.f3.length c6)) (ds := []) (bts 17 0) (by kernel_rfl) rfl (by kernel_rfl) ⟨(blk_cell BD.out 0).trans rfl, (blk_cell BD.out 1).trans rfl, (blk_cell BD.out 2).trans rfl, (blk_cell BD.out 3).trans rfl, (blk_cell BD.out 4).trans rfl, (blk_cell BD.out 5).trans rfl, (blk_cell BD.out 6).trans rfl⟩ (fun hHeld => ?_)
          generalize W0.drew = wdb1 at BD HB hHeld ⊢
          refine take_ (i := 0) (N := some 15) (v := ?_) (a' := ?_) (bts 17 1) rfl rfl (by kernel_rfl) (fun _ _ _ h => h) (Or.inl ⟨by rfl, ?_⟩) hHeld ?_ ?_
          rotate_left
          · intro w'
            rintro ⟨s0, s1, s2, s3, s4, s5, s6⟩
            go_simp
            with_reducible rfl
          rotate_left
          · simp only [Act.put, List.setIfInBounds_toArray, List.set_cons_zero, List.set_cons_succ, i64_w, i32_w]
            rfl
          refine one_ (i := 1) (N := some 16) (bts 17 3) rfl rfl (by kernel_rfl) (by decide) (fun K hK => ?_)
          refine goes_ Tryz.func22 (by kernel_rfl) rfl #[.agg #[.string m.f0, .int .i64 m.f1.f0, .int .i64 m.f1.f1, .int .i64 m.f1.f2, .string m.f1.f3, .slice A5 m.f2.length c5, .slice A6 m.f3.length c6], .bool false] (by rfl) rfl rfl (by (try simp only [List.map_toArray, List.map_cons, List.map_nil]); first | done | rfl) ?_
          refine (HU.out _ HB.out).mono ?_
          rintro e wdb2 ⟨rfl, hb⟩
          have n0_ := Aside0.mk (blk_below BD.out hb)
          have n1_ := Aside0.mk (below_step HB.out hb)
          clear BD HB hb
          have BD := n0_
          have HB := n1_
          clear n0_ n1_
          refine ⟨_, rfl, ?_⟩
          refine hK.out _ _ ⟨(blk_cell BD.out 0).trans rfl, (blk_cell BD.out 1).trans rfl, (blk_cell BD.out 2).trans rfl, (blk_cell BD.out 3).trans rfl, (blk_cell BD.out 4).trans rfl, (blk_cell BD.out 5).trans rfl, (blk_cell BD.out 6).trans rfl⟩ (fun hHeld => ?_)
          clear hK K
          refine norm_ (a' := ?_) ?_ ?_
          rotate_left
          · show Act.put _ (some 16) _ = _
            simp only [Act.put, List.setIfInBounds_toArray, List.set_cons_zero, List.set_cons_succ, i64_w, i32_w]
            rfl
          refine pure_ (i := 2) (N := some 17) (v := ?_) (a' := ?_) (bts 17 7) rfl rfl (by kernel_rfl) (fun _ _ _ h => h) (Or.inl ⟨by rfl, ?_⟩) ?_ ?_
          rotate_left
          · intro w'
            go_simp
            with_reducible rfl
          rotate_left
          · simp only [Act.put, List.setIfInBounds_toArray, List.set_cons_zero, List.set_cons_succ, i64_w, i32_w]
            rfl
          refine pure_ (i := 3) (N := some 18) (v := ?_) (a' := ?_) (bts 17 15) rfl rfl (by kernel_rfl) (fun _ _ _ h => h) (Or.inl ⟨by rfl, ?_⟩) ?_ ?_
          rotate_left
          · intro w'
            go_simp
            with_reducible rfl
          rotate_left
          · simp only [Act.put, List.setIfInBounds_toArray, List.set_cons_zero, List.set_cons_succ, i64_w, i32_w]
            rfl
          refine pure_ (i := 4) (N := some 19) (v := ?_) (a' := ?_) (bts 17 31) rfl rfl (by kernel_rfl) (fun _ _ _ h => h) (Or.inl ⟨by rfl, ?_⟩) ?_ ?_
          rotate_left
          · intro w'
            go_simp
            with_reducible rfl
          rotate_left
          · simp only [Act.put, List.setIfInBounds_toArray, List.set_cons_zero, List.set_cons_succ, i64_w, i32_w]
            rfl
          refine pure_ (i := 5) (N := some 20) (v := ?_) (a' := ?_) (bts 17 63) rfl rfl (by kernel_rfl) (fun _ _ _ h => h) (Or.inl ⟨by rfl, ?_⟩) ?_ ?_
          rotate_left
          · intro w'
            go_simp
            with_reducible rfl
          rotate_left
          · simp only [Act.put, List.setIfInBounds_toArray, List.set_cons_zero, List.set_cons_succ, i64_w, i32_w]
            rfl
          refine pure_ (i := 6) (N := some 21) (v := ?_) (a' := ?_) (bts 17 127) rfl rfl (by kernel_rfl) (fun _ _ _ h => h) (Or.inl ⟨by rfl, ?_⟩) ?_ ?_
          rotate_left
          · intro w'
            go_simp
            with_reducible rfl
          rotate_left
          · simp only [Act.put, List.setIfInBounds_toArray, List.set_cons_zero, List.set_cons_succ, i64_w, i32_w]
            rfl
          refine pure_ (i := 7) (N := some 22) (v := undef) (a' := ?_) (bts 17 255) rfl rfl (by kernel_rfl) (fun _ _ _ h => h) (Or.inr ⟨by rfl, rfl⟩) ?_ ?_
          rotate_left
          · simp only [Act.put, List.setIfInBounds_toArray, List.set_cons_zero, List.set_cons_succ, i64_w, i32_w]
            rfl
          refine pure_ (i := 8) (N := some 23) (v := undef) (a' := ?_) (bts 17 511) rfl rfl (by kernel_rfl) (fun _ _ _ h => h) (Or.inr ⟨by rfl, rfl⟩) ?_ ?_
          rotate_left
          · simp only [Act.put, List.setIfInBounds_toArray, List.set_cons_zero, List.set_cons_succ, i64_w, i32_w]
            rfl
          refine pure_ (i := 9) (N := some 24) (v := undef) (a' := ?_) (bts 17 1023) rfl rfl (by kernel_rfl) (fun _ _ _ h => h) (Or.inr ⟨by rfl, rfl⟩) ?_ ?_
          rotate_left
          · simp only [Act.put, List.setIfInBounds_toArray, List.set_cons_zero, List.set_cons_succ, i64_w, i32_w]
            rfl
          refine pure_ (i := 10) (N := some 25) (v := undef) (a' := ?_) (bts 17 2047) rfl rfl (by kernel_rfl) (fun _ _ _ h => h) (Or.inr ⟨by rfl, rfl⟩) ?_ ?_
          rotate_left
          · simp only [Act.put, List.setIfInBounds_toArray, List.set_cons_zero, List.set_cons_succ, i64_w, i32_w]
            rfl
          refine pure_ (i := 11) (N := some 26) (v := undef) (a' := ?_) (bts 17 4095) rfl rfl (by kernel_rfl) (fun _ _ _ h => h) (Or.inr ⟨by rfl, rfl⟩) ?_ ?_
          rotate_left
          · simp only [Act.put, List.setIfInBounds_toArray, List.set_cons_zero, List.set_cons_succ, i64_w, i32_w]
            rfl
          refine pure_ (i := 12) (N := some 27) (v := undef) (a' := ?_) (bts 17 8191) rfl rfl (by kernel_rfl) (fun _ _ _ h => h) (Or.inr ⟨by rfl, rfl⟩) ?_ ?_
          rotate_left
          · simp only [Act.put, List.setIfInBounds_toArray, List.set_cons_zero, List.set_cons_succ, i64_w, i32_w]
            rfl
          refine pure_ (i := 13) (N := some 28) (v := undef) (a' := ?_) (bts 17 16383) rfl rfl (by kernel_rfl) (fun _ _ _ h => h) (Or.inr ⟨by rfl, rfl⟩) ?_ ?_
          rotate_left
          · simp only [Act.put, List.setIfInBounds_toArray, List.set_cons_zero, List.set_cons_succ, i64_w, i32_w]
            rfl
          refine pure_ (i := 14) (N := some 29) (v := undef) (a' := ?_) (bts 17 32767) rfl rfl (by kernel_rfl) (fun _ _ _ h => h) (Or.inr ⟨by rfl, rfl⟩) ?_ ?_
          rotate_left
          · simp only [Act.put, List.setIfInBounds_toArray, List.set_cons_zero, List.set_cons_succ, i64_w, i32_w]
            rfl
          refine pure_ (i := 15) (N := some 30) (v := ?_) (a' := ?_) (bts 17 65535) rfl rfl (by kernel_rfl) (fun _ _ _ h => h) (Or.inl ⟨by rfl, ?_⟩) ?_ ?_
          rotate_left
          · intro w'
            go_simp
            with_reducible rfl
          rotate_left
          · simp only [Act.put, List.setIfInBounds_toArray, List.set_cons_zero, List.set_cons_succ, i64_w, i32_w]
            rfl
          refine pure_ (i := 16) (N := some 31) (v := ?_) (a' := ?_) (bts 17 131071) rfl rfl (by kernel_rfl) (fun _ _ _ h => h) (Or.inl ⟨by rfl, ?_⟩) ?_ ?_
          rotate_left
          · intro w'
            go_simp
            with_reducible rfl
          rotate_left
          · simp only [Act.put, List.setIfInBounds_toArray, List.set_cons_zero, List.set_cons_succ, i64_w, i32_w]
            rfl
          refine done_ (by kernel_rfl) ?_
          go_wp2
          go_roundg (x.length - (0 + 1) + 1)
          case measure => omega
          case rel => exact ⟨0 + 1, by omega, by omega, by go_num, ⟨by rw [HT.out, HCA.out, HDT.out]; rfl⟩, HB⟩
        · obtain ⟨ad', B5, d5, B6, d6, e9, hp, hpc⟩ := man_at HR.out HB1.out (j - 1) (by omega)
          injection e9 with e9
          subst e9
          have hpo := HX.out.each _ (List.getElem_mem (show j - 1 < x.length by omega))
          have HPV := Aside0.mk (prev_pos (l := x) (i := j) (by omega) (by omega))
          generalize x[j - 1] = p at hp hpc hpo HPV
          have HLT := Aside0.mk (show idxLt p m = decide (orderI p m < 0) from rfl)
          have HS := Aside0.mk (fun W (h : Below W0.heap.size W0 W) => (⟨⟨blk_at (blk_below BD.out h) 0 rfl, blk_at (blk_below BD.out h) 1 rfl, blk_at (blk_below BD.out h) 2 rfl, blk_at (blk_below BD.out h) 3 rfl, blk_at (blk_below BD.out h) 4 rfl, blk_at (blk_below BD.out h) 5 rfl, blk_at (blk_below BD.out h) 6 rfl⟩, ⟨pw_cell_below h hp.1, pw_cell_below h hp.2.1, pw_cell_below h hp.2.2.1, pw_cell_below h hp.2.2.2.1, pw_cell_below h hp.2.2.2.2.1, pw_cell_below h hp.2.2.2.2.2.1, pw_cell_below h hp.2.2.2.2.2.2⟩⟩ :
           (W.cell? ⟨wr.heap.size, 0, none⟩ = some (.string m.f0) ∧ W.cell? ⟨wr.heap.size, 1, none⟩ = some (.int .i64 m.f1.f0) ∧ W.cell? ⟨wr.heap.size, 2, none⟩ = some (.int .i64 m.f1.f1) ∧ W.cell? ⟨wr.heap.size, 3, none⟩ = some (.int .i64 m.f1.f2) ∧ W.cell? ⟨wr.heap.size, 4, none⟩ = some (.string m.f1.f3) ∧ W.cell? ⟨wr.heap.size, 5, none⟩ = some (.slice A5 m.f2.length c5) ∧ W.cell? ⟨wr.heap.size, 6, none⟩ = some (.slice A6 m.f3.length c6)) ∧ (W.cell? (ad.add ((j - 1) * 7)) = some (.string p.f0) ∧ W.cell? ⟨(ad.add ((j - 1) * 7)).block, (ad.add ((j - 1) * 7)).off + 1, none⟩ = some (.int .i64 p.f1.f0) ∧ W.cell? ⟨(ad.add ((j - 1) * 7)).block, (ad.add ((j - 1) * 7)).off + 2, none⟩ = some (.int .i64 p.f1.f1) ∧ W.cell? ⟨(ad.add ((j - 1) * 7)).block, (ad.add ((j - 1) * 7)).off + 3, none⟩ = some (.int .i64 p.f1.f2) ∧ W.cell? ⟨(ad.add ((j - 1) * 7)).block, (ad.add ((j - 1) * 7)).off + 4, none⟩ = some (.string p.f1.f3) ∧ W.cell? ⟨(ad.add ((j - 1) * 7)).block, (ad.add ((j - 1) * 7)).off + 5, none⟩ = some (.slice B5 p.f2.length d5) ∧ W.cell? ⟨(ad.add ((j - 1) * 7)).block, (ad.add ((j - 1) * 7)).off + 6, none⟩ = some (.slice B6 p.f3.length d6))))
          have HO := Aside0.mk (fun W (h : Below w.heap.size w W) => order_walk p m (.slice B5 p.f2.length d5) (.slice B6 p.f3.length d6) (.slice A5 m.f2.length c5) (.slice A6 m.f3.length c6) hpo.ver.pre HMO.out.ver.pre W (HGL.below h))
          generalize orderI p m = o at HO HLT
          have HK0 := Aside0.mk (below_drew (Below.refl W0.heap.size W0))
          clear hp hpc hpo
          have t3 : IntKind.i64.wrap ((j : Int) - 1) = (j : Int) - 1 := IntWalk.i64_in _ (by omega)
          have t4 : 0 ≤ (j : Int) - 1 := by omega
          have t5 : ((j : Int) - 1).toNat = j - 1 := by omega
          have t6 : (j : Int) - 1 < (x.length : Int) := by omega
          have t7 : decide (0 < (j : Int)) = true := decide_eq_true (by omega)
          have t9 : (1 : Int) ≤ (j : Int) := by omega
          have ta : (0 : Int) < (j : Int) := by omega
          have tb : (j : Int) < (x.length : Int) + 1 := by omega
          have tc : (j : Int) ≤ (x.length : Int) := by omega
          have t8 : decide (0 < j) = true := decide_eq_true (by omega)
          have HJ := Aside0.mk hj0
          clear hj0
          go_region_held3 (fun W => (W.cell? ⟨wr.heap.size, 0, none⟩ = some (.string m.f0) ∧ W.cell? ⟨wr.heap.size, 1, none⟩ = some (.int .i64 m.f1.f0) ∧ W.cell? ⟨wr.heap.size, 2, none⟩ = some (.int .i64 m.f1.f1) ∧ W.cell? ⟨wr.heap.size, 3, none⟩ = some (.int .i64 m.f1.f2) ∧ W.cell? ⟨wr.heap.size, 4, none⟩ = some (.string m.f1.f3) ∧ W.cell? ⟨wr.heap.size, 5, none⟩ = some (.slice A5 m.f2.length c5) ∧ W.cell? ⟨wr.heap.size, 6, none⟩ = some (.slice A6 m.f3.length c6)) ∧ (W.cell? (ad.add ((j - 1) * 7)) = some (.string p.f0) ∧ W.cell? ⟨(ad.add ((j - 1) * 7)).block, (ad.add ((j - 1) * 7)).off + 1, none⟩ = some (.int .i64 p.f1.f0) ∧ W.cell? ⟨(ad.add ((j - 1) * 7)).block, (ad.add ((j - 1) * 7)).off + 2, none⟩ = some (.int .i64 p.f1.f1) ∧ W.cell? ⟨(ad.add ((j - 1) * 7)).block, (ad.add ((j - 1) * 7)).off + 3, none⟩ = some (.int .i64 p.f1.f2) ∧ W.cell? ⟨(ad.add ((j - 1) * 7)).block, (ad.add ((j - 1) * 7)).off + 4, none⟩ = some (.string p.f1.f3) ∧ W.cell? ⟨(ad.add ((j - 1) * 7)).block, (ad.add ((j - 1) * 7)).off + 5, none⟩ = some (.slice B5 p.f2.length d5) ∧ W.cell? ⟨(ad.add ((j - 1) * 7)).block, (ad.add ((j - 1) * 7)).off + 6, none⟩ = some (.slice B6 p.f3.length d6))) (first | (with_reducible exact HS.out _ HK2.out) | (with_reducible exact HS.out _ HK1.out) | (with_reducible exact HS.out _ HK0.out))
           (first
            | (go_at_call 22; refine (HU.out _ (below_step HB1.out HK0.out)).mono ?_; rintro e w1 ⟨rfl, hb1⟩; have HK1 := Aside0.mk (below_step HK0.out hb1); clear HU hb1)
            | (go_at_call 46; refine (HO.out _ (below_step HB1.out HK1.out)).mono ?_; rintro e w2 ⟨rfl, hb2⟩; have HK2 := Aside0.mk (below_step HK1.out hb2); clear HO hb2))
          clear t3 t4 t5 t6 t7 t8 t9 ta tb tc
          have HB5 := Aside0.mk (below_step HB1.out HK2.out)
          by_cases ho : o ≥ 0
          · have HE := Aside0.mk (show idxI x = 1 from idx_false HN.out (by rw [HT.out, HCA.out, HPV.out]; show (idxB m && (idxLt p m && _)) = false; rw [HLT.out, decide_eq_false (by omega)]; simp))
            go_wp2
            go_ret
            exact ⟨by rw [HE.out]; rfl, HB5.out⟩
          · have HE := Aside0.mk (show chainB idxB idxLt none x = chainB idxB idxLt (prevAt x (j + 1)) (x.drop (j + 1)) by rw [HT.out, HCA.out, HPV.out, HDT.out]; show (true && (idxLt p m && _)) = _; rw [HLT.out, decide_eq_true (by omega)]; rfl)
            go_wp2
            go_roundg (x.length - (j + 1) + 1)
            case measure => omega
            case rel => exact ⟨j + 1, by omega, by omega, by go_num, HE, HB5⟩
      · have e1 : (k != 0) = true := bne_iff_ne.mpr hk
        have HE := Aside0.mk (show idxI x = 1 from idx_false HN.out (by rw [HT.out, HCA.out, HDB.out, decide_eq_false hk]; rfl))
        clear hk
        have HB := HB1
        clear HB1
        have n0_ := Aside0.mk (blk_drew BD.out)
        have n1_ := Aside0.mk (below_drew1 HB.out)
        clear BD HB
        have BD := n0_
        have HB := n1_
        clear n0_ n1_
        refine start_ (n := 17) (S := fun w' => w'.cell? ⟨wr.heap.size, 0, none⟩ = some (.string m.f0) ∧ w'.cell? ⟨wr.heap.size, 1, none⟩ = some (.int .i64 m.f1.f0) ∧ w'.cell? ⟨wr.heap.size, 2, none⟩ = some (.int .i64 m.f1.f1) ∧ w'.cell? ⟨wr.heap.size, 3, none⟩ = some (.int .i64 m.f1.f2) ∧ w'.cell? ⟨wr.heap.size, 4, none⟩ = some (.string m.f1.f3) ∧ w'.cell? ⟨wr.heap.size, 5, none⟩ = some (.slice A5 m.f2.length c5) ∧ w'.cell? ⟨wr.heap.size, 6, none⟩ = some (.slice A6 m.f3.length c6)) (ds := []) (bts 17 0) (by kernel_rfl) rfl (by kernel_rfl) ⟨(blk_cell BD.out 0).trans rfl, (blk_cell BD.out 1).trans rfl, (blk_cell BD.out 2).trans rfl, (blk_cell BD.out 3).trans rfl, (blk_cell BD.out 4).trans rfl, (blk_cell BD.out 5).trans rfl, (blk_cell BD.out 6).trans rfl⟩ (fun hHeld => ?_)
        generalize W0.drew = wda1 at BD HB hHeld ⊢
        refine take_ (i := 0) (N := some 15) (v := ?_) (a' := ?_) (bts 17 1) rfl rfl (by kernel_rfl) (fun _ _ _ h => h) (Or.inl ⟨by rfl, ?_⟩) hHeld ?_ ?_
        rotate_left
        · intro w'
          rintro ⟨s0, s1, s2, s3, s4, s5, s6⟩
          go_simp
          with_reducible rfl
        rotate_left
        · simp only [Act.put, List.setIfInBounds_toArray, List.set_cons_zero, List.set_cons_succ, i64_w, i32_w]
          rfl
        refine one_ (i := 1) (N := some 16) (bts 17 3) rfl rfl (by kernel_rfl) (by decide) (fun K hK => ?_)
        refine goes_ Tryz.func22 (by kernel_rfl) rfl #[.agg #[.string m.f0, .int .i64 m.f1.f0, .int .i64 m.f1.f1, .int .i64 m.f1.f2, .string m.f1.f3, .slice A5 m.f2.length c5, .slice A6 m.f3.length c6], .bool false] (by rfl) rfl rfl (by (try simp only [List.map_toArray, List.map_cons, List.map_nil]); first | done | rfl) ?_
        refine (HU.out _ HB.out).mono ?_
        rintro e wda2 ⟨rfl, hb⟩
        have n0_ := Aside0.mk (blk_below BD.out hb)
        have n1_ := Aside0.mk (below_step HB.out hb)
        clear BD HB hb
        have BD := n0_
        have HB := n1_
        clear n0_ n1_
        refine ⟨_, rfl, ?_⟩
        refine hK.out _ _ ⟨(blk_cell BD.out 0).trans rfl, (blk_cell BD.out 1).trans rfl, (blk_cell BD.out 2).trans rfl, (blk_cell BD.out 3).trans rfl, (blk_cell BD.out 4).trans rfl, (blk_cell BD.out 5).trans rfl, (blk_cell BD.out 6).trans rfl⟩ (fun hHeld => ?_)
        clear hK K
        refine norm_ (a' := ?_) ?_ ?_
        rotate_left
        · show Act.put _ (some 16) _ = _
          simp only [Act.put, List.setIfInBounds_toArray, List.set_cons_zero, List.set_cons_succ, i64_w, i32_w]
          rfl
        refine pure_ (i := 2) (N := some 17) (v := ?_) (a' := ?_) (bts 17 7) rfl rfl (by kernel_rfl) (fun _ _ _ h => h) (Or.inl ⟨by rfl, ?_⟩) ?_ ?_
        rotate_left
        · intro w'
          go_simp
          with_reducible rfl
        rotate_left
        · simp only [Act.put, List.setIfInBounds_toArray, List.set_cons_zero, List.set_cons_succ, i64_w, i32_w]
          rfl
        refine pure_ (i := 3) (N := some 18) (v := ?_) (a' := ?_) (bts 17 15) rfl rfl (by kernel_rfl) (fun _ _ _ h => h) (Or.inl ⟨by rfl, ?_⟩) ?_ ?_
        rotate_left
        · intro w'
          go_simp
          with_reducible rfl
        rotate_left
        · simp only [Act.put, List.setIfInBounds_toArray, List.set_cons_zero, List.set_cons_succ, i64_w, i32_w]
          rfl
        refine pure_ (i := 4) (N := some 19) (v := undef) (a' := ?_) (bts 17 31) rfl rfl (by kernel_rfl) (fun _ _ _ h => h) (Or.inr ⟨by rfl, rfl⟩) ?_ ?_
        rotate_left
        · simp only [Act.put, List.setIfInBounds_toArray, List.set_cons_zero, List.set_cons_succ, i64_w, i32_w]
          rfl
        refine pure_ (i := 5) (N := some 20) (v := undef) (a' := ?_) (bts 17 63) rfl rfl (by kernel_rfl) (fun _ _ _ h => h) (Or.inr ⟨by rfl, rfl⟩) ?_ ?_
        rotate_left
        · simp only [Act.put, List.setIfInBounds_toArray, List.set_cons_zero, List.set_cons_succ, i64_w, i32_w]
          rfl
        refine pure_ (i := 6) (N := some 21) (v := undef) (a' := ?_) (bts 17 127) rfl rfl (by kernel_rfl) (fun _ _ _ h => h) (Or.inr ⟨by rfl, rfl⟩) ?_ ?_
        rotate_left
        · simp only [Act.put, List.setIfInBounds_toArray, List.set_cons_zero, List.set_cons_succ, i64_w, i32_w]
          rfl
        refine pure_ (i := 7) (N := some 22) (v := undef) (a' := ?_) (bts 17 255) rfl rfl (by kernel_rfl) (fun _ _ _ h => h) (Or.inr ⟨by rfl, rfl⟩) ?_ ?_
        rotate_left
        · simp only [Act.put, List.setIfInBounds_toArray, List.set_cons_zero, List.set_cons_succ, i64_w, i32_w]
          rfl
        refine pure_ (i := 8) (N := some 23) (v := undef) (a' := ?_) (bts 17 511) rfl rfl (by kernel_rfl) (fun _ _ _ h => h) (Or.inr ⟨by rfl, rfl⟩) ?_ ?_
        rotate_left
        · simp only [Act.put, List.setIfInBounds_toArray, List.set_cons_zero, List.set_cons_succ, i64_w, i32_w]
          rfl
        refine pure_ (i := 9) (N := some 24) (v := undef) (a' := ?_) (bts 17 1023) rfl rfl (by kernel_rfl) (fun _ _ _ h => h) (Or.inr ⟨by rfl, rfl⟩) ?_ ?_
        rotate_left
        · simp only [Act.put, List.setIfInBounds_toArray, List.set_cons_zero, List.set_cons_succ, i64_w, i32_w]
          rfl
        refine pure_ (i := 10) (N := some 25) (v := undef) (a' := ?_) (bts 17 2047) rfl rfl (by kernel_rfl) (fun _ _ _ h => h) (Or.inr ⟨by rfl, rfl⟩) ?_ ?_
        rotate_left
        · simp only [Act.put, List.setIfInBounds_toArray, List.set_cons_zero, List.set_cons_succ, i64_w, i32_w]
          rfl
        refine pure_ (i := 11) (N := some 26) (v := undef) (a' := ?_) (bts 17 4095) rfl rfl (by kernel_rfl) (fun _ _ _ h => h) (Or.inr ⟨by rfl, rfl⟩) ?_ ?_
        rotate_left
        · simp only [Act.put, List.setIfInBounds_toArray, List.set_cons_zero, List.set_cons_succ, i64_w, i32_w]
          rfl
        refine pure_ (i := 12) (N := some 27) (v := undef) (a' := ?_) (bts 17 8191) rfl rfl (by kernel_rfl) (fun _ _ _ h => h) (Or.inr ⟨by rfl, rfl⟩) ?_ ?_
        rotate_left
        · simp only [Act.put, List.setIfInBounds_toArray, List.set_cons_zero, List.set_cons_succ, i64_w, i32_w]
          rfl
        refine pure_ (i := 13) (N := some 28) (v := undef) (a' := ?_) (bts 17 16383) rfl rfl (by kernel_rfl) (fun _ _ _ h => h) (Or.inr ⟨by rfl, rfl⟩) ?_ ?_
        rotate_left
        · simp only [Act.put, List.setIfInBounds_toArray, List.set_cons_zero, List.set_cons_succ, i64_w, i32_w]
          rfl
        refine pure_ (i := 14) (N := some 29) (v := undef) (a' := ?_) (bts 17 32767) rfl rfl (by kernel_rfl) (fun _ _ _ h => h) (Or.inr ⟨by rfl, rfl⟩) ?_ ?_
        rotate_left
        · simp only [Act.put, List.setIfInBounds_toArray, List.set_cons_zero, List.set_cons_succ, i64_w, i32_w]
          rfl
        refine pure_ (i := 15) (N := some 30) (v := undef) (a' := ?_) (bts 17 65535) rfl rfl (by kernel_rfl) (fun _ _ _ h => h) (Or.inr ⟨by rfl, rfl⟩) ?_ ?_
        rotate_left
        · simp only [Act.put, List.setIfInBounds_toArray, List.set_cons_zero, List.set_cons_succ, i64_w, i32_w]
          rfl
        refine pure_ (i := 16) (N := some 31) (v := ?_) (a' := ?_) (bts 17 131071) rfl rfl (by kernel_rfl) (fun _ _ _ h => h) (Or.inl ⟨by rfl, ?_⟩) ?_ ?_
        rotate_left
        · intro w'
          go_simp
          with_reducible rfl
        rotate_left
        · simp only [Act.put, List.setIfInBounds_toArray, List.set_cons_zero, List.set_cons_succ, i64_w, i32_w]
          rfl
        refine done_ (by kernel_rfl) ?_
        go_wp2
        go_ret
        exact ⟨by rw [HE.out]; rfl, HB.out⟩
    · have hje : j = x.length := by omega
      subst hje
      have HE := Aside0.mk (show idxI x = 0 from idx_true HN.out (by rw [HT.out, List.drop_length]; unfold chainB; rfl))
      go_wp2
      go_ret
      exact ⟨by rw [HE.out]; rfl, HB.out⟩
end Go.Proofs.YteinkjhimceljaaGreatDoor.J
namespace Go.Proofs.YteinkjhimceljaaGreatDoor.J
open Go Go.RowKit Go.Proofs.YteinkjhimceljaaGreatDoorW.PrintWords
set_option linter.unusedVariables false
structure TQ where
 asked : ByteArray → Bool
 wait : List S75
open Classical in
noncomputable def setB (F : ByteArray → Bool) (s : ByteArray) : ByteArray → Bool := fun t => if t = s then true else F t
def pickV (B : Brd) (model : List Bool) (n : ByteArray) : List Int := (B.vars n).filter (fun v => model.getD (v - 1).toNat false)
noncomputable def depsV (B : Brd) (rules : List S78) (v : Int) : List S75 := edgesL false (B.l.getD (v - 1).toNat z27) rules
noncomputable def moreT (B : Brd) (rules : List S78) (model : List Bool) (n : ByteArray) : List S75 := (pickV B model n).flatMap (depsV B rules)
noncomputable def stepT (B : Brd) (rules : List S78) (model : List Bool) (q : TQ) : TQ :=
 match q.wait with
 | [] => q
 | d :: r => if q.asked d.f1 = true then ⟨q.asked, r⟩ else ⟨setB q.asked d.f1, r ++ moreT B rules model d.f1⟩
noncomputable def itT (B : Brd) (rules : List S78) (model : List Bool) (q : TQ) : Nat → TQ
 | 0 => q
 | n + 1 => stepT B rules model (itT B rules model q n)
noncomputable def startT (root : S27) : TQ := ⟨fun _ => false, edgesL true root root.f3⟩
def placeOf (m : S27) : S62 := ⟨0, m.f0, m.f1⟩
def placesT (l : List S27) (model : List Bool) (a : ByteArray → Bool) : List S62 := (l.zipIdx.filter (fun p => model.getD p.2 false && a p.1.f0)).map (fun p => placeOf p.1)
def EndT (B : Brd) (root : S27) (model : List Bool) (a : ByteArray → Bool) : Prop := ∃ n, itT B root.f3 model (startT root) n = ⟨a, []⟩
section
variable {B : Brd} {rules : List S78} {model : List Bool} {q : TQ}
theorem setB_same (F : ByteArray → Bool) (s : ByteArray) : setB F s s = true := by unfold setB; rw [if_pos rfl]
theorem setB_other (F : ByteArray → Bool) {s t : ByteArray} (h : t ≠ s) : setB F s t = F t := by unfold setB; rw [if_neg h]
theorem setB_le (F : ByteArray → Bool) (s t : ByteArray) (h : F t = true) : setB F s t = true := by unfold setB; split <;> simp_all
theorem stepT_asked {a : ByteArray → Bool} {d : S75} {r : List S75} (h : a d.f1 = true) : stepT B rules model ⟨a, d :: r⟩ = ⟨a, r⟩ := by show (if a d.f1 = true then _ else _) = _; rw [if_pos h]
theorem stepT_new {a : ByteArray → Bool} {d : S75} {r : List S75} (h : a d.f1 = false) : stepT B rules model ⟨a, d :: r⟩ = ⟨setB a d.f1, r ++ moreT B rules model d.f1⟩ := by show (if a d.f1 = true then _ else _) = _; rw [if_neg (by rw [h]; decide)]
theorem itT_stay {a : ByteArray → Bool} {n : Nat} (h : itT B rules model q n = ⟨a, []⟩) : ∀ m, itT B rules model q (n + m) = ⟨a, []⟩
 | 0 => h
 | m + 1 => by
  show stepT B rules model (itT B rules model q (n + m)) = _
  rw [itT_stay h m]
  rfl
theorem EndT.only {root : S27} {a b : ByteArray → Bool} (h1 : EndT B root model a) (h2 : EndT B root model b) : a = b := by
 obtain ⟨n, h1⟩ := h1
 obtain ⟨m, h2⟩ := h2
 have e1 := itT_stay h1 m
 have e2 := itT_stay h2 n
 rw [Nat.add_comm, e2] at e1
 injection e1 with e1 _
 exact e1.symm
def restT (ns : List ByteArray) (a : ByteArray → Bool) : Nat := (ns.filter (fun n => !a n)).length
noncomputable def muT (ns : List ByteArray) (q : TQ) : Nat := q.wait.length + 1000001 * restT ns q.asked
theorem rest_le (a : ByteArray → Bool) (s : ByteArray) : ∀ ns : List ByteArray, restT ns (setB a s) ≤ restT ns a
 | [] => Nat.le_refl _
 | n :: t => by
  have h := rest_le a s t
  unfold restT at h ⊢
  rw [List.filter_cons, List.filter_cons]
  by_cases e : a n = true
  · rw [setB_le a s n e, e]; simpa using h
  · have e2 : a n = false := by simpa using e
    rw [e2]
    cases setB a s n <;> simp <;> omega
theorem rest_lt {a : ByteArray → Bool} {s : ByteArray} (ha : a s = false) : ∀ {ns : List ByteArray}, s ∈ ns → restT ns (setB a s) < restT ns a
 | n :: t, hm => by
  have h := rest_le a s t
  unfold restT at h ⊢
  rw [List.filter_cons, List.filter_cons]
  by_cases e : n = s
  · rw [e, setB_same, ha]
    simp
    omega
  · have hm2 : s ∈ t := by
     rcases List.mem_cons.1 hm with h3 | h3
     · exact absurd h3.symm e
     · exact h3
    have h4 := rest_lt ha hm2
    unfold restT at h4
    rw [setB_other a e]
    cases a n <;> simp <;> omega
theorem rest_len (ns : List ByteArray) (a : ByteArray → Bool) : restT ns a ≤ ns.length := List.length_filter_le _ _
theorem flat_len2 {α β : Type} {f : α → List β} {k : Nat} : ∀ {l : List α}, (∀ a ∈ l, (f a).length ≤ k) → (l.flatMap f).length ≤ k * l.length
 | [], _ => by simp
 | a :: t, h => by
  have h1 := flat_len2 (f := f) (k := k) (l := t) (fun x hx => h x (List.mem_cons_of_mem _ hx))
  have h2 := h a List.mem_cons_self
  rw [List.flatMap_cons, List.length_append, List.length_cons, Nat.mul_add, Nat.mul_one]
  omega
structure TOk (B : Brd) (ns : List ByteArray) (rules : List S78) : Prop where
 none : ∀ s, s ∉ ns → B.vars s = []
 vars : ∀ s, (B.vars s).length ≤ 1000
 deps : ∀ v, (depsV B rules v).length ≤ 1000
theorem more_len {ns : List ByteArray} (h : TOk B ns rules) (n : ByteArray) : (moreT B rules model n).length ≤ 1000000 := by
 unfold moreT
 have h1 := flat_len2 (f := depsV B rules) (k := 1000) (l := pickV B model n) (fun v _ => h.deps v)
 have h2 : (pickV B model n).length ≤ 1000 := Nat.le_trans (List.length_filter_le _ _) (h.vars n)
 omega
theorem more_none {ns : List ByteArray} (h : TOk B ns rules) {n : ByteArray} (hn : n ∉ ns) : moreT B rules model n = [] := by
 unfold moreT pickV
 rw [h.none n hn]
 rfl
theorem mu_asked {ns : List ByteArray} {a : ByteArray → Bool} {d : S75} {r : List S75} : muT ns ⟨a, r⟩ < muT ns ⟨a, d :: r⟩ := by
 unfold muT
 simp only [List.length_cons]
 omega
theorem mu_new {ns : List ByteArray} (h : TOk B ns rules) {a : ByteArray → Bool} {d : S75} {r : List S75} (ha : a d.f1 = false) : muT ns ⟨setB a d.f1, r ++ moreT B rules model d.f1⟩ < muT ns ⟨a, d :: r⟩ := by
 unfold muT
 simp only [List.length_cons, List.length_append]
 by_cases hn : d.f1 ∈ ns
 · have h1 := rest_lt ha hn
   have h2 := more_len (model := model) h d.f1
   omega
 · rw [more_none h hn]
   have h1 := rest_le a d.f1 ns
   simp only [List.length_nil]
   omega
theorem place_step (l : List S27) (model : List Bool) (a : ByteArray → Bool) {i : Nat} (h : i < l.length) : placesT (l.take (i + 1)) model a = placesT (l.take i) model a ++ (if (model.getD i false && a l[i].f0) = true then [placeOf l[i]] else []) := by
 unfold placesT
 rw [List.take_succ_eq_append_getElem h, List.zipIdx_append, List.filter_append, List.map_append, List.length_take, Nat.min_eq_left (Nat.le_of_lt h), Nat.zero_add]
 congr 1
 show (((l[i], i) :: []).filter (fun p : S27 × Nat => model.getD p.2 false && a p.1.f0)).map (fun p => placeOf p.1) = _
 rw [List.filter_cons]
 show (if (model.getD i false && a l[i].f0) = true then _ else _ : List (S27 × Nat)).map (fun p => placeOf p.1) = _
 split <;> rfl
end
end Go.Proofs.YteinkjhimceljaaGreatDoor.J
namespace Go.Proofs.YteinkjhimceljaaGreatDoor.J
open Go Go.RowKit Go.Shelf Go.Proofs.YteinkjhimceljaaGreatDoorW.PrintWords Go.Proofs.YteinkjhimceljaaGreatDoorW.PrintLast Go.Proofs.YteinkjhimceljaaGreatDoorW.PrintMore
set_option linter.unusedVariables false
set_option linter.unusedSimpArgs false
def preB (b : S112) : Bool := decide (b.f1.f3.size ≤ 100)
def altN (x : List S112) : Bool := decide (x.length ≤ 10) && x.all preB
def narrowB (l : List (List S112)) : Bool := decide (l.length ≤ 10) && l.all altN
def fewD (d : S75) : Bool := decide (d.f1.size ≤ 100) && narrowB d.f2.f0
def fewU (r : S78) : Bool := decide (r.f0.size ≤ 100) && narrowB r.f1.f0
def fewB (m : S27) : Bool := ((decide (m.f0.size ≤ 100) && decide (m.f1.f3.size ≤ 100)) && (decide (m.f2.length ≤ 35) && decide (m.f3.length ≤ 35))) && (m.f2.all fewD && m.f3.all fewU)
def smallB (root : S27) (x : List S27) : Bool := ((decide (x.length ≤ 9) || decide (100 < x.length)) && decide (x.length ≤ 110)) && (fewB root && x.all fewB)
theorem all_bad {α : Type} {p : α → Bool} {l : List α} {i : Nat} (h : i < l.length) (hp : p l[i] = false) : l.all p = false := List.all_eq_false.2 ⟨l[i], List.getElem_mem h, by rw [hp]; decide⟩
theorem all_next {α : Type} {p : α → Bool} {l : List α} {i : Nat} (h : i < l.length) (h1 : (l.take i).all p = true) (hp : p l[i] = true) : (l.take (i + 1)).all p = true := by
 rw [List.take_succ_eq_append_getElem h, List.all_append, h1, List.all_cons, hp]
 rfl
theorem gt_no (k : Int) (n : Nat) (h : (n : Int) ≤ k) : decide (k < (n : Int)) = false := decide_eq_false (by omega)
theorem gt_yes (k : Int) (n : Nat) (h : k < (n : Int)) : decide (k < (n : Int)) = true := decide_eq_true h
set_option maxRecDepth 100000 in
set_option maxHeartbeats 4000000 in
theorem narrow_walk (A : Option Addr) (c : Nat) (l : List (List S112)) (w : World) (hr : Kd.C (Kd.slice 112 k112) w A l.length l) :
 Calls Tryz.prog 19 #[.agg #[.slice A l.length c]] w fun e w' => e = .returned (.bool (narrowB l)) ∧ Below w.heap.size w w' := by
 obtain ⟨W0, hW0⟩ : ∃ W0, w.alloc (.cells #[.slice A l.length c] 73) = W0 := ⟨_, rfl⟩
 have HB := Aside0.mk (below_alloc (Below.refl w.heap.size w) (.cells #[.slice A l.length c] 73))
 have BX := Aside0.mk (blk_new w (.cells #[.slice A l.length c] 73))
 rw [hW0] at HB BX
 have HR := Aside0.mk (Kd.C_below hr HB.out)
 have y0 := blk_at BX.out 0 (v := .slice A l.length c) rfl
 clear hr
 by_cases h10 : l.length ≤ 10
 · have d10 := gt_no 10 l.length (by omega)
   have HN := Aside0.mk (show narrowB l = l.all altN by unfold narrowB; rw [decide_eq_true h10, Bool.true_and])
   go_enter Tryz.func19, Tryz.ntmps19
   go_upto_region 3 with (fail)
   clear hW0
   go_wp2
   go_loopg [3] (l.length + 1) (fun gg s3 wq => ∃ i : Nat, i ≤ l.length ∧ l.length - i < gg ∧ s3 = .int .i64 (i : Int) ∧ Aside0 ((l.take i).all altN = true) ∧ Aside0 (wq = W0))
   case atStart => exact ⟨0, Nat.zero_le _, by omega, rfl, ⟨rfl⟩, ⟨rfl⟩⟩
   case round =>
    obtain ⟨i, hi1, hig, rfl, HALL, ⟨hw⟩⟩ := hrel
    subst hw
    by_cases hlt : i < l.length
    · obtain ⟨ad, A0, c0, rfl, q0, hc0, hC0⟩ := alt_at HR.out (Below.refl _ _) i hlt
      have ia : (i : Int) < (l.length : Int) := by omega
      have HNX := Aside0.mk (fun h => all_next (p := altN) hlt HALL.out h)
      have HBD := Aside0.mk (fun h => (HN.out.trans (all_bad (p := altN) hlt h)))
      generalize l[i] = a at q0 hc0 hC0 HNX HBD
      have HC0 := Aside0.mk hC0
      clear hC0
      by_cases ha : a.length ≤ 10
      · have da := gt_no 10 a.length (by omega)
        have HA := Aside0.mk (show altN a = a.all preB by unfold altN; rw [decide_eq_true ha, Bool.true_and])
        go_wp2
        go_loopg [4] (a.length + 1) (fun gg s4 wq => ∃ j : Nat, j ≤ a.length ∧ a.length - j < gg ∧ s4 = .int .i64 (j : Int) ∧ Aside0 ((a.take j).all preB = true) ∧ Aside0 (wq = wr))
        case atStart => exact ⟨0, Nat.zero_le _, by omega, rfl, ⟨rfl⟩, ⟨rfl⟩⟩
        case round =>
         obtain ⟨j, hj1, hjg, rfl, HALJ, ⟨hw⟩⟩ := hrel
         subst hw
         by_cases hjl : j < a.length
         · obtain ⟨ad2, rfl, _, _, _, _, b4⟩ := bound_at HC0.out (Below.refl _ _) j hjl
           have ja : (j : Int) < (a.length : Int) := by omega
           have HNJ := Aside0.mk (fun h => all_next (p := preB) hjl HALJ.out h)
           have HBJ := Aside0.mk (fun h => HBD.out (HA.out.trans (all_bad (p := preB) hjl h)))
           generalize a[j] = b at b4 HNJ HBJ
           by_cases hb : b.f1.f3.size ≤ 100
           · have db := gt_no 100 b.f1.f3.size (by omega)
             go_wp2
             go_roundg (a.length - (j + 1) + 1)
             case measure => omega
             case rel => exact ⟨j + 1, by omega, by omega, by go_num, ⟨HNJ.out (decide_eq_true hb)⟩, ⟨rfl⟩⟩
           · have db := gt_yes 100 b.f1.f3.size (by omega)
             go_wp2
             go_ret
             exact ⟨by rw [HBJ.out (decide_eq_false hb)]; rfl, HB.out⟩
         · obtain rfl : j = a.length := by omega
           rw [List.take_length] at HALJ
           go_wp2
           go_roundg (l.length - (i + 1) + 1)
           case measure => omega
           case rel => exact ⟨i + 1, by omega, by omega, by go_num, ⟨HNX.out (HA.out.trans HALJ.out)⟩, ⟨rfl⟩⟩
      · have da := gt_yes 10 a.length (by omega)
        go_wp2
        go_ret
        exact ⟨by rw [HBD.out (show altN a = false by unfold altN; rw [decide_eq_false ha, Bool.false_and])]; rfl, HB.out⟩
    · obtain rfl : i = l.length := by omega
      rw [List.take_length] at HALL
      go_wp2
      go_ret
      exact ⟨by rw [HN.out, HALL.out]; rfl, HB.out⟩
 · have d10 := gt_yes 10 l.length (by omega)
   have HN := Aside0.mk (show narrowB l = false by unfold narrowB; rw [decide_eq_false h10, Bool.false_and])
   go_enter Tryz.func19, Tryz.ntmps19
   go_wp2
   go_ret
   exact ⟨by rw [HN.out]; rfl, HB.out⟩
set_option maxRecDepth 100000 in
set_option maxHeartbeats 8000000 in
theorem few_walk (m : S27) (A5 : Option Addr) (c5 : Nat) (A6 : Option Addr) (c6 : Nat) (w : World) (hm : ManC w A5 c5 A6 c6 m) :
 Calls Tryz.prog 10 #[.agg #[.string m.f0, .int .i64 m.f1.f0, .int .i64 m.f1.f1, .int .i64 m.f1.f2, .string m.f1.f3, .slice A5 m.f2.length c5, .slice A6 m.f3.length c6]] w fun e w' => e = .returned (.bool (fewB m)) ∧ Below w.heap.size w w' := by
 have HM := Aside0.mk hm
 clear hm
 have HFE := Aside0.mk (show fewB m = (((decide (m.f0.size ≤ 100) && decide (m.f1.f3.size ≤ 100)) && (decide (m.f2.length ≤ 35) && decide (m.f3.length ≤ 35))) && (m.f2.all fewD && m.f3.all fewU)) from rfl)
 by_cases h1 : m.f0.size ≤ 100
 · have d1 := gt_no 100 m.f0.size (by omega)
   by_cases h2 : m.f1.f3.size ≤ 100
   · have d2 := gt_no 100 m.f1.f3.size (by omega)
     by_cases h3 : m.f2.length ≤ 35
     · have d3 := gt_no 35 m.f2.length (by omega)
       by_cases h4 : m.f3.length ≤ 35
       · have d4 := gt_no 35 m.f3.length (by omega)
         have HF := Aside0.mk (show fewB m = (m.f2.all fewD && m.f3.all fewU) by rw [HFE.out, decide_eq_true h1, decide_eq_true h2, decide_eq_true h3, decide_eq_true h4]; rfl)
         have BX : Aside0 ((w.alloc (.cells #[.string m.f0, .int .i64 m.f1.f0, .int .i64 m.f1.f1, .int .i64 m.f1.f2, .string m.f1.f3, .slice A5 m.f2.length c5, .slice A6 m.f3.length c6] 27)).heap[w.heap.size]? = some (.cells #[.string m.f0, .int .i64 m.f1.f0, .int .i64 m.f1.f1, .int .i64 m.f1.f2, .string m.f1.f3, .slice A5 m.f2.length c5, .slice A6 m.f3.length c6] 27 (0, 0))) := ⟨blk_new w (.cells #[.string m.f0, .int .i64 m.f1.f0, .int .i64 m.f1.f1, .int .i64 m.f1.f2, .string m.f1.f3, .slice A5 m.f2.length c5, .slice A6 m.f3.length c6] 27)⟩
         have HB := Aside0.mk (below_alloc (Below.refl w.heap.size w) (.cells #[.string m.f0, .int .i64 m.f1.f0, .int .i64 m.f1.f1, .int .i64 m.f1.f2, .string m.f1.f3, .slice A5 m.f2.length c5, .slice A6 m.f3.length c6] 27))
         clear h1 h2
         go_enter Tryz.func10, Tryz.ntmps10
         go_wp2
         go_loopg [3] (m.f2.length + 1) (fun gg s3 wq => ∃ i : Nat, i ≤ m.f2.length ∧ m.f2.length - i < gg ∧ s3 = .int .i64 (i : Int) ∧ Aside0 ((m.f2.take i).all fewD = true) ∧ Aside0 ((wq).heap[w.heap.size]? = some (.cells #[.string m.f0, .int .i64 m.f1.f0, .int .i64 m.f1.f1, .int .i64 m.f1.f2, .string m.f1.f3, .slice A5 m.f2.length c5, .slice A6 m.f3.length c6] 27 (0, 0))) ∧ Aside0 (Below w.heap.size w wq))
         case atStart => exact ⟨0, Nat.zero_le _, by omega, rfl, ⟨rfl⟩, BX, HB⟩
         case round =>
          clear BX HB
          obtain ⟨i, hi1, hig, rfl, HALL, BX, HB⟩ := hrel
          have y5 := blk_at BX.out 5 (v := .slice A5 m.f2.length c5) rfl
          by_cases hlt : i < m.f2.length
          · obtain ⟨ad, A2, c2, rfl, _, q1, q2, hrc⟩ := dep_at HM.out.dr HB.out i hlt
            have ia : (i : Int) < (m.f2.length : Int) := by omega
            have HRC := Aside0.mk (hrc.below HB.out)
            have HNX := Aside0.mk (fun h => all_next (p := fewD) hlt HALL.out h)
            have HBD := Aside0.mk (fun h => (show fewB m = false by rw [HF.out, all_bad (p := fewD) hlt h, Bool.false_and]))
            clear hrc
            generalize m.f2[i] = d at q1 q2 HRC HNX HBD
            by_cases hd : d.f1.size ≤ 100
            · have dd := gt_no 100 d.f1.size (by omega)
              have HD := Aside0.mk (show fewD d = narrowB d.f2.f0 by unfold fewD; rw [decide_eq_true hd, Bool.true_and])
              cases hnb : narrowB d.f2.f0 with
              | true =>
               have HNB := Aside0.mk hnb
               clear hnb
               go_wp2_with (go_at_call 19; refine (narrow_walk A2 c2 d.f2.f0 _ HRC.out.2).mono ?_; rintro e w5 ⟨rfl, hb5⟩; rw [HNB.out]; have HB5 := Aside0.mk (below_step HB.out hb5); have BX5 := Aside0.mk (blk_below BX.out hb5); clear hb5)
               go_roundg (m.f2.length - (i + 1) + 1)
               case measure => omega
               case rel => exact ⟨i + 1, by omega, by omega, by go_num, ⟨HNX.out (HD.out.trans HNB.out)⟩, BX5, HB5⟩
              | false =>
               have HNB := Aside0.mk hnb
               clear hnb
               go_wp2_with (go_at_call 19; refine (narrow_walk A2 c2 d.f2.f0 _ HRC.out.2).mono ?_; rintro e w5 ⟨rfl, hb5⟩; rw [HNB.out]; have HB5 := Aside0.mk (below_step HB.out hb5); have BX5 := Aside0.mk (blk_below BX.out hb5); clear hb5)
               go_ret
               exact ⟨by rw [HBD.out (HD.out.trans HNB.out)]; rfl, HB5.out⟩
            · have dd := gt_yes 100 d.f1.size (by omega)
              go_wp2
              go_ret
              exact ⟨by rw [HBD.out (show fewD d = false by unfold fewD; rw [decide_eq_false hd, Bool.false_and])]; rfl, HB.out⟩
          · obtain rfl : i = m.f2.length := by omega
            rw [List.take_length] at HALL
            go_wp2
            go_loopg [4] (m.f3.length + 1) (fun gg s4 wq => ∃ j : Nat, j ≤ m.f3.length ∧ m.f3.length - j < gg ∧ s4 = .int .i64 (j : Int) ∧ Aside0 ((m.f3.take j).all fewU = true) ∧ Aside0 ((wq).heap[w.heap.size]? = some (.cells #[.string m.f0, .int .i64 m.f1.f0, .int .i64 m.f1.f1, .int .i64 m.f1.f2, .string m.f1.f3, .slice A5 m.f2.length c5, .slice A6 m.f3.length c6] 27 (0, 0))) ∧ Aside0 (Below w.heap.size w wq))
            case atStart => exact ⟨0, Nat.zero_le _, by omega, rfl, ⟨rfl⟩, BX, HB⟩
            case round =>
             clear BX HB y5
             obtain ⟨j, hj1, hjg, rfl, HALJ, BX, HB⟩ := hrel
             have y6 := blk_at BX.out 6 (v := .slice A6 m.f3.length c6) rfl
             by_cases hjl : j < m.f3.length
             · obtain ⟨ad, A2, c2, rfl, q1, q2, hrc⟩ := rule_at HM.out.rr HB.out j hjl
               have ja : (j : Int) < (m.f3.length : Int) := by omega
               have HRC := Aside0.mk (hrc.below HB.out)
               have HNX := Aside0.mk (fun h => all_next (p := fewU) hjl HALJ.out h)
               have HBD := Aside0.mk (fun h => (show fewB m = false by rw [HF.out, all_bad (p := fewU) hjl h, Bool.and_false]))
               clear hrc
               generalize m.f3[j] = u at q1 q2 HRC HNX HBD
               by_cases hd : u.f0.size ≤ 100
               · have dd := gt_no 100 u.f0.size (by omega)
                 have HD := Aside0.mk (show fewU u = narrowB u.f1.f0 by unfold fewU; rw [decide_eq_true hd, Bool.true_and])
                 cases hnb : narrowB u.f1.f0 with
                 | true =>
                  have HNB := Aside0.mk hnb
                  clear hnb
                  go_wp2_with (go_at_call 19; refine (narrow_walk A2 c2 u.f1.f0 _ HRC.out.2).mono ?_; rintro e w5 ⟨rfl, hb5⟩; rw [HNB.out]; have HB5 := Aside0.mk (below_step HB.out hb5); have BX5 := Aside0.mk (blk_below BX.out hb5); clear hb5)
                  go_roundg (m.f3.length - (j + 1) + 1)
                  case measure => omega
                  case rel => exact ⟨j + 1, by omega, by omega, by go_num, ⟨HNX.out (HD.out.trans HNB.out)⟩, BX5, HB5⟩
                 | false =>
                  have HNB := Aside0.mk hnb
                  clear hnb
                  go_wp2_with (go_at_call 19; refine (narrow_walk A2 c2 u.f1.f0 _ HRC.out.2).mono ?_; rintro e w5 ⟨rfl, hb5⟩; rw [HNB.out]; have HB5 := Aside0.mk (below_step HB.out hb5); have BX5 := Aside0.mk (blk_below BX.out hb5); clear hb5)
                  go_ret
                  exact ⟨by rw [HBD.out (HD.out.trans HNB.out)]; rfl, HB5.out⟩
               · have dd := gt_yes 100 u.f0.size (by omega)
                 go_wp2
                 go_ret
                 exact ⟨by rw [HBD.out (show fewU u = false by unfold fewU; rw [decide_eq_false hd, Bool.false_and])]; rfl, HB.out⟩
             · obtain rfl : j = m.f3.length := by omega
               rw [List.take_length] at HALJ
               go_wp2
               go_ret
               exact ⟨by rw [HF.out, HALL.out, HALJ.out]; rfl, HB.out⟩
       · have d4 := gt_yes 35 m.f3.length (by omega)
         have HF := Aside0.mk (show fewB m = false by rw [HFE.out, decide_eq_false h4]; simp)
         go_enter Tryz.func10, Tryz.ntmps10; go_wp2; go_ret; exact ⟨by rw [HF.out]; rfl, below_alloc (Below.refl _ _) _⟩
     · have d3 := gt_yes 35 m.f2.length (by omega)
       have HF := Aside0.mk (show fewB m = false by rw [HFE.out, decide_eq_false h3]; simp)
       go_enter Tryz.func10, Tryz.ntmps10; go_wp2; go_ret; exact ⟨by rw [HF.out]; rfl, below_alloc (Below.refl _ _) _⟩
   · have d2 := gt_yes 100 m.f1.f3.size (by omega)
     have HF := Aside0.mk (show fewB m = false by rw [HFE.out, decide_eq_false h2]; simp)
     go_enter Tryz.func10, Tryz.ntmps10; go_wp2; go_ret; exact ⟨by rw [HF.out]; rfl, below_alloc (Below.refl _ _) _⟩
 · have d1 := gt_yes 100 m.f0.size (by omega)
   have HF := Aside0.mk (show fewB m = false by rw [HFE.out, decide_eq_false h1]; simp)
   go_enter Tryz.func10, Tryz.ntmps10; go_wp2; go_ret; exact ⟨by rw [HF.out]; rfl, below_alloc (Below.refl _ _) _⟩
set_option maxRecDepth 100000 in
set_option maxHeartbeats 8000000 in
theorem small_walk (root : S27) (A5 : Option Addr) (c5 : Nat) (A6 : Option Addr) (c6 : Nat) (A : Option Addr) (c : Nat) (x : List S27) (w : World) (hm : ManC w A5 c5 A6 c6 root) (hX : Kd.C k27 w A x.length x) :
 Calls Tryz.prog 4 #[.agg #[.string root.f0, .int .i64 root.f1.f0, .int .i64 root.f1.f1, .int .i64 root.f1.f2, .string root.f1.f3, .slice A5 root.f2.length c5, .slice A6 root.f3.length c6], .slice A x.length c] w fun e w' => e = .returned (.bool (smallB root x)) ∧ Below w.heap.size w w' := by
 have HM := Aside0.mk hm
 have HX := Aside0.mk hX
 have HB0 := Aside0.mk (below_alloc (Below.refl w.heap.size w) (.cells #[.string root.f0, .int .i64 root.f1.f0, .int .i64 root.f1.f1, .int .i64 root.f1.f2, .string root.f1.f3, .slice A5 root.f2.length c5, .slice A6 root.f3.length c6] 27))
 clear hm hX
 have HSE := Aside0.mk (show smallB root x = (((decide (x.length ≤ 9) || decide (100 < x.length)) && decide (x.length ≤ 110)) && (fewB root && x.all fewB)) from rfl)
 by_cases h1 : (x.length ≤ 9 ∨ 100 < x.length) ∧ x.length ≤ 110
 · have HS := Aside0.mk (show smallB root x = (fewB root && x.all fewB) by
    rw [HSE.out, decide_eq_true h1.2]
    rcases h1.1 with h | h
    · rw [decide_eq_true h]; rfl
    · rw [decide_eq_true h, Bool.or_true]; rfl)
   have H1 := Aside0.mk h1
   have d3 := gt_no 110 x.length (by omega)
   obtain ⟨b9, hb9⟩ : ∃ b, decide ((9 : Int) < (x.length : Int)) = b := ⟨_, rfl⟩
   obtain ⟨b100, hb100⟩ : ∃ b, decide ((x.length : Int) ≤ 100) = b := ⟨_, rfl⟩
   have HBB := Aside0.mk (show b9 = true → b100 = false from fun h => by
    rw [← hb9] at h
    rw [← hb100]
    have := of_decide_eq_true h
    exact decide_eq_false (by omega))
   clear h1
   cases hfr : fewB root with
   | true =>
    have HFR := Aside0.mk hfr
    have HN := Aside0.mk (show smallB root x = x.all fewB by rw [HS.out, hfr, Bool.true_and])
    clear hfr
    go_enter Tryz.func4, Tryz.ntmps4
    cases b9 with
    | true =>
     obtain rfl : b100 = false := HBB.out rfl
     go_upto_region 3 with (go_at_call 10; refine (few_walk root A5 c5 A6 c6 _ (HM.out.below HB0.out)).mono ?_; rintro e w5 ⟨rfl, hb5⟩; rw [HFR.out]; have HB5 := Aside0.mk (below_step HB0.out hb5); clear hb5)
     go_wp2
     go_loopg [5] (x.length + 1) (fun gg s5 wq => ∃ i : Nat, i ≤ x.length ∧ x.length - i < gg ∧ s5 = .int .i64 (i : Int) ∧ Aside0 ((x.take i).all fewB = true) ∧ Aside0 (Below w.heap.size w wq))
     case atStart => exact ⟨0, Nat.zero_le _, by omega, rfl, ⟨rfl⟩, HB5⟩
     case round =>
      obtain ⟨i, hi1, hig, rfl, HALL, HB⟩ := hrel
      have hxl := H1.out.2
      by_cases hlt : i < x.length
      · obtain ⟨ad, B5, d5, B6, d6, rfl, ⟨m0, m1, m2, m3, m4, m5, m6⟩, hmc⟩ := man_at HX.out HB.out i hlt
        have ia : (i : Int) < (x.length : Int) := by omega
        have HMC := Aside0.mk (hmc.below HB.out)
        have HNX := Aside0.mk (fun h => all_next (p := fewB) hlt HALL.out h)
        have HBD := Aside0.mk (fun h => HN.out.trans (all_bad (p := fewB) hlt h))
        clear hmc
        generalize x[i] = m at m0 m1 m2 m3 m4 m5 m6 HMC HNX HBD
        cases hfm : fewB m with
        | true =>
         have HFM := Aside0.mk hfm
         clear hfm
         go_wp2_with (go_at_call 10; refine (few_walk m B5 d5 B6 d6 _ HMC.out).mono ?_; rintro e w6 ⟨rfl, hb6⟩; rw [HFM.out]; have HB6 := Aside0.mk (below_step HB.out hb6); clear hb6)
         go_roundg (x.length - (i + 1) + 1)
         case measure => omega
         case rel => exact ⟨i + 1, by omega, by omega, by go_num, ⟨HNX.out HFM.out⟩, HB6⟩
        | false =>
         have HFM := Aside0.mk hfm
         clear hfm
         go_wp2_with (go_at_call 10; refine (few_walk m B5 d5 B6 d6 _ HMC.out).mono ?_; rintro e w6 ⟨rfl, hb6⟩; rw [HFM.out]; have HB6 := Aside0.mk (below_step HB.out hb6); clear hb6)
         go_ret
         exact ⟨by rw [HBD.out HFM.out]; rfl, HB6.out⟩
      · obtain rfl : i = x.length := by omega
        rw [List.take_length] at HALL
        go_wp2
        go_ret
        exact ⟨by rw [HN.out, HALL.out]; rfl, HB.out⟩
    | false =>
     go_upto_region 3 with (go_at_call 10; refine (few_walk root A5 c5 A6 c6 _ (HM.out.below HB0.out)).mono ?_; rintro e w5 ⟨rfl, hb5⟩; rw [HFR.out]; have HB5 := Aside0.mk (below_step HB0.out hb5); clear hb5)
     go_wp2
     go_loopg [5] (x.length + 1) (fun gg s5 wq => ∃ i : Nat, i ≤ x.length ∧ x.length - i < gg ∧ s5 = .int .i64 (i : Int) ∧ Aside0 ((x.take i).all fewB = true) ∧ Aside0 (Below w.heap.size w wq))
     case atStart => exact ⟨0, Nat.zero_le _, by omega, rfl, ⟨rfl⟩, HB5⟩
     case round =>
      obtain ⟨i, hi1, hig, rfl, HALL, HB⟩ := hrel
      have hxl := H1.out.2
      by_cases hlt : i < x.length
      · obtain ⟨ad, B5, d5, B6, d6, rfl, ⟨m0, m1, m2, m3, m4, m5, m6⟩, hmc⟩ := man_at HX.out HB.out i hlt
        have ia : (i : Int) < (x.length : Int) := by omega
        have HMC := Aside0.mk (hmc.below HB.out)
        have HNX := Aside0.mk (fun h => all_next (p := fewB) hlt HALL.out h)
        have HBD := Aside0.mk (fun h => HN.out.trans (all_bad (p := fewB) hlt h))
        clear hmc
        generalize x[i] = m at m0 m1 m2 m3 m4 m5 m6 HMC HNX HBD
        cases hfm : fewB m with
        | true =>
         have HFM := Aside0.mk hfm
         clear hfm
         go_wp2_with (go_at_call 10; refine (few_walk m B5 d5 B6 d6 _ HMC.out).mono ?_; rintro e w6 ⟨rfl, hb6⟩; rw [HFM.out]; have HB6 := Aside0.mk (below_step HB.out hb6); clear hb6)
         go_roundg (x.length - (i + 1) + 1)
         case measure => omega
         case rel => exact ⟨i + 1, by omega, by omega, by go_num, ⟨HNX.out HFM.out⟩, HB6⟩
        | false =>
         have HFM := Aside0.mk hfm
         clear hfm
         go_wp2_with (go_at_call 10; refine (few_walk m B5 d5 B6 d6 _ HMC.out).mono ?_; rintro e w6 ⟨rfl, hb6⟩; rw [HFM.out]; have HB6 := Aside0.mk (below_step HB.out hb6); clear hb6)
         go_ret
         exact ⟨by rw [HBD.out HFM.out]; rfl, HB6.out⟩
      · obtain rfl : i = x.length := by omega
        rw [List.take_length] at HALL
        go_wp2
        go_ret
        exact ⟨by rw [HN.out, HALL.out]; rfl, HB.out⟩
   | false =>
    have HFR := Aside0.mk hfr
    have HN := Aside0.mk (show smallB root x = false by rw [HS.out, hfr, Bool.false_and])
    clear hfr
    go_enter Tryz.func4, Tryz.ntmps4
    cases b9 with
    | true =>
     obtain rfl : b100 = false := HBB.out rfl
     go_wp2_with (go_at_call 10; refine (few_walk root A5 c5 A6 c6 _ (HM.out.below HB0.out)).mono ?_; rintro e w5 ⟨rfl, hb5⟩; rw [HFR.out]; have HB5 := Aside0.mk (below_step HB0.out hb5); clear hb5)
     go_ret
     exact ⟨by rw [HN.out]; rfl, HB5.out⟩
    | false =>
     go_wp2_with (go_at_call 10; refine (few_walk root A5 c5 A6 c6 _ (HM.out.below HB0.out)).mono ?_; rintro e w5 ⟨rfl, hb5⟩; rw [HFR.out]; have HB5 := Aside0.mk (below_step HB0.out hb5); clear hb5)
     go_ret
     exact ⟨by rw [HN.out]; rfl, HB5.out⟩
 · have HF := Aside0.mk (show smallB root x = false by
    rw [HSE.out]
    by_cases h2 : x.length ≤ 110
    · rw [decide_eq_false (show ¬ x.length ≤ 9 from fun h => h1 ⟨.inl h, h2⟩), decide_eq_false (show ¬ 100 < x.length from fun h => h1 ⟨.inr h, h2⟩)]; rfl
    · rw [decide_eq_false h2, Bool.and_false, Bool.false_and])
   have d9 := gt_yes 9 x.length (by omega)
   by_cases h3 : x.length ≤ 100
   · have d100 : decide ((x.length : Int) ≤ 100) = true := decide_eq_true (by omega)
     go_enter Tryz.func4, Tryz.ntmps4; go_wp2; go_ret; exact ⟨by rw [HF.out]; rfl, below_alloc (Below.refl _ _) _⟩
   · have d100 : decide ((x.length : Int) ≤ 100) = false := decide_eq_false (by omega)
     have d110 := gt_yes 110 x.length (by omega)
     go_enter Tryz.func4, Tryz.ntmps4; go_wp2; go_ret; exact ⟨by rw [HF.out]; rfl, below_alloc (Below.refl _ _) _⟩
def rootP : S62 := ⟨-1, ⟨#[]⟩, ⟨0, 0, 0, ⟨#[]⟩⟩⟩
set_option maxRecDepth 100000 in
theorem new_walk (w : World) : Calls Tryz.prog 44 #[] w fun e w' => ∃ v, e = .returned v ∧ Kd.R k62 62 w' w.heap.size (fun _ => True) v [rootP] ∧ Below w.heap.size w w' := by
 go_enter Tryz.func44, Tryz.ntmps44
 go_wp2_with ((with_reducible refine gate_dst (N := 2) rfl ?_); refine Kd.R_lit k62 (w0 := w) w.heap.size 62 ?hg (N := 2) ?hd (xs := [rootP]) (inner := [.int .i64 (-1), .string ⟨#[]⟩, .int .i64 0, .int .i64 0, .int .i64 0, .string ⟨#[]⟩]) (ok := fun _ => True) (okp := fun _ => True) ?hr ?hp (fun _ hk => hk) trivial (Below.refl _ _) (Nat.le_refl _) (by simp) ?_; (case hd => rfl); (case hg => rfl); (case hr => first | (go_simp; done) | (go_simp; rfl)); (case hp => exact Reps.snoc (Reps.none _ _) (k62_mkM _ _ _ rootP) rfl); intro v5 w5 hr5 hb5 hg5 hat5; have HR5 := Aside0.mk hr5; have HB5 := Aside0.mk hb5; clear hr5 hb5 hg5 hat5)
 go_ret
 exact ⟨_, rfl, HR5.out, HB5.out⟩
end Go.Proofs.YteinkjhimceljaaGreatDoor.J
