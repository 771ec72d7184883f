/- flat.Encode, walked. -/
import Derived.Test.YteinkjhimceljaaGreatDoorT41
namespace Go.Proofs.YteinkjhimceljaaGreatDoor.J
open Go Go.RowKit Go.Shelf Go.Proofs.YteinkjhimceljaaGreatDoorW.PrintWords Go.Proofs.YteinkjhimceljaaGreatDoorW.PrintLast Go.Proofs.YteinkjhimceljaaGreatDoorW.PrintMore
set_option linter.unusedVariables false
set_option linter.unusedSimpArgs false
theorem fold_len (n : ByteArray) : ∀ (l : List S27) (B : Brd), (l.foldl (layOne n) B).l.length = B.l.length + l.length
 | [], B => rfl
 | m :: t, B => by
  rw [List.foldl_cons, fold_len n t, List.length_cons, show (layOne n B m).l.length = B.l.length + 1 by simp [layOne]]
  omega
theorem names_fold_len (x : List S27) : ∀ (ns : List ByteArray) (B : Brd), (ns.foldl (layName x) B).l.length ≤ B.l.length + ns.length * x.length
 | [], B => by simp
 | n :: t, B => by
  have h1 := names_fold_len x t (layName x B n)
  have h2 : (layName x B n).l.length = B.l.length + (pickL x n).length := fold_len n _ B
  have h3 := pick_len x n
  rw [List.foldl_cons, List.length_cons, Nat.add_mul, Nat.one_mul]
  omega
theorem brd_len (x : List S27) (hx : x.length ≤ 31) : (brdOf x).l.length ≤ 1000 := by
 have h := names_fold_len x (namesX x) noB
 have h2 : (namesX x).length * x.length ≤ 31 * 31 := Nat.mul_le_mul (Nat.le_trans (namesX_len x) hx) hx
 have h3 : (brdOf x).l.length ≤ noB.l.length + (namesX x).length * x.length := h
 have h4 : noB.l.length = 0 := rfl
 omega
theorem ManC.foot {w : World} {A5 : Option Addr} {c5 : Nat} {A6 : Option Addr} {c6 : Nat} {m : S27} (h : ManC w A5 c5 A6 c6 m) : ManF w (fun k => k < w.heap.size) A5 c5 A6 c6 m := ⟨h.dl, Kd.C_F heap_dep h.dr, h.rl, Kd.C_F heap_rule h.rr⟩
def EncE (w0 : World) (root : S27) (x : List S27) (e : Ending) (w' : World) : Prop :=
 ∃ A c, e = .returned (.tuple #[.agg #[.int .i64 (encV root x), .slice A (encC root x).length c], .int .i64 (encI root x)]) ∧ (encC root x).length ≤ c ∧ Kd.F (Kd.slice 3 (Kd.int .i64)) w' (fun k => w0.heap.size ≤ k) A (encC root x).length (encC root x)
set_option maxRecDepth 100000 in
set_option maxHeartbeats 8000000 in
theorem encode_walk (root : S27) (A5 : Option Addr) (c5 : Nat) (A6 : Option Addr) (c6 : Nat) (A : Option Addr) (c : Nat) (x : List S27) (hx : XOk x) (hm : MOk root) (h9 : layI root x = 0 → x.length ≤ 31) (w : World) (HGL : Glob w)
 (hr : ManC w A5 c5 A6 c6 root) (hX : Kd.C k27 w A x.length x) :
 Calls Tryz.prog 6 #[.agg #[.string root.f0, .int .i64 root.f1.f0, .int .i64 root.f1.f1, .int .i64 root.f1.f2, .string root.f1.f3, .slice A5 root.f2.length c5, .slice A6 root.f3.length c6], .slice A x.length c] w fun e w' => EncE w root x e w' ∧ Below w.heap.size w w' := by
 have HB := Aside0.mk (below_alloc (below_alloc (Below.refl w.heap.size w) (.cells #[.string root.f0, .int .i64 root.f1.f0, .int .i64 root.f1.f1, .int .i64 root.f1.f2, .string root.f1.f3, .slice A5 root.f2.length c5, .slice A6 root.f3.length c6] 27)) (.cells #[.int .i64 0, .slice none 0 0] 36))
 have BR := Aside0.mk (blk_new (w.alloc (.cells #[.string root.f0, .int .i64 root.f1.f0, .int .i64 root.f1.f1, .int .i64 root.f1.f2, .string root.f1.f3, .slice A5 root.f2.length c5, .slice A6 root.f3.length c6] 27)) (.cells #[.int .i64 0, .slice none 0 0] 36))
 rw [World.size_alloc] at BR
 have HLW := Aside0.mk (lay_walk root A5 c5 A6 c6 A c x hx hm _ (HGL.below HB.out) (fun k => k < w.heap.size) (fun k hk => Nat.lt_of_lt_of_le hk HB.out.size) (hr.foot.below HB.out) (Kd.F_below (Kd.C_F heap_man hX) HB.out))
 have HRF := Aside0.mk hr.foot
 have HXO := Aside0.mk hx
 have HMO := Aside0.mk hm
 have HGW := Aside0.mk HGL
 clear hr hX hx hm HGL
 by_cases hl : layI root x = 0
 · have hx9 := h9 hl
   have HBR := Aside0.mk (brd_ok HXO.out)
   have HBL := Aside0.mk (brd_len x hx9)
   have HNS := Aside0.mk (names_small HXO.out)
   have HNL := Aside0.mk (show (namesX x).length ≤ 1000 from Nat.le_trans (namesX_len x) HXO.out.len)
   have HL := Aside0.mk hl
   clear h9
   cases hf : formB (brdOf x) (namesX x) root with
   | true =>
    have HEI := Aside0.mk (show encI root x = 0 by unfold encI; rw [if_pos hl, hf, if_pos rfl])
    have HEV := Aside0.mk (show encV root x = ((brdOf x).l.length : Int) by unfold encV; rw [if_pos HEI.out])
    have HEC := Aside0.mk (show encC root x = clsOf (putsAll (brdOf x) (namesX x) root) by unfold encC; rw [if_pos HEI.out])
    have HF := Aside0.mk hf
    clear hf hl
    go_enter Tryz.func6, Tryz.ntmps6
    go_wp2_with (first
     | (go_at_call 12; refine HLW.out.mono ?_; rintro e w1 ⟨he, hb1⟩; unfold LayE at he; rw [if_pos HL.out] at he; obtain ⟨b, mb, vl, vn, FV, rfl, hls⟩ := he; obtain ⟨A7, c7, rfl⟩ := Kd.R_slice hls.n; have HLS := Aside0.mk hls; have HB1 := Aside0.mk (below_step HB.out hb1); have HZ1 := Aside0.mk (show w.heap.size + 2 ≤ w1.heap.size from by have h9 := hb1.size; simpa only [World.size_alloc] using h9); have BR1 := Aside0.mk (blk_below BR.out hb1); clear hb1 hls BR HB HLW)
     | (go_at_call 13; refine (formula_walk HBR.out HBL.out HMO.out HNS.out HNL.out w1 (HGW.out.below HB1.out) HLS.out (HRF.out.below HB1.out)).mono ?_; rintro e w2 ⟨A2, c2, rfl, hl2, hf2, hb2⟩; rw [HF.out]; have HB2 := Aside0.mk (below_step HB1.out hb2); have BR3 := Aside0.mk (blk_alloc (blk_below BR1.out hb2) (.cells #[.int .i64 ((brdOf x).l.length : Int), .slice A2 (clsOf (putsAll (brdOf x) (namesX x) root)).length c2] 36)); have q0 := blk_at BR3.out 0 (v := .int .i64 0) rfl; have q1 := blk_at BR3.out 1 (v := .slice none 0 0) rfl; have z0 := blk_frozen BR3.out 0; have z1 := blk_frozen BR3.out 1; have HL2 := Aside0.mk hl2; have HF2 := Aside0.mk hf2; have HZ := Aside0.mk HB1.out.size; clear hb2 hl2 hf2 HB1 BR1))
    have hBX := blk_set (blk_set BR3.out 0 (.int .i64 ((brdOf x).l.length : Int))) 1 (.slice A2 (clsOf (putsAll (brdOf x) (namesX x) root)).length c2)
    have hF := Kd.F_step (Kd.F_step (Kd.F_below HF2.out (below_alloc (Below.refl _ _) (.cells #[.int .i64 ((brdOf x).l.length : Int), .slice A2 (clsOf (putsAll (brdOf x) (namesX x) root)).length c2] 36))) (fun k hk _ => Below.heap_setCell _ ⟨w.heap.size + 1, 0, none⟩ (.int .i64 ((brdOf x).l.length : Int)) k (by have := HZ1.out; show k ≠ w.heap.size + 1; omega))) (fun k hk _ => Below.heap_setCell _ ⟨w.heap.size + 1, 1, none⟩ (.slice A2 (clsOf (putsAll (brdOf x) (namesX x) root)).length c2) k (by have := HZ1.out; show k ≠ w.heap.size + 1; omega))
    refine bodyPost_ret (results_ct rfl _ _ (w.heap.size + 1) 36 #[.int .i64 ((brdOf x).l.length : Int), .slice A2 (clsOf (putsAll (brdOf x) (namesX x) root)).length c2] (0, 0) _ rfl hBX Tryz.underlying36 rfl (by kernel_rfl)) rfl ?_
    refine ⟨⟨A2, c2, by rw [HEI.out, HEV.out, HEC.out]; rfl, by rw [HEC.out]; exact HL2.out, by rw [HEC.out]; exact Kd.F_mono hF (fun k hk => Nat.le_trans HZ.out hk)⟩, ((below_alloc HB2.out (.cells #[.int .i64 ((brdOf x).l.length : Int), .slice A2 (clsOf (putsAll (brdOf x) (namesX x) root)).length c2] 36)).setCell (p := ⟨w.heap.size + 1, 0, none⟩) (Nat.le_succ _) _).setCell (p := ⟨w.heap.size + 1, 1, none⟩) (Nat.le_succ _) _⟩
   | false =>
    have HEI := Aside0.mk (show encI root x = 2 by unfold encI; rw [if_pos hl, hf, if_neg (by decide)])
    have HEV := Aside0.mk (show encV root x = 0 by unfold encV; rw [if_neg (by rw [HEI.out]; decide)])
    have HEC := Aside0.mk (show encC root x = [] by unfold encC; rw [if_neg (by rw [HEI.out]; decide)])
    have HF := Aside0.mk hf
    clear hf hl
    go_enter Tryz.func6, Tryz.ntmps6
    go_wp2_with (first
     | (go_at_call 12; refine HLW.out.mono ?_; rintro e w1 ⟨he, hb1⟩; unfold LayE at he; rw [if_pos HL.out] at he; obtain ⟨b, mb, vl, vn, FV, rfl, hls⟩ := he; obtain ⟨A7, c7, rfl⟩ := Kd.R_slice hls.n; have HLS := Aside0.mk hls; have HB1 := Aside0.mk (below_step HB.out hb1); have HZ1 := Aside0.mk (show w.heap.size + 2 ≤ w1.heap.size from by have h9 := hb1.size; simpa only [World.size_alloc] using h9); have BR1 := Aside0.mk (blk_below BR.out hb1); clear hb1 hls BR HB HLW)
     | (go_at_call 13; refine (formula_walk HBR.out HBL.out HMO.out HNS.out HNL.out w1 (HGW.out.below HB1.out) HLS.out (HRF.out.below HB1.out)).mono ?_; rintro e w2 ⟨A2, c2, rfl, hl2, hf2, hb2⟩; rw [HF.out]; have HB2 := Aside0.mk (below_step HB1.out hb2); have BR3 := Aside0.mk (blk_alloc (blk_below BR1.out hb2) (.cells #[.int .i64 ((brdOf x).l.length : Int), .slice A2 (clsOf (putsAll (brdOf x) (namesX x) root)).length c2] 36)); have q0 := blk_at BR3.out 0 (v := .int .i64 0) rfl; have q1 := blk_at BR3.out 1 (v := .slice none 0 0) rfl; have z0 := blk_frozen BR3.out 0; have z1 := blk_frozen BR3.out 1; have HL2 := Aside0.mk hl2; have HF2 := Aside0.mk hf2; have HZ := Aside0.mk HB1.out.size; clear hb2 hl2 hf2 HB1 BR1))
    have hBX := blk_set (blk_set BR3.out 0 (.int .i64 0)) 1 (.slice none 0 0)
    refine bodyPost_ret (results_ct rfl _ _ (w.heap.size + 1) 36 #[.int .i64 0, .slice none 0 0] (0, 0) _ rfl hBX Tryz.underlying36 rfl (by kernel_rfl)) rfl ?_
    refine ⟨⟨none, 0, by rw [HEI.out, HEV.out, HEC.out]; rfl, by rw [HEC.out]; exact Nat.le_refl _, by rw [HEC.out]; exact Kd.R_F (Kd.R_nil _ 56 _ 0 _)⟩, ((below_alloc HB2.out (.cells #[.int .i64 ((brdOf x).l.length : Int), .slice A2 (clsOf (putsAll (brdOf x) (namesX x) root)).length c2] 36)).setCell (p := ⟨w.heap.size + 1, 0, none⟩) (Nat.le_succ _) _).setCell (p := ⟨w.heap.size + 1, 1, none⟩) (Nat.le_succ _) _⟩
 · have HL := Aside0.mk hl
   have HEI := Aside0.mk (show encI root x = layI root x by unfold encI; rw [if_neg hl])
   have HEV := Aside0.mk (show encV root x = 0 by unfold encV; rw [if_neg (by rw [HEI.out]; exact hl)])
   have HEC := Aside0.mk (show encC root x = [] by unfold encC; rw [if_neg (by rw [HEI.out]; exact hl)])
   generalize hli : layI root x = li at hl HL HEI
   have HLI := Aside0.mk hli
   clear hli h9
   go_enter Tryz.func6, Tryz.ntmps6
   go_wp2_with (go_at_call 12; refine HLW.out.mono ?_; rintro e w1 ⟨he, hb1⟩; unfold LayE at he; rw [HLI.out, if_neg HL.out] at he; subst he; have HB1 := Aside0.mk (below_step HB.out hb1); have BR1 := Aside0.mk (blk_below BR.out hb1); have q0 := blk_at BR1.out 0 (v := .int .i64 0) rfl; have q1 := blk_at BR1.out 1 (v := .slice none 0 0) rfl; have z0 := blk_frozen BR1.out 0; have z1 := blk_frozen BR1.out 1; clear hb1 BR HB HLW)
   have hBX := blk_set (blk_set BR1.out 0 (.int .i64 0)) 1 (.slice none 0 0)
   refine bodyPost_ret (results_ct rfl _ _ (w.heap.size + 1) 36 #[.int .i64 0, .slice none 0 0] (0, 0) _ rfl hBX Tryz.underlying36 rfl (by kernel_rfl)) rfl ?_
   refine ⟨⟨none, 0, by rw [HEI.out, HEV.out, HEC.out]; rfl, by rw [HEC.out]; exact Nat.le_refl _, by rw [HEC.out]; exact Kd.R_F (Kd.R_nil _ 56 _ 0 _)⟩, (HB1.out.setCell (p := ⟨w.heap.size + 1, 0, none⟩) (Nat.le_succ _) _).setCell (p := ⟨w.heap.size + 1, 1, none⟩) (Nat.le_succ _) _⟩
end Go.Proofs.YteinkjhimceljaaGreatDoor.J
