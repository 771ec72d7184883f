/- flat's formula, walked. -/
import Derived.Test.YteinkjhimceljaaGreatDoorT39
namespace Go.Proofs.YteinkjhimceljaaGreatDoor.J
open Go Go.RowKit Go.Shelf Go.Proofs.YteinkjhimceljaaGreatDoorW.PrintWords Go.Proofs.YteinkjhimceljaaGreatDoorW.PrintLast Go.Proofs.YteinkjhimceljaaGreatDoorW.PrintMore
set_option linter.unusedVariables false
set_option linter.unusedSimpArgs false
theorem enters_put : ∀ args w, (callFunc 29 args).run Tryz.prog w = .ok (.enter 29 args) w := enters_of Tryz.func29 (by kernel_rfl) rfl
theorem flat_len {α β : Type} {f : α → List β} {k : Nat} : ∀ {l : List α}, (∀ a ∈ l, (f a).length ≤ k) → (l.flatMap f).length ≤ k * l.length
 | [], _ => by simp
 | a :: t, h => by
  have h1 := flat_len (f := f) (k := k) (l := t) (fun x hx => h x (List.mem_cons_of_mem _ hx))
  have h2 := h a List.mem_cons_self
  rw [List.flatMap_cons, List.length_append, List.length_cons, Nat.mul_add, Nat.mul_one]
  omega
theorem edges_len (root : Bool) (m : S27) (rules : List S78) : (edgesL root m rules).length ≤ m.f2.length := by
 unfold edgesL
 rw [List.length_map, sortN_len]
 exact names_len root
theorem putsRoot_len {B : Brd} (hB : BOk B) (hl : B.l.length ≤ 1000) (d : S75) : (putsRoot B d).length ≤ 1001 := by
 unfold putsRoot
 have h1 : (badL B d).length ≤ 1000 := Nat.le_trans (Nat.le_trans (List.length_filter_le _ _) (hB.vlen _)) hl
 rw [List.length_append, List.length_map]
 split <;> simp <;> omega
theorem lit2_F (W : World) (n : Int) : Kd.F (Kd.slice 3 (Kd.int .i64)) ((W.alloc (.cells #[.int .i64 n] 3)).alloc (.cells #[.slice (some ⟨W.heap.size, 0, none⟩) 1 1] 56)) (fun k => k = W.heap.size ∨ k = W.heap.size + 1) (some ⟨W.heap.size + 1, 0, none⟩) 1 [[n]] := by
 have h := lit1_F (c := 1) (lit1_int W n) (Nat.le_refl 1)
 rw [World.size_alloc] at h
 exact h
theorem putsDep_len (B : Brd) (i : Nat) (d : S75) : (putsDep B i d).length ≤ 2 := by unfold putsDep; rw [List.length_append]; split <;> simp
theorem put_fresh {base bf bo : Nat} {nv : Int} {ps : List Put} {vc : Value} {W W8 : World} (h : FS base bf bo nv ps vc W) (hz : W.heap.size ≤ W8.heap.size) : ∀ k, (W.heap.size ≤ k ∨ k = W8.heap.size) → (base ≤ k ∧ k ≠ bf ∧ k ≠ bo) ∧ some k ≠ vc.ownBlock := fun k hk => h.fresh k (by omega)
theorem putsMan_len {B : Brd} (hB : BOk B) (rules : List S78) (p : S27 × Nat) (hp : p ∈ B.l.zipIdx) : (putsMan B rules p).length ≤ 2000 := by
 unfold putsMan
 have hm := hB.each p.1 (List.fst_mem_of_mem_zipIdx hp)
 have h1 := flat_len (f := putsDep B p.2) (k := 2) (l := edgesL false p.1 rules) (fun d _ => by unfold putsDep; rw [List.length_append]; split <;> simp)
 have h2 := edges_len false p.1 rules
 have h3 := hm.dlen
 omega
set_option maxRecDepth 100000 in
set_option maxHeartbeats 32000000 in
theorem formula_walk {okx : Nat → Prop} {base0 b mb : Nat} {r : S27} {A5 : Option Addr} {c5 : Nat} {A6 : Option Addr} {c6 : Nat} {A7 : Option Addr} {c7 : Nat} {ns : List ByteArray} {vl : Value} {FV : ByteArray → Option Value} {cnt : Nat} {B : Brd} (hB : BOk B) (hBl : B.l.length ≤ 1000) (hr : MOk r) (hns : ∀ n ∈ ns, n.size ≤ 1000) (hnl : ns.length ≤ 1000)
 (w : World) (HGL : Glob w) (hP : LayS okx base0 b mb r A5 c5 A6 c6 (.slice A7 ns.length c7) ns w vl FV cnt B) (hR : ManF w okx A5 c5 A6 c6 r) :
 Calls Tryz.prog 13 #[.pointer (some ⟨b, 0, none⟩)] w fun e w' => ∃ A c, e = .returned (.tuple #[.agg #[.int .i64 (B.l.length : Int), .slice A (clsOf (putsAll B ns r)).length c], .bool (formB B ns r)]) ∧ (clsOf (putsAll B ns r)).length ≤ c ∧ Kd.F (Kd.slice 3 (Kd.int .i64)) w' (fun k => w.heap.size ≤ k) A (clsOf (putsAll B ns r)).length (clsOf (putsAll B ns r)) ∧ Below w.heap.size w w' := by
 obtain ⟨Al, cl, rfl⟩ := Kd.N_slice (hP.l.toN hP.hx)
 have HBO := Aside0.mk hB
 have HBL := Aside0.mk hBl
 have HRM := Aside0.mk hr
 have HNS := Aside0.mk hns
 have y7 := blk_at (blk_alloc hP.blk (.cells #[.int .i64 0, .slice none 0 0] 36)) 7 (v := .slice Al B.l.length cl) rfl
 have hb0 : Below w.heap.size w (((w.alloc (.cells #[.int .i64 0, .slice none 0 0] 36)).alloc (.cells #[.int .i64 (B.l.length : Int), .slice none 0 0] 36)).alloc (.cells #[.bool true] 4)) := below_alloc (below_alloc (below_alloc (Below.refl _ _) _) _) _
 have hbr := blk_alloc (blk_alloc (blk_new w (.cells #[.int .i64 0, .slice none 0 0] 36)) (.cells #[.int .i64 (B.l.length : Int), .slice none 0 0] 36)) (.cells #[.bool true] 4)
 have hbf := blk_alloc (blk_new (w.alloc (.cells #[.int .i64 0, .slice none 0 0] 36)) (.cells #[.int .i64 (B.l.length : Int), .slice none 0 0] 36)) (.cells #[.bool true] 4)
 have hbo := blk_new ((w.alloc (.cells #[.int .i64 0, .slice none 0 0] 36)).alloc (.cells #[.int .i64 (B.l.length : Int), .slice none 0 0] 36)) (.cells #[.bool true] 4)
 simp only [World.size_alloc] at hbf hbo
 have HP := Aside0.mk hP
 have HRF := Aside0.mk hR
 have eg := enters_put
 clear hB hr hns hR hP
 go_enter Tryz.func13, Tryz.ntmps13
 go_upto_region 4 with (fail)
 obtain ⟨W0, hW0⟩ : ∃ W0, ((w.alloc (.cells #[.int .i64 0, .slice none 0 0] 36)).alloc (.cells #[.int .i64 (B.l.length : Int), .slice none 0 0] 36)).alloc (.cells #[.bool true] 4) = W0 := ⟨_, rfl⟩
 have hsz0 : W0.heap.size = w.heap.size + 3 := by rw [← hW0]; simp only [World.size_alloc]
 rw [hW0] at hb0 hbr hbf hbo ⊢
 clear hW0 y7
 have HB0 := Aside0.mk hb0
 have HBR := Aside0.mk hbr
 have HF0 : Aside0 (FS (w.heap.size + 1) (w.heap.size + 1) (w.heap.size + 2) (B.l.length : Int) ([]) (.slice none 0 0) W0) := ⟨hbf, hbo, Kd.N_nil _ _ _ _ _, by omega, Nat.le_refl _, by omega, fun p hp => by cases hp⟩
 have HX := Aside0.mk (fun W (h : Below (w.heap.size + 1) W0 W) => (hb0.trans (h.mono (Nat.le_succ _)) : Below w.heap.size w W))
 have HLS := Aside0.mk (fun W (h : Below (w.heap.size + 1) W0 W) => (HP.out.below (HX.out W h) : LayS okx base0 b mb r A5 c5 A6 c6 (.slice A7 ns.length c7) ns W (.slice Al B.l.length cl) FV cnt B))
 have HSZ0 := Aside0.mk hsz0
 clear hb0 hbr hbf hbo hsz0
 have y8 := blk_at (HLS.out W0 (Below.refl _ _)).blk 8 (v := .slice A7 ns.length c7) rfl
 go_wp2
 clear y8
 go_loopg [35] (ns.length + 1) (fun gg s35 wq => ∃ (i : Nat) (vc : Value), i ≤ ns.length ∧ ns.length - i < gg ∧ s35 = .int .i64 (i : Int) ∧ Aside0 (FS (w.heap.size + 1) (w.heap.size + 1) (w.heap.size + 2) (B.l.length : Int) ((ns.take i).map (fun n => Ct.atMost (B.vars n))) vc wq) ∧ Aside0 (Below (w.heap.size + 1) W0 wq))
 case atStart => exact ⟨0, _, Nat.zero_le _, by omega, rfl, HF0, ⟨Below.refl _ _⟩⟩
 case round =>
  clear HF0
  obtain ⟨i, vc, hi1, hig, rfl, HF, HB⟩ := hrel
  by_cases hlt : i < ns.length
  · have LS := HLS.out wr HB.out
    obtain ⟨adn, rfl, n0⟩ := C_str_at (Kd.R_reads' LS.n).2.2 i hlt
    have ia : (i : Int) < (ns.length : Int) := by omega
    have HTK := Aside0.mk (show (ns.take (i + 1)).map (fun n => Ct.atMost (B.vars n)) = (ns.take i).map (fun n => Ct.atMost (B.vars n)) ++ [Ct.atMost (B.vars ns[i])] by rw [List.take_succ_eq_append_getElem hlt, List.map_append]; rfl)
    have HS9 := Aside0.mk (show ns[i].size ≤ 1000000000 from Nat.le_trans (HNS.out _ (List.getElem_mem hlt)) (by decide))
    generalize ns[i] = n at n0 HTK HS9
    have HPL := Aside0.mk (show ((ns.take i).map (fun n => Ct.atMost (B.vars n))).length ≤ 4000000 by rw [List.length_map, List.length_take]; omega)
    have hvl : (B.vars n).length ≤ 1000 := Nat.le_trans (HBO.out.vlen n) HBL.out
    have HAL := Aside0.mk (atMost_len hvl)
    obtain ⟨A8, c8, hA8, hc8, hC8⟩ := var_get (LS.v n)
    have HGD := Aside0.mk hA8
    have HMC := Aside0.mk (most_c A8 c8 (B.vars n) hvl wr hC8 hc8)
    have y9 := blk_at LS.blk 9 (v := .map (some mb)) rfl
    have HM := Aside0.mk LS.m
    generalize Ct.atMost (B.vars n) = am at HTK HAL HMC
    clear LS hA8 hc8 hC8 hvl
    go_wp2_with (first
     | (at_lookup; refine map_look (b := mb) (n := cnt) (F := FV) rfl (.tmp 43) (.tmp 44) 85 56 rfl Tryz.underlying85 (zero_ints _) n rfl rfl HM.out HS9.out ?_; rw [HGD.out])
     | (go_at_call 30; refine HMC.out.mono ?_; rintro e w5 ⟨A9, c9, rfl, hf5, hb5⟩; have HF5 := Aside0.mk (HF.out.below hb5); have HB5 := Aside0.mk hb5; have HC5 := Aside0.mk hf5; have HO5 := Aside0.mk (HF.out.fresh); clear HMC hf5 hb5 HM)
     | (go_at_call 29; refine (put_walk HF5.out am.1 am.2 A9 c9 _ HC5.out HO5.out HAL.out HPL.out).mono ?_; rintro en w6 ⟨rfl, v1, hf6, hk6⟩; have HF6 := Aside0.mk hf6; have HB6 := Aside0.mk (HB.out.trans ((HB5.out.mono (by have := blk_lt2 HF.out.f; omega)).trans hk6.b)); clear HF5 HC5 HO5 hf6 hk6))
    go_roundg (ns.length - (i + 1) + 1)
    case measure => omega
    case rel => exact ⟨i + 1, v1, by omega, by omega, by go_num, by rw [HTK.out]; exact HF6, HB6⟩
  · obtain rfl : i = ns.length := by omega
    rw [List.take_length] at HF
    go_upto_region 9 with (fail)
    have HOF := Aside0.mk (fun W (h : Below wr.heap.size wr W) => of_walk r A5 c5 A6 c6 A6 c6 r.f3 true HRM.out.deps HRM.out.dlen HRM.out.rlen HRM.out.rules W okx (fun k hk => Nat.lt_of_lt_of_le (Nat.lt_of_lt_of_le (HP.out.hx k hk) HP.out.bb) (Nat.le_of_lt (blk_lt2 (HLS.out wr HB.out).blk) |> fun h2 => Nat.le_trans h2 h.size)) (Kd.F_below (Kd.F_below HRF.out.dr (HX.out wr HB.out)) h) (Kd.F_below (Kd.F_below HRF.out.rr (HX.out wr HB.out)) h))
    have HS := Aside0.mk (fun W (h : Below wr.heap.size wr W) => (⟨(blk_cell (blk_below (HLS.out wr HB.out).blk h) 0).trans rfl, (blk_cell (blk_below (HLS.out wr HB.out).blk h) 1).trans rfl, (blk_cell (blk_below (HLS.out wr HB.out).blk h) 2).trans rfl, (blk_cell (blk_below (HLS.out wr HB.out).blk h) 3).trans rfl, (blk_cell (blk_below (HLS.out wr HB.out).blk h) 4).trans rfl, (blk_cell (blk_below (HLS.out wr HB.out).blk h) 5).trans rfl, (blk_cell (blk_below (HLS.out wr HB.out).blk h) 6).trans rfl⟩ : W.cell? ⟨b, 0, none⟩ = some (.string r.f0) ∧ W.cell? ⟨b, 1, none⟩ = some (.int .i64 r.f1.f0) ∧ W.cell? ⟨b, 2, none⟩ = some (.int .i64 r.f1.f1) ∧ W.cell? ⟨b, 3, none⟩ = some (.int .i64 r.f1.f2) ∧ W.cell? ⟨b, 4, none⟩ = some (.string r.f1.f3) ∧ W.cell? ⟨b, 5, none⟩ = some (.slice A5 r.f2.length c5) ∧ W.cell? ⟨b, 6, none⟩ = some (.slice A6 r.f3.length c6)))
    have HK1 := Aside0.mk (below_drew (Below.refl wr.heap.size wr))
    refine start_ (n := 12) (S := fun w' => w'.cell? ⟨b, 0, none⟩ = some (.string r.f0) ∧ w'.cell? ⟨b, 1, none⟩ = some (.int .i64 r.f1.f0) ∧ w'.cell? ⟨b, 2, none⟩ = some (.int .i64 r.f1.f1) ∧ w'.cell? ⟨b, 3, none⟩ = some (.int .i64 r.f1.f2) ∧ w'.cell? ⟨b, 4, none⟩ = some (.string r.f1.f3) ∧ w'.cell? ⟨b, 5, none⟩ = some (.slice A5 r.f2.length c5) ∧ w'.cell? ⟨b, 6, none⟩ = some (.slice A6 r.f3.length c6)) (ds := []) (bts 12 0) (by kernel_rfl) rfl (by kernel_rfl) (HS.out _ HK1.out) (fun hHeld => ?_)
    generalize wr.drew = W3 at HK1 hHeld ⊢
    refine pure_ (i := 0) (N := some 51) (v := ?_) (a' := ?_) (bts 12 1) rfl rfl (by kernel_rfl) (fun _ _ _ h => h) (Or.inl ⟨by rfl, ?_⟩) ?_ ?_
    rotate_left
    · intro w'
      go_simp
      with_reducible rfl
    rotate_left
    · simp only [Act.put, List.setIfInBounds_toArray, List.set_cons_zero, List.set_cons_succ, i64_w, i32_w]
      rfl
    refine pure_ (i := 1) (N := some 52) (v := ?_) (a' := ?_) (bts 12 3) rfl rfl (by kernel_rfl) (fun _ _ _ h => h) (Or.inl ⟨by rfl, ?_⟩) ?_ ?_
    rotate_left
    · intro w'
      go_simp
      with_reducible rfl
    rotate_left
    · simp only [Act.put, List.setIfInBounds_toArray, List.set_cons_zero, List.set_cons_succ, i64_w, i32_w]
      rfl
    refine pure_ (i := 2) (N := some 53) (v := ?_) (a' := ?_) (bts 12 7) rfl rfl (by kernel_rfl) (fun _ _ _ h => h) (Or.inl ⟨by rfl, ?_⟩) ?_ ?_
    rotate_left
    · intro w'
      go_simp
      with_reducible rfl
    rotate_left
    · simp only [Act.put, List.setIfInBounds_toArray, List.set_cons_zero, List.set_cons_succ, i64_w, i32_w]
      rfl
    refine take_ (i := 3) (N := some 54) (v := ?_) (a' := ?_) (bts 12 15) rfl rfl (by kernel_rfl) (fun _ _ _ h => h) (Or.inl ⟨by rfl, ?_⟩) hHeld ?_ ?_
    rotate_left
    · intro w'
      rintro ⟨s0, s1, s2, s3, s4, s5, s6⟩
      go_simp
      with_reducible rfl
    rotate_left
    · simp only [Act.put, List.setIfInBounds_toArray, List.set_cons_zero, List.set_cons_succ, i64_w, i32_w]
      rfl
    refine pure_ (i := 4) (N := some 55) (v := ?_) (a' := ?_) (bts 12 31) rfl rfl (by kernel_rfl) (fun _ _ _ h => h) (Or.inl ⟨by rfl, ?_⟩) ?_ ?_
    rotate_left
    · intro w'
      go_simp
      with_reducible rfl
    rotate_left
    · simp only [Act.put, List.setIfInBounds_toArray, List.set_cons_zero, List.set_cons_succ, i64_w, i32_w]
      rfl
    refine pure_ (i := 5) (N := some 56) (v := ?_) (a' := ?_) (bts 12 63) rfl rfl (by kernel_rfl) (fun _ _ _ h => h) (Or.inl ⟨by rfl, ?_⟩) ?_ ?_
    rotate_left
    · intro w'
      go_simp
      with_reducible rfl
    rotate_left
    · simp only [Act.put, List.setIfInBounds_toArray, List.set_cons_zero, List.set_cons_succ, i64_w, i32_w]
      rfl
    refine pure_ (i := 6) (N := some 57) (v := ?_) (a' := ?_) (bts 12 127) rfl rfl (by kernel_rfl) (fun _ _ _ h => h) (Or.inl ⟨by rfl, ?_⟩) ?_ ?_
    rotate_left
    · intro w'
      go_simp
      with_reducible rfl
    rotate_left
    · simp only [Act.put, List.setIfInBounds_toArray, List.set_cons_zero, List.set_cons_succ, i64_w, i32_w]
      rfl
    refine pure_ (i := 7) (N := some 58) (v := ?_) (a' := ?_) (bts 12 255) rfl rfl (by kernel_rfl) (fun _ _ _ h => h) (Or.inl ⟨by rfl, ?_⟩) ?_ ?_
    rotate_left
    · intro w'
      go_simp
      with_reducible rfl
    rotate_left
    · simp only [Act.put, List.setIfInBounds_toArray, List.set_cons_zero, List.set_cons_succ, i64_w, i32_w]
      rfl
    refine take_ (i := 8) (N := some 59) (v := ?_) (a' := ?_) (bts 12 511) rfl rfl (by kernel_rfl) (fun _ _ _ h => h) (Or.inl ⟨by rfl, ?_⟩) hHeld ?_ ?_
    rotate_left
    · intro w'
      rintro ⟨s0, s1, s2, s3, s4, s5, s6⟩
      go_simp
      with_reducible rfl
    rotate_left
    · simp only [Act.put, List.setIfInBounds_toArray, List.set_cons_zero, List.set_cons_succ, i64_w, i32_w]
      rfl
    refine pure_ (i := 11) (N := some 62) (v := ?_) (a' := ?_) (bts 12 2559) rfl rfl (by kernel_rfl) (fun _ _ _ h => h) (Or.inl ⟨by rfl, ?_⟩) ?_ ?_
    rotate_left
    · intro w'
      go_simp
      with_reducible rfl
    rotate_left
    · simp only [Act.put, List.setIfInBounds_toArray, List.set_cons_zero, List.set_cons_succ, i64_w, i32_w]
      rfl
    refine one_ (i := 9) (N := some 60) (bts 12 3071) rfl rfl (by kernel_rfl) (by decide) (fun K hK => ?_)
    refine goes_ Tryz.func31 (by kernel_rfl) rfl #[.agg #[.string r.f0, .int .i64 r.f1.f0, .int .i64 r.f1.f1, .int .i64 r.f1.f2, .string r.f1.f3, .slice A5 r.f2.length c5, .slice A6 r.f3.length c6], .slice A6 r.f3.length c6, .bool true] (by rfl) rfl rfl (by (try simp only [List.map_toArray, List.map_cons, List.map_nil]); first | done | rfl) ?_
    refine (HOF.out _ HK1.out).mono ?_
    rintro e W5 ⟨v5, rfl, hn5, hb5⟩
    have HK5 := Aside0.mk (below_step HK1.out hb5)
    obtain ⟨A9, c9, rfl⟩ := Kd.N_slice hn5
    have HE5 := Aside0.mk (Kd.N_F (Kd.N_bound hn5))
    have HZ3 := Aside0.mk (show wr.heap.size ≤ W3.heap.size from HK1.out.size)
    clear hb5 hn5 HK1
    refine ⟨_, rfl, ?_⟩
    refine hK.out _ _ (HS.out _ HK5.out) (fun hHeld => ?_)
    clear hK K
    refine norm_ (a' := ?_) ?_ ?_
    rotate_left
    · show Act.put _ (some 60) _ = _
      simp only [Act.put, List.setIfInBounds_toArray, List.set_cons_zero, List.set_cons_succ, i64_w, i32_w]
      rfl
    refine pure_ (i := 10) (N := some 61) (v := ?_) (a' := ?_) (bts 12 4095) rfl rfl (by kernel_rfl) (fun _ _ _ h => h) (Or.inl ⟨by rfl, ?_⟩) ?_ ?_
    rotate_left
    · intro w'
      go_simp
      with_reducible rfl
    rotate_left
    · simp only [Act.put, List.setIfInBounds_toArray, List.set_cons_zero, List.set_cons_succ, i64_w, i32_w]
      rfl
    refine done_ (by kernel_rfl) ?_
    clear HS HOF hHeld
    have hwz := HB.out.size
    have HEO := Aside0.mk (edges_ok (root := true) (m := r) (rules := r.f3) HRM.out.deps HRM.out.rules)
    have HEL := Aside0.mk (Nat.le_trans (edges_len true r r.f3) HRM.out.dlen)
    have HPA := Aside0.mk (show putsAll B ns r = ns.map (fun n => Ct.atMost (B.vars n)) ++ ((edgesL true r r.f3).flatMap (putsRoot B) ++ B.l.zipIdx.flatMap (putsMan B r.f3)) from rfl)
    have HP1 := Aside0.mk (show (ns.map (fun n => Ct.atMost (B.vars n))).length ≤ 1000 by rw [List.length_map]; exact hnl)
    generalize ns.map (fun n => Ct.atMost (B.vars n)) = P1 at HF HPA HP1
    generalize edgesL true r r.f3 = es at HE5 HEO HEL HPA ⊢
    have hel := HEL.out
    obtain ⟨okE, hokE⟩ : ∃ okE : Nat → Prop, okE = fun k => (okx k ∨ W3.heap.size ≤ k) ∧ k < W5.heap.size := ⟨_, rfl⟩
    have HOE := Aside0.mk (show ∀ k, okE k → (k ≠ w.heap.size + 1 ∧ k ≠ w.heap.size + 2) ∧ k < W5.heap.size from fun k hk => by
     rw [hokE] at hk
     have h1 := HZ3.out
     have h2 := HSZ0.out
     have h3 := blk_lt2 HP.out.blk
     have h4 := HP.out.bb
     refine ⟨?_, hk.2⟩
     rcases hk.1 with h | h
     · have := HP.out.hx k h; omega
     · omega)
    have HCE := Aside0.mk (show ∀ k, okE k → some k ≠ vc.ownBlock from fun k hk he => by
     rw [hokE] at hk
     have h1 := HZ3.out
     have h5 := Kd.N_lt HF.out.l k he.symm
     have h6 := Kd.N_base HF.out.l k he.symm
     have h3 := blk_lt2 HP.out.blk
     have h4 := HP.out.bb
     rcases hk.1 with h | h
     · have := HP.out.hx k h; omega
     · omega)
    rw [← hokE] at HE5
    clear hokE
    have HF5 := Aside0.mk (HF.out.below HK5.out)
    have HB5 := Aside0.mk (HB.out.trans (HK5.out.mono (by have := HSZ0.out; omega)))
    clear HF HB HK5 hwz
    go_wp2
    go_loopg [62] (es.length + 1) (fun gg s62 wq => ∃ (j : Nat) (vc : Value), j ≤ es.length ∧ es.length - j < gg ∧ s62 = .int .i64 (j : Int) ∧ Aside0 (FS (w.heap.size + 1) (w.heap.size + 1) (w.heap.size + 2) (B.l.length : Int) (P1 ++ (es.take j).flatMap (putsRoot B)) vc wq) ∧ Aside0 (Below (w.heap.size + 1) W0 wq) ∧ Aside0 (Kd.F k75 wq okE A9 es.length es) ∧ Aside0 (∀ k, okE k → some k ≠ vc.ownBlock) ∧ Aside0 (W5.heap.size ≤ wq.heap.size))
    case atStart => exact ⟨0, vc, Nat.zero_le _, by omega, rfl, by rw [List.take_zero, List.flatMap_nil, List.append_nil]; exact HF5, HB5, HE5, HCE, ⟨Nat.le_refl _⟩⟩
    case round =>
     clear HF5 HB5 HE5 HCE
     obtain ⟨j, vc2, hj1, hjg, rfl, HF, HB, HE, HCE, HW5⟩ := hrel
     by_cases hlt2 : j < es.length
     · obtain ⟨ad, A2, c2, rfl, m0, m1, m2, hrc⟩ := dep_atF HE.out (Below.refl wr.heap.size wr) j hlt2
       have ja : (j : Int) < (es.length : Int) := by omega
       have hdo := HEO.out _ (List.getElem_mem hlt2)
       have HTK := Aside0.mk (show P1 ++ (es.take (j + 1)).flatMap (putsRoot B) = (P1 ++ (es.take j).flatMap (putsRoot B)) ++ putsRoot B es[j] by rw [List.take_succ_eq_append_getElem hlt2, List.flatMap_append, List.append_assoc]; simp)
       have HPL := Aside0.mk (show (P1 ++ (es.take j).flatMap (putsRoot B)).length ≤ 1000 + 1001 * 1000 by
        have h1 := flat_len (f := putsRoot B) (k := 1001) (l := es.take j) (fun d _ => putsRoot_len HBO.out HBL.out d)
        rw [List.length_append]
        rw [List.length_take] at h1
        have := HP1.out
        omega)
       generalize es[j] = d at m0 m1 m2 hrc hdo HTK
       generalize P1 ++ (es.take j).flatMap (putsRoot B) = P at HF HTK HPL
       have LS := HLS.out wr HB.out
       have HGW := HGL.below (HX.out wr HB.out)
       have HPT := Aside0.mk (fun W (h : Below wr.heap.size wr W) => parted_walk HBO.out d hdo A2 c2 W (HGW.below h) (LS.below h) (RangeC.below ⟨hrc.1, Kd.F_now hrc.2⟩ h))
       have BD := Aside0.mk (blk_new wr (.cells #[.int .i64 d.f0, .string d.f1, .slice A2 d.f2.f0.length c2] 75))
       have HBG := Aside0.mk (show (goodL B d).length ≤ 1000 from Nat.le_trans (Nat.le_trans (List.length_filter_le _ _) (HBO.out.vlen _)) HBL.out)
       have HBB := Aside0.mk (show (badL B d).length ≤ 1000 from Nat.le_trans (Nat.le_trans (List.length_filter_le _ _) (HBO.out.vlen _)) HBL.out)
       have HBV := Aside0.mk (fun v (hv : v ∈ badL B d) => HBO.out.vars d.f1 v (List.mem_filter.1 hv).1)
       have HPR := Aside0.mk (show putsRoot B d = (if needsB d = true then [([goodL B d], 0)] else []) ++ (badL B d).map (fun v => ([[-v]], 0)) from rfl)
       clear hdo hrc LS HGW
       generalize goodL B d = good at HPT HBG HPR
       generalize badL B d = bad at HPT HBB HBV HPR
       go_upto_if 73 with (first
        | (go_at_call 32; refine (HPT.out _ (below_alloc (Below.refl _ _) _)).mono ?_; rintro e W6 ⟨vg, vb, rfl, hg6, hb6, hk6⟩; obtain ⟨Ag, cg, rfl⟩ := Kd.R_slice hg6; obtain ⟨Ab, cb, rfl⟩ := Kd.R_slice hb6; have HG6 := Aside0.mk (Kd.R_F (Kd.R_bound hg6)); have HGC := Aside0.mk (Kd.R_reads' hg6).2.1; have HD6 := Aside0.mk (Kd.R_F (Kd.R_bound hb6)); have HK6 := Aside0.mk (below_step (below_alloc (Below.refl wr.heap.size wr) (.cells #[.int .i64 d.f0, .string d.f1, .slice A2 d.f2.f0.length c2] 75)) hk6); have BD6 := blk_below BD.out hk6; have y0 := blk_at BD6 0 (v := .int .i64 d.f0) rfl; have y1 := blk_at BD6 1 (v := .string d.f1) rfl; have y2 := blk_at BD6 2 (v := .slice A2 d.f2.f0.length c2) rfl; clear HPT BD hg6 hb6 hk6 BD6)
        | (go_at_call 33; refine (needs_walk d A2 c2 _).mono ?_; rintro e W7 ⟨rfl, hb7⟩; have HK7 := Aside0.mk (below_step HK6.out hb7); have HG7 := Aside0.mk (Kd.F_below HG6.out hb7); have HD7 := Aside0.mk (Kd.F_below HD6.out hb7); have HZ6 := Aside0.mk (show W6.heap.size ≤ W7.heap.size from hb7.size); clear hb7 y0 y1 y2 HG6 HD6))
       obtain ⟨okD, hokD⟩ : ∃ okD : Nat → Prop, okD = fun k => wr.heap.size + 1 ≤ k ∧ k < W6.heap.size := ⟨_, rfl⟩
       have HGd := Aside0.mk (show Kd.F (Kd.int .i64) W7 okD Ag good.length good from Kd.F_mono HG7.out (fun k hk => by rw [hokD]; have h2 := hk.2.1; rw [World.size_alloc] at h2; exact ⟨h2, hk.2.2.1⟩))
       have HBd := Aside0.mk (show Kd.F (Kd.int .i64) W7 okD Ab bad.length bad from Kd.F_mono HD7.out (fun k hk => by rw [hokD]; have h2 := hk.2.1; rw [World.size_alloc] at h2; exact ⟨h2, hk.2.2.1⟩))
       have HOD := Aside0.mk (show ∀ k, okD k → ((w.heap.size + 1 ≤ k ∧ k ≠ w.heap.size + 1 ∧ k ≠ w.heap.size + 2) ∧ some k ≠ vc2.ownBlock) ∧ k < W7.heap.size from fun k hk => by
        rw [hokD] at hk
        exact ⟨HF.out.fresh k (by omega), Nat.lt_of_lt_of_le hk.2 HZ6.out⟩)
       have HKD := Aside0.mk (fun k (hk : okD k) => (HOD.out k hk).1.1.2)
       have HF7 := Aside0.mk (HF.out.below HK7.out)
       have HB7 := Aside0.mk (HB.out.trans (HK7.out.mono (by have := blk_lt2 HF.out.f; omega)))
       have HE7 := Aside0.mk (Kd.F_below HE.out HK7.out)
       have HW7 := Aside0.mk (show W5.heap.size ≤ W7.heap.size from Nat.le_trans HW5.out HK7.out.size)
       have HPL4 := Aside0.mk (show P.length ≤ 4000000 from Nat.le_trans HPL.out (by decide))
       generalize needsB d = nd at HPR ⊢
       clear hokD HG7 HD7 HF HB HE HK6 HK7 HW5 m0 m1 m2 HZ6
       go_cut [] (fun wc => ∃ vc', Aside0 (FS (w.heap.size + 1) (w.heap.size + 1) (w.heap.size + 2) (B.l.length : Int) (P ++ (if nd = true then [([good], 0)] else [])) vc' wc) ∧ Aside0 (Below (w.heap.size + 1) W0 wc) ∧ (Aside0 (Kd.F k75 wc okE (some ad) es.length es) ∧ Aside0 (∀ k, okE k → some k ≠ (vc').ownBlock) ∧ Aside0 (W5.heap.size ≤ (wc).heap.size)) ∧ Aside0 (Kd.F (Kd.int .i64) wc okD Ab (bad).length bad) ∧ Aside0 (∀ k, okD k → some k ≠ (vc').ownBlock) ∧ Aside0 (∀ k, okD k → k < (wc).heap.size))
       case first =>
        cases nd with
        | false =>
         go_wp2
         go_meet
         case rel => exact ⟨vc2, ⟨by rw [if_neg (by decide), List.append_nil]; exact HF7.out⟩, HB7, ⟨HE7, HCE, HW7⟩, HBd, ⟨fun k hk => (HOD.out k hk).1.2⟩, ⟨fun k hk => (HOD.out k hk).2⟩⟩
        | true =>
         have HF8 := Aside0.mk (HF7.out.below (below_alloc (Below.refl _ _) (.cells #[.slice Ag good.length cg] 56)))
         have HL8 := Aside0.mk (lit1_F HGd.out HGC.out)
         have HO8 := Aside0.mk (show ∀ k, (okD k ∨ k = W7.heap.size) → ((w.heap.size + 1 ≤ k ∧ k ≠ w.heap.size + 1 ∧ k ≠ w.heap.size + 2) ∧ some k ≠ vc2.ownBlock) from fun k hk => hk.elim (fun h => (HOD.out k h).1) (fun h => HF7.out.fresh k (by omega)))
         go_wp2_with (go_at_call 29; refine (put_walk HF8.out [good] 0 (some ⟨W7.heap.size, 0, none⟩) 1 _ HL8.out HO8.out (by simp) HPL4.out).mono ?_; rintro en w8 ⟨rfl, v1, hf8, hk8⟩; have HF9 := Aside0.mk hf8; have HK9 := Aside0.mk hk8; clear HF8 HL8 HO8 hf8 hk8)
         go_meet
         case rel =>
          have hz := HK9.out.b.size
          rw [World.size_alloc] at hz
          exact ⟨v1, ⟨by rw [if_pos trivial]; exact HF9.out⟩, ⟨HB7.out.trans (((below_alloc (Below.refl _ _) _).mono (by have := blk_lt2 HF7.out.f; omega)).trans HK9.out.b)⟩, ⟨⟨F_put (Kd.F_below HE7.out (below_alloc (Below.refl _ _) _)) HK9.out (fun k hk => (HOE.out k hk).1) HCE.out⟩, ⟨clear_put HK9.out HCE.out (fun k hk => by have := (HOE.out k hk).2; have := HW7.out; rw [World.size_alloc]; omega)⟩, ⟨by have := HW7.out; omega⟩⟩, ⟨F_put (Kd.F_below HBd.out (below_alloc (Below.refl _ _) _)) HK9.out (fun k hk => (HOD.out k hk).1.1.2) (fun k hk => (HOD.out k hk).1.2)⟩, ⟨clear_put HK9.out (fun k hk => (HOD.out k hk).1.2) (fun k hk => by have := (HOD.out k hk).2; rw [World.size_alloc]; omega)⟩, ⟨fun k hk => by have := (HOD.out k hk).2; omega⟩⟩
       case rest =>
        obtain ⟨vc3, HF9, HB9, ⟨HE9, HCE9, HW9⟩, HD9, HCD9, HZD9⟩ := hcut
        have HTK2 := Aside0.mk (show P1 ++ (es.take (j + 1)).flatMap (putsRoot B) = (P ++ (if nd = true then [([good], 0)] else [])) ++ bad.map (fun v => ([[-v]], 0)) by rw [HTK.out, HPR.out, List.append_assoc])
        have HPL5 := Aside0.mk (show (P ++ (if nd = true then [([good], 0)] else [])).length ≤ 1000 + 1001 * 1000 + 1 by have := HPL.out; rw [List.length_append]; split <;> simp <;> omega)
        generalize P ++ (if nd = true then [([good], 0)] else []) = P2 at HF9 HTK2 HPL5
        have hbb := HBB.out
        clear HTK HPR HPL HGd HBd HF7 HB7 HE7 HW7 HPL4 HOD
        go_wp2
        go_loopg [80] (bad.length + 1) (fun gg s80 wq => ∃ (i : Nat) (vc : Value), i ≤ bad.length ∧ bad.length - i < gg ∧ s80 = .int .i64 (i : Int) ∧ Aside0 (FS (w.heap.size + 1) (w.heap.size + 1) (w.heap.size + 2) (B.l.length : Int) (P2 ++ (bad.take i).map (fun v => ([[-v]], 0))) vc wq) ∧ Aside0 (Below (w.heap.size + 1) W0 wq) ∧ (Aside0 (Kd.F k75 wq okE (some ad) es.length es) ∧ Aside0 (∀ k, okE k → some k ≠ (vc).ownBlock) ∧ Aside0 (W5.heap.size ≤ (wq).heap.size)) ∧ Aside0 (Kd.F (Kd.int .i64) wq okD Ab (bad).length bad) ∧ Aside0 (∀ k, okD k → some k ≠ (vc).ownBlock) ∧ Aside0 (∀ k, okD k → k < (wq).heap.size))
        case atStart => exact ⟨0, vc3, Nat.zero_le _, by omega, rfl, by rw [List.take_zero, List.map_nil, List.append_nil]; exact HF9, HB9, ⟨HE9, HCE9, HW9⟩, HD9, HCD9, HZD9⟩
        case round =>
         clear HF9 HB9 HE9 HCE9 HW9 HD9 HCD9 HZD9
         obtain ⟨i, vc4, hi1, hig, rfl, HF, HB, ⟨HE, HCE, HW5⟩, HD, HCD, HZD⟩ := hrel
         by_cases hil : i < bad.length
         · obtain ⟨adb, rfl, n0⟩ := C_int_at (Kd.F_now HD.out) i hil
           have iaa : (i : Int) < (bad.length : Int) := by omega
           have hv := HBV.out _ (List.getElem_mem hil)
           have HTI := Aside0.mk (show P2 ++ (bad.take (i + 1)).map (fun v => (([[-v]], 0) : Put)) = (P2 ++ (bad.take i).map (fun v => ([[-v]], 0))) ++ [([[-bad[i]]], 0)] by rw [List.take_succ_eq_append_getElem hil, List.map_append, List.append_assoc]; rfl)
           have HPL6 := Aside0.mk (show (P2 ++ (bad.take i).map (fun v => (([[-v]], 0) : Put))).length ≤ 4000000 by have := HPL5.out; rw [List.length_append, List.length_map, List.length_take]; omega)
           generalize bad[i] = v at n0 hv HTI
           have hvw : wrap64 (-v) = -v := by unfold wrap64; omega
           generalize P2 ++ (bad.take i).map (fun v => (([[-v]], 0) : Put)) = P3 at HF HTI HPL6
           have HF8 := Aside0.mk ((HF.out.below (below_alloc (Below.refl _ _) (.cells #[.int .i64 (-v)] 3))).below (below_alloc (Below.refl _ _) (.cells #[.slice (some ⟨wr.heap.size, 0, none⟩) 1 1] 56)))
           have HL8 := Aside0.mk (lit2_F wr (-v))
           have HO8 := Aside0.mk (show ∀ k, (k = wr.heap.size ∨ k = wr.heap.size + 1) → ((w.heap.size + 1 ≤ k ∧ k ≠ w.heap.size + 1 ∧ k ≠ w.heap.size + 2) ∧ some k ≠ vc4.ownBlock) from fun k hk => HF.out.fresh k (by omega))
           have HK8 := Aside0.mk (below_alloc (below_alloc (Below.refl wr.heap.size wr) (.cells #[.int .i64 (-v)] 3)) (.cells #[.slice (some ⟨wr.heap.size, 0, none⟩) 1 1] 56))
           have HFF := Aside0.mk (blk_lt2 HF.out.f)
           clear hv
           go_wp2_with (go_at_call 29; refine (put_walk HF8.out [[-v]] 0 (some ⟨wr.heap.size + 1, 0, none⟩) 1 _ HL8.out HO8.out (by simp) HPL6.out).mono ?_; rintro en w8 ⟨rfl, v1, hf8, hk8⟩; have HF9 := Aside0.mk hf8; have HK9 := Aside0.mk hk8; clear HF8 HL8 HO8 hf8 hk8)
           go_roundg (bad.length - (i + 1) + 1)
           case measure => omega
           case rel =>
            have hz := HK9.out.b.size
            simp only [World.size_alloc] at hz
            exact ⟨i + 1, v1, by omega, by omega, by go_num, by rw [HTI.out]; exact HF9, ⟨HB.out.trans ((HK8.out.mono (by have := HFF.out; omega)).trans HK9.out.b)⟩, ⟨⟨F_put (Kd.F_below HE.out HK8.out) HK9.out (fun k hk => (HOE.out k hk).1) HCE.out⟩, ⟨clear_put HK9.out HCE.out (fun k hk => by have := (HOE.out k hk).2; have := HW5.out; simp only [World.size_alloc]; omega)⟩, ⟨by have := HW5.out; omega⟩⟩, ⟨F_put (Kd.F_below HD.out HK8.out) HK9.out (fun k hk => HKD.out k hk) HCD.out⟩, ⟨clear_put HK9.out HCD.out (fun k hk => by have := HZD.out k hk; simp only [World.size_alloc]; omega)⟩, ⟨fun k hk => by have := HZD.out k hk; omega⟩⟩
         · obtain rfl : i = bad.length := by omega
           rw [List.take_length, ← HTK2.out] at HF
           go_wp2
           go_roundg (es.length - (j + 1) + 1)
           case measure => omega
           case rel => exact ⟨j + 1, vc4, by omega, by omega, by go_num, HF, HB, HE, HCE, HW5⟩
     · obtain rfl : j = es.length := by omega
       rw [List.take_length] at HF
       have HPL2 := Aside0.mk (show (P1 ++ es.flatMap (putsRoot B)).length ≤ 1000 + 1001 * 1000 by
        have h1 := flat_len (f := putsRoot B) (k := 1001) (l := es) (fun d _ => putsRoot_len HBO.out HBL.out d)
        rw [List.length_append]
        have := HP1.out
        omega)
       have HPA2 := Aside0.mk (show putsAll B ns r = (P1 ++ es.flatMap (putsRoot B)) ++ B.l.zipIdx.flatMap (putsMan B r.f3) by rw [HPA.out, List.append_assoc])
       generalize P1 ++ es.flatMap (putsRoot B) = P2 at HF HPL2 HPA2
       clear HPA HP1 HE HCE HEO HEL HOE
       have y7 := blk_at (HLS.out wr HB.out).blk 7 (v := .slice Al B.l.length cl) rfl
       go_wp2
       clear y7
       go_loopg [97] (B.l.length + 1) (fun gg s97 wq => ∃ (i : Nat) (vc : Value), i ≤ B.l.length ∧ B.l.length - i < gg ∧ s97 = .int .i64 (i : Int) ∧ Aside0 (FS (w.heap.size + 1) (w.heap.size + 1) (w.heap.size + 2) (B.l.length : Int) (P2 ++ (B.l.zipIdx.take i).flatMap (putsMan B r.f3)) vc wq) ∧ Aside0 (Below (w.heap.size + 1) W0 wq))
       case atStart => exact ⟨0, _, Nat.zero_le _, by omega, rfl, by rw [List.take_zero, List.flatMap_nil, List.append_nil]; exact HF, HB⟩
       case round =>
        clear HF HB HW5
        obtain ⟨i, vc, hi1, hig, rfl, HF, HB⟩ := hrel
        by_cases hlt3 : i < B.l.length
        · have ia : (i : Int) < (B.l.length : Int) := by omega
          have LS := HLS.out wr HB.out
          obtain ⟨gl, cl2, evl, _, _, _⟩ := Kd.N_form (LS.l.toN LS.hx) (by omega)
          injection evl with evl _ evc
          subst evl evc
          obtain ⟨B5, d5, B6, d6, ⟨m0, m1, m2, m3, m4, m5, m6⟩, _, hmf⟩ := man_atN (LS.l.toN LS.hx) i hlt3 hlt3
          have HMK := Aside0.mk (HBO.out.each _ (List.getElem_mem hlt3))
          have hzl : i < B.l.zipIdx.length := by rw [List.length_zipIdx]; exact hlt3
          have HTM := Aside0.mk (show P2 ++ (B.l.zipIdx.take (i + 1)).flatMap (putsMan B r.f3) = (P2 ++ (B.l.zipIdx.take i).flatMap (putsMan B r.f3)) ++ (edgesL false B.l[i] r.f3).flatMap (putsDep B i) by rw [List.take_succ_eq_append_getElem hzl, List.flatMap_append, List.append_assoc, List.getElem_zipIdx]; simp [putsMan])
          have HPM := Aside0.mk (show (P2 ++ (B.l.zipIdx.take i).flatMap (putsMan B r.f3)).length ≤ 1000 + 1001 * 1000 + 2000 * 1000 by
           have h1 := flat_len (f := putsMan B r.f3) (k := 2000) (l := B.l.zipIdx.take i) (fun p hp => putsMan_len HBO.out r.f3 p (List.mem_of_mem_take hp))
           rw [List.length_take] at h1
           rw [List.length_append]
           have := HPL2.out
           omega)
          generalize B.l[i] = m at m0 m1 m2 m3 m4 m5 m6 hmf HMK HTM
          generalize P2 ++ (B.l.zipIdx.take i).flatMap (putsMan B r.f3) = P at HF HTM HPM
          have hmx : ManF wr okx B5 d5 B6 d6 m := hmf.mono (fun k hk => hk.1.resolve_right (fun e => hk.2 (by simpa [Value.ownBlock] using e)))
          have BM := Aside0.mk (blk_new wr (.cells #[.string m.f0, .int .i64 m.f1.f0, .int .i64 m.f1.f1, .int .i64 m.f1.f2, .string m.f1.f3, .slice B5 m.f2.length d5, .slice B6 m.f3.length d6] 27))
          have HKm := Aside0.mk (below_alloc (Below.refl wr.heap.size wr) (.cells #[.string m.f0, .int .i64 m.f1.f0, .int .i64 m.f1.f1, .int .i64 m.f1.f2, .string m.f1.f3, .slice B5 m.f2.length d5, .slice B6 m.f3.length d6] 27))
          have hmx2 := hmx.below HKm.out
          have HFm := Aside0.mk (HF.out.below HKm.out)
          have HBm := Aside0.mk (HB.out.trans (HKm.out.mono (by have := blk_lt2 HF.out.f; omega)))
          go_upto_region 24 with (fail)
          obtain ⟨Wm, hWm⟩ : ∃ Wm, wr.alloc (.cells #[.string m.f0, .int .i64 m.f1.f0, .int .i64 m.f1.f1, .int .i64 m.f1.f2, .string m.f1.f3, .slice B5 m.f2.length d5, .slice B6 m.f3.length d6] 27) = Wm := ⟨_, rfl⟩
          rw [hWm] at BM HKm hmx2 HFm HBm ⊢
          obtain ⟨bm, hbm⟩ : ∃ bm, wr.heap.size = bm := ⟨_, rfl⟩
          rw [hbm] at BM ⊢
          clear hWm hbm HKm HF HB LS hmf hmx m0 m1 m2 m3 m4 m5 m6
          have HOF := Aside0.mk (fun W (h : Below Wm.heap.size Wm W) => of_walk m B5 d5 B6 d6 A6 c6 r.f3 false HMK.out.deps HMK.out.dlen HRM.out.rlen HRM.out.rules W okx (fun k hk => Nat.lt_of_lt_of_le (Nat.lt_of_lt_of_le (HP.out.hx k hk) HP.out.bb) (Nat.le_of_lt (blk_lt2 (HLS.out Wm HBm.out).blk) |> fun h2 => Nat.le_trans h2 h.size)) (Kd.F_below hmx2.dr h) (Kd.F_below (Kd.F_below HRF.out.rr (HX.out Wm HBm.out)) h))
          have HS := Aside0.mk (fun W (h : Below Wm.heap.size Wm W) => (⟨(blk_cell (blk_below BM.out h) 0).trans rfl, (blk_cell (blk_below BM.out h) 1).trans rfl, (blk_cell (blk_below BM.out h) 2).trans rfl, (blk_cell (blk_below BM.out h) 3).trans rfl, (blk_cell (blk_below BM.out h) 4).trans rfl, (blk_cell (blk_below BM.out h) 5).trans rfl, (blk_cell (blk_below BM.out h) 6).trans rfl, (blk_cell (blk_below (HLS.out Wm HBm.out).blk h) 6).trans rfl⟩ : W.cell? ⟨bm, 0, none⟩ = some (.string m.f0) ∧ W.cell? ⟨bm, 1, none⟩ = some (.int .i64 m.f1.f0) ∧ W.cell? ⟨bm, 2, none⟩ = some (.int .i64 m.f1.f1) ∧ W.cell? ⟨bm, 3, none⟩ = some (.int .i64 m.f1.f2) ∧ W.cell? ⟨bm, 4, none⟩ = some (.string m.f1.f3) ∧ W.cell? ⟨bm, 5, none⟩ = some (.slice B5 m.f2.length d5) ∧ W.cell? ⟨bm, 6, none⟩ = some (.slice B6 m.f3.length d6) ∧ W.cell? ⟨b, 6, none⟩ = some (.slice A6 r.f3.length c6)))
          have HK1 := Aside0.mk (below_drew (Below.refl Wm.heap.size Wm))
          refine start_ (n := 9) (S := fun w' => w'.cell? ⟨bm, 0, none⟩ = some (.string m.f0) ∧ w'.cell? ⟨bm, 1, none⟩ = some (.int .i64 m.f1.f0) ∧ w'.cell? ⟨bm, 2, none⟩ = some (.int .i64 m.f1.f1) ∧ w'.cell? ⟨bm, 3, none⟩ = some (.int .i64 m.f1.f2) ∧ w'.cell? ⟨bm, 4, none⟩ = some (.string m.f1.f3) ∧ w'.cell? ⟨bm, 5, none⟩ = some (.slice B5 m.f2.length d5) ∧ w'.cell? ⟨bm, 6, none⟩ = some (.slice B6 m.f3.length d6) ∧ w'.cell? ⟨b, 6, none⟩ = some (.slice A6 r.f3.length c6)) (ds := []) (bts 9 0) (by kernel_rfl) rfl (by kernel_rfl) (HS.out _ HK1.out) (fun hHeld => ?_)
          generalize Wm.drew = W3 at HK1 hHeld ⊢
          refine take_ (i := 0) (N := some 102) (v := ?_) (a' := ?_) (bts 9 1) rfl rfl (by kernel_rfl) (fun _ _ _ h => h) (Or.inl ⟨by rfl, ?_⟩) hHeld ?_ ?_
          rotate_left
          · intro w'
            rintro ⟨s0, s1, s2, s3, s4, s5, s6, s7⟩
            go_simp
            with_reducible rfl
          rotate_left
          · simp only [Act.put, List.setIfInBounds_toArray, List.set_cons_zero, List.set_cons_succ, i64_w, i32_w]
            rfl
          refine pure_ (i := 1) (N := some 103) (v := ?_) (a' := ?_) (bts 9 3) rfl rfl (by kernel_rfl) (fun _ _ _ h => h) (Or.inl ⟨by rfl, ?_⟩) ?_ ?_
          rotate_left
          · intro w'
            go_simp
            with_reducible rfl
          rotate_left
          · simp only [Act.put, List.setIfInBounds_toArray, List.set_cons_zero, List.set_cons_succ, i64_w, i32_w]
            rfl
          refine pure_ (i := 2) (N := some 104) (v := ?_) (a' := ?_) (bts 9 7) rfl rfl (by kernel_rfl) (fun _ _ _ h => h) (Or.inl ⟨by rfl, ?_⟩) ?_ ?_
          rotate_left
          · intro w'
            go_simp
            with_reducible rfl
          rotate_left
          · simp only [Act.put, List.setIfInBounds_toArray, List.set_cons_zero, List.set_cons_succ, i64_w, i32_w]
            rfl
          refine pure_ (i := 3) (N := some 105) (v := ?_) (a' := ?_) (bts 9 15) rfl rfl (by kernel_rfl) (fun _ _ _ h => h) (Or.inl ⟨by rfl, ?_⟩) ?_ ?_
          rotate_left
          · intro w'
            go_simp
            with_reducible rfl
          rotate_left
          · simp only [Act.put, List.setIfInBounds_toArray, List.set_cons_zero, List.set_cons_succ, i64_w, i32_w]
            rfl
          refine pure_ (i := 4) (N := some 106) (v := ?_) (a' := ?_) (bts 9 31) rfl rfl (by kernel_rfl) (fun _ _ _ h => h) (Or.inl ⟨by rfl, ?_⟩) ?_ ?_
          rotate_left
          · intro w'
            go_simp
            with_reducible rfl
          rotate_left
          · simp only [Act.put, List.setIfInBounds_toArray, List.set_cons_zero, List.set_cons_succ, i64_w, i32_w]
            rfl
          refine take_ (i := 5) (N := some 107) (v := ?_) (a' := ?_) (bts 9 63) rfl rfl (by kernel_rfl) (fun _ _ _ h => h) (Or.inl ⟨by rfl, ?_⟩) hHeld ?_ ?_
          rotate_left
          · intro w'
            rintro ⟨s0, s1, s2, s3, s4, s5, s6, s7⟩
            go_simp
            with_reducible rfl
          rotate_left
          · simp only [Act.put, List.setIfInBounds_toArray, List.set_cons_zero, List.set_cons_succ, i64_w, i32_w]
            rfl
          refine pure_ (i := 8) (N := some 110) (v := ?_) (a' := ?_) (bts 9 319) rfl rfl (by kernel_rfl) (fun _ _ _ h => h) (Or.inl ⟨by rfl, ?_⟩) ?_ ?_
          rotate_left
          · intro w'
            go_simp
            with_reducible rfl
          rotate_left
          · simp only [Act.put, List.setIfInBounds_toArray, List.set_cons_zero, List.set_cons_succ, i64_w, i32_w]
            rfl
          refine one_ (i := 6) (N := some 108) (bts 9 383) rfl rfl (by kernel_rfl) (by decide) (fun K hK => ?_)
          refine goes_ Tryz.func31 (by kernel_rfl) rfl #[.agg #[.string m.f0, .int .i64 m.f1.f0, .int .i64 m.f1.f1, .int .i64 m.f1.f2, .string m.f1.f3, .slice B5 m.f2.length d5, .slice B6 m.f3.length d6], .slice A6 r.f3.length c6, .bool false] (by rfl) rfl rfl (by (try simp only [List.map_toArray, List.map_cons, List.map_nil]); first | done | rfl) ?_
          refine (HOF.out _ HK1.out).mono ?_
          rintro e W5 ⟨v5, rfl, hn5, hb5⟩
          have HK5 := Aside0.mk (below_step HK1.out hb5)
          obtain ⟨A9, c9, rfl⟩ := Kd.N_slice hn5
          have HE5 := Aside0.mk (Kd.N_F (Kd.N_bound hn5))
          have HZ3 := Aside0.mk (show Wm.heap.size ≤ W3.heap.size from HK1.out.size)
          clear hb5 hn5 HK1
          refine ⟨_, rfl, ?_⟩
          refine hK.out _ _ (HS.out _ HK5.out) (fun hHeld => ?_)
          clear hK K
          refine norm_ (a' := ?_) ?_ ?_
          rotate_left
          · show Act.put _ (some 108) _ = _
            simp only [Act.put, List.setIfInBounds_toArray, List.set_cons_zero, List.set_cons_succ, i64_w, i32_w]
            rfl
          refine pure_ (i := 7) (N := some 109) (v := ?_) (a' := ?_) (bts 9 511) rfl rfl (by kernel_rfl) (fun _ _ _ h => h) (Or.inl ⟨by rfl, ?_⟩) ?_ ?_
          rotate_left
          · intro w'
            go_simp
            with_reducible rfl
          rotate_left
          · simp only [Act.put, List.setIfInBounds_toArray, List.set_cons_zero, List.set_cons_succ, i64_w, i32_w]
            rfl
          refine done_ (by kernel_rfl) ?_
          clear HS HOF hHeld
          have HEO := Aside0.mk (edges_ok (root := false) (m := m) (rules := r.f3) HMK.out.deps HRM.out.rules)
          have HEL := Aside0.mk (Nat.le_trans (edges_len false m r.f3) HMK.out.dlen)
          generalize edgesL false m r.f3 = es2 at HE5 HEO HEL HTM ⊢
          have hwz := HBm.out.size
          have hel := HEL.out
          obtain ⟨okE, hokE⟩ : ∃ okE : Nat → Prop, okE = fun k => (okx k ∨ W3.heap.size ≤ k) ∧ k < W5.heap.size := ⟨_, rfl⟩
          have HOE := Aside0.mk (show ∀ k, okE k → (k ≠ w.heap.size + 1 ∧ k ≠ w.heap.size + 2) ∧ k < W5.heap.size from fun k hk => by
           rw [hokE] at hk
           have h1 := HZ3.out
           have h2 := HSZ0.out
           have h3 := blk_lt2 HP.out.blk
           have h4 := HP.out.bb
           refine ⟨?_, hk.2⟩
           rcases hk.1 with h | h
           · have := HP.out.hx k h; omega
           · omega)
          have HCE := Aside0.mk (show ∀ k, okE k → some k ≠ vc.ownBlock from fun k hk he => by
           rw [hokE] at hk
           have h1 := HZ3.out
           have h5 := Kd.N_lt HFm.out.l k he.symm
           have h6 := Kd.N_base HFm.out.l k he.symm
           have h3 := blk_lt2 HP.out.blk
           have h4 := HP.out.bb
           rcases hk.1 with h | h
           · have := HP.out.hx k h; omega
           · omega)
          rw [← hokE] at HE5
          clear hokE
          have HF5 := Aside0.mk (HFm.out.below HK5.out)
          have HB5 := Aside0.mk (HBm.out.trans (HK5.out.mono (by have := HSZ0.out; omega)))
          clear HFm HBm HK5 hwz
          go_wp2
          go_loopg [110] (es2.length + 1) (fun gg s110 wq => ∃ (j : Nat) (vc : Value), j ≤ es2.length ∧ es2.length - j < gg ∧ s110 = .int .i64 (j : Int) ∧ Aside0 (FS (w.heap.size + 1) (w.heap.size + 1) (w.heap.size + 2) (B.l.length : Int) (P ++ (es2.take j).flatMap (putsDep B i)) vc wq) ∧ Aside0 (Below (w.heap.size + 1) W0 wq) ∧ Aside0 (Kd.F k75 wq okE A9 es2.length es2) ∧ Aside0 (∀ k, okE k → some k ≠ vc.ownBlock) ∧ Aside0 (W5.heap.size ≤ wq.heap.size))
          case atStart => exact ⟨0, vc, Nat.zero_le _, by omega, rfl, by rw [List.take_zero, List.flatMap_nil, List.append_nil]; exact HF5, HB5, HE5, HCE, ⟨Nat.le_refl _⟩⟩
          case round =>
           clear HF5 HB5 HE5 HCE
           obtain ⟨j, vc2, hj1, hjg, rfl, HF, HB, HE, HCE, HW5⟩ := hrel
           by_cases hlt2 : j < es2.length
           · obtain ⟨ad, A2, c2, rfl, m0, m1, m2, hrc⟩ := dep_atF HE.out (Below.refl wr.heap.size wr) j hlt2
             have ja : (j : Int) < (es2.length : Int) := by omega
             have hdo := HEO.out _ (List.getElem_mem hlt2)
             have HTK := Aside0.mk (show P ++ (es2.take (j + 1)).flatMap (putsDep B i) = (P ++ (es2.take j).flatMap (putsDep B i)) ++ putsDep B i es2[j] by rw [List.take_succ_eq_append_getElem hlt2, List.flatMap_append, List.append_assoc]; simp)
             have HPL := Aside0.mk (show (P ++ (es2.take j).flatMap (putsDep B i)).length ≤ 3999000 by
              have h1 := flat_len (f := putsDep B i) (k := 2) (l := es2.take j) (fun d _ => putsDep_len B i d)
              rw [List.length_append]
              rw [List.length_take] at h1
              have := HPM.out
              omega)
             generalize es2[j] = d at m0 m1 m2 hrc hdo HTK
             generalize P ++ (es2.take j).flatMap (putsDep B i) = P4 at HF HTK HPL
             have LS := HLS.out wr HB.out
             have HGW := HGL.below (HX.out wr HB.out)
             have HPT := Aside0.mk (fun W (h : Below wr.heap.size wr W) => parted_walk HBO.out d hdo A2 c2 W (HGW.below h) (LS.below h) (RangeC.below ⟨hrc.1, Kd.F_now hrc.2⟩ h))
             have BD := Aside0.mk (blk_new wr (.cells #[.int .i64 d.f0, .string d.f1, .slice A2 d.f2.f0.length c2] 75))
             have HBG := Aside0.mk (show (goodL B d).length ≤ 1000 from Nat.le_trans (Nat.le_trans (List.length_filter_le _ _) (HBO.out.vlen _)) HBL.out)
             have HBB := Aside0.mk (show (badL B d).length ≤ 1000 from Nat.le_trans (Nat.le_trans (List.length_filter_le _ _) (HBO.out.vlen _)) HBL.out)
             have HBV := Aside0.mk (fun v (hv : v ∈ badL B d) => HBO.out.vars d.f1 v (List.mem_filter.1 hv).1)
             have HPR := Aside0.mk (show putsDep B i d = (if needsB d = true then [([(Ct.implies ((i : Int) + 1) (goodL B d)).1], (Ct.implies ((i : Int) + 1) (goodL B d)).2)] else []) ++ [Ct.neverF ((i : Int) + 1) (badL B d)] from rfl)
             clear hdo hrc LS HGW
             generalize goodL B d = good at HPT HBG HPR
             generalize badL B d = bad at HPT HBB HBV HPR
             go_upto_if 121 with (first
              | (go_at_call 32; refine (HPT.out _ (below_alloc (Below.refl _ _) _)).mono ?_; rintro e W6 ⟨vg, vb, rfl, hg6, hb6, hk6⟩; obtain ⟨Ag, cg, rfl⟩ := Kd.R_slice hg6; obtain ⟨Ab, cb, rfl⟩ := Kd.R_slice hb6; have HG6 := Aside0.mk (Kd.R_F (Kd.R_bound hg6)); have HGC := Aside0.mk (Kd.R_reads' hg6).2.1; have HDC := Aside0.mk (Kd.R_reads' hb6).2.1; have HD6 := Aside0.mk (Kd.R_F (Kd.R_bound hb6)); have HK6 := Aside0.mk (below_step (below_alloc (Below.refl wr.heap.size wr) (.cells #[.int .i64 d.f0, .string d.f1, .slice A2 d.f2.f0.length c2] 75)) hk6); have BD6 := blk_below BD.out hk6; have y0 := blk_at BD6 0 (v := .int .i64 d.f0) rfl; have y1 := blk_at BD6 1 (v := .string d.f1) rfl; have y2 := blk_at BD6 2 (v := .slice A2 d.f2.f0.length c2) rfl; clear HPT BD hg6 hb6 hk6 BD6)
              | (go_at_call 33; refine (needs_walk d A2 c2 _).mono ?_; rintro e W7 ⟨rfl, hb7⟩; have HK7 := Aside0.mk (below_step HK6.out hb7); have HG7 := Aside0.mk (Kd.F_below HG6.out hb7); have HD7 := Aside0.mk (Kd.F_below HD6.out hb7); have HZ6 := Aside0.mk (show W6.heap.size ≤ W7.heap.size from hb7.size); clear hb7 y0 y1 y2 HG6 HD6))
             obtain ⟨okD, hokD⟩ : ∃ okD : Nat → Prop, okD = fun k => wr.heap.size + 1 ≤ k ∧ k < W6.heap.size := ⟨_, rfl⟩
             have HGd := Aside0.mk (show Kd.F (Kd.int .i64) W7 okD Ag good.length good from Kd.F_mono HG7.out (fun k hk => by rw [hokD]; have h2 := hk.2.1; rw [World.size_alloc] at h2; exact ⟨h2, hk.2.2.1⟩))
             have HBd := Aside0.mk (show Kd.F (Kd.int .i64) W7 okD Ab bad.length bad from Kd.F_mono HD7.out (fun k hk => by rw [hokD]; have h2 := hk.2.1; rw [World.size_alloc] at h2; exact ⟨h2, hk.2.2.1⟩))
             have HOD := Aside0.mk (show ∀ k, okD k → ((w.heap.size + 1 ≤ k ∧ k ≠ w.heap.size + 1 ∧ k ≠ w.heap.size + 2) ∧ some k ≠ vc2.ownBlock) ∧ k < W7.heap.size from fun k hk => by
              rw [hokD] at hk
              exact ⟨HF.out.fresh k (by omega), Nat.lt_of_lt_of_le hk.2 HZ6.out⟩)
             have HKD := Aside0.mk (fun k (hk : okD k) => (HOD.out k hk).1.1.2)
             have HF7 := Aside0.mk (HF.out.below HK7.out)
             have HB7 := Aside0.mk (HB.out.trans (HK7.out.mono (by have := blk_lt2 HF.out.f; omega)))
             have HE7 := Aside0.mk (Kd.F_below HE.out HK7.out)
             have HW7 := Aside0.mk (show W5.heap.size ≤ W7.heap.size from Nat.le_trans HW5.out HK7.out.size)
             have HPL4 := Aside0.mk (show P4.length ≤ 4000000 from Nat.le_trans HPL.out (by decide))
             generalize needsB d = nd at HPR ⊢
             clear hokD HG7 HD7 HF HB HE HK6 HK7 HW5 m0 m1 m2 HZ6
             have HPX := Aside0.mk (show (P4 ++ (if nd = true then [([(Ct.implies ((i : Int) + 1) good).1], (Ct.implies ((i : Int) + 1) good).2)] else [])).length ≤ 4000000 by have := HPL.out; rw [List.length_append]; split <;> simp <;> omega)
             have HIW := Aside0.mk (implies_c ((i : Int) + 1) Ag cg good HBG.out W7 (Kd.F_now HGd.out) HGC.out)
             have hiw : wrap64 ((i : Int) + 1) = (i : Int) + 1 := by unfold wrap64; omega
             have HTK2 := Aside0.mk (show P ++ (es2.take (j + 1)).flatMap (putsDep B i) = (P4 ++ (if nd = true then [([(Ct.implies ((i : Int) + 1) good).1], (Ct.implies ((i : Int) + 1) good).2)] else [])) ++ [Ct.neverF ((i : Int) + 1) bad] by rw [HTK.out, HPR.out, List.append_assoc])
             clear HTK HPR
             generalize Ct.implies ((i : Int) + 1) good = im at HPX HIW HTK2
             go_cut [] (fun wc => ∃ vc', Aside0 (FS (w.heap.size + 1) (w.heap.size + 1) (w.heap.size + 2) (B.l.length : Int) (P4 ++ (if nd = true then [([im.1], im.2)] else [])) vc' wc) ∧ Aside0 (Below (w.heap.size + 1) W0 wc) ∧ (Aside0 (Kd.F k75 wc okE (some ad) es2.length es2) ∧ Aside0 (∀ k, okE k → some k ≠ (vc').ownBlock) ∧ Aside0 (W5.heap.size ≤ (wc).heap.size)) ∧ Aside0 (Kd.F (Kd.int .i64) wc okD Ab (bad).length bad) ∧ Aside0 (∀ k, okD k → some k ≠ (vc').ownBlock) ∧ Aside0 (∀ k, okD k → k < (wc).heap.size))
             case first =>
              cases nd with
              | false =>
               go_wp2
               go_meet
               case rel => exact ⟨vc2, ⟨by rw [if_neg (by decide), List.append_nil]; exact HF7.out⟩, HB7, ⟨HE7, HCE, HW7⟩, HBd, ⟨fun k hk => (HOD.out k hk).1.2⟩, ⟨fun k hk => (HOD.out k hk).2⟩⟩
              | true =>
               go_wp2_with (first
                | (go_at_call 34; refine HIW.out.mono ?_; rintro e W8 ⟨A4, c4, rfl, hl4, hf4, hb4⟩; have HK8 := Aside0.mk (below_alloc hb4 (.cells #[.slice A4 im.1.length c4] 56)); have HF8 := Aside0.mk ((HF7.out.below hb4).below (below_alloc (Below.refl _ _) (.cells #[.slice A4 im.1.length c4] 56))); have HL8 := Aside0.mk (lit1_F hf4 hl4); have HO8 := Aside0.mk (put_fresh HF7.out hb4.size); clear HIW hl4 hf4 hb4)
                | (go_at_call 29; refine (put_walk HF8.out [im.1] im.2 (some ⟨W8.heap.size, 0, none⟩) 1 _ HL8.out HO8.out (by simp) HPL4.out).mono ?_; rintro en w8 ⟨rfl, v1, hf8, hk8⟩; have HF9 := Aside0.mk hf8; have HK9 := Aside0.mk hk8; clear HF8 HL8 HO8 hf8 hk8))
               go_meet
               case rel =>
                have hz := HK9.out.b.size
                have hz8 := HK8.out.size
                exact ⟨v1, ⟨by rw [if_pos trivial]; exact HF9.out⟩, ⟨HB7.out.trans ((HK8.out.mono (by have := blk_lt2 HF7.out.f; omega)).trans HK9.out.b)⟩, ⟨⟨F_put (Kd.F_below HE7.out HK8.out) HK9.out (fun k hk => (HOE.out k hk).1) HCE.out⟩, ⟨clear_put HK9.out HCE.out (fun k hk => by have := (HOE.out k hk).2; have := HW7.out; omega)⟩, ⟨by have := HW7.out; omega⟩⟩, ⟨F_put (Kd.F_below HBd.out HK8.out) HK9.out (fun k hk => (HOD.out k hk).1.1.2) (fun k hk => (HOD.out k hk).1.2)⟩, ⟨clear_put HK9.out (fun k hk => (HOD.out k hk).1.2) (fun k hk => by have := (HOD.out k hk).2; omega)⟩, ⟨fun k hk => by have := (HOD.out k hk).2; omega⟩⟩
             case rest =>
              obtain ⟨vc3, HF, HB, ⟨HE, HCE, HW5⟩, HD, HCD, HZD⟩ := hcut
              generalize P4 ++ (if nd = true then [([im.1], im.2)] else []) = P5 at HF HTK2 HPX
              have HNW := Aside0.mk (never_c ((i : Int) + 1) Ab cb bad HBB.out wc (Kd.F_now HD.out) HDC.out)
              have HNL := Aside0.mk (neverF_len (a := (i : Int) + 1) HBB.out)
              generalize Ct.neverF ((i : Int) + 1) bad = nf at HNW HNL HTK2
              clear HGd HBd HF7 HB7 HE7 HW7 HPL4 HOD HIW HD HCD HZD
              go_wp2_with (first
               | (go_at_call 35; refine HNW.out.mono ?_; rintro e W8 ⟨A4, c4, rfl, hf4, hb4⟩; have HK8 := Aside0.mk hb4; have HF8 := Aside0.mk (HF.out.below hb4); have HL8 := Aside0.mk hf4; have HO8 := Aside0.mk HF.out.fresh; clear HNW hf4 hb4)
               | (go_at_call 29; refine (put_walk HF8.out nf.1 nf.2 A4 c4 _ HL8.out HO8.out HNL.out HPX.out).mono ?_; rintro en w8 ⟨rfl, v1, hf8, hk8⟩; have HF9 := Aside0.mk hf8; have HK9 := Aside0.mk hk8; clear HF8 HL8 HO8 hf8 hk8))
              go_roundg (es2.length - (j + 1) + 1)
              case measure => omega
              case rel =>
               have hz := HK9.out.b.size
               have hz8 := HK8.out.size
               exact ⟨j + 1, v1, by omega, by omega, by go_num, ⟨by rw [HTK2.out]; exact HF9.out⟩, ⟨HB.out.trans ((HK8.out.mono (by have := blk_lt2 HF.out.f; omega)).trans HK9.out.b)⟩, ⟨F_put (Kd.F_below HE.out HK8.out) HK9.out (fun k hk => (HOE.out k hk).1) HCE.out⟩, ⟨clear_put HK9.out HCE.out (fun k hk => by have := (HOE.out k hk).2; have := HW5.out; omega)⟩, ⟨by have := HW5.out; omega⟩⟩
           · obtain rfl : j = es2.length := by omega
             rw [List.take_length, ← HTM.out] at HF
             go_wp2
             go_roundg (B.l.length - (i + 1) + 1)
             case measure => omega
             case rel => exact ⟨i + 1, vc2, by omega, by omega, by go_num, HF, HB⟩
        · obtain rfl : i = B.l.length := by omega
          rw [List.take_of_length_le (by rw [List.length_zipIdx]; exact Nat.le_refl _), ← HPA2.out] at HF
          obtain ⟨Ac, cc, evc⟩ := Kd.N_slice HF.out.l
          subst evc
          have HFB := Aside0.mk (show formB B ns r = (okOf (putsAll B ns r) && decide (Sp.check (B.l.length : Int) (clsOf (putsAll B ns r)) = 0)) from rfl)
          generalize hcls : clsOf (putsAll B ns r) = cls at HF HFB ⊢
          have HCL := Aside0.mk hcls
          obtain ⟨ck, hck⟩ : ∃ ck, Sp.check (B.l.length : Int) cls = ck := ⟨_, rfl⟩
          rw [hck] at HFB
          have HCK := Aside0.mk hck
          clear hck hcls
          cases hok : okOf (putsAll B ns r) with
          | true =>
           have HOK := Aside0.mk hok
           rw [hok] at HFB
           clear hok
           go_upto_region 34 with (fail)
           have HF1 := Aside0.mk (HF.out.below (below_drew (Below.refl _ _)))
           have HB1 := Aside0.mk (below_drew HB.out)
           clear HF HB
           refine start_ (n := 9) (S := fun w' => w'.cell? ⟨w.heap.size + 1, 0, none⟩ = some (.int .i64 (B.l.length : Int)) ∧ w'.cell? ⟨w.heap.size + 1, 1, none⟩ = some (.slice Ac cls.length cc) ∧ w'.cell? ⟨w.heap.size + 2, 0, none⟩ = some (.bool true)) (ds := [7]) (bts 9 0) (by kernel_rfl) rfl (by kernel_rfl) ⟨(blk_cell HF1.out.f 0).trans rfl, (blk_cell HF1.out.f 1).trans rfl, by rw [blk_cell HF1.out.o 0, HOK.out]; rfl⟩ (fun hHeld => ?_)
           generalize wr.drew = W3 at HF1 HB1 hHeld ⊢
           refine take_ (i := 0) (N := some 144) (v := ?_) (a' := ?_) (bts 9 1) rfl rfl (by kernel_rfl) (fun _ _ _ h => h) (Or.inl ⟨by rfl, ?_⟩) hHeld ?_ ?_
           rotate_left
           · intro w'
             rintro ⟨s0, s1, s2⟩
             go_simp
             with_reducible rfl
           rotate_left
           · simp only [Act.put, List.setIfInBounds_toArray, List.set_cons_zero, List.set_cons_succ, i64_w, i32_w]
             rfl
           refine take_ (i := 1) (N := some 145) (v := ?_) (a' := ?_) (bts 9 3) rfl rfl (by kernel_rfl) (fun _ _ _ h => h) (Or.inl ⟨by rfl, ?_⟩) hHeld ?_ ?_
           rotate_left
           · intro w'
             rintro ⟨s0, s1, s2⟩
             go_simp
             with_reducible rfl
           rotate_left
           · simp only [Act.put, List.setIfInBounds_toArray, List.set_cons_zero, List.set_cons_succ, i64_w, i32_w]
             rfl
           refine pure_ (i := 2) (N := some 146) (v := ?_) (a' := ?_) (bts 9 7) rfl rfl (by kernel_rfl) (fun _ _ _ h => h) (Or.inl ⟨by rfl, ?_⟩) ?_ ?_
           rotate_left
           · intro w'
             go_simp
             with_reducible rfl
           rotate_left
           · simp only [Act.put, List.setIfInBounds_toArray, List.set_cons_zero, List.set_cons_succ, i64_w, i32_w]
             rfl
           refine take_ (i := 3) (N := some 147) (v := ?_) (a' := ?_) (bts 9 15) rfl rfl (by kernel_rfl) (fun _ _ _ h => h) (Or.inl ⟨by rfl, ?_⟩) hHeld ?_ ?_
           rotate_left
           · intro w'
             rintro ⟨s0, s1, s2⟩
             go_simp
             with_reducible rfl
           rotate_left
           · simp only [Act.put, List.setIfInBounds_toArray, List.set_cons_zero, List.set_cons_succ, i64_w, i32_w]
             rfl
           refine one_ (i := 4) (N := some 148) (bts 9 31) rfl rfl (by kernel_rfl) (by decide) (fun K hK => ?_)
           refine goes_ Tryz.func14 (by kernel_rfl) rfl #[.agg #[.int .i64 (B.l.length : Int), .slice Ac cls.length cc]] (by rfl) rfl rfl (by (try simp only [List.map_toArray, List.map_cons, List.map_nil]); first | done | rfl) ?_
           refine (check_any (B.l.length : Int) Ac cc cls W3 (HCL.out ▸ (Kd.N_reads' HF1.out.l).2.2)).mono ?_
           rintro e W4 ⟨rfl, hb4⟩
           rw [HCK.out]
           have HF2 := Aside0.mk (HF1.out.below hb4)
           have HB2 := Aside0.mk (HB1.out.trans (hb4.mono (by have := blk_lt2 HF1.out.f; omega)))
           clear hb4 HF1 HB1
           refine ⟨_, rfl, ?_⟩
           refine hK.out _ _ ⟨(blk_cell HF2.out.f 0).trans rfl, (blk_cell HF2.out.f 1).trans rfl, by rw [blk_cell HF2.out.o 0, HOK.out]; rfl⟩ (fun hHeld => ?_)
           clear hK K
           refine norm_ (a' := ?_) ?_ ?_
           rotate_left
           · show Act.put _ (some 148) _ = _
             simp only [Act.put, List.setIfInBounds_toArray, List.set_cons_zero, List.set_cons_succ, i64_w, i32_w]
             rfl
           refine pure_ (i := 5) (N := some 149) (v := ?_) (a' := ?_) (bts 9 63) rfl rfl (by kernel_rfl) (fun _ _ _ h => h) (Or.inl ⟨by rfl, ?_⟩) ?_ ?_
           rotate_left
           · intro w'
             go_simp
             with_reducible rfl
           rotate_left
           · simp only [Act.put, List.setIfInBounds_toArray, List.set_cons_zero, List.set_cons_succ, i64_w, i32_w]
             rfl
           refine pure_ (i := 6) (N := some 150) (v := ?_) (a' := ?_) (bts 9 127) rfl rfl (by kernel_rfl) (fun _ _ _ h => h) (Or.inl ⟨by rfl, ?_⟩) ?_ ?_
           rotate_left
           · intro w'
             go_simp
             with_reducible rfl
           rotate_left
           · simp only [Act.put, List.setIfInBounds_toArray, List.set_cons_zero, List.set_cons_succ, i64_w, i32_w]
             rfl
           refine last_ (i := 7) (N := none) (bts 9 255) rfl rfl (by kernel_rfl) (by decide) (fun K hK => ?_)
           have q0 := blk_at ((HB2.out.block _ (Nat.lt_succ_self _)).trans HBR.out) 0 (v := .int .i64 0) rfl
           have q1 := blk_at ((HB2.out.block _ (Nat.lt_succ_self _)).trans HBR.out) 1 (v := .slice none 0 0) rfl
           have z0 := blk_frozen ((HB2.out.block _ (Nat.lt_succ_self _)).trans HBR.out) 0
           have z1 := blk_frozen ((HB2.out.block _ (Nat.lt_succ_self _)).trans HBR.out) 1
           rw [if_pos (by rfl)]
           unfold Oper.wp
           go_simp
           refine hK.out _ _ ?_
           clear hK K
           refine pure_ (i := 8) (N := some 3) (v := ?_) (a' := ?_) (bts 9 511) rfl rfl (by kernel_rfl) (fun _ _ _ h => h) (Or.inl ⟨by rfl, ?_⟩) ?_ ?_
           rotate_left
           · intro w'
             go_simp
             with_reducible rfl
           rotate_left
           · simp only [Act.put, List.setIfInBounds_toArray, List.set_cons_zero, List.set_cons_succ, i64_w, i32_w]
             rfl
           refine done_ (by kernel_rfl) ?_
           go_wp2
           have hBX := blk_set (blk_set ((HB2.out.block _ (Nat.lt_succ_self _)).trans HBR.out) 0 (.int .i64 (B.l.length : Int))) 1 (.slice Ac cls.length cc)
           have hN := Kd.N_far (p := ⟨w.heap.size, 1, none⟩) (Kd.N_far (p := ⟨w.heap.size, 0, none⟩) HF2.out.l (fun k hk => by have := hk.1; show k ≠ w.heap.size; omega) (.int .i64 (B.l.length : Int))) (fun k hk => by have := hk.1; show k ≠ w.heap.size; omega) (.slice Ac cls.length cc)
           rw [HCL.out] at hN
           refine bodyPost_ret (results_ct rfl _ _ w.heap.size 36 #[.int .i64 (B.l.length : Int), .slice Ac cls.length cc] (0, 0) _ rfl hBX Tryz.underlying36 rfl (by kernel_rfl)) rfl ?_
           rw [HCL.out]
           exact ⟨Ac, cc, by rw [HFB.out]; rfl, (Kd.N_reads' hN).2.1, Kd.F_mono (Kd.N_F hN) (fun k hk => by have := hk.1; omega), ((HX.out _ HB2.out).setCell (p := ⟨w.heap.size, 0, none⟩) (Nat.le_refl _) _).setCell (p := ⟨w.heap.size, 1, none⟩) (Nat.le_refl _) _⟩
          | false =>
           have HOK := Aside0.mk hok
           rw [hok] at HFB
           clear hok
           go_upto_region 34 with (fail)
           have HF1 := Aside0.mk (HF.out.below (below_drew (Below.refl _ _)))
           have HB1 := Aside0.mk (below_drew HB.out)
           clear HF HB
           refine start_ (n := 9) (S := fun w' => w'.cell? ⟨w.heap.size + 1, 0, none⟩ = some (.int .i64 (B.l.length : Int)) ∧ w'.cell? ⟨w.heap.size + 1, 1, none⟩ = some (.slice Ac cls.length cc) ∧ w'.cell? ⟨w.heap.size + 2, 0, none⟩ = some (.bool false)) (ds := [7]) (bts 9 0) (by kernel_rfl) rfl (by kernel_rfl) ⟨(blk_cell HF1.out.f 0).trans rfl, (blk_cell HF1.out.f 1).trans rfl, by rw [blk_cell HF1.out.o 0, HOK.out]; rfl⟩ (fun hHeld => ?_)
           generalize wr.drew = W3 at HF1 HB1 hHeld ⊢
           refine take_ (i := 0) (N := some 144) (v := ?_) (a' := ?_) (bts 9 1) rfl rfl (by kernel_rfl) (fun _ _ _ h => h) (Or.inl ⟨by rfl, ?_⟩) hHeld ?_ ?_
           rotate_left
           · intro w'
             rintro ⟨s0, s1, s2⟩
             go_simp
             with_reducible rfl
           rotate_left
           · simp only [Act.put, List.setIfInBounds_toArray, List.set_cons_zero, List.set_cons_succ, i64_w, i32_w]
             rfl
           refine take_ (i := 1) (N := some 145) (v := ?_) (a' := ?_) (bts 9 3) rfl rfl (by kernel_rfl) (fun _ _ _ h => h) (Or.inl ⟨by rfl, ?_⟩) hHeld ?_ ?_
           rotate_left
           · intro w'
             rintro ⟨s0, s1, s2⟩
             go_simp
             with_reducible rfl
           rotate_left
           · simp only [Act.put, List.setIfInBounds_toArray, List.set_cons_zero, List.set_cons_succ, i64_w, i32_w]
             rfl
           refine pure_ (i := 2) (N := some 146) (v := ?_) (a' := ?_) (bts 9 7) rfl rfl (by kernel_rfl) (fun _ _ _ h => h) (Or.inl ⟨by rfl, ?_⟩) ?_ ?_
           rotate_left
           · intro w'
             go_simp
             with_reducible rfl
           rotate_left
           · simp only [Act.put, List.setIfInBounds_toArray, List.set_cons_zero, List.set_cons_succ, i64_w, i32_w]
             rfl
           refine pure_ (i := 3) (N := some 147) (v := undef) (a' := ?_) (bts 9 15) rfl rfl (by kernel_rfl) (fun _ _ _ h => h) (Or.inr ⟨by rfl, rfl⟩) ?_ ?_
           rotate_left
           · simp only [Act.put, List.setIfInBounds_toArray, List.set_cons_zero, List.set_cons_succ, i64_w, i32_w]
             rfl
           refine pure_ (i := 4) (N := some 148) (v := undef) (a' := ?_) (bts 9 31) rfl rfl (by kernel_rfl) (fun _ _ _ h => h) (Or.inr ⟨by rfl, rfl⟩) ?_ ?_
           rotate_left
           · simp only [Act.put, List.setIfInBounds_toArray, List.set_cons_zero, List.set_cons_succ, i64_w, i32_w]
             rfl
           refine pure_ (i := 5) (N := some 149) (v := undef) (a' := ?_) (bts 9 63) rfl rfl (by kernel_rfl) (fun _ _ _ h => h) (Or.inr ⟨by rfl, rfl⟩) ?_ ?_
           rotate_left
           · simp only [Act.put, List.setIfInBounds_toArray, List.set_cons_zero, List.set_cons_succ, i64_w, i32_w]
             rfl
           refine pure_ (i := 6) (N := some 150) (v := ?_) (a' := ?_) (bts 9 127) rfl rfl (by kernel_rfl) (fun _ _ _ h => h) (Or.inl ⟨by rfl, ?_⟩) ?_ ?_
           rotate_left
           · intro w'
             go_simp
             with_reducible rfl
           rotate_left
           · simp only [Act.put, List.setIfInBounds_toArray, List.set_cons_zero, List.set_cons_succ, i64_w, i32_w]
             rfl
           have HF2 := HF1
           have HB2 := HB1
           clear HF1 HB1
           refine last_ (i := 7) (N := none) (bts 9 255) rfl rfl (by kernel_rfl) (by decide) (fun K hK => ?_)
           have q0 := blk_at ((HB2.out.block _ (Nat.lt_succ_self _)).trans HBR.out) 0 (v := .int .i64 0) rfl
           have q1 := blk_at ((HB2.out.block _ (Nat.lt_succ_self _)).trans HBR.out) 1 (v := .slice none 0 0) rfl
           have z0 := blk_frozen ((HB2.out.block _ (Nat.lt_succ_self _)).trans HBR.out) 0
           have z1 := blk_frozen ((HB2.out.block _ (Nat.lt_succ_self _)).trans HBR.out) 1
           rw [if_pos (by rfl)]
           unfold Oper.wp
           go_simp
           refine hK.out _ _ ?_
           clear hK K
           refine pure_ (i := 8) (N := some 3) (v := ?_) (a' := ?_) (bts 9 511) rfl rfl (by kernel_rfl) (fun _ _ _ h => h) (Or.inl ⟨by rfl, ?_⟩) ?_ ?_
           rotate_left
           · intro w'
             go_simp
             with_reducible rfl
           rotate_left
           · simp only [Act.put, List.setIfInBounds_toArray, List.set_cons_zero, List.set_cons_succ, i64_w, i32_w]
             rfl
           refine done_ (by kernel_rfl) ?_
           go_wp2
           have hBX := blk_set (blk_set ((HB2.out.block _ (Nat.lt_succ_self _)).trans HBR.out) 0 (.int .i64 (B.l.length : Int))) 1 (.slice Ac cls.length cc)
           have hN := Kd.N_far (p := ⟨w.heap.size, 1, none⟩) (Kd.N_far (p := ⟨w.heap.size, 0, none⟩) HF2.out.l (fun k hk => by have := hk.1; show k ≠ w.heap.size; omega) (.int .i64 (B.l.length : Int))) (fun k hk => by have := hk.1; show k ≠ w.heap.size; omega) (.slice Ac cls.length cc)
           rw [HCL.out] at hN
           refine bodyPost_ret (results_ct rfl _ _ w.heap.size 36 #[.int .i64 (B.l.length : Int), .slice Ac cls.length cc] (0, 0) _ rfl hBX Tryz.underlying36 rfl (by kernel_rfl)) rfl ?_
           rw [HCL.out]
           exact ⟨Ac, cc, by rw [HFB.out]; rfl, (Kd.N_reads' hN).2.1, Kd.F_mono (Kd.N_F hN) (fun k hk => by have := hk.1; omega), ((HX.out _ HB2.out).setCell (p := ⟨w.heap.size, 0, none⟩) (Nat.le_refl _) _).setCell (p := ⟨w.heap.size, 1, none⟩) (Nat.le_refl _) _⟩
end Go.Proofs.YteinkjhimceljaaGreatDoor.J
