/- flat's board: what its names and variables are; parted, walked. flat's formula: what is put so far, and the closure that puts, walked. -/
import Derived.Test.YteinkjhimceljaaGreatDoorT29
import Derived.Test.YteinkjhimceljaaGreatDoorT31
namespace Go.Proofs.YteinkjhimceljaaGreatDoor.J
open Go Go.RowKit Go.Shelf Go.Proofs.YteinkjhimceljaaGreatDoorW.PrintWords Go.Proofs.YteinkjhimceljaaGreatDoorW.PrintLast Go.Proofs.YteinkjhimceljaaGreatDoorW.PrintMore
set_option linter.unusedVariables false
set_option linter.unusedSimpArgs false
structure BOk (B : Brd) : Prop where
 vars : ∀ s, ∀ v ∈ B.vars s, 1 ≤ v ∧ v ≤ (B.l.length : Int)
 each : ∀ m ∈ B.l, MOk m
 len : B.l.length ≤ 1000000
 vlen : ∀ s, (B.vars s).length ≤ B.l.length
theorem bok_one {B : Brd} (h1 : ∀ s, ∀ v ∈ B.vars s, 1 ≤ v ∧ v ≤ (B.l.length : Int)) (n : ByteArray) (m : S27) : ∀ s, ∀ v ∈ (layOne n B m).vars s, 1 ≤ v ∧ v ≤ ((layOne n B m).l.length : Int) := by
 intro s v hv
 have hl : ((layOne n B m).l.length : Int) = B.l.length + 1 := by simp [layOne]
 rw [hl]
 change v ∈ setV B.vars n (B.vars n ++ [((B.l.length + 1 : Nat) : Int)]) s at hv
 unfold setV at hv
 split at hv
 · rcases List.mem_append.1 hv with h | h
   · have := h1 n v h; omega
   · simp only [List.mem_singleton] at h; omega
 · have := h1 s v hv; omega
structure PB (x : List S27) (B : Brd) (k : Nat) : Prop where
 v : ∀ s, ∀ v ∈ B.vars s, 1 ≤ v ∧ v ≤ (B.l.length : Int)
 e : ∀ m ∈ B.l, m ∈ x
 k : BrdOk B k
theorem pb_fold {x : List S27} {n : ByteArray} : ∀ (l : List S27) {B : Brd} {k : Nat}, (∀ m ∈ l, m ∈ x) → PB x B k → PB x (l.foldl (layOne n) B) (k + l.length)
 | [], _, _, _, h => h
 | m :: t, B, k, hl, h => by
  have h2 := pb_fold (n := n) t (B := layOne n B m) (k := k + 1) (fun y hy => hl y (List.mem_cons_of_mem _ hy)) ⟨bok_one h.v n m, fun y hy => by
   change y ∈ B.l ++ [m] at hy
   rcases List.mem_append.1 hy with h3 | h3
   · exact h.e y h3
   · simp only [List.mem_singleton] at h3; subst h3; exact hl _ List.mem_cons_self, layOne_ok h.k n m⟩
  rw [List.length_cons, show k + (t.length + 1) = k + 1 + t.length by omega]
  exact h2
theorem pick_len (x : List S27) (n : ByteArray) : (pickL x n).length ≤ x.length := by
 unfold pickL
 rw [List.length_reverse]
 exact List.length_filter_le _ _
theorem pick_mem {x : List S27} {n : ByteArray} : ∀ m ∈ pickL x n, m ∈ x := fun m hm => (List.mem_filter.1 (List.mem_reverse.1 hm)).1
theorem pb_names {x : List S27} (hx : x.length ≤ 1000) : ∀ (ns : List ByteArray) {B : Brd} {k : Nat}, PB x B k → PB x (ns.foldl (layName x) B) (k + 1000 * ns.length)
 | [], _, _, h => h
 | n :: t, B, k, h => by
  have h1 := pb_fold (n := n) (pickL x n) pick_mem h
  have h2 := pb_names hx t (B := layName x B n) (k := k + 1000) ⟨h1.v, h1.e, Nat.le_trans h1.k.1 (by have := pick_len x n; omega), h1.k.2⟩
  rw [List.length_cons, show k + 1000 * (t.length + 1) = k + 1000 + 1000 * t.length by omega]
  exact h2
theorem brd_ok {x : List S27} (hx : XOk x) : BOk (brdOf x) := by
 have h := pb_names hx.len (namesX x) (B := noB) (k := 0) ⟨fun s v hv => by (cases hv), fun m hm => by (cases hm), ⟨Nat.le_refl _, fun s => Nat.le_refl _⟩⟩
 have hl := namesX_len x
 have := hx.len
 exact ⟨h.v, fun m hm => hx.each m (h.e m hm), Nat.le_trans h.k.1 (by omega), h.k.2⟩
theorem hbo_vars {B : Brd} (h : BOk B) (s : ByteArray) : ∀ v ∈ B.vars s, 1 ≤ v ∧ v ≤ (B.l.length : Int) := h.vars s
theorem var_get {W : World} {base : Nat} {l : List Int} : ∀ {o : Option Value}, VarV W base l o → ∃ A c, o.getD (.slice none 0 0) = .slice A l.length c ∧ l.length ≤ c ∧ Kd.C (Kd.int .i64) W A l.length l
 | none, h => by
  obtain rfl : l = [] := h
  exact ⟨none, 0, rfl, Nat.le_refl _, (Kd.R_reads' (Kd.R_nil (Kd.int .i64) 3 W 0 (fun _ => True))).2.2⟩
 | some v, h => by
  obtain ⟨A, c, e⟩ := Kd.R_slice h
  subst e
  obtain ⟨_, h2, h3⟩ := Kd.R_reads' h
  exact ⟨A, c, rfl, h2, h3⟩
theorem info_int3 : (Tryz.prog.info? 3).map (fun i => (i.zero, i.size, i.bytes)) = some (some (.int .i64 0), (Kd.int .i64).sz, 8) := by kernel_rfl
set_option maxRecDepth 100000 in
set_option maxHeartbeats 16000000 in
theorem parted_walk {okx : Nat → Prop} {base b mb : Nat} {r : S27} {A5 : Option Addr} {c5 : Nat} {A6 : Option Addr} {c6 : Nat} {vn : Value} {ns : List ByteArray} {vl : Value} {FV : ByteArray → Option Value} {cnt : Nat} {B : Brd} (hB : BOk B) (d : S75) (hd : DOk d) (A2 : Option Addr) (c2 : Nat) (w : World) (HGL : Glob w) (hP : LayS okx base b mb r A5 c5 A6 c6 vn ns w vl FV cnt B) (hr : RangeC w A2 c2 d.f2.f0) :
 Calls Tryz.prog 32 #[.pointer (some ⟨b, 0, none⟩), .agg #[.int .i64 d.f0, .string d.f1, .slice A2 d.f2.f0.length c2]] w fun e w' => ∃ vg vb, e = .returned (.tuple #[vg, vb]) ∧ Kd.R (Kd.int .i64) 3 w' w.heap.size (fun _ => True) vg (goodL B d) ∧ Kd.R (Kd.int .i64) 3 w' w.heap.size (fun _ => True) vb (badL B d) ∧ Below w.heap.size w w' := by
 have HP0 := Aside0.mk (hP.below (below_alloc (Below.refl w.heap.size w) (.cells #[.int .i64 d.f0, .string d.f1, .slice A2 d.f2.f0.length c2] 75)))
 have HRC := Aside0.mk hr
 have HBO := Aside0.mk hB
 have HD := Aside0.mk hd
 have BD0 := Aside0.mk (blk_new w (.cells #[.int .i64 d.f0, .string d.f1, .slice A2 d.f2.f0.length c2] 75))
 have HB0 := Aside0.mk (below_alloc (Below.refl w.heap.size w) (.cells #[.int .i64 d.f0, .string d.f1, .slice A2 d.f2.f0.length c2] 75))
 have HSZ := Aside0.mk (show d.f1.size ≤ 1000000000 from Nat.le_trans hd.name (by decide))
 clear hP hr hB hd
 obtain ⟨A8, c8, hA8, _, hvc⟩ := var_get (HP0.out.v d.f1)
 have HVC := Aside0.mk hvc
 clear hvc
 have HGD := Aside0.mk hA8
 clear hA8
 go_enter Tryz.func32, Tryz.ntmps32
 go_upto_region 1 with (fail)
 obtain ⟨W0, hW0⟩ : ∃ W0, w.alloc (.cells #[.int .i64 d.f0, .string d.f1, .slice A2 d.f2.f0.length c2] 75) = W0 := ⟨_, rfl⟩
 rw [hW0] at HP0 BD0 HB0 HVC ⊢
 clear hW0
 have HP1 := Aside0.mk (HP0.out.below (below_drew (Below.refl _ _)))
 have BD1 := Aside0.mk (blk_drew BD0.out)
 have HB1 := Aside0.mk (below_drew HB0.out)
 have HVC1 := Aside0.mk (Kd.C_below HVC.out (below_drew (Below.refl _ _)))
 clear HP0 BD0 HB0 HVC
 refine start_ (n := 9) (S := fun w' => w'.cell? ⟨b, 9, none⟩ = some (.map (some mb)) ∧ w'.cell? ⟨w.heap.size, 1, none⟩ = some (.string d.f1) ∧ MapIs w' mb cnt FV) (ds := []) (bts 9 0) (by kernel_rfl) rfl (by kernel_rfl) ⟨(blk_cell HP1.out.blk 9).trans rfl, (blk_cell BD1.out 1).trans rfl, HP1.out.m⟩ (fun hHeld => ?_)
 generalize W0.drew = W1 at HP1 BD1 HB1 HVC1 hHeld ⊢
 refine pure_ (i := 0) (N := some 8) (v := ?_) (a' := ?_) (bts 9 1) rfl rfl (by kernel_rfl) (fun _ _ _ h => h) (Or.inl ⟨by rfl, ?_⟩) ?_ ?_
 rotate_left
 · intro w'
   go_simp
   with_reducible rfl
 rotate_left
 · simp only [Act.put, List.setIfInBounds_toArray, List.set_cons_zero, List.set_cons_succ, i64_w, i32_w]
   rfl
 refine pure_ (i := 1) (N := some 9) (v := ?_) (a' := ?_) (bts 9 3) rfl rfl (by kernel_rfl) (fun _ _ _ h => h) (Or.inl ⟨by rfl, ?_⟩) ?_ ?_
 rotate_left
 · intro w'
   go_simp
   with_reducible rfl
 rotate_left
 · simp only [Act.put, List.setIfInBounds_toArray, List.set_cons_zero, List.set_cons_succ, i64_w, i32_w]
   rfl
 refine pure_ (i := 2) (N := some 10) (v := ?_) (a' := ?_) (bts 9 7) rfl rfl (by kernel_rfl) (fun _ _ _ h => h) (Or.inl ⟨by rfl, ?_⟩) ?_ ?_
 rotate_left
 · intro w'
   go_simp
   with_reducible rfl
 rotate_left
 · simp only [Act.put, List.setIfInBounds_toArray, List.set_cons_zero, List.set_cons_succ, i64_w, i32_w]
   rfl
 refine take_ (i := 3) (N := some 11) (v := ?_) (a' := ?_) (bts 9 15) rfl rfl (by kernel_rfl) (fun _ _ _ h => h) (Or.inl ⟨by rfl, ?_⟩) hHeld ?_ ?_
 rotate_left
 · intro w'
   rintro ⟨s0, s1, s2⟩
   go_simp
   with_reducible rfl
 rotate_left
 · simp only [Act.put, List.setIfInBounds_toArray, List.set_cons_zero, List.set_cons_succ, i64_w, i32_w]
   rfl
 refine pure_ (i := 4) (N := some 12) (v := ?_) (a' := ?_) (bts 9 31) rfl rfl (by kernel_rfl) (fun _ _ _ h => h) (Or.inl ⟨by rfl, ?_⟩) ?_ ?_
 rotate_left
 · intro w'
   go_simp
   with_reducible rfl
 rotate_left
 · simp only [Act.put, List.setIfInBounds_toArray, List.set_cons_zero, List.set_cons_succ, i64_w, i32_w]
   rfl
 refine take_ (i := 5) (N := some 13) (v := ?_) (a' := ?_) (bts 9 63) rfl rfl (by kernel_rfl) (fun _ _ _ h => h) (Or.inl ⟨by rfl, ?_⟩) hHeld ?_ ?_
 rotate_left
 · intro w'
   rintro ⟨s0, s1, s2⟩
   go_simp
   with_reducible rfl
 rotate_left
 · simp only [Act.put, List.setIfInBounds_toArray, List.set_cons_zero, List.set_cons_succ, i64_w, i32_w]
   rfl
 refine take_ (i := 6) (N := some 14) (v := .slice A8 (B.vars d.f1).length c8) (a' := ?_) (bts 9 127) rfl rfl (by kernel_rfl) (fun _ _ _ h => h) (Or.inl ⟨by rfl, ?_⟩) hHeld ?_ ?_
 · intro w'
   rintro ⟨s0, s1, s2⟩
   have hrun := map_run s2 85 56 Tryz.underlying85 (zero_ints w') d.f1 HSZ.out
   rw [HGD.out] at hrun
   go_simp
 rotate_left
 · simp only [Act.put, List.setIfInBounds_toArray, List.set_cons_zero, List.set_cons_succ, i64_w, i32_w]
   rfl
 refine pure_ (i := 7) (N := some 15) (v := ?_) (a' := ?_) (bts 9 255) rfl rfl (by kernel_rfl) (fun _ _ _ h => h) (Or.inl ⟨by rfl, ?_⟩) ?_ ?_
 rotate_left
 · intro w'
   go_simp
   with_reducible rfl
 rotate_left
 · simp only [Act.put, List.setIfInBounds_toArray, List.set_cons_zero, List.set_cons_succ, i64_w, i32_w]
   rfl
 refine pure_ (i := 8) (N := some 16) (v := ?_) (a' := ?_) (bts 9 511) rfl rfl (by kernel_rfl) (fun _ _ _ h => h) (Or.inl ⟨by rfl, ?_⟩) ?_ ?_
 rotate_left
 · intro w'
   go_simp
   with_reducible rfl
 rotate_left
 · simp only [Act.put, List.setIfInBounds_toArray, List.set_cons_zero, List.set_cons_succ, i64_w, i32_w]
   rfl
 refine done_ (by kernel_rfl) ?_
 have HVL := Aside0.mk (hbo_vars HBO.out d.f1)
 have hlv := HBO.out.vlen d.f1
 have hbl := HBO.out.len
 have HGO := Aside0.mk (show goodL B d = (B.vars d.f1).filter (fun v => holdsB d.f2.f0 (verAt B v)) from rfl)
 have HBA := Aside0.mk (show badL B d = (B.vars d.f1).filter (fun v => !holdsB d.f2.f0 (verAt B v)) from rfl)
 generalize B.vars d.f1 = l at HVC1 HVL hlv HGO HBA ⊢
 have HLL := Aside0.mk hlv
 go_wp2
 go_loopg [4, 5, 16] (l.length + 1) (fun gg s4 s5 s16 wq => ∃ j : Nat, j ≤ l.length ∧ l.length - j < gg ∧ s16 = .int .i64 (j : Int) ∧ Aside0 (Kd.R (Kd.int .i64) 3 wq W1.heap.size (fun _ => True) s4 ((l.take j).filter (fun v => holdsB d.f2.f0 (verAt B v)))) ∧ Aside0 (Kd.R (Kd.int .i64) 3 wq W1.heap.size (fun _ => True) s5 ((l.take j).filter (fun v => !holdsB d.f2.f0 (verAt B v)))) ∧ Aside0 (∀ k, s4.ownBlock = some k → some k ≠ s5.ownBlock) ∧ Aside0 (Below W1.heap.size W1 wq))
 case atStart => exact ⟨0, Nat.zero_le _, by omega, rfl, ⟨Kd.R_nil _ _ _ _ _⟩, ⟨Kd.R_nil _ _ _ _ _⟩, ⟨fun k hk => by cases hk⟩, ⟨Below.refl _ _⟩⟩
 case round =>
  obtain ⟨j, hj1, hjg, rfl, HG, HA, HGA, HB⟩ := hrel
  by_cases hlt : j < l.length
  · obtain ⟨ad, rfl, n0⟩ := C_int_at (Kd.C_below HVC1.out HB.out) j hlt
    have ja : (j : Int) < (l.length : Int) := by omega
    have hv := HVL.out _ (List.getElem_mem hlt)
    have HTK := Aside0.mk (show l.take (j + 1) = l.take j ++ [l[j]] from List.take_succ_eq_append_getElem hlt)
    generalize l[j] = v at n0 hv HTK
    obtain ⟨i, rfl⟩ : ∃ i : Nat, v = (i : Int) + 1 := ⟨(v - 1).toNat, by omega⟩
    have hi : i < B.l.length := by omega
    have hii : (i : Int) < (B.l.length : Int) := by omega
    have hi0 : (0 : Int) ≤ (i : Int) := by omega
    have hiw : wrap64 (i : Int) = (i : Int) := (by unfold wrap64; omega)
    have hP4 := HP1.out.below HB.out
    obtain ⟨gl, cl, evl, _, _, _⟩ := Kd.N_form (hP4.l.toN hP4.hx) (by omega)
    have HPW := Aside0.mk hP4
    subst evl
    obtain ⟨B5, d5, B6, d6, hcs, _, _⟩ := man_atN (hP4.l.toN hP4.hx) i hi hi
    have HMK := Aside0.mk (HBO.out.each _ (List.getElem_mem hi))
    have HVA := Aside0.mk (show verAt B ((i : Int) + 1) = B.l[i].f1 by unfold verAt; simp [hi])
    generalize B.l[i] = m at hcs HMK HVA
    have HS := Aside0.mk (fun W (h : Below wr.heap.size wr W) => (⟨(blk_cell (blk_below (blk_below BD1.out HB.out) h) 2).trans rfl, (blk_cell (blk_below HPW.out.blk h) 7).trans rfl, pw_cell_below h hcs.2.1, pw_cell_below h hcs.2.2.1, pw_cell_below h hcs.2.2.2.1, pw_cell_below h hcs.2.2.2.2.1⟩ : W.cell? ⟨w.heap.size, 2, none⟩ = some (.slice A2 d.f2.f0.length c2) ∧ W.cell? ⟨b, 7, none⟩ = some (.slice (some ⟨gl, 0, none⟩) B.l.length cl) ∧ W.cell? ⟨gl, i * 7 + 1, none⟩ = some (.int .i64 m.f1.f0) ∧ W.cell? ⟨gl, i * 7 + 2, none⟩ = some (.int .i64 m.f1.f1) ∧ W.cell? ⟨gl, i * 7 + 3, none⟩ = some (.int .i64 m.f1.f2) ∧ W.cell? ⟨gl, i * 7 + 4, none⟩ = some (.string m.f1.f3)))
    have HHW := Aside0.mk (fun W (h : Below wr.heap.size wr W) => holds_walk A2 c2 d.f2.f0 HD.out.range m.f1 HMK.out.ver W (HGL.below (below_step HB1.out (below_step HB.out h))) ((HRC.out.below (below_step HB1.out (below_step HB.out h)))).2 HRC.out.1)
    have HHE := Aside0.mk (show holdsB d.f2.f0 (verAt B ((i : Int) + 1)) = holdsB d.f2.f0 m.f1 by rw [HVA.out])
    generalize holdsB d.f2.f0 m.f1 = q at HHW HHE
    clear hcs hP4 hv
    go_upto_region 4 with (fail)
    have HK1 := Aside0.mk (below_drew (Below.refl wr.heap.size wr))
    refine start_ (n := 12) (S := fun w' => w'.cell? ⟨w.heap.size, 2, none⟩ = some (.slice A2 d.f2.f0.length c2) ∧ w'.cell? ⟨b, 7, none⟩ = some (.slice (some ⟨gl, 0, none⟩) B.l.length cl) ∧ w'.cell? ⟨gl, i * 7 + 1, none⟩ = some (.int .i64 m.f1.f0) ∧ w'.cell? ⟨gl, i * 7 + 2, none⟩ = some (.int .i64 m.f1.f1) ∧ w'.cell? ⟨gl, i * 7 + 3, none⟩ = some (.int .i64 m.f1.f2) ∧ w'.cell? ⟨gl, i * 7 + 4, none⟩ = some (.string m.f1.f3)) (ds := []) (bts 12 0) (by kernel_rfl) rfl (by kernel_rfl) (HS.out _ HK1.out) (fun hHeld => ?_)
    generalize wr.drew = W3 at HK1 hHeld ⊢
    refine pure_ (i := 0) (N := some 20) (v := ?_) (a' := ?_) (bts 12 1) rfl rfl (by kernel_rfl) (fun _ _ _ h => h) (Or.inl ⟨by rfl, ?_⟩) ?_ ?_
    rotate_left
    · intro w'
      go_simp
      with_reducible rfl
    rotate_left
    · simp only [Act.put, List.setIfInBounds_toArray, List.set_cons_zero, List.set_cons_succ, i64_w, i32_w]
      rfl
    refine take_ (i := 1) (N := some 21) (v := ?_) (a' := ?_) (bts 12 3) rfl rfl (by kernel_rfl) (fun _ _ _ h => h) (Or.inl ⟨by rfl, ?_⟩) hHeld ?_ ?_
    rotate_left
    · intro w'
      rintro ⟨s0, s1, s2, s3, s4, s5⟩
      go_simp
      with_reducible rfl
    rotate_left
    · simp only [Act.put, List.setIfInBounds_toArray, List.set_cons_zero, List.set_cons_succ, i64_w, i32_w]
      rfl
    refine pure_ (i := 2) (N := some 22) (v := ?_) (a' := ?_) (bts 12 7) rfl rfl (by kernel_rfl) (fun _ _ _ h => h) (Or.inl ⟨by rfl, ?_⟩) ?_ ?_
    rotate_left
    · intro w'
      go_simp
      with_reducible rfl
    rotate_left
    · simp only [Act.put, List.setIfInBounds_toArray, List.set_cons_zero, List.set_cons_succ, i64_w, i32_w]
      rfl
    refine pure_ (i := 3) (N := some 23) (v := ?_) (a' := ?_) (bts 12 15) rfl rfl (by kernel_rfl) (fun _ _ _ h => h) (Or.inl ⟨by rfl, ?_⟩) ?_ ?_
    rotate_left
    · intro w'
      go_simp
      with_reducible rfl
    rotate_left
    · simp only [Act.put, List.setIfInBounds_toArray, List.set_cons_zero, List.set_cons_succ, i64_w, i32_w]
      rfl
    refine pure_ (i := 4) (N := some 24) (v := ?_) (a' := ?_) (bts 12 31) rfl rfl (by kernel_rfl) (fun _ _ _ h => h) (Or.inl ⟨by rfl, ?_⟩) ?_ ?_
    rotate_left
    · intro w'
      go_simp
      with_reducible rfl
    rotate_left
    · simp only [Act.put, List.setIfInBounds_toArray, List.set_cons_zero, List.set_cons_succ, i64_w, i32_w]
      rfl
    refine take_ (i := 5) (N := some 25) (v := ?_) (a' := ?_) (bts 12 63) rfl rfl (by kernel_rfl) (fun _ _ _ h => h) (Or.inl ⟨by rfl, ?_⟩) hHeld ?_ ?_
    rotate_left
    · intro w'
      rintro ⟨s0, s1, s2, s3, s4, s5⟩
      go_simp
      with_reducible rfl
    rotate_left
    · simp only [Act.put, List.setIfInBounds_toArray, List.set_cons_zero, List.set_cons_succ, i64_w, i32_w]
      rfl
    refine pure_ (i := 6) (N := some 26) (v := ?_) (a' := ?_) (bts 12 127) rfl rfl (by kernel_rfl) (fun _ _ _ h => h) (Or.inl ⟨by rfl, ?_⟩) ?_ ?_
    rotate_left
    · intro w'
      go_simp
      with_reducible rfl
    rotate_left
    · simp only [Act.put, List.setIfInBounds_toArray, List.set_cons_zero, List.set_cons_succ, i64_w, i32_w]
      rfl
    refine pure_ (i := 7) (N := some 27) (v := ?_) (a' := ?_) (bts 12 255) rfl rfl (by kernel_rfl) (fun _ _ _ h => h) (Or.inl ⟨by rfl, ?_⟩) ?_ ?_
    rotate_left
    · intro w'
      go_simp
      with_reducible rfl
    rotate_left
    · simp only [Act.put, List.setIfInBounds_toArray, List.set_cons_zero, List.set_cons_succ, i64_w, i32_w]
      rfl
    refine pure_ (i := 8) (N := some 28) (v := ?_) (a' := ?_) (bts 12 511) rfl rfl (by kernel_rfl) (fun _ _ _ h => h) (Or.inl ⟨by rfl, ?_⟩) ?_ ?_
    rotate_left
    · intro w'
      go_simp
      with_reducible rfl
    rotate_left
    · simp only [Act.put, List.setIfInBounds_toArray, List.set_cons_zero, List.set_cons_succ, i64_w, i32_w]
      rfl
    refine pure_ (i := 9) (N := some 29) (v := ?_) (a' := ?_) (bts 12 1023) rfl rfl (by kernel_rfl) (fun _ _ _ h => h) (Or.inl ⟨by rfl, ?_⟩) ?_ ?_
    rotate_left
    · intro w'
      go_simp
      with_reducible rfl
    rotate_left
    · simp only [Act.put, List.setIfInBounds_toArray, List.set_cons_zero, List.set_cons_succ, i64_w, i32_w]
      rfl
    refine take_ (i := 10) (N := some 30) (v := ?_) (a' := ?_) (bts 12 2047) rfl rfl (by kernel_rfl) (fun _ _ _ h => h) (Or.inl ⟨by rfl, ?_⟩) hHeld ?_ ?_
    rotate_left
    · intro w'
      rintro ⟨s0, s1, s2, s3, s4, s5⟩
      go_simp
      with_reducible rfl
    rotate_left
    · simp only [Act.put, List.setIfInBounds_toArray, List.set_cons_zero, List.set_cons_succ, i64_w, i32_w]
      rfl
    refine one_ (i := 11) (N := some 31) (bts 12 4095) rfl rfl (by kernel_rfl) (by decide) (fun K hK => ?_)
    refine goes_ Tryz.func56 (by kernel_rfl) rfl #[.agg #[.slice A2 d.f2.f0.length c2], .agg #[.int .i64 m.f1.f0, .int .i64 m.f1.f1, .int .i64 m.f1.f2, .string m.f1.f3]] (by rfl) rfl rfl (by (try simp only [List.map_toArray, List.map_cons, List.map_nil]); first | done | rfl) ?_
    refine (HHW.out _ HK1.out).mono ?_
    rintro e W4 ⟨rfl, hb4⟩
    have HK4 := Aside0.mk (below_step HK1.out hb4)
    clear hb4 HK1
    refine ⟨_, rfl, ?_⟩
    refine hK.out _ _ (HS.out _ HK4.out) (fun hHeld => ?_)
    clear hK K
    refine norm_ (a' := ?_) ?_ ?_
    rotate_left
    · show Act.put _ (some 31) _ = _
      simp only [Act.put, List.setIfInBounds_toArray, List.set_cons_zero, List.set_cons_succ, i64_w, i32_w]
      rfl
    refine done_ (by kernel_rfl) ?_
    have HB4 := Aside0.mk (below_step HB.out HK4.out)
    have HG4 := Aside0.mk (Kd.R_below HG.out HK4.out)
    have HA4 := Aside0.mk (Kd.R_below HA.out HK4.out)
    have HLG := Aside0.mk (show (((l.take j).filter (fun v => holdsB d.f2.f0 (verAt B v))).length + 1) * 8 ≤ 140737488355328 by have h1 := List.length_filter_le (fun v => holdsB d.f2.f0 (verAt B v)) (l.take j); rw [List.length_take] at h1; omega)
    have HLA := Aside0.mk (show (((l.take j).filter (fun v => !holdsB d.f2.f0 (verAt B v))).length + 1) * 8 ≤ 140737488355328 by have h1 := List.length_filter_le (fun v => !holdsB d.f2.f0 (verAt B v)) (l.take j); rw [List.length_take] at h1; omega)
    cases q with
    | true =>
     go_wp2_with (at_builtin; refine Kd.R_append (Kd.int .i64) (w0 := W1) (W := W4) W1.heap.size rfl (.tmp 32) (.tmp 34) 56 3 (.int .i64 0) 8 rfl Tryz.underlying56 info_int3 rfl (by decide) (by decide) _ _ ((i : Int) + 1) [.int .i64 ((i : Int) + 1)] (fun _ => True) (fun _ => False) rfl rfl rfl (fun _ h => h.elim) (fun _ _ => trivial) HG4.out HB4.out HB4.out.size HLG.out ?_; intro v5 w5 hr5 hb5 hg5 hat5; have HR5 := Aside0.mk hr5; have HB5 := Aside0.mk hb5; have HG5 := Aside0.mk hg5; have HT5 := Aside0.mk hat5; clear hr5 hb5 hg5 hat5)
     go_roundg (l.length - (j + 1) + 1)
     case measure => omega
     case rel =>
      refine ⟨j + 1, by omega, by omega, by go_num, ⟨?_⟩, ⟨?_⟩, ⟨fun k hk => ?_⟩, HB5⟩
      · rw [HTK.out, List.filter_append, List.filter_cons, HHE.out]
        exact HR5.out
      · rw [HTK.out, List.filter_append, List.filter_cons, HHE.out]
        simp only [Bool.not_true, Bool.false_eq_true, if_false, List.filter_nil, List.append_nil]
        exact Kd.R_grown2 HA4.out rfl HG5.out (fun k hk => HGA.out k hk)
      · rcases HT5.out with h | ⟨k2, h, hle⟩
        · rw [h] at hk; exact HGA.out k hk
        · rw [h] at hk
          injection hk with hk
          subst hk
          intro he
          have := Kd.R_lt HA4.out _ he.symm
          omega
    | false =>
     go_wp2_with (at_builtin; refine Kd.R_append (Kd.int .i64) (w0 := W1) (W := W4) W1.heap.size rfl (.tmp 36) (.tmp 38) 56 3 (.int .i64 0) 8 rfl Tryz.underlying56 info_int3 rfl (by decide) (by decide) _ _ ((i : Int) + 1) [.int .i64 ((i : Int) + 1)] (fun _ => True) (fun _ => False) rfl rfl rfl (fun _ h => h.elim) (fun _ _ => trivial) HA4.out HB4.out HB4.out.size HLA.out ?_; intro v5 w5 hr5 hb5 hg5 hat5; have HR5 := Aside0.mk hr5; have HB5 := Aside0.mk hb5; have HG5 := Aside0.mk hg5; have HT5 := Aside0.mk hat5; clear hr5 hb5 hg5 hat5)
     go_roundg (l.length - (j + 1) + 1)
     case measure => omega
     case rel =>
      refine ⟨j + 1, by omega, by omega, by go_num, ⟨?_⟩, ⟨?_⟩, ⟨fun k hk => ?_⟩, HB5⟩
      · rw [HTK.out, List.filter_append, List.filter_cons, HHE.out]
        simp only [Bool.false_eq_true, if_false, List.filter_nil, List.append_nil]
        exact Kd.R_grown2 HG4.out rfl HG5.out (fun k hk he => HGA.out k he.symm hk.symm)
      · rw [HTK.out, List.filter_append, List.filter_cons, HHE.out]
        exact HR5.out
      · rcases HT5.out with h | ⟨k2, h, hle⟩
        · rw [h]; exact HGA.out k hk
        · rw [h]
          intro he
          injection he with he
          have := Kd.R_lt HG4.out _ hk
          omega
  · obtain rfl : j = l.length := by omega
    rw [List.take_length] at HG HA
    go_wp2
    go_ret2
    exact ⟨_, _, rfl, by rw [HGO.out]; exact Kd.R_lower HG.out HB1.out.size, by rw [HBA.out]; exact Kd.R_lower HA.out HB1.out.size, below_step HB1.out HB.out⟩
structure FS (base bf bo : Nat) (nv : Int) (ps : List Put) (vc : Value) (W : World) : Prop where
 f : W.heap[bf]? = some (.cells #[.int .i64 nv, vc] 36 (0, 0))
 o : W.heap[bo]? = some (.cells #[.bool (okOf ps)] 4 (0, 0))
 l : Kd.N (Kd.slice 3 (Kd.int .i64)) 56 W base (fun k => base ≤ k ∧ k ≠ bf ∧ k ≠ bo) vc (clsOf ps)
 ne : bf ≠ bo
 hf : base ≤ bf
 ho : base ≤ bo
 len : ∀ p ∈ ps, p.1.length ≤ 500000
structure FK2 (base bf bo : Nat) (vc v1 : Value) (W W' : World) : Prop where
 b : Below base W W'
 k : ∀ k, k < W.heap.size → k ≠ bf → k ≠ bo → some k ≠ vc.ownBlock → W'.heap[k]? = W.heap[k]?
 v : v1.ownBlock = vc.ownBlock ∨ ∃ b, v1.ownBlock = some b ∧ W.heap.size ≤ b
theorem FS.below {base bf bo : Nat} {nv : Int} {ps : List Put} {vc : Value} {W W' : World} (h : FS base bf bo nv ps vc W) (hb : Below W.heap.size W W') : FS base bf bo nv ps vc W' := ⟨blk_below h.f hb, blk_below h.o hb, Kd.N_below h.l hb, h.ne, h.hf, h.ho, h.len⟩
theorem cls_len {ps : List Put} (h : ∀ p ∈ ps, p.1.length ≤ 500000) : (clsOf ps).length ≤ 500000 * ps.length := by
 induction ps with
 | nil => simp [clsOf]
 | cons p t ih =>
  have h1 := ih (fun q hq => h q (List.mem_cons_of_mem _ hq))
  have h2 := h p List.mem_cons_self
  unfold clsOf at h1 ⊢
  rw [List.flatMap_cons, List.length_append, List.length_cons]
  omega
theorem cls_snoc (ps : List Put) (p : Put) : clsOf (ps ++ [p]) = clsOf ps ++ p.1 := by simp [clsOf]
theorem ok_snoc (ps : List Put) (p : Put) : okOf (ps ++ [p]) = (okOf ps && decide (p.2 = 0)) := by simp [okOf]
theorem info_ints2 : (Tryz.prog.info? 56).map (fun i => (i.zero, i.size, i.bytes)) = some (some (.slice none 0 0), (Kd.slice 3 (Kd.int .i64)).sz, 24) := by kernel_rfl
set_option maxRecDepth 100000 in
set_option maxHeartbeats 8000000 in
theorem put_walk {base bf bo : Nat} {nv : Int} {ps : List Put} {vc : Value} {w : World} (hS : FS base bf bo nv ps vc w) (l : List (List Int)) (e : Int) (A : Option Addr) (c : Nat) (okp : Nat → Prop) (hF : Kd.F (Kd.slice 3 (Kd.int .i64)) w okp A l.length l) (hokp : ∀ k, okp k → (base ≤ k ∧ k ≠ bf ∧ k ≠ bo) ∧ some k ≠ vc.ownBlock) (hl : l.length ≤ 500000) (hps : ps.length ≤ 4000000) :
 Calls Tryz.prog 29 #[.slice A l.length c, .int .i64 e, .pointer (some ⟨bo, 0, none⟩), .pointer (some ⟨bf, 0, none⟩)] w fun en w' => en = .returned (.tuple #[]) ∧ ∃ v1, FS base bf bo nv (ps ++ [(l, e)]) v1 w' ∧ FK2 base bf bo vc v1 w w' := by
 have x0 := blk_at hS.o 0 (v := .bool (okOf ps)) rfl
 have x1 := blk_frozen hS.o 0
 have hbo : bo < w.heap.size := blk_lt2 hS.o
 have hbf : bf < w.heap.size := blk_lt2 hS.f
 have hs1 : ∀ u, FS base bf bo nv ps vc w → w.grownBy (w.setCell ⟨bo, 0, none⟩ u) (some bo) := fun u _ => grown_setCell w ⟨bo, 0, none⟩ u
 obtain ⟨q, hq⟩ : ∃ q, (okOf ps && decide (e = 0)) = q := ⟨_, rfl⟩
 obtain ⟨W1, hW1⟩ : ∃ W1, w.setCell ⟨bo, 0, none⟩ (.bool q) = W1 := ⟨_, rfl⟩
 have hg1 : w.grownBy W1 (some bo) := by rw [← hW1]; exact grown_setCell w ⟨bo, 0, none⟩ _
 have hsz1 : W1.heap.size = w.heap.size := by rw [← hW1]; exact World.size_setCell ..
 have hf1 : W1.heap[bf]? = some (.cells #[.int .i64 nv, vc] 36 (0, 0)) := (hg1.block bf hbf (fun h => hS.ne (by injection h))).trans hS.f
 have ho1 : W1.heap[bo]? = some (.cells #[.bool q] 4 (0, 0)) := by rw [← hW1]; exact blk_set hS.o 0 _
 have hl1 : Kd.N (Kd.slice 3 (Kd.int .i64)) 56 W1 base (fun k => base ≤ k ∧ k ≠ bf ∧ k ≠ bo) vc (clsOf ps) := Kd.N_grown hS.l hg1 (fun k hk h => hk.2.2 (by injection h))
 have hF1 : Kd.F (Kd.slice 3 (Kd.int .i64)) W1 okp A l.length l := Kd.F_step hF (fun k hk hlt => hg1.block k hlt (fun h => (hokp k hk).1.2.2 (by injection h)))
 have hb1 : Below base w W1 := by rw [← hW1]; exact (Below.refl _ _).setCell (p := ⟨bo, 0, none⟩) hS.ho _
 have HN1 := Aside0.mk hl1
 have HF1 := Aside0.mk hF1
 have HB1 := Aside0.mk hb1
 have HFB := Aside0.mk hf1
 have HOB := Aside0.mk ho1
 have HKP := Aside0.mk hokp
 have HS := Aside0.mk hS
 have HG1 := Aside0.mk hg1
 have HW1 := Aside0.mk hW1
 have HS1 := Aside0.mk hsz1
 have HQ := Aside0.mk hq
 have HL9 := Aside0.mk hl
 have HNB := Aside0.mk (show ∀ k, W1.heap.size ≤ k → base ≤ k ∧ k ≠ bf ∧ k ≠ bo from fun k hk => by have := hS.hf; omega)
 have HBS := Aside0.mk (show base ≤ W1.heap.size by have := hS.hf; omega)
 have HLN := Aside0.mk (show ((clsOf ps).length + l.length) * 24 ≤ 140737488355328 by have := cls_len hS.len; omega)
 have y0 := blk_at hf1 0 (v := .int .i64 nv) rfl
 have y1 := blk_at hf1 1 (v := vc) rfl
 clear hs1 hS hg1 hf1 ho1 hl1 hF1 hb1 hF hokp hbo hbf hsz1
 obtain ⟨ok, hok⟩ : ∃ ok, okOf ps = ok := ⟨_, rfl⟩
 rw [hok] at x0 hq
 clear hok
 have key : q = (ok && decide (e = 0)) := hq.symm
 clear hq hW1
 have ends : ∀ (v1 : Value) (w9 : World), Kd.N (Kd.slice 3 (Kd.int .i64)) 56 w9 base (fun k => base ≤ k ∧ k ≠ bf ∧ k ≠ bo) v1 (clsOf ps ++ l) → Below base w w9 → W1.grownBy w9 vc.ownBlock → (v1.ownBlock = vc.ownBlock ∨ ∃ b, v1.ownBlock = some b ∧ W1.heap.size ≤ b) → FS base bf bo nv (ps ++ [(l, e)]) v1 (w9.setCell ⟨bf, 1, none⟩ v1) ∧ FK2 base bf bo vc v1 w (w9.setCell ⟨bf, 1, none⟩ v1) := by
  intro v1 w9 hn hb hg hat
  have hbf1 : bf < W1.heap.size := blk_lt2 HFB.out
  have hbo1 : bo < W1.heap.size := blk_lt2 HOB.out
  have hnf : some bf ≠ vc.ownBlock := Kd.N_ne HN1.out HFB.out (by decide)
  have hno : some bo ≠ vc.ownBlock := Kd.N_ne HN1.out HOB.out (by decide)
  have hf9 := (hg.block bf hbf1 hnf).trans HFB.out
  have ho9 := (hg.block bo hbo1 hno).trans HOB.out
  refine ⟨⟨blk_set hf9 1 v1, ?_, ?_, HS.out.ne, HS.out.hf, HS.out.ho, fun p hp => ?_⟩, ⟨hb.setCell (p := ⟨bf, 1, none⟩) HS.out.hf v1, fun k hk h1 h2 h3 => ?_, ?_⟩⟩
  · rw [ok_snoc, HQ.out]
    exact (Below.heap_setCell w9 ⟨bf, 1, none⟩ v1 bo (fun h => HS.out.ne h.symm)).trans ho9
  · rw [cls_snoc]
    exact Kd.N_far (p := ⟨bf, 1, none⟩) hn (fun k hk => hk.2.1) v1
  · rcases List.mem_append.1 hp with h | h
    · exact HS.out.len p h
    · simp only [List.mem_singleton] at h; subst h; exact HL9.out
  · exact (Below.heap_setCell w9 ⟨bf, 1, none⟩ v1 k h1).trans ((hg.block k (by rw [HS1.out]; exact hk) h3).trans (HG1.out.block k hk (fun h => h2 (by injection h))))
  · rw [← HS1.out]; exact hat
 have HEN := Aside0.mk ends
 clear ends
 cases ok with
 | true =>
  by_cases he : e = 0
  · obtain rfl : q = true := by rw [key, he]; rfl
    clear key HQ
    have h00 : e = 0 := he
    clear he
    subst h00
    go_enter Tryz.func29, Tryz.ntmps29
    go_upto_region 1 with (fail)
    rw [HW1.out]
    clear x0 x1
    go_wp2_with (at_builtin; refine Kd.N_append_rows (Kd.slice 3 (Kd.int .i64)) (w0 := w) (W := W1) base rfl (.tmp 12) (.tmp 13) 34 56 (.slice none 0 0) 24 rfl Tryz.underlying34 info_ints2 rfl (by decide) (by decide) vc (clsOf ps) l A l.length c (fun k => base ≤ k ∧ k ≠ bf ∧ k ≠ bo) okp rfl rfl HN1.out HF1.out HKP.out HNB.out HB1.out HBS.out HLN.out ?_; intro v1 w9 hn hb hg hat; have z1 := blk_frozen ((hg.block bf (blk_lt2 HFB.out) (Kd.N_ne HN1.out HFB.out (by decide))).trans HFB.out) 1; have z2 := blk_at ((hg.block bf (blk_lt2 HFB.out) (Kd.N_ne HN1.out HFB.out (by decide))).trans HFB.out) 1 (v := vc) rfl; obtain ⟨A8, c8, e8⟩ := Kd.N_slice hn; subst e8; have HFS := Aside0.mk (HEN.out _ w9 hn hb hg hat); clear hn hb hg hat y0 y1)
    go_end0
    exact ⟨rfl, _, by have h9 := HFS.out; rw [List.length_append] at h9; exact h9⟩
  · obtain rfl : q = false := by rw [key, decide_eq_false he]; rfl
    have e1 : (e == 0) = false := beq_eq_false_iff_ne.mpr he
    clear key HQ he
    go_enter Tryz.func29, Tryz.ntmps29
    go_upto_region 1 with (fail)
    rw [HW1.out]
    clear x0 x1
    go_wp2_with (at_builtin; refine Kd.N_append_rows (Kd.slice 3 (Kd.int .i64)) (w0 := w) (W := W1) base rfl (.tmp 12) (.tmp 13) 34 56 (.slice none 0 0) 24 rfl Tryz.underlying34 info_ints2 rfl (by decide) (by decide) vc (clsOf ps) l A l.length c (fun k => base ≤ k ∧ k ≠ bf ∧ k ≠ bo) okp rfl rfl HN1.out HF1.out HKP.out HNB.out HB1.out HBS.out HLN.out ?_; intro v1 w9 hn hb hg hat; have z1 := blk_frozen ((hg.block bf (blk_lt2 HFB.out) (Kd.N_ne HN1.out HFB.out (by decide))).trans HFB.out) 1; have z2 := blk_at ((hg.block bf (blk_lt2 HFB.out) (Kd.N_ne HN1.out HFB.out (by decide))).trans HFB.out) 1 (v := vc) rfl; obtain ⟨A8, c8, e8⟩ := Kd.N_slice hn; subst e8; have HFS := Aside0.mk (HEN.out _ w9 hn hb hg hat); clear hn hb hg hat y0 y1)
    go_end0
    exact ⟨rfl, _, by have h9 := HFS.out; rw [List.length_append] at h9; exact h9⟩
 | false =>
  obtain rfl : q = false := key
  clear HQ
  go_enter Tryz.func29, Tryz.ntmps29
  go_upto_region 1 with (fail)
  rw [HW1.out]
  clear x0 x1
  go_wp2_with (at_builtin; refine Kd.N_append_rows (Kd.slice 3 (Kd.int .i64)) (w0 := w) (W := W1) base rfl (.tmp 12) (.tmp 13) 34 56 (.slice none 0 0) 24 rfl Tryz.underlying34 info_ints2 rfl (by decide) (by decide) vc (clsOf ps) l A l.length c (fun k => base ≤ k ∧ k ≠ bf ∧ k ≠ bo) okp rfl rfl HN1.out HF1.out HKP.out HNB.out HB1.out HBS.out HLN.out ?_; intro v1 w9 hn hb hg hat; have z1 := blk_frozen ((hg.block bf (blk_lt2 HFB.out) (Kd.N_ne HN1.out HFB.out (by decide))).trans HFB.out) 1; have z2 := blk_at ((hg.block bf (blk_lt2 HFB.out) (Kd.N_ne HN1.out HFB.out (by decide))).trans HFB.out) 1 (v := vc) rfl; obtain ⟨A8, c8, e8⟩ := Kd.N_slice hn; subst e8; have HFS := Aside0.mk (HEN.out _ w9 hn hb hg hat); clear hn hb hg hat y0 y1)
  go_end0
  exact ⟨rfl, _, by have h9 := HFS.out; rw [List.length_append] at h9; exact h9⟩
end Go.Proofs.YteinkjhimceljaaGreatDoor.J
