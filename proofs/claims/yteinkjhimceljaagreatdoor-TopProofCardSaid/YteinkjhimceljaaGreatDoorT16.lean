/- version.Print, walked: its text is told by no word; what counts is whether the version is right. (Printed by genXi.py.) span.right, walked. span.Print and manifest.ruled, walked: the text is told by no word; what counts is whether the range is right. -/
import Derived.Test.YteinkjhimceljaaGreatDoorT15
import Derived.Lib.ItoaLen
import Derived.Test.YteinkjhimceljaaGreatDoorT05
namespace Go.Proofs.YteinkjhimceljaaGreatDoor.J
open Go Go.RowKit Go.Shelf Go.Proofs.YteinkjhimceljaaGreatDoorW.PrintWords Go.Proofs.YteinkjhimceljaaGreatDoorW.PrintLast Go.Proofs.YteinkjhimceljaaGreatDoorW.PrintMore
set_option linter.unusedVariables false
set_option linter.unusedSimpArgs false
set_option maxRecDepth 100000 in
set_option maxHeartbeats 4000000 in
theorem print_walk (v : S23) (hp : v.f3.size ≤ 1000) (hi : ∀ n ∈ [v.f0, v.f1, v.f2], -9223372036854775808 ≤ n ∧ n ≤ 9223372036854775807) (w : World) (HGL : Glob w) :
 Calls Tryz.prog 67 #[.agg #[.int .i64 v.f0, .int .i64 v.f1, .int .i64 v.f2, .string v.f3]] w fun e w' => ∃ s, e = .returned (.tuple #[.string s, .bool (vright v)]) ∧ Below w.heap.size w w' ∧ s.size ≤ 1100 := by
 have text : ∀ n ∈ [v.f0, v.f1, v.f2], ∃ t : ByteArray, t.size ≤ 21 ∧ ∀ W, Glob W → Calls Tryz.prog 94 #[.int .i64 n] W fun e w' => e = .returned (.string t) ∧ Below W.heap.size W w' := by
  intro n hn
  obtain ⟨h0, h1⟩ := hi n hn
  refine ⟨⟨(Lib.itoa n).toArray⟩, ?_, fun W h => itoa_walk n h0 h1 W h⟩
  have := Lib.itoa_length_le n h0 h1
  show ((Lib.itoa n).toArray).size ≤ 21
  simpa using this
 obtain ⟨t0, z0, ht0⟩ := text v.f0 (by simp)
 obtain ⟨t1, z1, ht1⟩ := text v.f1 (by simp)
 obtain ⟨t2, z2, ht2⟩ := text v.f2 (by simp)
 have HT0 := Aside0.mk ht0
 have HT1 := Aside0.mk ht1
 have HT2 := Aside0.mk ht2
 clear ht0 ht1 ht2 text hi
 have BK := Aside0.mk (blk_new w (.cells #[.int .i64 v.f0, .int .i64 v.f1, .int .i64 v.f2, .string v.f3] 23))
 have HB := Aside0.mk (below_alloc (Below.refl w.heap.size w) (.cells #[.int .i64 v.f0, .int .i64 v.f1, .int .i64 v.f2, .string v.f3] 23))
 have HV := Aside0.mk (right_walk v hp _ (HGL.below HB.out))
 have q0 : (9223372036854775807 < t0.size + 1) = False := eq_false (by omega)
 have q1 : (9223372036854775807 < t0.size + 1 + t1.size) = False := eq_false (by omega)
 have q2 : (9223372036854775807 < t0.size + 1 + t1.size + 1) = False := eq_false (by omega)
 have q3 : (9223372036854775807 < t0.size + 1 + t1.size + 1 + t2.size) = False := eq_false (by omega)
 have q4 : (9223372036854775807 < 1 + v.f3.size) = False := eq_false (by omega)
 have q5 : (9223372036854775807 < t0.size + 1 + t1.size + 1 + t2.size + (1 + v.f3.size)) = False := eq_false (by omega)
 cases hv : vright v with
 | false =>
  rw [hv] at HV
  go_enter Tryz.func67, Tryz.ntmps67
  go_wp2_with (go_at_call 93; refine HV.out.mono ?_; rintro e w4 ⟨rfl, hb4⟩; have HB4 := Aside0.mk (below_step HB.out hb4); clear HV hb4)
  go_ret2
  exact ⟨_, rfl, HB4.out, Nat.zero_le _⟩
 | true =>
  rw [hv] at HV
  go_enter Tryz.func67, Tryz.ntmps67
  go_wp2_with (go_at_call 93; refine HV.out.mono ?_; rintro e w4 ⟨rfl, hb4⟩; have n0_ := Aside0.mk (below_step HB.out hb4); have n1_ := Aside0.mk (blk_below BK.out hb4); clear HV hb4 HB BK; have HB := n0_; have BK := n1_; clear n0_ n1_)
  have n0_ := Aside0.mk (blk_drew BK.out)
  have n1_ := Aside0.mk (below_drew1 HB.out)
  clear BK HB
  have BK := n0_
  have HB := n1_
  clear n0_ n1_
  refine start_ (n := 14) (S := fun w' => w'.cell? ⟨w.heap.size, 0, none⟩ = some (.int .i64 v.f0) ∧ w'.cell? ⟨w.heap.size, 1, none⟩ = some (.int .i64 v.f1) ∧ w'.cell? ⟨w.heap.size, 2, none⟩ = some (.int .i64 v.f2)) (ds := []) #[false, false, false, false, false, false, false, false, false, false, false, false, false, false] (by kernel_rfl) rfl rfl ⟨(blk_cell BK.out 0).trans rfl, (blk_cell BK.out 1).trans rfl, (blk_cell BK.out 2).trans rfl⟩ (fun hHeld => ?_)
  generalize w4.drew = w15 at BK HB hHeld ⊢
  refine pure_ (i := 0) (N := some 8) (v := ?_) (a' := ?_) #[true, false, false, false, false, false, false, false, false, false, false, false, false, false] rfl rfl (by kernel_rfl) (fun _ _ _ h => h) (Or.inl ⟨by rfl, ?_⟩) ?_ ?_
  rotate_left
  · intro w'
    go_simp
    with_reducible rfl
  rotate_left
  · simp only [Act.put, List.setIfInBounds_toArray, List.set_cons_zero, List.set_cons_succ, i64_w, i32_w]
    rfl
  refine pure_ (i := 4) (N := some 12) (v := ?_) (a' := ?_) #[true, false, false, false, true, false, false, false, false, false, false, false, false, false] rfl rfl (by kernel_rfl) (fun _ _ _ h => h) (Or.inl ⟨by rfl, ?_⟩) ?_ ?_
  rotate_left
  · intro w'
    go_simp
    with_reducible rfl
  rotate_left
  · simp only [Act.put, List.setIfInBounds_toArray, List.set_cons_zero, List.set_cons_succ, i64_w, i32_w]
    rfl
  refine pure_ (i := 9) (N := some 17) (v := ?_) (a' := ?_) #[true, false, false, false, true, false, false, false, false, true, false, false, false, false] rfl rfl (by kernel_rfl) (fun _ _ _ h => h) (Or.inl ⟨by rfl, ?_⟩) ?_ ?_
  rotate_left
  · intro w'
    go_simp
    with_reducible rfl
  rotate_left
  · simp only [Act.put, List.setIfInBounds_toArray, List.set_cons_zero, List.set_cons_succ, i64_w, i32_w]
    rfl
  refine take_ (i := 1) (N := some 9) (v := ?_) (a' := ?_) #[true, true, false, false, true, false, false, false, false, true, false, false, false, false] rfl rfl (by kernel_rfl) (fun _ _ _ h => h) (Or.inl ⟨by rfl, ?_⟩) hHeld ?_ ?_
  rotate_left
  · intro w'
    rintro ⟨s0, s1, s2⟩
    go_simp
    with_reducible rfl
  rotate_left
  · simp only [Act.put, List.setIfInBounds_toArray, List.set_cons_zero, List.set_cons_succ, i64_w, i32_w]
    rfl
  refine take_ (i := 5) (N := some 13) (v := ?_) (a' := ?_) #[true, true, false, false, true, true, false, false, false, true, false, false, false, false] rfl rfl (by kernel_rfl) (fun _ _ _ h => h) (Or.inl ⟨by rfl, ?_⟩) hHeld ?_ ?_
  rotate_left
  · intro w'
    rintro ⟨s0, s1, s2⟩
    go_simp
    with_reducible rfl
  rotate_left
  · simp only [Act.put, List.setIfInBounds_toArray, List.set_cons_zero, List.set_cons_succ, i64_w, i32_w]
    rfl
  refine take_ (i := 10) (N := some 18) (v := ?_) (a' := ?_) #[true, true, false, false, true, true, false, false, false, true, true, false, false, false] rfl rfl (by kernel_rfl) (fun _ _ _ h => h) (Or.inl ⟨by rfl, ?_⟩) hHeld ?_ ?_
  rotate_left
  · intro w'
    rintro ⟨s0, s1, s2⟩
    go_simp
    with_reducible rfl
  rotate_left
  · simp only [Act.put, List.setIfInBounds_toArray, List.set_cons_zero, List.set_cons_succ, i64_w, i32_w]
    rfl
  refine one_ (i := 2) (N := some 10) #[true, true, true, false, true, true, false, false, false, true, true, false, false, false] rfl rfl (by kernel_rfl) (by decide) (fun K hK => ?_)
  refine goes_ Tryz.func94 (by kernel_rfl) rfl #[.int .i64 v.f0] (by rfl) rfl rfl (by (try simp only [List.map_toArray, List.map_cons, List.map_nil]); first | done | rfl) ?_
  with_reducible refine (HT0.out _ (HGL.below HB.out)).mono ?_
  rintro e w5 ⟨rfl, hb⟩
  have n0_ := Aside0.mk (blk_below BK.out hb)
  have n1_ := Aside0.mk (below_step HB.out hb)
  clear BK HB hb
  have BK := n0_
  have HB := n1_
  clear n0_ n1_
  refine ⟨_, rfl, ?_⟩
  refine hK.out _ _ (⟨(blk_cell BK.out 0).trans rfl, (blk_cell BK.out 1).trans rfl, (blk_cell BK.out 2).trans rfl⟩) (fun hHeld => ?_)
  clear hK K
  refine norm_ (a' := ?_) ?_ ?_
  rotate_left
  · show Act.put _ (some 10) _ = _
    simp only [Act.put, List.setIfInBounds_toArray, List.set_cons_zero, List.set_cons_succ, i64_w, i32_w]
    rfl
  refine pure_ (i := 3) (N := some 11) (v := ?_) (a' := ?_) #[true, true, true, true, true, true, false, false, false, true, true, false, false, false] rfl rfl (by kernel_rfl) (fun _ _ _ h => h) (Or.inl ⟨by rfl, ?_⟩) ?_ ?_
  rotate_left
  · intro w'
    go_simp
    with_reducible rfl
  rotate_left
  · simp only [Act.put, List.setIfInBounds_toArray, List.set_cons_zero, List.set_cons_succ, i64_w, i32_w]
    rfl
  refine one_ (i := 6) (N := some 14) #[true, true, true, true, true, true, true, false, false, true, true, false, false, false] rfl rfl (by kernel_rfl) (by decide) (fun K hK => ?_)
  refine goes_ Tryz.func94 (by kernel_rfl) rfl #[.int .i64 v.f1] (by rfl) rfl rfl (by (try simp only [List.map_toArray, List.map_cons, List.map_nil]); first | done | rfl) ?_
  with_reducible refine (HT1.out _ (HGL.below HB.out)).mono ?_
  rintro e w6 ⟨rfl, hb⟩
  have n0_ := Aside0.mk (blk_below BK.out hb)
  have n1_ := Aside0.mk (below_step HB.out hb)
  clear BK HB hb
  have BK := n0_
  have HB := n1_
  clear n0_ n1_
  refine ⟨_, rfl, ?_⟩
  refine hK.out _ _ (⟨(blk_cell BK.out 0).trans rfl, (blk_cell BK.out 1).trans rfl, (blk_cell BK.out 2).trans rfl⟩) (fun hHeld => ?_)
  clear hK K
  refine norm_ (a' := ?_) ?_ ?_
  rotate_left
  · show Act.put _ (some 14) _ = _
    simp only [Act.put, List.setIfInBounds_toArray, List.set_cons_zero, List.set_cons_succ, i64_w, i32_w]
    rfl
  refine pure_ (i := 7) (N := some 15) (v := ?_) (a' := ?_) #[true, true, true, true, true, true, true, true, false, true, true, false, false, false] rfl rfl (by kernel_rfl) (fun _ _ _ h => h) (Or.inl ⟨by rfl, ?_⟩) ?_ ?_
  rotate_left
  · intro w'
    go_simp
    with_reducible rfl
  rotate_left
  · simp only [Act.put, List.setIfInBounds_toArray, List.set_cons_zero, List.set_cons_succ, i64_w, i32_w]
    rfl
  refine pure_ (i := 8) (N := some 16) (v := ?_) (a' := ?_) #[true, true, true, true, true, true, true, true, true, true, true, false, false, false] rfl rfl (by kernel_rfl) (fun _ _ _ h => h) (Or.inl ⟨by rfl, ?_⟩) ?_ ?_
  rotate_left
  · intro w'
    go_simp
    with_reducible rfl
  rotate_left
  · simp only [Act.put, List.setIfInBounds_toArray, List.set_cons_zero, List.set_cons_succ, i64_w, i32_w]
    rfl
  refine one_ (i := 11) (N := some 19) #[true, true, true, true, true, true, true, true, true, true, true, true, false, false] rfl rfl (by kernel_rfl) (by decide) (fun K hK => ?_)
  refine goes_ Tryz.func94 (by kernel_rfl) rfl #[.int .i64 v.f2] (by rfl) rfl rfl (by (try simp only [List.map_toArray, List.map_cons, List.map_nil]); first | done | rfl) ?_
  with_reducible refine (HT2.out _ (HGL.below HB.out)).mono ?_
  rintro e w7 ⟨rfl, hb⟩
  have n0_ := Aside0.mk (blk_below BK.out hb)
  have n1_ := Aside0.mk (below_step HB.out hb)
  clear BK HB hb
  have BK := n0_
  have HB := n1_
  clear n0_ n1_
  refine ⟨_, rfl, ?_⟩
  refine hK.out _ _ (⟨(blk_cell BK.out 0).trans rfl, (blk_cell BK.out 1).trans rfl, (blk_cell BK.out 2).trans rfl⟩) (fun hHeld => ?_)
  clear hK K
  refine norm_ (a' := ?_) ?_ ?_
  rotate_left
  · show Act.put _ (some 19) _ = _
    simp only [Act.put, List.setIfInBounds_toArray, List.set_cons_zero, List.set_cons_succ, i64_w, i32_w]
    rfl
  refine pure_ (i := 12) (N := some 20) (v := ?_) (a' := ?_) #[true, true, true, true, true, true, true, true, true, true, true, true, true, false] rfl rfl (by kernel_rfl) (fun _ _ _ h => h) (Or.inl ⟨by rfl, ?_⟩) ?_ ?_
  rotate_left
  · intro w'
    go_simp
    with_reducible rfl
  rotate_left
  · simp only [Act.put, List.setIfInBounds_toArray, List.set_cons_zero, List.set_cons_succ, i64_w, i32_w]
    rfl
  refine pure_ (i := 13) (N := some 4) (v := ?_) (a' := ?_) #[true, true, true, true, true, true, true, true, true, true, true, true, true, true] rfl rfl (by kernel_rfl) (fun _ _ _ h => h) (Or.inl ⟨by rfl, ?_⟩) ?_ ?_
  rotate_left
  · intro w'
    go_simp
    with_reducible rfl
  rotate_left
  · simp only [Act.put, List.setIfInBounds_toArray, List.set_cons_zero, List.set_cons_succ, i64_w, i32_w]
    rfl
  refine done_ (by kernel_rfl) ?_
  have hc3 := (blk_cell BK.out 3).trans rfl
  go_wp2
  all_goals (go_ret2; refine ⟨_, rfl, ?_, ?_⟩; (repeat (first | (with_reducible first | exact HB.out | apply below_alloc | apply pw_below_drewN | apply below_drew1) | exact HB.out)); simp only [ByteArray.size_append, show (⟨#[46]⟩ : ByteArray).size = 1 from rfl, show (⟨#[45]⟩ : ByteArray).size = 1 from rfl]; omega)
def IntOk (n : Int) : Prop := -9223372036854775808 ≤ n ∧ n ≤ 9223372036854775807
structure VOk (v : S23) : Prop where
 pre : v.f3.size ≤ 1000
 a : IntOk v.f0
 b : IntOk v.f1
 c : IntOk v.f2
theorem VOk.ints {v : S23} (h : VOk v) : ∀ n ∈ [v.f0, v.f1, v.f2], -9223372036854775808 ≤ n ∧ n ≤ 9223372036854775807 := by
 intro n hn
 simp only [List.mem_cons, List.not_mem_nil, or_false] at hn
 rcases hn with rfl | rfl | rfl
 · exact h.a
 · exact h.b
 · exact h.c
structure ROk (l : List (List S112)) : Prop where
 len : l.length ≤ 1000
 each : ∀ x ∈ l, x.length ≤ 1000 ∧ ∀ b ∈ x, VOk b.f1
noncomputable def boundB (b : S112) : Bool := vright b.f1 && (decide (1 ≤ b.f0) && decide (b.f0 ≤ 5))
noncomputable def altB (x : List S112) : Bool := x.all boundB && decide (x.length ≤ 8)
noncomputable def spanB (l : List (List S112)) : Bool := l.all altB && (decide (1 ≤ l.length) && decide (l.length ≤ 8))
theorem alt_at {w W : World} {A : Option Addr} {xs : List (List S112)} (h : Kd.C (Kd.slice 112 k112) w A xs.length xs) (hb : Below w.heap.size w W) (j : Nat) (hj : j < xs.length) : ∃ ad A0 c0, A = some ad ∧ W.cell? (ad.add j) = some (.slice A0 xs[j].length c0) ∧ xs[j].length ≤ c0 ∧ k112.C W A0 xs[j].length xs[j] := by
 obtain ⟨ad, c, e, _, hK, hc0⟩ := Kd.C_get h ([] : List S112) (j : Int) (by omega) (by omega)
 have e2 : xs.getD (j : Int).toNat [] = xs[j] := by simp [hj]
 rw [e2] at hK
 obtain ⟨A0, c0, rfl, l0, g0⟩ := hK
 have hq : w.cell? (ad.add (j * 1 + 0)) = some (.slice A0 xs[j].length c0) := hc0 0 _ rfl
 rw [Nat.mul_one, Nat.add_zero] at hq
 exact ⟨ad, A0, c0, e, pw_cell_below hb hq, l0, Kd.C_below g0 hb⟩
theorem bound_at {w W : World} {A : Option Addr} {xs : List S112} (h : Kd.C k112 w A xs.length xs) (hb : Below w.heap.size w W) (j : Nat) (hj : j < xs.length) : ∃ ad, A = some ad ∧ W.cell? (ad.add (j * 5)) = some (.int .i64 xs[j].f0) ∧ W.cell? ⟨(ad.add (j * 5)).block, (ad.add (j * 5)).off + 1, none⟩ = some (.int .i64 xs[j].f1.f0) ∧ W.cell? ⟨(ad.add (j * 5)).block, (ad.add (j * 5)).off + 2, none⟩ = some (.int .i64 xs[j].f1.f1) ∧ W.cell? ⟨(ad.add (j * 5)).block, (ad.add (j * 5)).off + 3, none⟩ = some (.int .i64 xs[j].f1.f2) ∧ W.cell? ⟨(ad.add (j * 5)).block, (ad.add (j * 5)).off + 4, none⟩ = some (.string xs[j].f1.f3) := by
 obtain ⟨ad, e, h0, h1, h2, h3, h4⟩ := at_T112 h (j : Int) (by omega) (by omega)
 have e2 : rd_T112 xs (j : Int) = xs[j] := by simp [rd_T112, hj]
 rw [e2] at h0 h1 h2 h3 h4
 exact ⟨ad, e, pw_cell_below hb h0, pw_cell_below hb h1, pw_cell_below hb h2, pw_cell_below hb h3, pw_cell_below hb h4⟩
set_option maxRecDepth 100000 in
set_option maxHeartbeats 4000000 in
theorem span_right_walk (A : Option Addr) (c : Nat) (l : List (List S112)) (hl : ROk l) (w : World) (HGL : Glob w) (hr : Kd.C (Kd.slice 112 k112) w A l.length l) (hc : l.length ≤ c) :
 Calls Tryz.prog 83 #[.agg #[.slice A l.length c]] w fun e w' => e = .returned (.bool (spanB l)) ∧ Below w.heap.size w w' := by
 have HR := Aside0.mk hr
 have HC := Aside0.mk hc
 have HL := Aside0.mk hl
 have hlen := hl.len
 clear hr hc hl
 have BX := Aside0.mk (blk_new w (.cells #[.slice A l.length c] 73))
 have HB := Aside0.mk (below_alloc (Below.refl w.heap.size w) (.cells #[.slice A l.length c] 73))
 go_enter Tryz.func83, Tryz.ntmps83
 go_wp2
 go_loopg [12] (l.length + 1) (fun gg s12 wq => ∃ j : Nat, j ≤ l.length ∧ l.length - j < gg ∧ s12 = .int .i64 (j : Int) ∧ Aside0 ((l.take j).all altB = true) ∧ Aside0 (wq.heap[w.heap.size]? = some (.cells #[.slice A l.length c] 73 (0, 0))) ∧ Aside0 (Below w.heap.size w wq))
 case atStart => exact ⟨0, Nat.zero_le _, by omega, rfl, ⟨rfl⟩, BX, HB⟩
 case round =>
  clear BX HB
  obtain ⟨j, hj1, hjg, rfl, HT, BX, HB⟩ := hrel
  by_cases hlt : j < l.length
  · obtain ⟨ad, A0, c0, rfl, hx, hl0, hC0⟩ := alt_at HR.out (Below.refl _ _) j hlt
    have hx := pw_cell_below HB.out hx
    have ja : (j : Int) < (l.length : Int) := by omega
    obtain ⟨hxl, hxb⟩ := HL.out.each _ (List.getElem_mem hlt)
    have HTK := Aside0.mk (show l.take (j + 1) = l.take j ++ [l[j]] by rw [List.take_succ_eq_append_getElem hlt])
    have HSP := Aside0.mk (show altB l[j] = false → spanB l = false by
     intro h
     unfold spanB
     rw [show l.all altB = false from List.all_eq_false.2 ⟨_, List.getElem_mem hlt, by simp [h]⟩]
     rfl)
    generalize l[j] = x at hx hl0 hC0 hxl hxb HTK HSP
    have HC0 := Aside0.mk hC0
    have HL0 := Aside0.mk hl0
    have HXB := Aside0.mk hxb
    clear hC0 hl0 hxb
    go_wp2
    go_loopg [18] (x.length + 1) (fun gg s18 wq => ∃ i : Nat, i ≤ x.length ∧ x.length - i < gg ∧ s18 = .int .i64 (i : Int) ∧ Aside0 ((x.take i).all boundB = true) ∧ Aside0 (wq.heap[w.heap.size]? = some (.cells #[.slice (some ad) l.length c] 73 (0, 0))) ∧ Aside0 (Below w.heap.size w wq))
    case atStart => exact ⟨0, Nat.zero_le _, by omega, rfl, ⟨rfl⟩, BX, HB⟩
    case round =>
     clear BX HB hx
     obtain ⟨i, hi1, hig, rfl, HTI, BX, HB⟩ := hrel
     by_cases hli : i < x.length
     · obtain ⟨ab, rfl, x0, x1, x2, x3, x4⟩ := bound_at HC0.out HB.out i hli
       have ia : (i : Int) < (x.length : Int) := by omega
       have hv := HXB.out _ (List.getElem_mem hli)
       have HTK2 := Aside0.mk (show x.take (i + 1) = x.take i ++ [x[i]] by rw [List.take_succ_eq_append_getElem hli])
       have HAL := Aside0.mk (show boundB x[i] = false → altB x = false by
        intro h
        unfold altB
        rw [show x.all boundB = false from List.all_eq_false.2 ⟨_, List.getElem_mem hli, by simp [h]⟩]
        rfl)
       generalize x[i] = b at x0 x1 x2 x3 x4 hv HTK2 HAL
       have HP := Aside0.mk (fun W h => print_walk b.f1 hv.pre hv.ints W h)
       obtain ⟨vb, hvb⟩ : ∃ vb, vright b.f1 = vb := ⟨_, rfl⟩
       have HBD := Aside0.mk (show boundB b = (vb && (decide (1 ≤ b.f0) && decide (b.f0 ≤ 5))) by unfold boundB; rw [hvb])
       rw [hvb] at HP
       clear hv hvb
       cases vb with
       | false =>
        go_wp2_with (go_at_call 67; refine (HP.out _ (HGL.below (below_alloc HB.out _))).mono ?_; rintro e w4 ⟨s, rfl, hb4, hsz⟩; have y0 := (blk_cell (blk_below (blk_new wr (.cells #[.int .i64 b.f0, .int .i64 b.f1.f0, .int .i64 b.f1.f1, .int .i64 b.f1.f2, .string b.f1.f3] 112)) hb4) 0).trans rfl; have BX4 := Aside0.mk (blk_below (blk_alloc BX.out (.cells #[.int .i64 b.f0, .int .i64 b.f1.f0, .int .i64 b.f1.f1, .int .i64 b.f1.f2, .string b.f1.f3] 112)) hb4); have HB4 := Aside0.mk (below_step (below_alloc HB.out _) hb4); clear HP hb4)
        go_ret
        exact ⟨by rw [HSP.out (HAL.out (by rw [HBD.out]; rfl))]; rfl, HB4.out⟩
       | true =>
        by_cases h1 : b.f0 < 1
        · have H1 := Aside0.mk h1
          go_wp2_with (go_at_call 67; refine (HP.out _ (HGL.below (below_alloc HB.out _))).mono ?_; rintro e w4 ⟨s, rfl, hb4, hsz⟩; have y0 := (blk_cell (blk_below (blk_new wr (.cells #[.int .i64 b.f0, .int .i64 b.f1.f0, .int .i64 b.f1.f1, .int .i64 b.f1.f2, .string b.f1.f3] 112)) hb4) 0).trans rfl; have BX4 := Aside0.mk (blk_below (blk_alloc BX.out (.cells #[.int .i64 b.f0, .int .i64 b.f1.f0, .int .i64 b.f1.f1, .int .i64 b.f1.f2, .string b.f1.f3] 112)) hb4); have HB4 := Aside0.mk (below_step (below_alloc HB.out _) hb4); clear HP hb4)
          go_ret
          exact ⟨by rw [HSP.out (HAL.out (by rw [HBD.out]; rw [decide_eq_false (show ¬ 1 ≤ b.f0 by have := H1.out; omega)]; rfl))]; rfl, HB4.out⟩
        · by_cases h5 : b.f0 > 5
          · have H5 := Aside0.mk h5
            go_wp2_with (go_at_call 67; refine (HP.out _ (HGL.below (below_alloc HB.out _))).mono ?_; rintro e w4 ⟨s, rfl, hb4, hsz⟩; have y0 := (blk_cell (blk_below (blk_new wr (.cells #[.int .i64 b.f0, .int .i64 b.f1.f0, .int .i64 b.f1.f1, .int .i64 b.f1.f2, .string b.f1.f3] 112)) hb4) 0).trans rfl; have BX4 := Aside0.mk (blk_below (blk_alloc BX.out (.cells #[.int .i64 b.f0, .int .i64 b.f1.f0, .int .i64 b.f1.f1, .int .i64 b.f1.f2, .string b.f1.f3] 112)) hb4); have HB4 := Aside0.mk (below_step (below_alloc HB.out _) hb4); clear HP hb4)
            go_ret
            exact ⟨by rw [HSP.out (HAL.out (by rw [HBD.out]; rw [decide_eq_false (show ¬ b.f0 ≤ 5 by have := H5.out; omega), Bool.and_false]; rfl))]; rfl, HB4.out⟩
          · have H1 := Aside0.mk h1
            have H5 := Aside0.mk h5
            go_wp2_with (go_at_call 67; refine (HP.out _ (HGL.below (below_alloc HB.out _))).mono ?_; rintro e w4 ⟨s, rfl, hb4, hsz⟩; have y0 := (blk_cell (blk_below (blk_new wr (.cells #[.int .i64 b.f0, .int .i64 b.f1.f0, .int .i64 b.f1.f1, .int .i64 b.f1.f2, .string b.f1.f3] 112)) hb4) 0).trans rfl; have BX4 := Aside0.mk (blk_below (blk_alloc BX.out (.cells #[.int .i64 b.f0, .int .i64 b.f1.f0, .int .i64 b.f1.f1, .int .i64 b.f1.f2, .string b.f1.f3] 112)) hb4); have HB4 := Aside0.mk (below_step (below_alloc HB.out _) hb4); clear HP hb4)
            go_roundg (x.length - (i + 1) + 1)
            case measure => omega
            case rel => exact ⟨i + 1, by omega, by omega, by go_num, ⟨by rw [HTK2.out, List.all_append, HTI.out, List.all_cons, List.all_nil, HBD.out, decide_eq_true (show 1 ≤ b.f0 by have := H1.out; omega), decide_eq_true (show b.f0 ≤ 5 by have := H5.out; omega)]; rfl⟩, BX4, HB4⟩
     · have hie : i = x.length := by omega
       subst hie
       have HTX := Aside0.mk (show x.all boundB = true by have := HTI.out; rwa [List.take_length] at this)
       by_cases h8 : (x.length : Int) > 8
       · have H8 := Aside0.mk h8
         go_wp2
         go_ret
         exact ⟨by rw [HSP.out (by unfold altB; rw [decide_eq_false (show ¬ x.length ≤ 8 by have := H8.out; omega), Bool.and_false])]; rfl, HB.out⟩
       · have H8 := Aside0.mk h8
         go_wp2
         go_roundg (l.length - (j + 1) + 1)
         case measure => omega
         case rel => exact ⟨j + 1, by omega, by omega, by go_num, ⟨by rw [HTK.out, List.all_append, HT.out, List.all_cons, List.all_nil]; unfold altB; rw [HTX.out, decide_eq_true (show x.length ≤ 8 by have := H8.out; omega)]; rfl⟩, BX, HB⟩
  · have hje : j = l.length := by omega
    subst hje
    have HTL := Aside0.mk (show l.all altB = true by have := HT.out; rwa [List.take_length] at this)
    have y0 := (blk_cell BX.out 0).trans rfl
    have HSB := Aside0.mk (show spanB l = (decide ((l.length : Int) ≥ 1) && decide ((l.length : Int) ≤ 8)) by
     unfold spanB
     rw [HTL.out, Bool.true_and]
     congr 1 <;> exact decide_eq_decide.2 (by omega))
    by_cases h1 : (l.length : Int) ≥ 1
    · have e1 := decide_eq_true h1
      have H1 := Aside0.mk h1
      clear h1
      go_wp2
      go_ret
      exact ⟨by rw [HSB.out, decide_eq_true H1.out]; rfl, by repeat (first | (with_reducible first | exact HB.out | apply below_alloc | apply pw_below_drewN | apply below_drew1) | exact HB.out)⟩
    · have e1 := decide_eq_false h1
      have H1 := Aside0.mk h1
      clear h1
      go_wp2
      go_ret
      exact ⟨by rw [HSB.out, decide_eq_false (show ¬ (l.length : Int) ≥ 1 by have := H1.out; omega)]; rfl, by repeat (first | (with_reducible first | exact HB.out | apply below_alloc | apply pw_below_drewN | apply below_drew1) | exact HB.out)⟩
theorem blk_at {w : World} {g : Nat} {t : TypeId} {cs : Array Value} (h : w.heap[g]? = some (.cells cs t (0, 0))) (i : Nat) {v : Value} (hv : cs[i]? = some v) : w.cell? ⟨g, i, none⟩ = some v := (blk_cell h i).trans hv
def Wds (base : Nat) (w : World) (v : Value) (n m : Nat) : Prop := ∃ ws : List ByteArray, Kd.R Kd.string 9 w base (fun _ => True) v ws ∧ ws.length ≤ n ∧ ∀ x ∈ ws, x.size ≤ m
theorem Wds.nil (base : Nat) (w : World) (n m : Nat) : Wds base w (.slice none 0 0) n m := ⟨[], Kd.R_nil _ _ _ _ _, Nat.zero_le _, fun _ h => by cases h⟩
theorem Wds.below {base n m : Nat} {w w' : World} {v : Value} (h : Wds base w v n m) (hb : Below w.heap.size w w') : Wds base w' v n m := by
 obtain ⟨ws, h1, h2⟩ := h
 exact ⟨ws, Kd.R_below h1 hb, h2⟩
theorem Wds.more {base n n' m : Nat} {w : World} {v : Value} (h : Wds base w v n m) (hn : n ≤ n') : Wds base w v n' m := by
 obtain ⟨ws, h1, h2, h3⟩ := h
 exact ⟨ws, h1, Nat.le_trans h2 hn, h3⟩
theorem Wds.form {base n m : Nat} {w : World} {v : Value} (h : Wds base w v n m) : ∃ A k c, v = .slice A k c ∧ k ≤ n := by
 obtain ⟨ws, h1, h2, _⟩ := h
 obtain ⟨A, c, e⟩ := Kd.R_slice h1
 exact ⟨A, ws.length, c, e, h2⟩
theorem Wds.ne {base n m : Nat} {w : World} {v : Value} (h : Wds base w v n m) {g t : Nat} {cells : Array Value} (hb : w.heap[g]? = some (.cells cells t (0, 0))) (ht : 9 ≠ t) : some g ≠ v.ownBlock := by
 obtain ⟨ws, h1, _⟩ := h
 exact Kd.R_ne h1 hb ht
theorem info_str : (Tryz.prog.info? 9).map (fun i => (i.zero, i.size, i.bytes)) = some (some (.string ⟨#[]⟩), Kd.string.sz, 16) := by kernel_rfl
theorem Wds.append {ops : Array Oper} {rest : List Oper} {o : Oper} {a : Act} {Q : Exit → Act → World → Prop} {w0 W : World} (base n m : Nat) (hgd : o.guard = none) (s x : Operand)
 (ho : o.op = .call { callee := .builtin .append, args := #[s, x], argTypes := #[83, 83] }) (v : Value) (p : ByteArray) (hs : a.eval s = v) (hx : a.eval x = .slice (some ⟨W.heap.size, 0, none⟩) 1 1)
 (h : Wds base W v n m) (hp : p.size ≤ m) (hn : n ≤ 1000000) (HB : Below base w0 W) (hbase : base ≤ W.heap.size)
 (K : ∀ v1 w1, Wds base w1 v1 (n + 1) m → Below base w0 w1 → W.grownBy w1 v.ownBlock → wpList Tryz.prog ops Q rest (a.put o.dst v1) w1) :
 wpList Tryz.prog ops Q (o :: rest) a (W.alloc (.cells #[.string p] 9)) := by
 obtain ⟨ws, h1, h2, h3⟩ := h
 refine Kd.R_append Kd.string (w0 := w0) (W := W) base hgd s x 83 9 (.string ⟨#[]⟩) 16 ho Tryz.underlying83 info_str rfl (by decide) (by decide) v ws p [.string p] (fun _ => True) (fun _ => False) hs hx rfl (fun _ h => h.elim) (fun _ _ => trivial) h1 HB hbase (by omega) ?_
 intro v1 w1 hr hb hg _
 exact K v1 w1 ⟨_, hr, by rw [List.length_append, List.length_singleton]; omega, fun y hy => by
  rcases List.mem_append.1 hy with hy | hy
  · exact h3 y hy
  · rw [List.mem_singleton.1 hy]; exact hp⟩ hb hg
theorem lens_le (sep : Nat) (m : Nat) (l : List ByteArray) (hm : ∀ x ∈ l, x.size ≤ m) : Lib.lens (l.map (·.data.toList)) ≤ l.length * m := by
 induction l with
 | nil => exact Nat.zero_le _
 | cons x l ih =>
  have h1 := ih (fun y hy => hm y (List.mem_cons_of_mem _ hy))
  have h2 := hm x (List.mem_cons_self ..)
  unfold Lib.lens at h1 ⊢
  simp only [List.map_cons, List.sum_cons, List.length_cons]
  have h3 : x.data.toList.length = x.size := by simp
  rw [Nat.add_mul, Nat.one_mul]
  omega
theorem join_size (l : List ByteArray) (sep : ByteArray) (n m : Nat) (hn : l.length ≤ n) (hm : ∀ x ∈ l, x.size ≤ m) (hs : sep.size ≤ 10) : (Lib.join (l.map (·.data.toList)) sep.data.toList).length ≤ n * (m + 10) := by
 cases l with
 | nil => rw [List.map_nil, Lib.join_nil]; exact Nat.zero_le _
 | cons x r =>
  have h1 := lens_le 0 m (x :: r) hm
  rw [List.map_cons] at h1
  rw [List.map_cons, Lib.join_length]
  have h2 : sep.data.toList.length = sep.size := by simp
  rw [h2, List.length_map]
  have h3 : sep.size * r.length ≤ 10 * (x :: r).length := Nat.mul_le_mul hs (by simp)
  have h4 : (x :: r).length * (m + 10) ≤ n * (m + 10) := Nat.mul_le_mul hn (Nat.le_refl _)
  rw [Nat.mul_add, Nat.mul_comm _ 10] at h4
  omega
theorem join_walk (base n m : Nat) (v : Value) (sep : ByteArray) (hs : sep.size ≤ 10) (hn : n ≤ 1000) (hm : m ≤ 1000000) (w : World) (h : Wds base w v n m) :
 Calls Tryz.prog 128 #[v, .string sep] w fun e w' => ∃ s, e = .returned (.string s) ∧ Below w.heap.size w w' ∧ s.size ≤ n * (m + 10) := by
 obtain ⟨ws, hR, h1, h2⟩ := h
 have hsz := join_size ws sep n m h1 h2 hs
 have hb : n * (m + 10) ≤ 1000 * 1000010 := Nat.mul_le_mul hn (by omega)
 cases ws with
 | nil =>
  obtain ⟨A, c, rfl⟩ := Kd.R_slice hR
  refine (Any.strings_Join_none Tryz.joinL Tryz.builderX A c sep w).mono ?_
  rintro e w' ⟨rfl, rfl⟩
  exact ⟨_, rfl, Below.refl _ _, Nat.zero_le _⟩
 | cons x r =>
  obtain ⟨g, c, rfl, _, hg, _⟩ := Kd.R_form hR (by simp)
  obtain ⟨_, hc, hC⟩ := Kd.R_reads' hR
  refine (Any.strings_Join Tryz.joinL Tryz.builderX g 0 c (x :: r) sep w (fun j y hj => ?_) hg (by omega) hc (by omega)).mono ?_
  · have hjl := (List.getElem?_eq_some_iff.1 hj).1
    obtain ⟨ad, cs, e, _, hK, hcell⟩ := Kd.C_get hC y (j : Int) (by omega) (by omega)
    have e2 : (x :: r).getD (j : Int).toNat y = y := by
     show (x :: r).getD j y = y
     rw [List.getD_eq_getElem?_getD, hj]; rfl
    rw [e2] at hK
    have hk : cs = [.string y] := hK
    subst hk
    injection e with e
    subst e
    have hq : w.cell? ((⟨g, 0, none⟩ : Addr).add (j * 1 + 0)) = some (.string y) := hcell 0 _ rfl
    have e3 : (⟨g, 0, none⟩ : Addr).add (j * 1 + 0) = ⟨g, 0 + j, none⟩ := by
     unfold Addr.add
     split
     · next h => simp at h; subst h; rfl
     · simp
    rwa [e3] at hq
  · rintro e w' ⟨rfl, hb2⟩
    refine ⟨_, rfl, hb2, ?_⟩
    show ((Lib.join ((x :: r).map (·.data.toList)) sep.data.toList).toArray).size ≤ _
    simpa using hsz
theorem sign_at (m : Nat) (hm : m < 5) : ∃ (op : Int) (tx : ByteArray), tx.size ≤ 2 ∧ ∀ w, (Instr.index 190 (.agg #[.int .i64 3, .string ⟨#[60, 61]⟩, .int .i64 5, .string ⟨#[62, 61]⟩, .int .i64 2, .string ⟨#[60]⟩, .int .i64 4, .string ⟨#[62]⟩, .int .i64 1, .string ⟨#[61]⟩]) (.int .i64 (m : Int))).run Tryz.prog w = .ok (.agg #[.int .i64 op, .string tx]) w := by
 rcases (show m = 0 ∨ m = 1 ∨ m = 2 ∨ m = 3 ∨ m = 4 by omega) with rfl | rfl | rfl | rfl | rfl
 · exact ⟨3, ⟨#[60, 61]⟩, by decide, fun w => by kernel_rfl⟩
 · exact ⟨5, ⟨#[62, 61]⟩, by decide, fun w => by kernel_rfl⟩
 · exact ⟨2, ⟨#[60]⟩, by decide, fun w => by kernel_rfl⟩
 · exact ⟨4, ⟨#[62]⟩, by decide, fun w => by kernel_rfl⟩
 · exact ⟨1, ⟨#[61]⟩, by decide, fun w => by kernel_rfl⟩
set_option maxRecDepth 100000 in
set_option maxHeartbeats 8000000 in
theorem span_print_walk (A : Option Addr) (c : Nat) (l : List (List S112)) (hl : ROk l) (w : World) (HGL : Glob w) (hr : Kd.C (Kd.slice 112 k112) w A l.length l) (hc : l.length ≤ c) :
 Calls Tryz.prog 98 #[.agg #[.slice A l.length c]] w fun e w' => ∃ s, e = .returned (.tuple #[.string s, .bool (spanB l)]) ∧ Below w.heap.size w w' := by
 have HR := Aside0.mk hr
 have HC := Aside0.mk hc
 have HL := Aside0.mk hl
 have hlen := hl.len
 clear hr hc hl
 have BX := Aside0.mk (blk_new w (.cells #[.slice A l.length c] 73))
 have HB := Aside0.mk (below_alloc (Below.refl w.heap.size w) (.cells #[.slice A l.length c] 73))
 have HS := Aside0.mk (span_right_walk A c l HL.out _ (HGL.below HB.out) (Kd.C_below HR.out HB.out) HC.out)
 cases hsp : spanB l with
 | false =>
  rw [hsp] at HS
  go_enter Tryz.func98, Tryz.ntmps98
  go_wp2_with (go_at_call 83; refine HS.out.mono ?_; rintro e w4 ⟨rfl, hb4⟩; have HB4 := Aside0.mk (below_step HB.out hb4); clear HS hb4)
  go_ret2
  exact ⟨_, rfl, HB4.out⟩
 | true =>
  rw [hsp] at HS
  have hsb : l.length ≤ 8 ∧ ∀ x ∈ l, x.length ≤ 8 := by
   unfold spanB at hsp
   simp only [Bool.and_eq_true, decide_eq_true_eq, List.all_eq_true] at hsp
   refine ⟨hsp.2.2, fun x hx => ?_⟩
   have := hsp.1 x hx
   unfold altB at this
   simp only [Bool.and_eq_true, decide_eq_true_eq] at this
   exact this.2
  have HSB := Aside0.mk hsb
  have hl8 := hsb.1
  clear hsp hsb
  go_enter Tryz.func98, Tryz.ntmps98
  go_wp2_with (go_at_call 83; refine HS.out.mono ?_; rintro e w4 ⟨rfl, hb4⟩; have y0 := (blk_cell (blk_below BX.out hb4) 0).trans rfl; have HB4 := Aside0.mk (below_step HB.out hb4); clear HS hb4 BX HB)
  go_loopg [4, 20] (l.length + 1) (fun gg s4 s20 wq => ∃ j : Nat, j ≤ l.length ∧ l.length - j < gg ∧ s20 = .int .i64 (j : Int) ∧ Aside0 (Wds w.heap.size wq s4 j 100000) ∧ Aside0 (Below w.heap.size w wq))
  case atStart => exact ⟨0, Nat.zero_le _, by omega, rfl, ⟨Wds.nil _ _ _ _⟩, HB4⟩
  case round =>
   clear HB4 y0
   obtain ⟨j, hj1, hjg, rfl, HW, HB⟩ := hrel
   obtain ⟨A4, k4, c4, rfl, hk4⟩ := HW.out.form
   clear hk4
   by_cases hlt : j < l.length
   · obtain ⟨ad, A0, c0, rfl, hx, hl0, hC0⟩ := alt_at HR.out (Below.refl _ _) j hlt
     have hx := pw_cell_below HB.out hx
     have ja : (j : Int) < (l.length : Int) := by omega
     obtain ⟨hxl, hxb⟩ := HL.out.each _ (List.getElem_mem hlt)
     have hx8 := HSB.out.2 _ (List.getElem_mem hlt)
     generalize l[j] = x at hx hl0 hC0 hxl hxb hx8
     have HC0 := Aside0.mk hC0
     have HL0 := Aside0.mk hl0
     have HXB := Aside0.mk hxb
     clear hC0 hl0 hxb
     obtain ⟨W1, rfl⟩ : ∃ W1, W1 = wr := ⟨_, rfl⟩
     go_wp2
     go_loopg [7, 26] (x.length + 1) (fun gg s7 s26 wq => ∃ i : Nat, i ≤ x.length ∧ x.length - i < gg ∧ s26 = .int .i64 (i : Int) ∧ Aside0 (Wds W1.heap.size wq s7 (5 * i) 2000) ∧ Aside0 (Below W1.heap.size W1 wq))
     case atStart => exact ⟨0, Nat.zero_le _, by omega, rfl, ⟨Wds.nil _ _ _ _⟩, ⟨Below.refl _ _⟩⟩
     case round =>
      clear hx
      obtain ⟨i, hi1, hig, rfl, HV, HB1⟩ := hrel
      obtain ⟨A7, k7, c7, rfl, hk7⟩ := HV.out.form
      by_cases hli : i < x.length
      · obtain ⟨W2, rfl⟩ : ∃ W2, W2 = wr := ⟨_, rfl⟩
        have HB2 := Aside0.mk (below_step HB.out HB1.out)
        obtain ⟨ab, rfl, x0, x1, x2, x3, x4⟩ := bound_at HC0.out HB2.out i hli
        have ia : (i : Int) < (x.length : Int) := by omega
        have hv := HXB.out _ (List.getElem_mem hli)
        generalize x[i] = b at x0 x1 x2 x3 x4 hv
        have HP := Aside0.mk (fun W h => print_walk b.f1 hv.pre hv.ints W h)
        clear hv hk7
        go_wp2_with (first
         | ((with_reducible refine gate_dst (N := 36) rfl ?_); refine wpList_load_row rfl 190 (.global 0) rfl 0 rfl _ _ _ _ HSG.out Tryz.underlying190 rfl (by kernel_rfl) ?_)
         | (go_at_call 67; refine (HP.out _ (HGL.below (below_alloc HB2.out _))).mono ?_; rintro e w4 ⟨s, rfl, hb4, hsz⟩; have BB := Aside0.mk (blk_below (blk_new W2 (.cells #[.int .i64 b.f0, .int .i64 b.f1.f0, .int .i64 b.f1.f1, .int .i64 b.f1.f2, .string b.f1.f3] 112)) hb4); have HB4 := Aside0.mk (below_step (below_alloc HB1.out _) hb4); have HV4 := Aside0.mk ((HV.out.below (below_alloc (Below.refl _ _) _)).below hb4); have HSZ := Aside0.mk hsz; obtain ⟨tg, fg, hsg⟩ := (HGL.below (below_step HB.out HB4.out)).signs; have HSG := Aside0.mk hsg; clear HP hb4 hsz hsg))
        have hsz := HSZ.out
        go_loopg [7, 37] 6 (fun gg s7 s37 wq => ∃ m : Nat, m ≤ 5 ∧ 5 - m < gg ∧ s37 = .int .i64 (m : Int) ∧ Aside0 (Wds W1.heap.size wq s7 (5 * i + m) 2000) ∧ Aside0 (Below W1.heap.size W1 wq) ∧ Aside0 (wq.heap[W2.heap.size]? = some (.cells #[.int .i64 b.f0, .int .i64 b.f1.f0, .int .i64 b.f1.f1, .int .i64 b.f1.f2, .string b.f1.f3] 112 (0, 0))))
        case atStart => exact ⟨0, by omega, by omega, rfl, HV4, HB4, BB⟩
        case round =>
         clear HB4 HV4 BB HSG x0 x1 x2 x3 x4 HV
         obtain ⟨m, hm1, hmg, rfl, HV, HB4, BB⟩ := hrel
         obtain ⟨A7, k7, c7, rfl, hk7⟩ := HV.out.form
         clear hk7
         by_cases hm5 : m < 5
         · obtain ⟨op, tx, htx, hsg⟩ := sign_at m hm5
           have ha5 : (m : Int) < 5 := by omega
           have y0 := blk_at (blk_alloc BB.out (.cells #[.int .i64 op, .string tx] 189)) 0 (v := .int .i64 b.f0) rfl
           have q1 : (9223372036854775807 < tx.size + s.size) = False := eq_false (by omega)
           have HTX := Aside0.mk (show (tx ++ s).size ≤ 2000 by rw [ByteArray.size_append]; omega)
           clear htx hm5
           by_cases hop : op = b.f0
           · have e1 : (op == b.f0) = true := beq_iff_eq.mpr hop
             clear hop
             go_wp2_with (at_builtin; refine Wds.append (w0 := W1) (W := wr.alloc (.cells #[.int .i64 op, .string tx] 189)) W1.heap.size (5 * i + m) 2000 rfl (.tmp 45) (.tmp 50) rfl _ (tx ++ s) rfl ?aX (HV.out.below (below_alloc (Below.refl _ _) _)) HTX.out (by omega) (HB4.out.alloc HB4.out.size _) (Nat.le_trans HB4.out.size (by rw [World.size_alloc]; omega)) ?_; (case aX => rw [World.size_alloc]; rfl); intro v1 w5 hr5 hb5 hg5; have HR5 := Aside0.mk hr5; have HB5 := Aside0.mk hb5; have BB5 := Aside0.mk (blk_grown (blk_alloc BB.out (.cells #[.int .i64 op, .string tx] 189)) hg5 ((HV.out.below (below_alloc (Below.refl _ _) (.cells #[.int .i64 op, .string tx] 189))).ne (blk_alloc BB.out _) (by decide))); clear hr5 hb5 hg5)
             go_roundg (5 - (m + 1) + 1)
             case measure => omega
             case rel => exact ⟨m + 1, by omega, by omega, by go_num, ⟨HR5.out.more (by omega)⟩, HB5, BB5⟩
           · have e1 : (op == b.f0) = false := beq_eq_false_iff_ne.mpr hop
             clear hop
             go_wp2
             go_roundg (5 - (m + 1) + 1)
             case measure => omega
             case rel => exact ⟨m + 1, by omega, by omega, by go_num, ⟨(HV.out.below (below_alloc (Below.refl _ _) _)).more (by omega)⟩, ⟨HB4.out.alloc HB4.out.size _⟩, ⟨blk_alloc BB.out _⟩⟩
         · obtain rfl : m = 5 := by omega
           go_wp2
           go_roundg (x.length - (i + 1) + 1)
           case measure => omega
           case rel => exact ⟨i + 1, by omega, by omega, by go_num, ⟨HV.out.more (by omega)⟩, HB4⟩
      · have hie : i = x.length := by omega
        subst hie
        obtain ⟨W2, rfl⟩ : ∃ W2, W2 = wr := ⟨_, rfl⟩
        by_cases h0 : k7 = 0
        · have e1 : ((k7 : Int) == 0) = true := beq_iff_eq.mpr (by omega)
          clear h0
          go_wp2_with (first
           | (at_builtin; refine Wds.append (w0 := W1) (W := W2) W1.heap.size (5 * x.length) 2000 rfl (.tmp 57) (.tmp 58) rfl _ ⟨#[42]⟩ rfl rfl HV.out (by decide) (by omega) HB1.out HB1.out.size ?_; intro v1 w5 hr5 hb5 hg5; have HR5 := Aside0.mk hr5; have HB5 := Aside0.mk hb5; clear hr5 hb5 hg5)
           | (go_at_call 128; refine (join_walk W1.heap.size (5 * x.length + 1) 2000 _ _ (by decide) (by omega) (by omega) _ HR5.out).mono ?_; rintro e w6 ⟨s, rfl, hb6, hs6⟩; have HS6 := Aside0.mk (show s.size ≤ 100000 by have : (5 * x.length + 1) * 2010 ≤ 41 * 2010 := Nat.mul_le_mul_right _ (by omega); omega); have HB6 := Aside0.mk (below_step HB5.out hb6); clear HB5 hb6 hs6)
           | (at_builtin; refine Wds.append (w0 := w) (W := w6) w.heap.size j 100000 rfl (.tmp 60) (.tmp 63) rfl _ s rfl rfl (HW.out.below HB6.out) HS6.out (by omega) (below_step HB.out HB6.out) (Nat.le_trans HB.out.size HB6.out.size) ?_; intro v1 w7 hr7 hb7 hg7; have HR7 := Aside0.mk hr7; have HB7 := Aside0.mk hb7; clear hr7 hb7 hg7))
          go_roundg (l.length - (j + 1) + 1)
          case measure => omega
          case rel => exact ⟨j + 1, by omega, by omega, by go_num, HR7, HB7⟩
        · have e1 : ((k7 : Int) == 0) = false := beq_eq_false_iff_ne.mpr (by omega)
          clear h0
          go_wp2_with (first
           | (go_at_call 128; refine (join_walk W1.heap.size (5 * x.length) 2000 _ _ (by decide) (by omega) (by omega) _ HV.out).mono ?_; rintro e w6 ⟨s, rfl, hb6, hs6⟩; have HS6 := Aside0.mk (show s.size ≤ 100000 by have : (5 * x.length) * 2010 ≤ 41 * 2010 := Nat.mul_le_mul_right _ (by omega); omega); have HB6 := Aside0.mk (below_step HB1.out hb6); clear HB1 hb6 hs6)
           | (at_builtin; refine Wds.append (w0 := w) (W := w6) w.heap.size j 100000 rfl (.tmp 60) (.tmp 63) rfl _ s rfl rfl (HW.out.below HB6.out) HS6.out (by omega) (below_step HB.out HB6.out) (Nat.le_trans HB.out.size HB6.out.size) ?_; intro v1 w7 hr7 hb7 hg7; have HR7 := Aside0.mk hr7; have HB7 := Aside0.mk hb7; clear hr7 hb7 hg7))
          go_roundg (l.length - (j + 1) + 1)
          case measure => omega
          case rel => exact ⟨j + 1, by omega, by omega, by go_num, HR7, HB7⟩
   · have hje : j = l.length := by omega
     subst hje
     go_wp2_with (go_at_call 128; refine (join_walk w.heap.size l.length 100000 _ _ (by decide) (by omega) (by omega) _ HW.out).mono ?_; rintro e w6 ⟨s, rfl, hb6, hs6⟩; have HB6 := Aside0.mk (below_step HB.out hb6); clear hb6 hs6)
     go_ret2
     exact ⟨_, rfl, HB6.out⟩
noncomputable def ruledB (n : ByteArray) (r : List (List S112)) : Bool := spanB r && goodB n
set_option maxRecDepth 100000 in
set_option maxHeartbeats 4000000 in
theorem ruled_walk (n : ByteArray) (hn : n.size ≤ 1000) (A : Option Addr) (c : Nat) (l : List (List S112)) (hl : ROk l) (w : World) (HGL : Glob w) (hr : Kd.C (Kd.slice 112 k112) w A l.length l) (hc : l.length ≤ c) :
 Calls Tryz.prog 69 #[.string n, .agg #[.slice A l.length c]] w fun e w' => e = .returned (.bool (ruledB n l)) ∧ Below w.heap.size w w' := by
 have HB := Aside0.mk (below_alloc (Below.refl w.heap.size w) (.cells #[.slice A l.length c] 73))
 have HP := Aside0.mk (span_print_walk A c l hl _ (HGL.below HB.out) (Kd.C_below hr HB.out) hc)
 have HG := Aside0.mk (fun W h => good_walk n hn W h)
 clear hl hr hc hn
 unfold ruledB
 generalize spanB l = b1 at HP
 generalize goodB n = b2 at HG
 cases b1 with
 | false =>
  go_enter Tryz.func69, Tryz.ntmps69
  go_wp2_with (go_at_call 98; refine HP.out.mono ?_; rintro e w4 ⟨s, rfl, hb4⟩; have HB4 := Aside0.mk (below_step HB.out hb4); clear HP hb4)
  go_ret
  exact ⟨rfl, HB4.out⟩
 | true =>
  go_enter Tryz.func69, Tryz.ntmps69
  go_wp2_with (first
   | (go_at_call 98; refine HP.out.mono ?_; rintro e w4 ⟨s, rfl, hb4⟩; have HB4 := Aside0.mk (below_step HB.out hb4); clear HP hb4)
   | (go_at_call 68; refine (HG.out _ (HGL.below HB4.out)).mono ?_; rintro e w5 ⟨rfl, hb5⟩; have HB5 := Aside0.mk (below_step HB4.out hb5); clear HG hb5))
  go_ret
  exact ⟨rfl, HB5.out⟩
end Go.Proofs.YteinkjhimceljaaGreatDoor.J
