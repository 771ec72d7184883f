/- version.right and version.Print, walked. -/
import Derived.Test.YteinkjhimceljaaGreatDoorT07
import Derived.Test.YteinkjhimceljaaGreatDoorT09
import Derived.Test.YteinkjhimceljaaGreatDoorT14
namespace Go.Proofs.YteinkjhimceljaaGreatDoor.J
open Go Go.RowKit Go.Shelf Go.Proofs.YteinkjhimceljaaGreatDoorW.PrintWords Go.Proofs.YteinkjhimceljaaGreatDoorW.PrintLast Go.Proofs.YteinkjhimceljaaGreatDoorW.PrintMore
set_option linter.unusedVariables false
set_option linter.unusedSimpArgs false
noncomputable def fine (l : List ByteArray) : Bool := l.all partB && decide (l.length ≤ 5)
theorem fine_more {pre rest : List ByteArray} (h : fine pre = false) : fine (pre ++ rest) = false := by
 unfold fine at h ⊢
 rw [List.all_append, List.length_append]
 rw [Bool.and_eq_false_iff] at h ⊢
 rcases h with h | h
 · left; rw [h]; rfl
 · right
   have := of_decide_eq_false h
   exact decide_eq_false (by omega)
noncomputable def vright (v : S23) : Bool := (v.f3.toList == [] || fine (pieces v.f3)) && withinB [v.f0, v.f1, v.f2]
structure RightAt (w : World) (v : S23) (pre : List ByteArray) (W : World) : Prop where
 n : Boxed W (w.heap.size + 2) 3 (.int .i64 (pre.length : Int))
 r : Boxed W (w.heap.size + 1) 4 (.bool false)
 b : W.heap[w.heap.size]? = some (.cells #[.int .i64 v.f0, .int .i64 v.f1, .int .i64 v.f2, .string v.f3] 23 (0, 0))
 ok : fine pre = true
 hb : Below w.heap.size w W
 sz : w.heap.size + 6 ≤ W.heap.size
theorem turn_cells {B : Nat} {W W' : World} {row : Option Nat} {k : Nat} {cs : Array Value} {t : TypeId} {fr : Nat × Nat} (h : W.heap[k]? = some (.cells cs t fr)) (hg : W.grownBy W' row) (hr : ∀ r, row = some r → B ≤ r ∧ ∃ o : Obj, W.heap[r]? = some o ∧ o.isCells = false) : W'.heap[k]? = some (.cells cs t fr) := by
 refine (hg.block k (blk_lt h) (fun e => ?_)).trans h
 obtain ⟨_, o, ho, hc⟩ := hr k e.symm
 rw [h] at ho
 injection ho with ho
 subst ho
 exact absurd hc (by simp [Obj.isCells])
theorem rightAt_own (w : World) (v : S23) (B : Nat) (hB : w.heap.size ≤ B) : OwnFrom B (fun pre W => RightAt w v pre W) := by
 intro pre W W' row h hg hr
 exact ⟨turn_cells h.n hg hr, turn_cells h.r hg hr, turn_cells h.b hg hr, h.ok, h.hb.grown hg h.hb.size (fun k e => by have := (hr k e).1; omega), Nat.le_trans h.sz hg.size⟩
theorem rightAt_free (w : World) (v : S23) (Bs : Nat) (hB : w.heap.size + 2 < Bs) : Free Bs (fun pre W => RightAt w v pre W) := by
 intro pre W x h
 exact ⟨h.n.other (by omega) _, h.r.other (by omega) _, (Below.heap_setCell W ⟨Bs, 0, none⟩ x _ (by show w.heap.size ≠ Bs; omega)).trans h.b, h.ok, h.hb.setCell (p := ⟨Bs, 0, none⟩) (by show w.heap.size ≤ Bs; omega) _, by rw [World.size_setCell]; exact h.sz⟩
structure BadAt (w : World) (pre : List ByteArray) (W : World) : Prop where
 r : Boxed W (w.heap.size + 1) 4 (.bool false)
 bad : fine pre = false
 hb : Below w.heap.size w W
theorem badAt_own (w : World) (B : Nat) (hB : w.heap.size ≤ B) : OwnFrom B (fun pre W => BadAt w pre W) := by
 intro pre W W' row h hg hr
 exact ⟨turn_cells h.r hg hr, h.bad, h.hb.grown hg h.hb.size (fun k e => by have := (hr k e).1; omega)⟩
theorem six (w : World) (o0 o1 o2 o3 o4 o5 : Obj) : ∃ W, ((((((w.alloc o0).alloc o1).alloc o2).alloc o3).alloc o4).alloc o5) = W ∧ W.heap.size = w.heap.size + 6 ∧ Below w.heap.size w W ∧
 W.heap[w.heap.size]? = some o0 ∧ W.heap[w.heap.size + 1]? = some o1 ∧ W.heap[w.heap.size + 2]? = some o2 ∧ W.heap[w.heap.size + 3]? = some o3 ∧ W.heap[w.heap.size + 4]? = some o4 ∧ W.heap[w.heap.size + 5]? = some o5 := by
 have a0 := blk_new w o0
 have a1 := blk_new (w.alloc o0) o1
 have a2 := blk_new ((w.alloc o0).alloc o1) o2
 have a3 := blk_new (((w.alloc o0).alloc o1).alloc o2) o3
 have a4 := blk_new ((((w.alloc o0).alloc o1).alloc o2).alloc o3) o4
 have a5 := blk_new (((((w.alloc o0).alloc o1).alloc o2).alloc o3).alloc o4) o5
 simp only [World.size_alloc, Nat.add_assoc, Nat.reduceAdd] at a0 a1 a2 a3 a4 a5
 exact ⟨_, rfl, by simp only [World.size_alloc], below_alloc (below_alloc (below_alloc (below_alloc (below_alloc (below_alloc (Below.refl _ w) _) _) _) _) _) _,
  blk_alloc (blk_alloc (blk_alloc (blk_alloc (blk_alloc a0 _) _) _) _) _, blk_alloc (blk_alloc (blk_alloc (blk_alloc a1 _) _) _) _, blk_alloc (blk_alloc (blk_alloc a2 _) _) _, blk_alloc (blk_alloc a3 _) _, blk_alloc a4 _, a5⟩
theorem keeps_below {W W' : World} (h : Below W.heap.size W W') : KeepsOthers W W' := ⟨h.size, fun k o hk _ => (h.block k (Array.getElem?_eq_some_iff.1 hk).1).trans hk⟩
theorem C_three (w : World) (a b c : Int) : Kd.C (Kd.int .i64) (w.alloc (.cells #[.int .i64 a, .int .i64 b, .int .i64 c] 3)) (some ⟨w.heap.size, 0, none⟩) ([a, b, c] : List Int).length [a, b, c] := by
 have hb := heap_alloc_new w (.cells #[.int .i64 a, .int .i64 b, .int .i64 c] 3)
 refine ⟨rfl, by simp, fun _ => ⟨_, rfl, fun j p hj => ?_⟩⟩
 refine ⟨[.int .i64 p], rfl, rfl, fun i u hu => ?_⟩
 rcases i with _ | i
 · simp only [List.getElem?_cons_zero, Option.some.injEq] at hu
   subst hu
   rcases j with _ | _ | _ | j
   · simp at hj; subst hj; exact (blk_cell hb 0).trans rfl
   · simp at hj; subst hj; exact (blk_cell hb 1).trans rfl
   · simp at hj; subst hj; exact (blk_cell hb 2).trans rfl
   · simp at hj
 · simp at hu
theorem results_cell1 {fn : Func} {p : Tmp} {ty : TypeId} {P : Program} {a : Addr} {v : Value} (h : fn.results = #[.cell p ty]) (tmps : Array Value) (w : World) (hp : tmps.getD p undef = .pointer (some a)) (hc : w.cell? a = some v) (hty : ∀ w, (isAgg ty).run P w = .ok false w) : (results fn tmps).run P w = .ok v w := by
 have hp' : tmps[p]?.getD undef = .pointer (some a) := by simpa using hp
 simp [results, h, hp', asAddr, loadVar, hty, hc, go_sem]
attribute [local go_sem] Oper.semAt_some
set_option maxRecDepth 100000 in
set_option maxHeartbeats 4000000 in
theorem right_walk (v : S23) (hp : v.f3.size ≤ 1000) (w : World) (HGL : Glob w) :
 Calls Tryz.prog 93 #[.agg #[.int .i64 v.f0, .int .i64 v.f1, .int .i64 v.f2, .string v.f3]] w fun e w' => e = .returned (.bool (vright v)) ∧ Below w.heap.size w w' := by
 refine (callsIn_wide (n := 6)).1 ?_
 refine callsIn_of_wp_marks Tryz.func93 rfl trivial ?_ rfl
 simp only [Tryz.ntmps93, List.size_toArray, List.length_cons, List.length_nil, Nat.reduceAdd, Nat.reduceSub, Array.replicate_succ, Array.replicate_zero, List.push_toArray, List.append_toArray, List.nil_append, List.cons_append]
 by_cases h0 : v.f3.toList = []
 · have e0 : (v.f3.toList == ([] : List UInt8)) = true := beq_iff_eq.mpr h0
   have e1 : (v.f3.toList != ([] : List UInt8)) = false := bne_eq_false_iff_eq.mpr h0
   have hc3 := C_three ((w.alloc (.cells #[.int .i64 v.f0, .int .i64 v.f1, .int .i64 v.f2, .string v.f3] 23)).alloc (.cells #[.bool false] 4)) v.f0 v.f1 v.f2
   simp only [World.size_alloc] at hc3
   have HW := Aside0.mk (show Calls Tryz.prog 123 #[.slice (some ⟨w.heap.size + 1 + 1, 0, none⟩) 3 3] (((w.alloc (.cells #[.int .i64 v.f0, .int .i64 v.f1, .int .i64 v.f2, .string v.f3] 23)).alloc (.cells #[.bool false] 4)).alloc (.cells #[.int .i64 v.f0, .int .i64 v.f1, .int .i64 v.f2] 3)) _ from within_walk _ 3 [v.f0, v.f1, v.f2] (by simp) _ hc3 (Nat.le_refl 3))
   have hr1 := blk_alloc (blk_new (w.alloc (.cells #[.int .i64 v.f0, .int .i64 v.f1, .int .i64 v.f2, .string v.f3] 23)) (.cells #[.bool false] 4)) (.cells #[.int .i64 v.f0, .int .i64 v.f1, .int .i64 v.f2] 3)
   simp only [World.size_alloc] at hr1
   have HR1 := Aside0.mk hr1
   have HBW := Aside0.mk (below_alloc (below_alloc (below_alloc (Below.refl w.heap.size w) (.cells #[.int .i64 v.f0, .int .i64 v.f1, .int .i64 v.f2, .string v.f3] 23)) (.cells #[.bool false] 4)) (.cells #[.int .i64 v.f0, .int .i64 v.f1, .int .i64 v.f2] 3))
   clear hc3 hr1
   gi_wp2_with (refine ⟨trivial, ?_⟩; gi_at_call 123; refine (callsIn_wide.2 HW.out).mono ?_; rintro e w3 ⟨rfl, hb3⟩; have HB3 := Aside0.mk (below_step HBW.out hb3); have hr3 := blk_below HR1.out hb3; have hc3 := (blk_cell hr3 0).trans rfl; have hf3 := blk_frozen hr3 0; have HR3 := Aside0.mk hr3; clear HW HBW HR1 hb3 hr3)
   have hr4 : (w3.setCell ⟨w.heap.size + 1, 0, none⟩ (.bool (withinB [v.f0, v.f1, v.f2]))).heap[w.heap.size + 1]? = some (.cells #[.bool (withinB [v.f0, v.f1, v.f2])] 4 (0, 0)) := blk_set HR3.out 0 _
   have hb4 := HB3.out.setCell (p := ⟨w.heap.size + 1, 0, none⟩) (Nat.le_succ _) (.bool (withinB [v.f0, v.f1, v.f2]))
   have hv : vright v = withinB [v.f0, v.f1, v.f2] := by unfold vright; rw [e0]; rfl
   rw [hv]
   exact ⟨_, results_cell1 rfl _ _ rfl ((blk_cell hr4 0).trans rfl) Tryz.isAgg4, rfl, hb4⟩
 · have e0 : (v.f3.toList == ([] : List UInt8)) = false := beq_eq_false_iff_ne.mpr h0
   have e1 : (v.f3.toList != ([] : List UInt8)) = true := bne_iff_ne.mpr h0
   gi_wp2_with (refine ⟨trivial, ?_⟩; gi_at_call 121; refine (split_in Fence.wide _ (by omega) trivial trivial rfl _ _).mono ?_; rintro e w2 ⟨rfl, rfl⟩)
   obtain ⟨W0, hW0, hsz, hb0, k0, k1, k2, k3, k4, k5⟩ := six w (.cells #[.int .i64 v.f0, .int .i64 v.f1, .int .i64 v.f2, .string v.f3] 23) (.cells #[.bool false] 4) (.cells #[.int .i64 0] 3) (.cells #[.string v.f3] 9) (.cells #[.string ⟨#[46]⟩] 9) (.cells #[.int .i64 0] 3)
   rw [hW0]
   clear hW0
   simp only [Nat.add_assoc, Nat.reduceAdd]
   refine rangeFunc_box (Px := fun x : ByteArray => x.size ≤ v.f3.size) (encs := fun x : ByteArray => #[Value.string x]) (Bs := w.heap.size + 3) rfl (by omega) (gf := 170) (lb := #[.pointer (some ⟨w.heap.size + 4, 0, none⟩), .pointer (some ⟨w.heap.size + 3, 0, none⟩), .pointer (some ⟨w.heap.size + 5, 0, none⟩)]) rfl trivial (enters_of Tryz.func170 (by kernel_rfl) rfl)
    (split1_stops _ (by omega) (w.heap.size + 4) (w.heap.size + 3) (w.heap.size + 5) (by omega) (by omega) v.f3 (by omega) W0 k4 k3 k5) (by omega) Kept3.trans (fun W l o o' hl _ _ _ => Kept3.put (w := W0) (by omega) (by omega) (by omega) W l o' hl) (Below.refl _ _) (fun _ => rfl)
    (RightAt w v) (BadAt w) (rightAt_own w v _ (by omega)) (badAt_own w _ (by omega)) (rightAt_free w v _ (by omega)) ⟨k2, k1, k0, by rfl, hb0, by omega⟩
    (fun x => { tmps := #[.agg #[.int .i64 v.f0, .int .i64 v.f1, .int .i64 v.f2, .string v.f3], .pointer (some ⟨w.heap.size, 0, none⟩), .pointer (some ⟨w.heap.size + 1, 0, none⟩), .pointer (some ⟨w.heap.size + 2, 0, none⟩), .string x, .pointer (some ⟨w.heap.size, 3, none⟩), .string v.f3, .bool true, .pointer (some ⟨w.heap.size, 3, none⟩), .string v.f3, .func (.func 170) #[] #[.pointer (some ⟨w.heap.size + 4, 0, none⟩), .pointer (some ⟨w.heap.size + 3, 0, none⟩), .pointer (some ⟨w.heap.size + 5, 0, none⟩)], .string x, undef, undef, undef, undef, undef, undef, undef, undef, undef, undef, undef, undef, undef, undef, undef, undef, undef], defers := [] }) ?assign ?body ?done ?stop
   case assign =>
    intro l x W K hK
    gi_wp2
    exact hK
   case body =>
    rintro l pre x W hx hI hlt
    have HI := Aside0.mk hI
    have hc1 := hI.n.cell
    have hf1 := hI.n.frozen
    have hc2 := hI.r.cell
    have hf2 := hI.r.frozen
    have hl5 : pre.length ≤ 5 := by
     have := hI.ok
     unfold fine at this
     rw [Bool.and_eq_true] at this
     exact of_decide_eq_true this.2
    have hw1 : IntKind.i64.wrap ((pre.length : Int) + 1) = (pre.length : Int) + 1 := IntWalk.i64_in _ (by omega)
    clear hI
    have HGW := Aside0.mk (HGL.below (HI.out.hb.setCell (p := ⟨w.heap.size + 2, 0, none⟩) (by show w.heap.size ≤ w.heap.size + 2; omega) (.int .i64 ((pre.length : Int) + 1))))
    have HN1 := Aside0.mk (HI.out.n.set (.int .i64 ((pre.length : Int) + 1)))
    have HR1 := Aside0.mk (HI.out.r.other (B' := w.heap.size + 2) (by omega) (.int .i64 ((pre.length : Int) + 1)))
    have HB1 := Aside0.mk (HI.out.hb.setCell (p := ⟨w.heap.size + 2, 0, none⟩) (by show w.heap.size ≤ w.heap.size + 2; omega) (.int .i64 ((pre.length : Int) + 1)))
    have HP := Aside0.mk (part_walk x (by omega) _ HGW.out)
    have hfine : fine (pre ++ [x]) = (partB x && decide (pre.length + 1 ≤ 5)) := by
     have h1 := HI.out.ok
     unfold fine at h1 ⊢
     rw [Bool.and_eq_true] at h1
     rw [List.all_append, h1.1, List.length_append]
     simp
    have hkeep : ∀ w3, Below (W.setCell ⟨w.heap.size + 2, 0, none⟩ (.int .i64 ((pre.length : Int) + 1))).heap.size (W.setCell ⟨w.heap.size + 2, 0, none⟩ (.int .i64 ((pre.length : Int) + 1))) w3 → KeepsOthers W w3 := fun w3 h => (KeepsOthers.setCell W _ _).trans (keeps_below h)
    generalize partB x = bx at HP hfine
    cases bx with
    | false =>
     gi_wp2_with (refine ⟨trivial, ?_⟩; gi_at_call 122; refine (CallsIn.inRound l (callsIn_wide.2 HP.out)).mono ?_; rintro e w3 ⟨rfl, hb3⟩; have HB3 := Aside0.mk hb3; have hn3 := blk_below HN1.out hb3; have hcn := (blk_cell hn3 0).trans rfl; have hr3 := blk_below HR1.out hb3; have hcr := (blk_cell hr3 0).trans rfl; have hfr := blk_frozen hr3 0; have HR3 := Aside0.mk hr3; have HN3 := Aside0.mk hn3; clear HP hb3 hn3 hr3)
     exact ⟨(hkeep _ HB3.out).trans (KeepsOthers.setCell _ _ _), Boxed.set _ HR3.out, by rw [hfine]; rfl, (below_step HB1.out HB3.out).setCell (p := ⟨w.heap.size + 1, 0, none⟩) (by show w.heap.size ≤ w.heap.size + 1; omega) _⟩
    | true =>
     by_cases h5 : pre.length = 5
     · have h51 : (pre.length : Int) + 1 > 5 := by omega
       have H5 := Aside0.mk h5
       clear h5 hl5
       gi_wp2_with (refine ⟨trivial, ?_⟩; gi_at_call 122; refine (CallsIn.inRound l (callsIn_wide.2 HP.out)).mono ?_; rintro e w3 ⟨rfl, hb3⟩; have HB3 := Aside0.mk hb3; have hn3 := blk_below HN1.out hb3; have hcn := (blk_cell hn3 0).trans rfl; have hr3 := blk_below HR1.out hb3; have hcr := (blk_cell hr3 0).trans rfl; have hfr := blk_frozen hr3 0; have HR3 := Aside0.mk hr3; have HN3 := Aside0.mk hn3; clear HP hb3 hn3 hr3)
       exact ⟨(hkeep _ HB3.out).trans (KeepsOthers.setCell _ _ _), Boxed.set _ HR3.out, by rw [hfine]; rw [H5.out]; rfl, (below_step HB1.out HB3.out).setCell (p := ⟨w.heap.size + 1, 0, none⟩) (by show w.heap.size ≤ w.heap.size + 1; omega) _⟩
     · have h51 : ¬ (pre.length : Int) + 1 > 5 := by omega
       gi_wp2_with (refine ⟨trivial, ?_⟩; gi_at_call 122; refine (CallsIn.inRound l (callsIn_wide.2 HP.out)).mono ?_; rintro e w3 ⟨rfl, hb3⟩; have HB3 := Aside0.mk hb3; have hn3 := blk_below HN1.out hb3; have hcn := (blk_cell hn3 0).trans rfl; have hr3 := blk_below HR1.out hb3; have hcr := (blk_cell hr3 0).trans rfl; have hfr := blk_frozen hr3 0; have HR3 := Aside0.mk hr3; have HN3 := Aside0.mk hn3; clear HP hb3 hn3 hr3)
       have hb9 := below_step HB1.out HB3.out
       have hsW := HI.out.hb.size
       have old : ∀ k, k < W.heap.size → k ≠ w.heap.size + 2 → w3.heap[k]? = W.heap[k]? := fun k hk hne => (HB3.out.block k (by rw [World.size_setCell]; exact hk)).trans (Below.heap_setCell W ⟨w.heap.size + 2, 0, none⟩ _ k hne)
       exact ⟨hkeep _ HB3.out, ⟨old _ (by have := HI.out.sz; omega) (by omega), old _ (by have := HI.out.sz; omega) (by omega), old _ (by have := HI.out.sz; omega) (by omega)⟩,
        ⟨by rw [List.length_append, List.length_singleton, Int.natCast_add]; exact HN3.out, HR3.out, (old _ (by have := HI.out.sz; omega) (by omega)).trans HI.out.b, by rw [hfine, decide_eq_true (by omega)]; rfl, hb9, Nat.le_trans HI.out.sz (by have := HB3.out.size; rw [World.size_setCell] at this; exact this)⟩⟩
   case done =>
    rintro D ys W hD rfl hI hK
    have hc3 := C_three W v.f0 v.f1 v.f2
    have HW := Aside0.mk (show Calls Tryz.prog 123 #[.slice (some ⟨W.heap.size, 0, none⟩) 3 3] (W.alloc (.cells #[.int .i64 v.f0, .int .i64 v.f1, .int .i64 v.f2] 3)) _ from within_walk _ 3 [v.f0, v.f1, v.f2] (by simp) _ hc3 (Nat.le_refl 3))
    have HI := Aside0.mk hI
    have c0 := (blk_cell hI.b 0).trans rfl
    have c1 := (blk_cell hI.b 1).trans rfl
    have c2 := (blk_cell hI.b 2).trans rfl
    have HK := Aside0.mk hK
    have HBW := Aside0.mk (hI.hb.alloc hI.hb.size (.cells #[.int .i64 v.f0, .int .i64 v.f1, .int .i64 v.f2] 3))
    clear hI hK hc3
    gi_wp2_with (refine ⟨trivial, ?_⟩; gi_at_call 123; refine (callsIn_wide.2 HW.out).mono ?_; rintro e w3 ⟨rfl, hb3⟩; have HB3 := Aside0.mk (below_step HBW.out hb3); have hr3 := blk_below (blk_alloc HI.out.r _) hb3; have hk3 := blk_below (blk_alloc HK.out _) hb3; have hc3 := (blk_cell hr3 0).trans rfl; have hf3 := blk_frozen hr3 0; have HR3 := Aside0.mk hr3; have HK3 := Aside0.mk hk3; clear HW HBW hb3 hr3 hk3)
    have hr4 : (w3.setCell ⟨w.heap.size + 1, 0, none⟩ (.bool (withinB [v.f0, v.f1, v.f2]))).heap[w.heap.size + 1]? = some (.cells #[.bool (withinB [v.f0, v.f1, v.f2])] 4 (0, 0)) := blk_set HR3.out 0 _
    have hb4 := HB3.out.setCell (p := ⟨w.heap.size + 1, 0, none⟩) (Nat.le_succ _) (.bool (withinB [v.f0, v.f1, v.f2]))
    have hk4 : (w3.setCell ⟨w.heap.size + 1, 0, none⟩ (.bool (withinB [v.f0, v.f1, v.f2]))).heap[D]? = some (.deferred (some [])) := (Below.heap_setCell w3 ⟨w.heap.size + 1, 0, none⟩ _ D (by show D ≠ w.heap.size + 1; omega)).trans HK3.out
    have hv : vright v = withinB [v.f0, v.f1, v.f2] := by unfold vright; rw [e0, HI.out.ok]; rfl
    rw [hv]
    refine ⟨by simp, .inl ⟨_, _, rfl, run_takeDeferred hk4, ?_⟩⟩
    exact ⟨_, results_cell1 rfl _ _ rfl ((blk_cell ((World.putObj_heap_other (by omega)).trans hr4) 0).trans rfl) Tryz.isAgg4, rfl, hb4.trans (belowK_b (w := w) (Nat.le_refl _) _ D _ _ (by omega) hk4 rfl rfl)⟩
   case stop =>
    rintro D pre W hD ⟨rest, hrest⟩ hI hK
    have HI := Aside0.mk hI
    clear hI
    have hv : vright v = false := by unfold vright; rw [e0, ← hrest, fine_more HI.out.bad]; rfl
    gi_wp2
    rw [hv]
    refine ⟨by simp, .inl ⟨_, _, rfl, run_takeDeferred hK, ?_⟩⟩
    exact ⟨_, results_cell1 rfl _ _ rfl ((blk_cell ((World.putObj_heap_other (by omega)).trans HI.out.r) 0).trans rfl) Tryz.isAgg4, rfl, HI.out.hb.trans (belowK_b (w := w) (Nat.le_refl _) _ D _ _ (by omega) hK rfl rfl)⟩
end Go.Proofs.YteinkjhimceljaaGreatDoor.J
