/- An append in a loop over a function: rows of one's own. -/
import Derived.RangeFuncNested
import Derived.RangeFuncBound
import Derived.RangeFuncCalls
import Derived.RangeFuncLeaves
import Derived.RangeFuncBox
import Derived.RangeFuncWrites
import Derived.Shelf.Abstract
import Derived.WalkKit
import Derived.OwnWalkIn
import Derived.Maps.OwnIn
import Derived.TacticsInMore
import Derived.LoopNIn
import Derived.LoopIn
import Derived.Test.YteinkjhimceljaaGreatDoorT33
namespace Go.Proofs.YteinkjhimceljaaGreatDoor.J
open Go Go.RowKit Go.Shelf Go.Proofs.YteinkjhimceljaaGreatDoorW.PrintWords Go.Proofs.YteinkjhimceljaaGreatDoorW.PrintLast Go.Proofs.YteinkjhimceljaaGreatDoorW.PrintMore
set_option linter.unusedVariables false
set_option linter.unusedSimpArgs false
theorem S_append_in {F : Fence} {nF : Nat} {P : Program} {ops : Array Oper} {rest : List Oper} {o : Oper} {a : Act} {Q : Exit → Act → World → Prop} {α : Type} (d : Kd α) {w0 W : World} (base : Nat) (hgd : o.guard = none) (s x : Operand) (t e : TypeId) (z : Value) (bytes : Nat)
 (ho : o.op = .call { callee := .builtin .append, args := #[s, x], argTypes := #[t, t] })
 (ht : P.underlying t = some (.slice e)) (hinfo : (P.info? e).map (fun i => (i.zero, i.size, i.bytes)) = some (some z, d.sz, bytes)) (hz : z.cells.size = d.sz) (hs0 : 0 < d.sz) (hb0 : 0 < bytes)
 (v : Value) (xs : List α) (p : α) (cs : List Value) (ok okp : Nat → Prop) (hs : a.eval s = v) (hx : a.eval x = .slice (some ⟨W.heap.size, 0, none⟩) 1 1) (hp : d.M W base okp p cs) (hokp : ∀ k, okp k → ok k ∧ some k ≠ v.ownBlock) (hfresh : ∀ k, W.heap.size ≤ k → ok k)
 (HO : Kd.S d e W base (fun k => ok k ∧ ¬ okp k) v xs) (HB : Below base w0 W) (hbase : base ≤ W.heap.size) (hl : (xs.length + 1) * bytes ≤ 140737488355328)
 (h : ∀ v1 w1, Kd.S d e w1 base ok v1 (xs ++ [p]) → Below base w0 w1 → W.grownBy w1 v.ownBlock → (v1.ownBlock = v.ownBlock ∨ ∃ b, v1.ownBlock = some b ∧ W.heap.size ≤ b) → wpListIn F nF P ops Q rest (a.put o.dst v1) w1) :
 wpListIn F nF P ops Q (o :: rest) a (W.alloc (.cells cs.toArray e)) := by
 obtain ⟨f, hf, hR⟩ := Kd.S_tag HO xs.length okp (fun _ hk h2 => h2.2 hk)
 have hp2 : (Kd.tag f d).M W base okp (p, xs.length) cs := d.M_mono (fun k hk => ⟨hk, hf k hk⟩) hp
 obtain ⟨h0, inner, hown, hr⟩ := Kd.R_mono hR (fun _ hk => hk.1)
 obtain ⟨i0, hi, hzz⟩ := Option.map_eq_some_iff.1 hinfo
 simp only [Prod.mk.injEq] at hzz
 obtain ⟨hz0, hz1, hz2⟩ := hzz
 have hlen : xs.length + 1 ≤ 140737488355328 := Nat.le_trans (Nat.le_mul_of_pos_right _ hb0) hl
 have hown9 : W.ownsRow base e d.sz v xs.length inner := by have h9 := hown; rw [List.length_zipIdx] at h9; exact h9
 have hcl : cs.length = d.sz := d.K_len (d.K_of_M hp)
 refine wpListIn_append_own_at (W.alloc (.cells cs.toArray e)) hgd s x t ho base e i0 z d.sz bytes ht hi hz0 hz1 hz2 hz hs0 v xs.length inner hs (hown9.alloc _) ⟨W.heap.size, 0, none⟩ 1 1 cs hx (by rw [hcl]; simp)
  (by simpa using World.news_of_block (cs := cs.toArray) (t := e) (fr := (0, 0)) (heap_alloc_new W (.cells cs.toArray e))) (d.K_one (d.K_of_M hp)) (by simp only [maxLen]; omega) hl (by simp; omega) ?_
 intro v1 w1 hown1 hg _ hat
 have hg1 := World.grownBy.trans (World.grownBy_alloc W (.cells cs.toArray e) _) hg
 have hat1 : v1.ownBlock = v.ownBlock ∨ ∃ b, v1.ownBlock = some b ∧ W.heap.size ≤ b := by
  rcases hat with hat | hat
  · exact .inl hat
  · exact .inr ⟨_, hat, by simp⟩
 have hr1 : (Kd.tag f d).R e w1 base ok v1 (xs.zipIdx ++ [(p, xs.length)]) := Kd.R_appended (d := Kd.tag f d) h0 hr hp2 hokp hfresh (by rw [List.length_zipIdx]; exact hown1) hg1 hat1
 rw [← Kd.zip_snoc] at hr1
 exact h v1 w1 ⟨f, hr1⟩ ((HB.alloc hbase _).grown hg (by simp; omega) (own_base hown9)) hg1 hat1
theorem R_two {W : World} {base : Nat} (hb : base ≤ W.heap.size) (x y : Int) : Kd.R (Kd.int .i64) 3 (W.alloc (.cells #[.int .i64 x, .int .i64 y] 3)) base (fun k => k = W.heap.size) (.slice (some ⟨W.heap.size, 0, none⟩) 2 2) [x, y] := by
 refine ⟨fun k hk => ?_, [.int .i64 x, .int .i64 y], ?_, ?_⟩
 · have : W.heap.size = k := by simpa [Value.ownBlock] using hk
   exact this.symm
 · have h2 := World.ownsRow_lit (base := base) (e := 3) (size := 1) W #[.int .i64 x, .int .i64 y] 2 hb (by decide) (by simp)
   have h3 : (W.alloc (.cells #[.int .i64 x, .int .i64 y] 3)).ownsRow base 3 1 (.slice (some ⟨W.heap.size, 0, none⟩) 2 2) 2 [.int .i64 x, .int .i64 y] := by simpa using h2
   exact h3
 · exact Reps.one (show Kd.M (Kd.int .i64) _ _ _ x [.int .i64 x] from rfl) (Reps.one (show Kd.M (Kd.int .i64) _ _ _ y [.int .i64 y] from rfl) (Reps.none _ _))
def two : List Int → List (Int × Int)
 | [] => []
 | a :: l => l.map (fun b => (a, b)) ++ two l
theorem two_drop (l : List Int) (i : Nat) (hi : i < l.length) : two (l.drop i) = (l.drop (i + 1)).map (fun b => (l[i], b)) ++ two (l.drop (i + 1)) := by
 rw [List.drop_eq_getElem_cons hi]; rfl
attribute [local go_sem] Oper.semAt_some
theorem add_block (ad : Addr) (j : Nat) : (ad.add j).block = ad.block := by unfold Addr.add; split <;> rfl
theorem add_at (ad : Addr) (k j : Nat) : ad.add (k + 1 + j) = ⟨ad.block, ad.off + (k + 1) + j, none⟩ := by
 unfold Addr.add
 rw [if_neg (by omega)]
 congr 1
 omega
structure Nums (n₀ : Nat) (W : World) (A : Option Addr) (l : List Int) : Prop where
 cells : ∀ j (h : j < l.length), ∃ ad, A = some ad ∧ ad.block < n₀ ∧ W.cell? (ad.add j) = some (.int .i64 l[j])
theorem Nums.below {n₀ : Nat} {w w' : World} {A : Option Addr} {l : List Int} (h : Nums n₀ w A l) (hb : Below n₀ w w') : Nums n₀ w' A l :=
 ⟨fun j hj => by obtain ⟨ad, e, hlt, hc⟩ := h.cells j hj; exact ⟨ad, e, hlt, (hb.cell (p := ad.add j) (by rw [add_block]; exact hlt)).trans hc⟩⟩
def Kept2 (n₀ Bs : Nat) (W W' : World) : Prop := Below n₀ W W' ∧ W'.heap[Bs]? = W.heap[Bs]?
theorem Kept2.refl (n₀ Bs : Nat) (W : World) : Kept2 n₀ Bs W W := ⟨Below.refl _ _, rfl⟩
theorem Kept2.trans {n₀ Bs : Nat} {A B C : World} (h : Kept2 n₀ Bs A B) (k : Kept2 n₀ Bs B C) : Kept2 n₀ Bs A C := ⟨h.1.trans k.1, k.2.trans h.2⟩
theorem kept2_b {n₀ Bs : Nat} {w : World} (hn : n₀ ≤ w.heap.size) (hB : Bs < w.heap.size) (W : World) (l : Nat) (o o' : Obj) (hl : w.heap.size ≤ l) (h : W.heap[l]? = some o) (h1 : o.isCells = false) (h2 : o.isWalk = false) : Kept2 n₀ Bs W (W.putObj l o') :=
 ⟨belowK_b hn W l o o' hl h h1 h2, World.putObj_heap_other (by omega)⟩
theorem cell_of_heap {w w' : World} {p : Addr} (h : w'.heap[p.block]? = w.heap[p.block]?) : w'.cell? p = w.cell? p := by unfold World.cell?; rw [h]
set_option maxRecDepth 100000 in
set_option maxHeartbeats 4000000 in
theorem pairs1_in (F : Fence) (n : Nat) (hf : F.fn 75) (hro : F.round = none) (hn : 1 ≤ n) (l Bs n₀ : Nat) (A : Option Addr) (c : Nat) (zs : List Int) (hlen : zs.length ≤ c) (hz : zs.length ≤ 1000) (J Jx : List (Int × Int) → World → Prop)
 (hY : ∀ pre x W, J pre W → pre.length < (two zs).length → YieldAt F (n - 1) Tryz.prog l #[.int .i64 x.1, .int .i64 x.2] W fun e W' =>
  (e = .returned (.bool true) ∧ J (pre ++ [x]) W' ∧ Kept2 n₀ Bs W W') ∨ (e = .returned (.bool false) ∧ Jx (pre ++ [x]) W'))
 (W : World) (hBs : W.cell? ⟨Bs, 0, none⟩ = some (.slice A zs.length c)) (hc : Nums n₀ W A zs) (h0 : J [] W) :
 CallsIn F n Tryz.prog 75 #[.func (.yield l) #[] #[], .pointer (some ⟨Bs, 0, none⟩)] W fun e W' => (∃ v, e = .returned v) ∧
  ((∃ ys, ys = two zs ∧ J ys W') ∨ (∃ pre, (∃ rest, pre ++ rest = two zs) ∧ Jx pre W')) := by
 refine callsIn_of_wp Tryz.func75 rfl hf ?_ hro
 simp only [Tryz.ntmps75, List.size_toArray, List.length_cons, List.length_nil, Nat.reduceAdd, Nat.reduceSub, Array.replicate_succ, Array.replicate_zero, List.push_toArray, List.append_toArray, List.nil_append, List.cons_append]
 gi_wp2
 gi_loopw [9] (fun i wr => ∃ (k : Nat) (pre : List (Int × Int)), k ≤ zs.length ∧ i = .int .i64 k ∧ pre ++ two (zs.drop k) = two zs ∧ J pre wr ∧ Kept2 n₀ Bs W wr)
  (fun i _ => zs.length - (intOf i).toNat)
 case atStart => exact ⟨0, [], Nat.zero_le _, rfl, by simp, h0, Kept2.refl _ _ _⟩
 case round =>
  obtain ⟨k, pre, hk, rfl, hpre, hJs, hnx⟩ := hrel
  have hBr : wr.cell? ⟨Bs, 0, none⟩ = some (.slice A zs.length c) := (cell_of_heap (p := ⟨Bs, 0, none⟩) hnx.2).trans hBs
  have hcr := hc.below hnx.1
  by_cases hlt : k < zs.length
  · obtain ⟨ad, rfl, hb, hcx⟩ := hcr.cells k hlt
    have hkz : (k : Int) < (zs.length : Int) := by omega
    have hk1 : k + 1 ≤ zs.length := by omega
    have hk2 : k + 1 ≤ c := by omega
    have hw : IntKind.i64.wrap ((k : Int) + 1) = (k : Int) + 1 := IntWalk.i64_in _ (by omega)
    have hk3 : (k : Int) + 1 ≤ (zs.length : Int) := by omega
    have hk4 : (k : Int) + 1 ≤ (c : Int) := by omega
    rw [two_drop zs k hlt] at hpre
    gi_wp2
    · have hkl : k + 1 = zs.length := by omega
      gi_loopw [19] (fun i wi => ∃ (j : Nat) (pre' : List (Int × Int)), j ≤ zs.length - (k + 1) ∧ i = .int .i64 j ∧ pre' ++ (((zs.drop (k + 1)).drop j).map (fun b => (zs[k], b)) ++ two (zs.drop (k + 1))) = two zs ∧ J pre' wi ∧ Kept2 n₀ Bs W wi)
       (fun i _ => zs.length - (k + 1) - (intOf i).toNat)
      case atStart => exact ⟨0, pre, Nat.zero_le _, rfl, by rw [List.drop_zero]; exact hpre, hJs, hnx⟩
      case round =>
       obtain ⟨j, pre2, hj, rfl, hpre2, hJ2, hn2⟩ := hrel
       by_cases hjl : j < zs.length - (k + 1)
       · exact absurd hjl (by omega)
       · obtain rfl : j = zs.length - (k + 1) := by omega
         rw [List.drop_eq_nil_of_le (by rw [List.length_drop]; omega), List.map_nil, List.nil_append] at hpre2
         gi_wp2
         rw [← h]
         go_roundw
         case rel => exact ⟨k + 1, pre2, hk1, by simp, hpre2, hJ2, hn2⟩
         case measure => simp [intOf]; omega
    · gi_loopw [19] (fun i wi => ∃ (j : Nat) (pre' : List (Int × Int)), j ≤ zs.length - (k + 1) ∧ i = .int .i64 j ∧ pre' ++ (((zs.drop (k + 1)).drop j).map (fun b => (zs[k], b)) ++ two (zs.drop (k + 1))) = two zs ∧ J pre' wi ∧ Kept2 n₀ Bs W wi)
       (fun i _ => zs.length - (k + 1) - (intOf i).toNat)
      case atStart => exact ⟨0, pre, Nat.zero_le _, rfl, by rw [List.drop_zero]; exact hpre, hJs, hnx⟩
      case round =>
       obtain ⟨j, pre2, hj, rfl, hpre2, hJ2, hn2⟩ := hrel
       by_cases hjl : j < zs.length - (k + 1)
       · have hd : (zs.drop (k + 1)).drop j = zs[k + 1 + j] :: (zs.drop (k + 1)).drop (j + 1) := by
          rw [List.drop_drop, List.drop_drop, List.drop_eq_getElem_cons (by omega)]; rfl
         rw [hd, List.map_cons] at hpre2
         have hp3 : (pre2 ++ [(zs[k], zs[k + 1 + j])]) ++ (((zs.drop (k + 1)).drop (j + 1)).map (fun b => (zs[k], b)) ++ two (zs.drop (k + 1))) = two zs := by rw [← hpre2]; simp
         have hlt2 : pre2.length < (two zs).length := by rw [← hp3]; simp
         obtain ⟨ad', e', hb', hcx2⟩ := (hc.below hn2.1).cells (k + 1 + j) (by omega)
         injection e' with e'
         subst e'
         rw [add_at] at hcx2
         obtain ⟨fn, tmps, assign, body, hy, hR⟩ := hY pre2 (zs[k], zs[k + 1 + j]) _ hJ2 hlt2
         dsimp only at hy
         gi_wp2
         refine hR.mono ?_
         rintro e W3 (⟨rfl, hJ3, hk3⟩ | ⟨rfl, hJx3⟩)
         · gi_wp2
           go_roundw
           case rel => exact ⟨j + 1, _, by omega, by simp, hp3, hJ3, hn2.trans hk3⟩
           case measure => simp [intOf]; omega
         · gi_wp2
           refine bodyPost_ret (results_none rfl _ _ _) rfl ?_
           exact ⟨⟨_, rfl⟩, .inr ⟨_, ⟨_, hp3⟩, hJx3⟩⟩
       · obtain rfl : j = zs.length - (k + 1) := by omega
         rw [List.drop_eq_nil_of_le (by rw [List.length_drop]; omega), List.map_nil, List.nil_append] at hpre2
         gi_wp2
         go_roundw
         case rel => exact ⟨k + 1, pre2, hk1, by simp, hpre2, hJ2, hn2⟩
         case measure => simp [intOf]; omega
  · obtain rfl : k = zs.length := by omega
    gi_wp2
    go_end0
    rw [List.drop_length] at hpre
    exact ⟨⟨_, rfl⟩, .inl ⟨pre, by rw [← hpre]; simp [two], hJs⟩⟩
set_option maxHeartbeats 2000000 in
theorem pairs_in (F : Fence) (n : Nat) (h5 : F.fn 50) (hro : F.round = none) (A : Option Addr) (len cap : Nat) (w : World) :
 CallsIn F n Tryz.prog 50 #[.slice A len cap] w fun e w' => e = .returned (.func (.func 75) #[] #[.pointer (some ⟨w.heap.size, 0, none⟩)]) ∧ w' = w.alloc (.cells #[.slice A len cap] 56) := by
 refine callsIn_of_wp Tryz.func50 rfl h5 ?_ hro
 simp only [Tryz.ntmps50, List.size_toArray, List.length_cons, List.length_nil, Nat.reduceAdd, Nat.reduceSub, Array.replicate_succ, Array.replicate_zero, List.push_toArray, List.append_toArray, List.nil_append, List.cons_append]
 gi_wp2
 go_ret
 exact ⟨rfl, rfl⟩
theorem pairs_stops (F : Fence) (n : Nat) (hf : F.fn 75) (hro : F.round = none) (hn : 1 ≤ n) (Bs n₀ : Nat) (A : Option Addr) (c : Nat) (zs : List Int) (hlen : zs.length ≤ c) (hz : zs.length ≤ 1000) (w : World) (hB : Bs < w.heap.size) (hn₀ : n₀ ≤ w.heap.size)
 (hBs : w.cell? ⟨Bs, 0, none⟩ = some (.slice A zs.length c)) (hc : Nums n₀ w A zs) :
 SeqStopsK F n Tryz.prog 75 #[.pointer (some ⟨Bs, 0, none⟩)] (fun x : Int × Int => #[Value.int .i64 x.1, Value.int .i64 x.2]) (Kept2 n₀ Bs) (fun ys => ys = two zs) (fun pre => ∃ rest, pre ++ rest = two zs) (two zs).length w := fun l J Jx W hW hJ hJx hY h0 =>
 pairs1_in F n hf hro hn l Bs n₀ A c zs hlen hz J Jx hY W ((hW.cell (p := ⟨Bs, 0, none⟩) hB).trans hBs) (hc.below (hW.mono hn₀)) h0
theorem C_lit1 {w : World} {A : Option Addr} {c : Nat} {l : List Int} (hl : l.length ≤ c) (h : Kd.C (Kd.int .i64) w A l.length l) : Kd.C (Kd.slice 3 (Kd.int .i64)) (w.alloc (.cells #[.slice A l.length c] 56)) (some ⟨w.heap.size, 0, none⟩) ([l] : List (List Int)).length [l] := by
 refine ⟨rfl, by simp, fun _ => ⟨_, rfl, fun j p hj => ?_⟩⟩
 rcases j with _ | j
 · simp only [List.getElem?_cons_zero, Option.some.injEq] at hj
   subst hj
   refine ⟨[.slice A l.length c], rfl, ⟨A, c, rfl, hl, Kd.C_below h (below_alloc (Below.refl _ w) _)⟩, fun i u hu => ?_⟩
   rcases i with _ | i
   · simp only [List.getElem?_cons_zero, Option.some.injEq] at hu
     subst hu
     exact (blk_cell (heap_alloc_new w (.cells #[.slice A l.length c] 56)) 0).trans rfl
   · simp at hu
 · simp at hj
theorem nums_of {w : World} {A : Option Addr} {l : List Int} (h : Kd.C (Kd.int .i64) w A l.length l) : Nums w.heap.size w A l := ⟨fun j hj => by
 obtain ⟨ad, e, hc⟩ := C_int_at h j hj
 subst e
 refine ⟨ad, rfl, ?_, hc⟩
 apply Classical.byContradiction
 intro hge
 have hn : w.heap[(ad.add j).block]? = none := Array.getElem?_eq_none (by rw [add_block]; omega)
 unfold World.cell? at hc
 rw [hn] at hc
 exact absurd hc (by simp)⟩
end Go.Proofs.YteinkjhimceljaaGreatDoor.J
