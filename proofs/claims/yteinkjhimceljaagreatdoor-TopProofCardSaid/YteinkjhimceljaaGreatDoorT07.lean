/- strings.SplitSeq: an iterator that keeps what is left of the text in a box of its own. version.right, walked: strings.SplitSeq over a box. -/
import Derived.RangeFuncNested
import Derived.RangeFuncBound
import Derived.RangeFuncCalls
import Derived.RangeFuncLeaves
import Derived.RangeFuncBox
import Derived.RangeFuncWrites
import Derived.OwnWalkIn
import Derived.TacticsInMore
import Derived.LoopNIn
import Derived.LoopIn
import Derived.Test.YteinkjhimceljaaGreatDoorT06
namespace Go.Proofs.YteinkjhimceljaaGreatDoor.J
open Go Go.RowKit Go.Shelf Go.Proofs.YteinkjhimceljaaGreatDoorW.PrintWords Go.Proofs.YteinkjhimceljaaGreatDoorW.PrintLast Go.Proofs.YteinkjhimceljaaGreatDoorW.PrintMore
set_option linter.unusedVariables false
set_option linter.unusedSimpArgs false
def Free {α : Type} (Bs : Nat) (J : List α → World → Prop) : Prop := ∀ pre W v, J pre W → J pre (W.setCell ⟨Bs, 0, none⟩ v)
def SeqBox {α : Type} (Px : α → Prop) (F : Fence) (n : Nat) (P : Program) (g : Nat) (lb : Array Value) (encs : α → Array Value) (Kp : World → World → Prop) (S Sp : List α → Prop) (N Bs : Nat) (w : World) : Prop :=
 ∀ (l : Nat) (J Jx : List α → World → Prop) (W : World), Below w.heap.size w W → AbidesFrom W.heap.size J → Free Bs J →
  (∀ pre x W1, Px x → J pre W1 → pre.length < N → YieldAt F (n - 1) P l (encs x) W1 fun e W' =>
   (e = .returned (.bool true) ∧ J (pre ++ [x]) W' ∧ Kp W1 W') ∨ (e = .returned (.bool false) ∧ Jx (pre ++ [x]) W')) →
  J [] W →
  CallsIn F n P g (#[.func (.yield l) #[] #[]] ++ lb) W fun e W' => (∃ v, e = .returned v) ∧ ((∃ xs, S xs ∧ J xs W') ∨ (∃ pre, Sp pre ∧ Jx pre W'))
def boxPost {α : Type} (Kp : World → World → Prop) (I Ix : List α → World → Prop) (xs : List α) (W : World) : Exit → Act → World → Prop
 | .normal, _, W' => KeepsOthers W W' ∧ Kp W W' ∧ I xs W'
 | .ret, _, W' => KeepsOthers W W' ∧ Ix xs W'
 | _, _, _ => False
section
variable {F : Fence} {n : Nat} {P : Program}
def recOf (fn : FuncId) (tmps : Array Value) (ps : Array Tmp) (assign body : Code) (D : Nat) (st : LoopState) (pe : Option Code) : Loop := { state := st, pending := pe, fn, tmps, params := ps, assign, body, defers := D }
theorem putObj_at {W : World} {l : Nat} {o : Obj} (h : W.heap[l]? = some o) (o' : Obj) : (W.putObj l o').heap[l]? = some o' := World.putObj_heap_same (Array.getElem?_eq_some_iff.1 h).1
theorem rangeFunc_box {α : Type} {g : Operand} {ps : Array Tmp} {assign body : Code} {Q : Exit → Act → World → Prop} {a : Act} {w : World}
 (hro : F.round = none) (h1 : 1 ≤ n) {gf : Nat} {lb : Array Value} (hg : a.eval g = .func (.func gf) #[] lb) (hFg : F.fn gf) (eg : ∀ args w, (callFunc gf args).run P w = .ok (.enter gf args) w)
 {Px : α → Prop} {encs : α → Array Value} {Kp : World → World → Prop} {S Sp : List α → Prop} {N Bs : Nat} {w0 : World} (hseq : SeqBox Px F (n - 1) P gf lb encs Kp S Sp N Bs w0) (hBs : Bs < w.heap.size)
 (hKt : ∀ {A B C : World}, Kp A B → Kp B C → Kp A C) (hKb : ∀ (W : World) (l : Nat) (o o' : Obj), w.heap.size ≤ l → W.heap[l]? = some o → o.isCells = false → o.isWalk = false → Kp W (W.putObj l o')) (hb0 : Below w0.heap.size w0 w) (hps : ∀ x, (encs x).size = ps.size)
 (I Ix : List α → World → Prop) (hI : OwnFrom w.heap.size I) (hIx : OwnFrom w.heap.size Ix) (hIs : Free Bs I) (h0 : I [] w) (a₁ : α → Act)
 (hassign : ∀ (l : Nat) (x : α) (W : World) (K : Act → World → Prop), K (a₁ x) W →
  assign.wpIn (F.inRound l) (n - 1 - 1) P (Exit.then K (fun _ _ _ => False)) { tmps := (ps.zip (encs x)).foldl (fun t (p, v) => t.setIfInBounds p v) a.tmps, defers := [] } W)
 (hbody : ∀ (l : Nat) (pre : List α) (x : α) (W : World), Px x → I pre W → pre.length < N → body.wpIn (F.inRound l) (n - 1 - 1) P (boxPost Kp I Ix (pre ++ [x]) W) (a₁ x) W)
 (hdone : ∀ (D : Nat) (xs : List α) (W : World), w.heap.size ≤ D → S xs → I xs W → W.heap[D]? = some (.deferred (some [])) → Q .normal { a with defers := { target := .collected D, args := #[] } :: a.defers } W)
 (hstop : ∀ (D : Nat) (pre : List α) (W : World), w.heap.size ≤ D → Sp pre → Ix pre W → W.heap[D]? = some (.deferred (some [])) → Code.ret.wpIn F n P Q { a with defers := { target := .collected D, args := #[] } :: a.defers } W) :
 (Code.rangeFunc g ps assign body).wpIn F n P Q a w := by
 refine wpIn_rangeFunc fun fn hfn => ?_
 rw [hro]
 have D1 : w.heap.size < w.heap.size + 1 := Nat.lt_succ_self _
 generalize hr : recOf fn a.tmps ps assign body w.heap.size = rec
 have W1L : ((w.alloc (.deferred (some []))).alloc (.loop (rec .ready none))).heap[w.heap.size + 1]? = some (.loop (rec .ready none)) := by
  have h := World.alloc_heap_new (w.alloc (.deferred (some []))) (.loop (rec .ready none))
  rwa [World.size_alloc] at h
 have W1K : ((w.alloc (.deferred (some []))).alloc (.loop (rec .ready none))).heap[w.heap.size]? = some (.deferred (some [])) :=
  (Below.heap_alloc _ _ _ (by simp)).trans (World.alloc_heap_new w _)
 have W1I : I [] ((w.alloc (.deferred (some []))).alloc (.loop (rec .ready none))) := hI.alloc _ (hI.alloc _ h0)
 have W1B : Below w0.heap.size w0 ((w.alloc (.deferred (some []))).alloc (.loop (rec .ready none))) := hb0.trans ((((Below.refl _ w).alloc (Nat.le_refl _) _).alloc (by simp) _).mono hb0.size)
 have W1S : ((w.alloc (.deferred (some []))).alloc (.loop (rec .ready none))).heap.size = w.heap.size + 2 := by simp
 have hent := run_enterLoop_outer (P := P) (w := w) fn a.tmps ps assign body
 rw [show ({ state := .ready, pending := none, fn, tmps := a.tmps, params := ps, assign, body, defers := w.heap.size } : Loop) = rec .ready none by rw [← hr]; rfl] at hent
 generalize (w.alloc (.deferred (some []))).alloc (.loop (rec .ready none)) = W1 at W1L W1K W1I W1B W1S hent
 have rP : ∀ st pe, (rec st pe).params = ps := fun st pe => by rw [← hr]; rfl
 refine ⟨_, _, W1, { target := .fn (.func gf) lb, args := #[.func (.yield (w.heap.size + 1)) #[] #[]] }, W1, gf, #[.func (.yield (w.heap.size + 1)) #[] #[]] ++ lb, W1, hent, ?_, ?_, ?_, fun _ => h1, ?_⟩
 · simp only [resolve, hg]; simp [go_sem]
 · intro f' hf'
   simp [Target.leads] at hf'
   subst hf'
   exact hFg
 · simp [invoke, go_sem, eg]
 have away : ∀ {A B : World} {row : Option Nat} {k : Nat} {o : Obj}, A.grownBy B row → (∀ r, row = some r → W1.heap.size ≤ r ∧ ∃ o : Obj, A.heap[r]? = some o ∧ o.isWalk = true) → A.heap[k]? = some o → o.isWalk = false → B.heap[k]? = some o :=
  fun hg' hr' hk hw => (grownBy_keeps hg' (fun r e => (hr' r e).2) hk hw).trans hk
 have call := hseq (w.heap.size + 1)
  (fun pre W => I pre W ∧ W.heap[w.heap.size + 1]? = some (.loop (rec .ready none)) ∧ W.heap[w.heap.size]? = some (.deferred (some [])))
  (fun pre W => Ix pre W ∧ W.heap[w.heap.size + 1]? = some (.loop (rec .done (some .ret))) ∧ W.heap[w.heap.size]? = some (.deferred (some []))) W1 W1B
  (fun s A B row hs hg' hr' => ⟨hI s A B row hs.1 hg' (fun r e => ⟨by have := (hr' r e).1; omega, by obtain ⟨_, o, ho, hw⟩ := hr' r e; exact ⟨o, ho, Obj.not_cells_of_walk hw⟩⟩), away hg' hr' hs.2.1 rfl, away hg' hr' hs.2.2 rfl⟩)
  (fun pre W v hs => ⟨hIs pre W v hs.1, (Below.heap_setCell W ⟨Bs, 0, none⟩ v _ (by show w.heap.size + 1 ≠ Bs; omega)).trans hs.2.1, (Below.heap_setCell W ⟨Bs, 0, none⟩ v _ (by show w.heap.size ≠ Bs; omega)).trans hs.2.2⟩)
 refine (call ?_ ⟨W1I, W1L, W1K⟩).mono ?_
 · rintro pre x W hx ⟨hi, hl, hk⟩ hlen
   have hy := run_yield (P := P) (args := encs x) hl (by rw [rP]; exact hps x)
   have hbusy := putObj_at hl (.loop { rec .ready none with state := .busy })
   have hkB : (W.putObj (w.heap.size + 1) (.loop { rec .ready none with state := .busy })).heap[w.heap.size]? = some (.deferred (some [])) := (World.putObj_heap_other (by omega)).trans hk
   have hKp : Kp W (W.putObj (w.heap.size + 1) (.loop { rec .ready none with state := .busy })) := hKb _ _ _ _ (by omega) hl rfl rfl
   have hIb : I pre (W.putObj (w.heap.size + 1) (.loop { rec .ready none with state := .busy })) := hI.putObj _ hi (by omega) hl rfl
   have hbr := run_beginRound (P := P) hl (by rw [← hr]; rfl)
   generalize W.putObj (w.heap.size + 1) (.loop { rec .ready none with state := .busy }) = Wb at hbusy hkB hKp hIb hbr
   have e1 : (rec .ready none).fn = fn := by rw [← hr]; rfl
   have e2 : (rec .ready none).tmps = a.tmps := by rw [← hr]; rfl
   have e3 : (rec .ready none).assign = assign := by rw [← hr]; rfl
   have e4 : (rec .ready none).body = body := by rw [← hr]; rfl
   rw [rP, e1, e2, e3, e4] at hy
   refine ⟨fn, _, assign, body, hy, roundIn_of_wpIn hfn (hassign _ x W _ ⟨Wb, hbr, ?_⟩)⟩
   refine wpIn_mono (hbody _ pre x Wb hx hIb hlen) ?_
   have shut : ∀ (jump : Option Code) (W3 : World), KeepsOthers Wb W3 → ∃ W4, W4 = W3.putObj (w.heap.size + 1) (.loop (rec (if jump.isNone then .ready else .done) jump)) ∧ W3.heap[w.heap.size + 1]? = some (.loop { rec .ready none with state := .busy }) ∧
    (Instr.endRound (w.heap.size + 1) jump).run P W3 = .ok (.bool jump.isNone) W4 ∧ W4.heap[w.heap.size + 1]? = some (.loop (rec (if jump.isNone then .ready else .done) jump)) ∧ W4.heap[w.heap.size]? = some (.deferred (some [])) := fun jump W3 h3 => by
    have hl3 := h3.same _ _ hbusy rfl
    have he := run_endRound (P := P) jump hl3
    have e5 : ({ ({ rec .ready none with state := .busy } : Loop) with state := if jump.isNone then .ready else .done, pending := jump } : Loop) = rec (if jump.isNone then .ready else .done) jump := by rw [← hr]; rfl
    rw [e5] at he
    exact ⟨_, rfl, hl3, he, putObj_at hl3 _, (World.putObj_heap_other (by omega)).trans (h3.same _ _ hkB rfl)⟩
   intro e a3 W3 hp
   cases e with
   | normal =>
    obtain ⟨h3, hk3, hi3⟩ := hp
    obtain ⟨W4, rfl, hl3, he, hl4, hk4⟩ := shut none W3 h3
    exact ⟨_, _, he, .inl ⟨rfl, ⟨hI.putObj _ hi3 (by omega) hl3 rfl, hl4, hk4⟩, hKt (hKt hKp hk3) (hKb _ _ _ _ (by omega) hl3 rfl rfl)⟩⟩
   | ret =>
    obtain ⟨h3, hi3⟩ := hp
    obtain ⟨W4, rfl, hl3, he, hl4, hk4⟩ := shut (some .ret) W3 h3
    exact ⟨_, _, he, .inr ⟨rfl, hIx.putObj _ hi3 (by omega) hl3 rfl, hl4, hk4⟩⟩
   | exit id => exact hp.elim
   | goto t => exact hp.elim
   | panic ch => exact hp.elim
   | outgrown => exact hp.elim
 · rintro e W2 ⟨⟨v, rfl⟩, (⟨xs, hS, hi, hl, hk⟩ | ⟨pre, hSp, hi, hl, hk⟩)⟩
   · have he := run_endLoop (P := P) hl (by rw [← hr]; intro h; cases h)
     have e5 : (rec .ready none).pending = none := by rw [← hr]; rfl
     rw [e5] at he
     exact ⟨none, _, he, hdone _ xs _ (Nat.le_refl _) hS (hI.putObj _ hi (by omega) hl rfl) ((World.putObj_heap_other (by omega)).trans hk)⟩
   · have he := run_endLoop (P := P) hl (by rw [← hr]; intro h; cases h)
     have e5 : (rec .done (some .ret)).pending = some .ret := by rw [← hr]; rfl
     rw [e5] at he
     exact ⟨some .ret, _, he, hstop _ pre _ (Nat.le_refl _) hSp (hIx.putObj _ hi (by omega) hl rfl) ((World.putObj_heap_other (by omega)).trans hk)⟩
end
def dots : List UInt8 → List (List UInt8)
 | [] => [[]]
 | b :: l => if b = 46 then [] :: dots l else match dots l with
  | [] => [[b]]
  | p :: r => (b :: p) :: r
theorem dots_ne : ∀ l, dots l ≠ []
 | [] => by simp [dots]
 | b :: l => by
  unfold dots
  by_cases h : b = 46
  · rw [if_pos h]; simp
  · rw [if_neg h]
    cases dots l <;> simp
theorem index_range : ∀ l : List UInt8, -1 ≤ Lib.indexByte l 46 ∧ Lib.indexByte l 46 < l.length
 | [] => by simp [Lib.indexByte]
 | b :: l => by
  have ih := index_range l
  unfold Lib.indexByte
  rw [List.length_cons]
  by_cases h : (b == 46) = true
  · rw [if_pos h]; omega
  · rw [if_neg h]
    by_cases h2 : (Lib.indexByte l 46 == -1) = true
    · rw [if_pos h2]; omega
    · rw [if_neg h2]; omega
theorem dots_none : ∀ l : List UInt8, Lib.indexByte l 46 = -1 → dots l = [l]
 | [], _ => rfl
 | b :: l, h => by
  have hr := index_range l
  unfold Lib.indexByte at h
  by_cases hb : (b == 46) = true
  · rw [if_pos hb] at h; omega
  · rw [if_neg hb] at h
    have hb2 : ¬ b = 46 := fun e => hb (by simp [e])
    by_cases h2 : (Lib.indexByte l 46 == -1) = true
    · have ih := dots_none l (by simpa using h2)
      unfold dots
      rw [if_neg hb2, ih]
    · rw [if_neg h2] at h
      have : Lib.indexByte l 46 ≠ -1 := fun e => h2 (by simp [e])
      omega
theorem dots_some : ∀ l : List UInt8, 0 ≤ Lib.indexByte l 46 → dots l = l.take (Lib.indexByte l 46).toNat :: dots (l.drop ((Lib.indexByte l 46).toNat + 1))
 | [], h => by simp [Lib.indexByte] at h
 | b :: l, h => by
  have hr := index_range l
  unfold Lib.indexByte at h ⊢
  by_cases hb : (b == 46) = true
  · rw [if_pos hb] at h ⊢
    have : b = 46 := by simpa using hb
    simp [dots, this]
  · rw [if_neg hb] at h ⊢
    have hb2 : ¬ b = 46 := fun e => hb (by simp [e])
    by_cases h2 : (Lib.indexByte l 46 == -1) = true
    · rw [if_pos h2] at h; omega
    · rw [if_neg h2] at h ⊢
      have h3 : Lib.indexByte l 46 ≠ -1 := fun e => h2 (by simp [e])
      have ih := dots_some l (by omega)
      obtain ⟨k, hk⟩ : ∃ k : Nat, Lib.indexByte l 46 = k := ⟨(Lib.indexByte l 46).toNat, by omega⟩
      rw [hk] at ih ⊢
      have e1 : ((k : Int) + 1).toNat = k + 1 := by omega
      have e2 : (k : Int).toNat = k := by omega
      rw [e1]
      rw [e2] at ih
      conv => lhs; unfold dots
      rw [if_neg hb2, ih]
      simp
def pieces (s : ByteArray) : List ByteArray := (dots s.data.toList).map (fun l => ⟨l.toArray⟩)
theorem pieces_none (s : ByteArray) (h : Lib.indexByte s.data.toList 46 = -1) : pieces s = [s] := by
 unfold pieces
 rw [dots_none _ h]
 rfl
theorem extract_list (s : ByteArray) (i j : Nat) : (s.extract i j).data.toList = (s.data.toList.take j).drop i := by
 rw [← ByteArray.toList_eq]
 simp [ByteArray.toList_eq, List.extract_eq_drop_take']
theorem pieces_some (s : ByteArray) (k : Nat) (h : Lib.indexByte s.data.toList 46 = k) : pieces s = s.extract 0 k :: pieces (s.extract (k + 1) s.size) := by
 have hr := index_range s.data.toList
 unfold pieces
 rw [dots_some _ (by omega), h]
 rw [extract_list, List.map_cons]
 have e2 : (k : Int).toNat = k := by omega
 rw [e2]
 congr 1
 · apply ByteArray.ext
   apply Array.ext'
   rw [extract_list]
   simp
 · congr 2
   rw [List.take_of_length_le (by simp)]
def Kept3 (b1 b2 b3 : Nat) (W W' : World) : Prop := W'.heap[b1]? = W.heap[b1]? ∧ W'.heap[b2]? = W.heap[b2]? ∧ W'.heap[b3]? = W.heap[b3]?
theorem Kept3.trans {b1 b2 b3 : Nat} {A B C : World} (h : Kept3 b1 b2 b3 A B) (k : Kept3 b1 b2 b3 B C) : Kept3 b1 b2 b3 A C := ⟨k.1.trans h.1, k.2.1.trans h.2.1, k.2.2.trans h.2.2⟩
theorem Kept3.put {b1 b2 b3 : Nat} {w : World} (h1 : b1 < w.heap.size) (h2 : b2 < w.heap.size) (h3 : b3 < w.heap.size) (W : World) (l : Nat) (o' : Obj) (hl : w.heap.size ≤ l) : Kept3 b1 b2 b3 W (W.putObj l o') :=
 ⟨World.putObj_heap_other (by omega), World.putObj_heap_other (by omega), World.putObj_heap_other (by omega)⟩
def leftIn (W : World) (Bs : Nat) : Nat := match W.cell? ⟨Bs, 0, none⟩ with | some (.string s) => s.size | _ => 0
attribute [local go_sem] Oper.semAt_some
set_option maxRecDepth 100000 in
set_option maxHeartbeats 4000000 in
theorem split1_in (F : Fence) (n : Nat) (hf : F.fn 170) (hi : F.fn 154) (hro : F.round = none) (hn : 1 ≤ n) (l Bp Bs Bv : Nat) (hps : Bp ≠ Bs) (hpv : Bv ≠ Bs) (s0 : ByteArray) (hs0 : s0.size ≤ 1000000) (J Jx : List ByteArray → World → Prop)
 (hIX : ∀ m s W, CallsIn F m Tryz.prog 154 #[.string s, .string ⟨#[46]⟩] W fun e w' => e = .returned (.int .i64 (Lib.indexByte s.data.toList 46)) ∧ w' = W)
 (hJs : Free Bs J)
 (hY : ∀ pre x W, x.size ≤ s0.size → J pre W → pre.length < (pieces s0).length → YieldAt F (n - 1) Tryz.prog l #[.string x] W fun e W' =>
  (e = .returned (.bool true) ∧ J (pre ++ [x]) W' ∧ Kept3 Bp Bs Bv W W') ∨ (e = .returned (.bool false) ∧ Jx (pre ++ [x]) W'))
 (W : World) (hp : Boxed W Bp 9 (.string ⟨#[46]⟩)) (hs : Boxed W Bs 9 (.string s0)) (hv : Boxed W Bv 3 (.int .i64 0)) (h0 : J [] W) :
 CallsIn F n Tryz.prog 170 #[.func (.yield l) #[] #[], .pointer (some ⟨Bp, 0, none⟩), .pointer (some ⟨Bs, 0, none⟩), .pointer (some ⟨Bv, 0, none⟩)] W fun e W' => (∃ v, e = .returned v) ∧
  ((∃ ys, ys = pieces s0 ∧ J ys W') ∨ (∃ pre, (∃ rest, pre ++ rest = pieces s0) ∧ Jx pre W')) := by
 refine callsIn_of_wp Tryz.func170 rfl hf ?_ hro
 simp only [Tryz.ntmps170, List.size_toArray, List.length_cons, List.length_nil, Nat.reduceAdd, Nat.reduceSub, Array.replicate_succ, Array.replicate_zero, List.push_toArray, List.append_toArray, List.nil_append, List.cons_append]
 have hp1 := hp.cell
 gi_wp2
 gi_loopw [] (fun wr => ∃ (pre : List ByteArray) (s : ByteArray), pre ++ pieces s = pieces s0 ∧ s.size ≤ s0.size ∧ J pre wr ∧ Boxed wr Bp 9 (.string ⟨#[46]⟩) ∧ Boxed wr Bs 9 (.string s) ∧ Boxed wr Bv 3 (.int .i64 0))
  (fun wr => leftIn wr Bs)
 case atStart => exact ⟨[], s0, rfl, Nat.le_refl _, h0, hp, hs, hv⟩
 case round =>
  obtain ⟨pre, s, hpre, hsz, hJ, hp2, hs2, hv2⟩ := hrel
  have hp3 := hp2.cell
  have hs3 := hs2.cell
  have hv3 := hv2.cell
  have hf3 := hs2.frozen
  have hr := index_range s.data.toList
  have hlen : s.data.toList.length = s.size := by simp
  by_cases hx : Lib.indexByte s.data.toList 46 < 0
  · have hx1 : Lib.indexByte s.data.toList 46 = -1 := by omega
    rw [pieces_none s hx1] at hpre
    have hlt : pre.length < (pieces s0).length := by rw [← hpre]; simp
    obtain ⟨fn, tmps, assign, body, hy, hR⟩ := hY pre s _ hsz hJ hlt
    gi_wp2_with (gi_at_call 154; refine (hIX _ s _).mono ?_; rintro e w2 ⟨rfl, rfl⟩)
    refine hR.mono ?_
    rintro e W3 (⟨rfl, hJ3, hk3⟩ | ⟨rfl, hJx3⟩)
    · gi_wp2
      go_end0
      exact ⟨⟨_, rfl⟩, .inl ⟨_, hpre, hJ3⟩⟩
    · gi_wp2
      go_end0
      exact ⟨⟨_, rfl⟩, .inr ⟨_, ⟨[], by rw [List.append_nil]; exact hpre⟩, hJx3⟩⟩
  · obtain ⟨k, hk⟩ : ∃ k : Nat, Lib.indexByte s.data.toList 46 = k := ⟨(Lib.indexByte s.data.toList 46).toNat, by omega⟩
    rw [pieces_some s k hk] at hpre
    have hpre2 : (pre ++ [s.extract 0 k]) ++ pieces (s.extract (k + 1) s.size) = pieces s0 := by rw [← hpre]; simp
    have hlt : pre.length < (pieces s0).length := by rw [← hpre]; simp
    have hkz : k < s.size := by omega
    have hk0 : ¬ (k : Int) < 0 := by omega
    have hw1 : IntKind.i64.wrap ((k : Int) + 1) = (k : Int) + 1 := IntWalk.i64_in _ (by omega)
    have hw2 : (k : Int) + 1 ≤ (s.size : Int) := by omega
    have hw3 : (0 : Int) ≤ (k : Int) + 1 := by omega
    have hw4 : (k : Int) ≤ (s.size : Int) := by omega
    obtain ⟨fn, tmps, assign, body, hy, hR⟩ := hY pre (s.extract 0 k) _ (by rw [ByteArray.size_extract]; omega) hJ hlt
    gi_wp2_with (gi_at_call 154; refine (hIX _ s _).mono ?_; rintro e w2 ⟨rfl, rfl⟩; rw [hk])
    refine hR.mono ?_
    rintro e W3 (⟨rfl, hJ3, hk3⟩ | ⟨rfl, hJx3⟩)
    · have hp4 : Boxed W3 Bp 9 (.string ⟨#[46]⟩) := hk3.1.trans hp2
      have hs4 : Boxed W3 Bs 9 (.string s) := hk3.2.1.trans hs2
      have hv4 : Boxed W3 Bv 3 (.int .i64 0) := hk3.2.2.trans hv2
      have hp5 := hp4.cell
      have hs5 := hs4.cell
      have hv5 := hv4.cell
      have hf5 := hs4.frozen
      gi_wp2
      go_roundw
      case rel => exact ⟨_, _, hpre2, by rw [ByteArray.size_extract]; omega, hJs _ _ _ hJ3, hp4.other hps _, hs4.set _, hv4.other hpv _⟩
      case measure =>
       unfold leftIn
       rw [(hs4.set (.string (s.extract (k + 1) s.size))).cell, hs3]
       show (s.extract (k + 1) s.size).size < s.size
       rw [ByteArray.size_extract]
       omega
    · gi_wp2
      refine bodyPost_ret (results_none rfl _ _ _) rfl ?_
      exact ⟨⟨_, rfl⟩, .inr ⟨_, ⟨_, hpre2⟩, hJx3⟩⟩
theorem index_in (m : Nat) (s : ByteArray) (W : World) : CallsIn Fence.wide m Tryz.prog 154 #[.string s, .string ⟨#[46]⟩] W fun e w' => e = .returned (.int .i64 (Lib.indexByte s.data.toList 46)) ∧ w' = W :=
 callsIn_wide.2 (Any.strings_Index_one Tryz.indexL s 46 W)
theorem split1_stops (n : Nat) (hn : 1 ≤ n) (Bp Bs Bv : Nat) (hps : Bp ≠ Bs) (hpv : Bv ≠ Bs) (s0 : ByteArray) (hs0 : s0.size ≤ 1000000) (w : World)
 (hp : Boxed w Bp 9 (.string ⟨#[46]⟩)) (hs : Boxed w Bs 9 (.string s0)) (hv : Boxed w Bv 3 (.int .i64 0)) :
 SeqBox (fun x : ByteArray => x.size ≤ s0.size) Fence.wide n Tryz.prog 170 #[.pointer (some ⟨Bp, 0, none⟩), .pointer (some ⟨Bs, 0, none⟩), .pointer (some ⟨Bv, 0, none⟩)] (fun x : ByteArray => #[Value.string x]) (Kept3 Bp Bs Bv) (fun ys => ys = pieces s0) (fun pre => ∃ rest, pre ++ rest = pieces s0) (pieces s0).length Bs w := fun l J Jx W hW hJ hJs hY h0 =>
 split1_in Fence.wide n trivial trivial rfl hn l Bp Bs Bv hps hpv s0 hs0 J Jx index_in hJs hY W (blk_below hp hW) (blk_below hs hW) (blk_below hv hW) h0
set_option maxHeartbeats 2000000 in
theorem split0_in (F : Fence) (n : Nat) (h2 : F.fn 144) (hro : F.round = none) (s : ByteArray) (w : World) :
 CallsIn F n Tryz.prog 144 #[.string s, .string ⟨#[46]⟩, .int .i64 0] w fun e w' => e = .returned (.func (.func 170) #[] #[.pointer (some ⟨w.heap.size + 1, 0, none⟩), .pointer (some ⟨w.heap.size, 0, none⟩), .pointer (some ⟨w.heap.size + 2, 0, none⟩)]) ∧
  w' = ((w.alloc (.cells #[.string s] 9)).alloc (.cells #[.string ⟨#[46]⟩] 9)).alloc (.cells #[.int .i64 0] 3) := by
 refine callsIn_of_wp Tryz.func144 rfl h2 ?_ hro
 simp only [Tryz.ntmps144, List.size_toArray, List.length_cons, List.length_nil, Nat.reduceAdd, Nat.reduceSub, Array.replicate_succ, Array.replicate_zero, List.push_toArray, List.append_toArray, List.nil_append, List.cons_append]
 gi_wp2
 go_ret
 exact ⟨rfl, rfl⟩
set_option maxHeartbeats 2000000 in
theorem split_in (F : Fence) (n : Nat) (hn : 1 ≤ n) (h1 : F.fn 121) (h2 : F.fn 144) (hro : F.round = none) (s : ByteArray) (w : World) :
 CallsIn F n Tryz.prog 121 #[.string s, .string ⟨#[46]⟩] w fun e w' => e = .returned (.func (.func 170) #[] #[.pointer (some ⟨w.heap.size + 1, 0, none⟩), .pointer (some ⟨w.heap.size, 0, none⟩), .pointer (some ⟨w.heap.size + 2, 0, none⟩)]) ∧
  w' = ((w.alloc (.cells #[.string s] 9)).alloc (.cells #[.string ⟨#[46]⟩] 9)).alloc (.cells #[.int .i64 0] 3) := by
 refine callsIn_of_wp Tryz.func121 rfl h1 ?_ hro
 simp only [Tryz.ntmps121, List.size_toArray, List.length_cons, List.length_nil, Nat.reduceAdd, Nat.reduceSub, Array.replicate_succ, Array.replicate_zero, List.push_toArray, List.append_toArray, List.nil_append, List.cons_append]
 gi_wp2
 refine (split0_in F (n - 1) h2 hro s w).mono ?_
 rintro e w' ⟨rfl, rfl⟩
 gi_wp2
 go_ret
 exact ⟨rfl, rfl⟩
end Go.Proofs.YteinkjhimceljaaGreatDoor.J
