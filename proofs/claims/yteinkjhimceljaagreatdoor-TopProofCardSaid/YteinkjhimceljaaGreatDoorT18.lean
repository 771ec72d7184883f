/- What the layers of manifests, indexes, edges and flat plans compute, in plain words. No program in sight. Manifests, dependencies, rules: their bounds, and where an element of a row lies. index.order, walked. -/
import Derived.Test.YteinkjhimceljaaGreatDoorT17
import Derived.Test.YteinkjhimceljaaGreatDoorT16
import Derived.Test.YteinkjhimceljaaGreatDoorT13
import Derived.Sort.KeysCollected
import Derived.Lib.SlicesCompact
import Derived.Lib.RowBridge
import Derived.Deep.RegionHeld3
namespace Go.Proofs.YteinkjhimceljaaGreatDoor.J
open Go Go.RowKit Go.Proofs.YteinkjhimceljaaGreatDoorW.PrintWords
set_option linter.unusedVariables false
def chainB {α : Type} (ok : α → Bool) (lt : α → α → Bool) : Option α → List α → Bool
 | _, [] => true
 | p, x :: r => ok x && ((match p with | none => true | some q => lt q x) && chainB ok lt (some x) r)
def prevAt {α : Type} (l : List α) (i : Nat) : Option α := if i = 0 then none else l[i - 1]?
theorem prevAt_succ {α : Type} {l : List α} {i : Nat} (h : i < l.length) : prevAt l (i + 1) = some l[i] := by unfold prevAt; rw [if_neg (by omega), Nat.add_sub_cancel, List.getElem?_eq_getElem h]
theorem chain_at {α : Type} (ok : α → Bool) (lt : α → α → Bool) {l : List α} {i : Nat} (h : i < l.length) :
 chainB ok lt (prevAt l i) (l.drop i) = (ok l[i] && ((match prevAt l i with | none => true | some q => lt q l[i]) && chainB ok lt (prevAt l (i + 1)) (l.drop (i + 1)))) := by
 rw [List.drop_eq_getElem_cons h, prevAt_succ h]
 rfl
noncomputable def depB (root : Bool) (d : S75) : Bool := (decide (1 ≤ d.f0) && decide (d.f0 ≤ 4)) && ((decide (d.f0 ≠ 2) || root) && ruledB d.f1 d.f2.f0)
def depLt (a b : S75) : Bool := decide (orI [cmpI a.f0 b.f0, cmpS a.f1 b.f1] < 0)
noncomputable def ruleB (r : S78) : Bool := ruledB r.f0 r.f1.f0
def ruleLt (a b : S78) : Bool := Op.bytesLess a.f0.toList b.f0.toList
noncomputable def headB (root : Bool) (m : S27) : Bool := vright m.f1 && ((goodB m.f0 || (m.f0.toList == [] && root)) && (decide (m.f3.length = 0) || root))
noncomputable def manB (root : Bool) (m : S27) : Bool := headB root m && (chainB (depB root) depLt none m.f2 && chainB ruleB ruleLt none m.f3)
noncomputable def manI (root : Bool) (m : S27) : Int := if 30 < m.f2.length ∨ 30 < m.f3.length then 2 else if manB root m = true then 0 else 1
noncomputable def orderI (a b : S27) : Int := orI [cmpS a.f0 b.f0, compareI a.f1 b.f1]
noncomputable def idxLt (a b : S27) : Bool := decide (orderI a b < 0)
noncomputable def idxB (m : S27) : Bool := decide (manI false m = 0)
noncomputable def idxI (x : List S27) : Int := if 100 < x.length then 2 else if chainB idxB idxLt none x = true then 0 else 1
def namesX (x : List S27) : List ByteArray := (Lib.compact (x.map (fun m => m.f0.data.toList))).map (fun b => ⟨b.toArray⟩)
def countsB (d : S75) (root : Bool) : Bool := if d.f0 = 2 then root else decide (d.f0 = 1) || (decide (d.f0 = 3) || decide (d.f0 = 4))
structure By where
 by_ : ByteArray → Option S75
 names : List ByteArray
open Classical in
noncomputable def setD (F : ByteArray → Option S75) (s : ByteArray) (d : S75) : ByteArray → Option S75 := fun t => if t = s then some d else F t
def takesB (root : Bool) (b : By) (d : S75) : Bool := countsB d root && (match b.by_ d.f1 with | none => true | some e => decide (d.f0 < e.f0))
noncomputable def byStep (root : Bool) (b : By) (d : S75) : By := if takesB root b d = true then ⟨setD b.by_ d.f1 d, if (b.by_ d.f1).isSome = true then b.names else b.names ++ [d.f1]⟩ else b
noncomputable def byAll (root : Bool) (l : List S75) : By := l.foldl (byStep root) ⟨fun _ => none, []⟩
noncomputable def sortN (l : List ByteArray) : List ByteArray := ((l.map (fun s => s.data.toList)).mergeSort (fun x y => decide (x ≤ y))).map (fun b => ⟨b.toArray⟩)
def ruleOf (rules : List S78) (n : ByteArray) : Option S73 := (rules.find? (fun r => r.f0.toList == n.toList)).map (·.f1)
noncomputable def edgeOf (b : By) (rules : List S78) (n : ByteArray) : S75 := { (b.by_ n).getD z75 with f2 := (ruleOf rules n).getD ((b.by_ n).getD z75).f2 }
noncomputable def edgesL (root : Bool) (m : S27) (rules : List S78) : List S75 := (sortN (byAll root m.f2).names).map (edgeOf (byAll root m.f2) rules)
def needsB (d : S75) : Bool := decide (d.f0 ≠ 3)
noncomputable def boundHolds (b : S112) (v : S23) : Bool :=
 if b.f0 = 1 then decide (compareI v b.f1 = 0) else if b.f0 = 2 then decide (compareI v b.f1 < 0) else if b.f0 = 3 then decide (compareI v b.f1 ≤ 0) else if b.f0 = 4 then decide (compareI v b.f1 > 0) else decide (compareI v b.f1 ≥ 0)
def nearB (b : S112) (v : S23) : Bool := b.f1.f3.toList != [] && (decide (b.f1.f0 = v.f0) && (decide (b.f1.f1 = v.f1) && decide (b.f1.f2 = v.f2)))
noncomputable def altHolds (v : S23) (l : List S112) : Bool := l.all (fun b => boundHolds b v) && (v.f3.toList == [] || l.any (fun b => nearB b v))
noncomputable def holdsB (r : List (List S112)) (v : S23) : Bool := (vright v && spanB r) && r.any (altHolds v)
structure Brd where
 l : List S27
 vars : ByteArray → List Int
open Classical in
noncomputable def setV (F : ByteArray → List Int) (s : ByteArray) (d : List Int) : ByteArray → List Int := fun t => if t = s then d else F t
def pickL (x : List S27) (n : ByteArray) : List S27 := (x.filter (fun m => m.f0.toList == n.toList)).reverse
noncomputable def layOne (n : ByteArray) (b : Brd) (m : S27) : Brd := ⟨b.l ++ [m], setV b.vars n (b.vars n ++ [((b.l.length + 1 : Nat) : Int)])⟩
noncomputable def layName (x : List S27) (b : Brd) (n : ByteArray) : Brd := (pickL x n).foldl (layOne n) b
noncomputable def brdOf (x : List S27) : Brd := (namesX x).foldl (layName x) ⟨[], fun _ => []⟩
def verAt (b : Brd) (v : Int) : S23 := (b.l.getD (v - 1).toNat z27).f1
noncomputable def goodL (b : Brd) (d : S75) : List Int := (b.vars d.f1).filter (fun v => holdsB d.f2.f0 (verAt b v))
noncomputable def badL (b : Brd) (d : S75) : List Int := (b.vars d.f1).filter (fun v => !holdsB d.f2.f0 (verAt b v))
abbrev Put := List (List Int) × Int
noncomputable def putsRoot (b : Brd) (d : S75) : List Put := (if needsB d = true then [([goodL b d], 0)] else []) ++ (badL b d).map (fun v => ([[-v]], 0))
noncomputable def putsDep (b : Brd) (i : Nat) (d : S75) : List Put := (if needsB d = true then [([(Ct.implies ((i : Int) + 1) (goodL b d)).1], (Ct.implies ((i : Int) + 1) (goodL b d)).2)] else []) ++ [Ct.neverF ((i : Int) + 1) (badL b d)]
noncomputable def putsMan (b : Brd) (rules : List S78) (p : S27 × Nat) : List Put := (edgesL false p.1 rules).flatMap (putsDep b p.2)
noncomputable def putsAll (b : Brd) (names : List ByteArray) (root : S27) : List Put :=
 names.map (fun n => Ct.atMost (b.vars n)) ++ ((edgesL true root root.f3).flatMap (putsRoot b) ++ b.l.zipIdx.flatMap (putsMan b root.f3))
def clsOf (p : List Put) : List (List Int) := p.flatMap (·.1)
def okOf (p : List Put) : Bool := p.all (fun q => decide (q.2 = 0))
noncomputable def formB (b : Brd) (names : List ByteArray) (root : S27) : Bool := okOf (putsAll b names root) && decide (Sp.check (b.l.length : Int) (clsOf (putsAll b names root)) = 0)
noncomputable def layI (root : S27) (x : List S27) : Int := if manI true root = 0 then idxI x else manI true root
noncomputable def encI (root : S27) (x : List S27) : Int := if layI root x = 0 then (if formB (brdOf x) (namesX x) root = true then 0 else 2) else layI root x
noncomputable def encV (root : S27) (x : List S27) : Int := if encI root x = 0 then ((brdOf x).l.length : Int) else 0
noncomputable def encC (root : S27) (x : List S27) : List (List Int) := if encI root x = 0 then clsOf (putsAll (brdOf x) (namesX x) root) else []
end Go.Proofs.YteinkjhimceljaaGreatDoor.J
namespace Go.Proofs.YteinkjhimceljaaGreatDoor.J
open Go Go.RowKit Go.Shelf Go.Proofs.YteinkjhimceljaaGreatDoorW.PrintWords Go.Proofs.YteinkjhimceljaaGreatDoorW.PrintLast Go.Proofs.YteinkjhimceljaaGreatDoorW.PrintMore
set_option linter.unusedVariables false
def bts (n m : Nat) : Array Bool := ((List.range n).map (fun i => m.testBit i)).toArray
structure DOk (d : S75) : Prop where
 name : d.f1.size ≤ 1000
 range : ROk d.f2.f0
 kind : IntOk d.f0
structure UOk (r : S78) : Prop where
 name : r.f0.size ≤ 1000
 range : ROk r.f1.f0
structure MOk (m : S27) : Prop where
 name : m.f0.size ≤ 1000
 ver : VOk m.f1
 dlen : m.f2.length ≤ 1000
 deps : ∀ d ∈ m.f2, DOk d
 rlen : m.f3.length ≤ 1000
 rules : ∀ r ∈ m.f3, UOk r
abbrev RangeC (W : World) (A : Option Addr) (c : Nat) (l : List (List S112)) : Prop := l.length ≤ c ∧ (Kd.slice 112 k112).C W A l.length l
theorem RangeC.below {w W : World} {A : Option Addr} {c : Nat} {l : List (List S112)} (h : RangeC w A c l) (hb : Below w.heap.size w W) : RangeC W A c l := ⟨h.1, Kd.C_below h.2 hb⟩
theorem dep_at {w W : World} {A : Option Addr} {xs : List S75} (h : Kd.C k75 w A xs.length xs) (hb : Below w.heap.size w W) (j : Nat) (hj : j < xs.length) : ∃ ad A2 c2, A = some ad ∧ W.cell? (ad.add (j * 3)) = some (.int .i64 xs[j].f0) ∧ W.cell? ⟨(ad.add (j * 3)).block, (ad.add (j * 3)).off + 1, none⟩ = some (.string xs[j].f1) ∧ W.cell? ⟨(ad.add (j * 3)).block, (ad.add (j * 3)).off + 2, none⟩ = some (.slice A2 xs[j].f2.f0.length c2) ∧ RangeC w A2 c2 xs[j].f2.f0 := by
 obtain ⟨ad, A2, c2, e, h0, h1, h2, l2, g2⟩ := at_T75 h (j : Int) (by omega) (by omega)
 have e2 : rd_T75 xs (j : Int) = xs[j] := by simp [rd_T75, hj]
 rw [e2] at h0 h1 h2 l2 g2
 exact ⟨ad, A2, c2, e, pw_cell_below hb h0, pw_cell_below hb h1, pw_cell_below hb h2, l2, g2⟩
theorem rule_at {w W : World} {A : Option Addr} {xs : List S78} (h : Kd.C k78 w A xs.length xs) (hb : Below w.heap.size w W) (j : Nat) (hj : j < xs.length) : ∃ ad A1 c1, A = some ad ∧ W.cell? (ad.add (j * 2)) = some (.string xs[j].f0) ∧ W.cell? ⟨(ad.add (j * 2)).block, (ad.add (j * 2)).off + 1, none⟩ = some (.slice A1 xs[j].f1.f0.length c1) ∧ RangeC w A1 c1 xs[j].f1.f0 := by
 obtain ⟨ad, A2, c2, e, h0, h1, l2, g2⟩ := at_T78 h (j : Int) (by omega) (by omega)
 have e2 : rd_T78 xs (j : Int) = xs[j] := by simp [rd_T78, hj]
 rw [e2] at h0 h1 l2 g2
 exact ⟨ad, A2, c2, e, pw_cell_below hb h0, pw_cell_below hb h1, l2, g2⟩
structure ManC (W : World) (A5 : Option Addr) (c5 : Nat) (A6 : Option Addr) (c6 : Nat) (m : S27) : Prop where
 dl : m.f2.length ≤ c5
 dr : k75.C W A5 m.f2.length m.f2
 rl : m.f3.length ≤ c6
 rr : k78.C W A6 m.f3.length m.f3
theorem ManC.below {w W : World} {A5 : Option Addr} {c5 : Nat} {A6 : Option Addr} {c6 : Nat} {m : S27} (h : ManC w A5 c5 A6 c6 m) (hb : Below w.heap.size w W) : ManC W A5 c5 A6 c6 m := ⟨h.dl, Kd.C_below h.dr hb, h.rl, Kd.C_below h.rr hb⟩
theorem man_K {W : World} {x : S27} {cs : List Value} (h : k27.K W x cs) : ∃ A5 c5 A6 c6, cs = [.string x.f0, .int .i64 x.f1.f0, .int .i64 x.f1.f1, .int .i64 x.f1.f2, .string x.f1.f3, .slice A5 x.f2.length c5, .slice A6 x.f3.length c6] ∧ ManC W A5 c5 A6 c6 x := by
 obtain ⟨A5, c5, A6, c6, e, l5, g5, l6, g6⟩ := k27_open h
 exact ⟨A5, c5, A6, c6, e, l5, g5, l6, g6⟩
theorem man_at {w W : World} {A : Option Addr} {xs : List S27} (h : Kd.C k27 w A xs.length xs) (hb : Below w.heap.size w W) (j : Nat) (hj : j < xs.length) : ∃ ad A5 c5 A6 c6, A = some ad ∧ (W.cell? (ad.add (j * 7)) = some (.string xs[j].f0) ∧ W.cell? ⟨(ad.add (j * 7)).block, (ad.add (j * 7)).off + 1, none⟩ = some (.int .i64 xs[j].f1.f0) ∧ W.cell? ⟨(ad.add (j * 7)).block, (ad.add (j * 7)).off + 2, none⟩ = some (.int .i64 xs[j].f1.f1) ∧ W.cell? ⟨(ad.add (j * 7)).block, (ad.add (j * 7)).off + 3, none⟩ = some (.int .i64 xs[j].f1.f2) ∧ W.cell? ⟨(ad.add (j * 7)).block, (ad.add (j * 7)).off + 4, none⟩ = some (.string xs[j].f1.f3) ∧ W.cell? ⟨(ad.add (j * 7)).block, (ad.add (j * 7)).off + 5, none⟩ = some (.slice A5 xs[j].f2.length c5) ∧ W.cell? ⟨(ad.add (j * 7)).block, (ad.add (j * 7)).off + 6, none⟩ = some (.slice A6 xs[j].f3.length c6)) ∧ ManC w A5 c5 A6 c6 xs[j] := by
 obtain ⟨ad, A5, c5, A6, c6, e, h0, h1, h2, h3, h4, h5, h6, l5, g5, l6, g6⟩ := at_T27 h (j : Int) (by omega) (by omega)
 have e2 : rd_T27 xs (j : Int) = xs[j] := by simp [rd_T27, hj]
 rw [e2] at h0 h1 h2 h3 h4 h5 h6 l5 g5 l6 g6
 exact ⟨ad, A5, c5, A6, c6, e, ⟨pw_cell_below hb h0, pw_cell_below hb h1, pw_cell_below hb h2, pw_cell_below hb h3, pw_cell_below hb h4, pw_cell_below hb h5, pw_cell_below hb h6⟩, l5, g5, l6, g6⟩
end Go.Proofs.YteinkjhimceljaaGreatDoor.J
namespace Go.Proofs.YteinkjhimceljaaGreatDoor.J
open Go Go.RowKit Go.Shelf Go.Proofs.YteinkjhimceljaaGreatDoorW.PrintWords Go.Proofs.YteinkjhimceljaaGreatDoorW.PrintLast Go.Proofs.YteinkjhimceljaaGreatDoorW.PrintMore
set_option linter.unusedVariables false
set_option linter.unusedSimpArgs false
theorem lit2_int (w : World) (x y : Int) : ([x, y] : List Int).length ≤ 2 ∧ Kd.C (Kd.int .i64) (w.alloc (.cells #[.int .i64 x, .int .i64 y] 3)) (some ⟨w.heap.size, 0, none⟩) ([x, y] : List Int).length [x, y] := by
 have hb := heap_alloc_new w (.cells #[.int .i64 x, .int .i64 y] 3)
 refine ⟨Nat.le_refl _, rfl, by simp, fun _ => ⟨_, rfl, fun j p hj => ?_⟩⟩
 refine ⟨[.int .i64 p], rfl, rfl, fun i u hu => ?_⟩
 rcases i with _ | i
 · simp only [List.getElem?_cons_zero, Option.some.injEq] at hu
   subst hu
   rcases j with _ | _ | j
   · simp at hj; subst hj; exact (blk_cell hb 0).trans rfl
   · simp at hj; subst hj; exact (blk_cell hb 1).trans rfl
   · simp at hj
 · simp at hu
set_option maxRecDepth 100000 in
set_option maxHeartbeats 4000000 in
theorem order_walk (a b : S27) (a5 a6 b5 b6 : Value) (ha : a.f1.f3.size ≤ 1000) (hb2 : b.f1.f3.size ≤ 1000) (w : World) (HGL : Glob w) :
 Calls Tryz.prog 46 #[.agg #[.string a.f0, .int .i64 a.f1.f0, .int .i64 a.f1.f1, .int .i64 a.f1.f2, .string a.f1.f3, a5, a6], .agg #[.string b.f0, .int .i64 b.f1.f0, .int .i64 b.f1.f1, .int .i64 b.f1.f2, .string b.f1.f3, b5, b6]] w fun e w' => e = .returned (.int .i64 (orderI a b)) ∧ Below w.heap.size w w' := by
 have KA := blk_alloc (blk_new w (.cells #[.string a.f0, .int .i64 a.f1.f0, .int .i64 a.f1.f1, .int .i64 a.f1.f2, .string a.f1.f3, a5, a6] 27)) (.cells #[.string b.f0, .int .i64 b.f1.f0, .int .i64 b.f1.f1, .int .i64 b.f1.f2, .string b.f1.f3, b5, b6] 27)
 have KB := blk_new (w.alloc (.cells #[.string a.f0, .int .i64 a.f1.f0, .int .i64 a.f1.f1, .int .i64 a.f1.f2, .string a.f1.f3, a5, a6] 27)) (.cells #[.string b.f0, .int .i64 b.f1.f0, .int .i64 b.f1.f1, .int .i64 b.f1.f2, .string b.f1.f3, b5, b6] 27)
 rw [World.size_alloc] at KB
 have HBW := Aside0.mk (below_alloc (below_alloc (Below.refl w.heap.size w) (.cells #[.string a.f0, .int .i64 a.f1.f0, .int .i64 a.f1.f1, .int .i64 a.f1.f2, .string a.f1.f3, a5, a6] 27)) (.cells #[.string b.f0, .int .i64 b.f1.f0, .int .i64 b.f1.f1, .int .i64 b.f1.f2, .string b.f1.f3, b5, b6] 27))
 obtain ⟨W0, hW0⟩ : ∃ W0, (w.alloc (.cells #[.string a.f0, .int .i64 a.f1.f0, .int .i64 a.f1.f1, .int .i64 a.f1.f2, .string a.f1.f3, a5, a6] 27)).alloc (.cells #[.string b.f0, .int .i64 b.f1.f0, .int .i64 b.f1.f1, .int .i64 b.f1.f2, .string b.f1.f3, b5, b6] 27) = W0 := ⟨_, rfl⟩
 rw [hW0] at KA KB HBW
 have HS := Aside0.mk (fun W (h : Below W0.heap.size W0 W) => (⟨⟨blk_at (blk_below KA h) 0 rfl, blk_at (blk_below KA h) 1 rfl, blk_at (blk_below KA h) 2 rfl, blk_at (blk_below KA h) 3 rfl, blk_at (blk_below KA h) 4 rfl⟩, blk_at (blk_below KB h) 0 rfl, blk_at (blk_below KB h) 1 rfl, blk_at (blk_below KB h) 2 rfl, blk_at (blk_below KB h) 3 rfl, blk_at (blk_below KB h) 4 rfl⟩ :
  (W.cell? ⟨w.heap.size, 0, none⟩ = some (.string a.f0) ∧ W.cell? ⟨w.heap.size, 1, none⟩ = some (.int .i64 a.f1.f0) ∧ W.cell? ⟨w.heap.size, 2, none⟩ = some (.int .i64 a.f1.f1) ∧ W.cell? ⟨w.heap.size, 3, none⟩ = some (.int .i64 a.f1.f2) ∧ W.cell? ⟨w.heap.size, 4, none⟩ = some (.string a.f1.f3)) ∧ (W.cell? ⟨w.heap.size + 1, 0, none⟩ = some (.string b.f0) ∧ W.cell? ⟨w.heap.size + 1, 1, none⟩ = some (.int .i64 b.f1.f0) ∧ W.cell? ⟨w.heap.size + 1, 2, none⟩ = some (.int .i64 b.f1.f1) ∧ W.cell? ⟨w.heap.size + 1, 3, none⟩ = some (.int .i64 b.f1.f2) ∧ W.cell? ⟨w.heap.size + 1, 4, none⟩ = some (.string b.f1.f3))))
 have HC := Aside0.mk (fun W h => compare_walk a.f1 b.f1 ha hb2 W h)
 have HR := Aside0.mk (fun W (h : Below W0.heap.size W0 W) => HGL.below (below_then HBW.out (below_size HBW.out) h))
 have HB0 := Aside0.mk (below_drew (Below.refl W0.heap.size W0))
 clear KA KB ha hb2
 unfold orderI
 obtain ⟨c0, h0⟩ : ∃ c, cmpS a.f0 b.f0 = c := ⟨_, rfl⟩
 obtain ⟨c1, h1⟩ : ∃ c, compareI a.f1 b.f1 = c := ⟨_, rfl⟩
 have HC0 := Aside0.mk (fun W => cmpS_walk a.f0 b.f0 W)
 rw [h0] at HC0 ⊢
 rw [h1] at HC ⊢
 clear h0 h1
 have HO := Aside0.mk (fun A c W h => or_walk A c [c0, c1] (by simp) W h)
 generalize orI [c0, c1] = o at HO ⊢
 go_enter Tryz.func46, Tryz.ntmps46
 go_upto_region 1 with (fail)
 clear hW0
 go_region_held3 (fun w' => (w'.cell? ⟨w.heap.size, 0, none⟩ = some (.string a.f0) ∧ w'.cell? ⟨w.heap.size, 1, none⟩ = some (.int .i64 a.f1.f0) ∧ w'.cell? ⟨w.heap.size, 2, none⟩ = some (.int .i64 a.f1.f1) ∧ w'.cell? ⟨w.heap.size, 3, none⟩ = some (.int .i64 a.f1.f2) ∧ w'.cell? ⟨w.heap.size, 4, none⟩ = some (.string a.f1.f3)) ∧ (w'.cell? ⟨w.heap.size + 1, 0, none⟩ = some (.string b.f0) ∧ w'.cell? ⟨w.heap.size + 1, 1, none⟩ = some (.int .i64 b.f1.f0) ∧ w'.cell? ⟨w.heap.size + 1, 2, none⟩ = some (.int .i64 b.f1.f1) ∧ w'.cell? ⟨w.heap.size + 1, 3, none⟩ = some (.int .i64 b.f1.f2) ∧ w'.cell? ⟨w.heap.size + 1, 4, none⟩ = some (.string b.f1.f3))) (first | (with_reducible exact HS.out _ HB4.out) | (with_reducible exact HS.out _ HB3.out) | (with_reducible exact HS.out _ HB2.out) | (with_reducible exact HS.out _ HB1.out) | (with_reducible exact HS.out _ HB0.out))
  (first
   | (go_at_call 72; refine (HC0.out _).mono ?_; rintro e w1 ⟨rfl, hb1⟩; have HB1 := Aside0.mk (below_step HB0.out hb1); clear HC0 hb1)
   | (go_at_call 73; refine (HC.out _ (HR.out _ HB1.out)).mono ?_; rintro e w2 ⟨rfl, hb2⟩; have HB2 := Aside0.mk (below_step HB1.out hb2); have HB3 := Aside0.mk (below_alloc HB2.out (.cells #[.int .i64 c0, .int .i64 c1] 3)); clear HC hb2)
   | (go_at_call 70; refine (HO.out _ 2 _ (lit2_int _ c0 c1)).mono ?_; rintro e w4 ⟨rfl, hb4⟩; have HB4 := Aside0.mk (below_step HB3.out hb4); clear HO hb4))
 go_wp2
 go_ret
 exact ⟨rfl, below_then HBW.out (below_size HBW.out) HB4.out⟩
end Go.Proofs.YteinkjhimceljaaGreatDoor.J
