/- A map with texts as keys, as a function of the key: made, read, written; its keys, sorted. -/
import Derived.Maps.Own
import Derived.Maps.OwnSet
import Derived.Maps.OwnOps
import Derived.Sort.KeysCollected
import Derived.Test.YteinkjhimceljaaGreatDoorT05
namespace Go.Proofs.YteinkjhimceljaaGreatDoor.J
open Go Go.RowKit Go.Proofs.YteinkjhimceljaaGreatDoorW.PrintWords Go.Proofs.YteinkjhimceljaaGreatDoorW.PrintLast Go.Proofs.YteinkjhimceljaaGreatDoorW.PrintMore
set_option linter.unusedVariables false
set_option linter.unusedSimpArgs false
def heldE (v : Value) : Option (DataW Value × List MemPlace) := some (.held v, [])
def keyL (s : ByteArray) : Lit := .string s.data.toList
theorem keyL_inj {s t : ByteArray} (h : keyL s = keyL t) : s = t := by
 unfold keyL at h
 injection h with h
 exact ByteArray.ext (Array.ext' h)
theorem keyL_is (s : ByteArray) : WideAt.IsKeyLit (keyL s) := trivial
theorem key_law : Go.Maps.Keyed Tryz.prog 9 := Go.Maps.string_keyed Tryz.underlying9
def MapIs (w : World) (b n : Nat) (F : ByteArray → Option Value) : Prop :=
 ∃ D : DataW Value, w.ownsMap Tryz.prog 9 heldE b n D ∧ Maps.IsMap D ∧ ∀ s, Maps.has D (keyL s) = (F s).isSome ∧ ∀ z, D.atKey (keyL s) (.held z) = .held ((F s).getD z)
open Classical in
noncomputable def setF (F : ByteArray → Option Value) (s : ByteArray) (v : Value) : ByteArray → Option Value := fun t => if t = s then some v else F t
theorem setF_same (F : ByteArray → Option Value) (s : ByteArray) (v : Value) : setF F s v s = some v := by unfold setF; rw [if_pos rfl]
theorem setF_other (F : ByteArray → Option Value) {s t : ByteArray} (v : Value) (h : t ≠ s) : setF F s v t = F t := by unfold setF; rw [if_neg h]
section
variable {w w' : World} {b n : Nat} {F : ByteArray → Option Value}
theorem MapIs.made (w : World) : MapIs (w.alloc (.map #[] 0)) w.heap.size 0 (fun _ => none) :=
 ⟨.map [], World.ownsMap_made _ _ _ _, ⟨[], rfl⟩, fun s => ⟨rfl, fun z => rfl⟩⟩
theorem MapIs.mono {m : Nat} (h : MapIs w b n F) (hn : n ≤ m) : MapIs w b m F := by
 obtain ⟨D, h1, h2⟩ := h
 exact ⟨D, h1.mono hn, h2⟩
theorem MapIs.lt (h : MapIs w b n F) : b < w.heap.size := by
 obtain ⟨D, h1, _⟩ := h
 exact h1.lt
theorem MapIs.kept {row : Option Nat} (h : MapIs w b n F) (hg : w.grownBy w' row) (hne : some b ≠ row) : MapIs w' b n F := by
 obtain ⟨D, h1, h2⟩ := h
 exact ⟨D, h1.kept hg hne, h2⟩
theorem MapIs.moved (h : MapIs w b n F) (hm : w'.heap[b]? = w.heap[b]?) : MapIs w' b n F := by
 obtain ⟨D, ⟨es, clock, hb, h1⟩, h2⟩ := h
 exact ⟨D, ⟨es, clock, hm.trans hb, h1⟩, h2⟩
theorem MapIs.below (h : MapIs w b n F) (hb : Below w.heap.size w w') : MapIs w' b n F := h.moved (hb.block b h.lt)
theorem MapIs.alloc (h : MapIs w b n F) (o : Obj) : MapIs (w.alloc o) b n F := h.below (below_alloc (Below.refl _ _) o)
theorem MapIs.set (h : MapIs w b n F) {p : Addr} (hp : b ≠ p.block) (u : Value) : MapIs (w.setCell p u) b n F := h.moved (Below.heap_setCell w p u b hp)
variable {P : Program}
theorem key_of {s : ByteArray} (hs : s.size ≤ 1000000000) : keyOf Tryz.prog 9 (.string s) = some (keyL s) := WideMaps.keyOf_string_mk Tryz.underlying9 (by unfold maxLen; omega)
variable {ops : Array Oper} {rest : List Oper} {o : Oper} {a : Act} {Q : Exit → Act → World → Prop}
theorem map_look_ok (hg : o.guard = none) (m x : Operand) (t e : TypeId) (hop : o.op = Op.lookup t m x true) (ht : Tryz.prog.underlying t = some (.map 9 e)) {z : Value} (hz : (zeroValue e).run Tryz.prog w = .ok z w)
 (s : ByteArray) (hm : a.eval m = .map (some b)) (hx : a.eval x = .string s) (h : MapIs w b n F) (hs : s.size ≤ 1000000000)
 (hK : wpList Tryz.prog ops Q rest (a.put o.dst (.tuple #[(F s).getD z, .bool (F s).isSome])) w) : wpList Tryz.prog ops Q (o :: rest) a w := by
 obtain ⟨D, h1, h2, h3⟩ := h
 refine wpList_lookup_own_ok w hg m x t hop 9 e key_law ht heldE hz (.held z) [] rfl b n D hm h1 _ _ hx (key_of hs) fun v ps hv => ?_
 rw [(h3 s).1]
 rw [(h3 s).2 z] at hv
 injection hv with hv
 injection hv with hv _
 injection hv with hv
 rw [hv]
 exact hK
theorem map_look (hg : o.guard = none) (m x : Operand) (t e : TypeId) (hop : o.op = Op.lookup t m x false) (ht : Tryz.prog.underlying t = some (.map 9 e)) {z : Value} (hz : (zeroValue e).run Tryz.prog w = .ok z w)
 (s : ByteArray) (hm : a.eval m = .map (some b)) (hx : a.eval x = .string s) (h : MapIs w b n F) (hs : s.size ≤ 1000000000)
 (hK : wpList Tryz.prog ops Q rest (a.put o.dst ((F s).getD z)) w) : wpList Tryz.prog ops Q (o :: rest) a w := by
 obtain ⟨D, h1, h2, h3⟩ := h
 obtain ⟨v, ps, hrun, hv⟩ := h1.lookup key_law ht hz (zd := .held z) (zp := []) rfl (key_of hs)
 rw [(h3 s).2 z] at hv
 injection hv with hv
 injection hv with hv _
 injection hv with hv
 rw [hv] at hrun
 refine wpList_plain hg fun K' hK' => ?_
 unfold Oper.wp
 simp [execOp, hop, hm, hx, hrun, Result.andThen]
 exact hK' _ _ (by simpa using hK)
theorem map_put (hg : o.guard = none) (m x y : Operand) (t e : TypeId) (hop : o.op = Op.mapUpdate t m x y) (ht : Tryz.prog.underlying t = some (.map 9 e))
 (s : ByteArray) (v : Value) (hm : a.eval m = .map (some b)) (hx : a.eval x = .string s) (hy : a.eval y = v) (h : MapIs w b n F) (hs : s.size ≤ 1000000000) (hn : n ≤ 1000000000)
 (hK : ∀ w', MapIs w' b (n + 1) (setF F s v) → w.grownBy w' (some b) → wpList Tryz.prog ops Q rest (a.put o.dst undef) w') : wpList Tryz.prog ops Q (o :: rest) a w := by
 obtain ⟨D, h1, h2, h3⟩ := h
 refine wpList_mapUpdate_own w hg m x y t hop 9 e key_law ht heldE b n D hm h1 (by unfold maxLen; omega) _ _ _ hx hy (key_of hs) (.held v) [] rfl fun w' h1' hg' => hK w' ⟨_, h1', h2.put _ _, fun u => ?_⟩ hg'
 by_cases hu : u = s
 · subst hu
   rw [setF_same]
   exact ⟨Maps.has_put_same h2 (keyL_is _) _, fun z => Maps.atKey_put_same h2 (keyL_is _) _ _⟩
 · rw [setF_other F v hu, Maps.has_put_other (fun e => hu (keyL_inj e)), (h3 u).1]
   exact ⟨rfl, fun z => by rw [Maps.atKey_put_other (fun e => hu (keyL_inj e)), (h3 u).2 z]⟩
end
theorem map_keys {w : World} {b n : Nat} {F : ByteArray → Option Value} {D : DataW Value} (h1 : w.ownsMap Tryz.prog 9 heldE b n D) (h3 : ∀ s, Maps.has D (keyL s) = (F s).isSome) {ks : List ByteArray} (hnd : ks.Nodup) (hm : ∀ s, s ∈ ks ↔ (F s).isSome = true)
 {ss : List (List UInt8)} (hS : ss.Perm (strKeys D)) : ss.mergeSort (fun x y => decide (x ≤ y)) = (ks.map (fun s => s.data.toList)).mergeSort (fun x y => decide (x ≤ y)) := by
 refine mergeSort_of_perm (hS.trans ?_)
 obtain ⟨es, hD, hpw, _⟩ := h1.entries key_law
 obtain ⟨es', hD', hko⟩ := h1.keysOf
 obtain rfl : es = es' := by rw [hD] at hD'; simpa using hD'
 subst hD
 refine (perm_strKeys hpw (fun p hp => by obtain ⟨v, hv⟩ := hko p hp; obtain ⟨x, _, hx, _⟩ := Maps.keyOf_str Tryz.underlying9 hv; exact ⟨x, hx⟩) ?_ ?_).symm
 · exact List.pairwise_map.2 (hnd.imp fun {s t} hne e => hne (ByteArray.ext (Array.ext' e)))
 · intro x
   rw [List.mem_map]
   have hx := h3 ⟨x.toArray⟩
   have e : keyL ⟨x.toArray⟩ = .string x := by unfold keyL; simp
   rw [e] at hx
   rw [hx, ← hm]
   constructor
   · rintro ⟨s, hs, rfl⟩
     exact hs
   · intro hs
     exact ⟨_, hs, by simp⟩
end Go.Proofs.YteinkjhimceljaaGreatDoor.J
