/- maps.Keys and slices.Sorted over a map whose keys are texts: the keys, sorted. -/
import Derived.Test.YteinkjhimceljaaGreatDoorT01
import Derived.Test.YteinkjhimceljaaGreatDoorT24
import Derived.Test.YteinkjhimceljaaGreatDoorT18
namespace Go.Proofs.YteinkjhimceljaaGreatDoor.J
open Go Go.RowKit Go.Maps Go.Sort Go.Shelf Go.Proofs.YteinkjhimceljaaGreatDoorW.PrintWords Go.Proofs.YteinkjhimceljaaGreatDoorW.PrintLast Go.Proofs.YteinkjhimceljaaGreatDoorW.PrintMore
set_option linter.unusedVariables false
set_option linter.unusedSimpArgs false
theorem sorts_in (m : Nat) : AnyZ.SortsIn Tryz.prog Tryz.sorted52_ren Fence.wide m :=
 ⟨fun blk off cap ss W hH hblk hsz => callsIn_wide.2 (AnyM.slices_Sort_string Tryz.sort77 blk off cap ss W hH hblk hsz),
  fun p cap W => callsIn_wide.2 (AnyM.slices_Sort_string_none Tryz.sort77 p cap W)⟩
theorem keys_walk (mb : Option Nat) (W : World) : Calls Tryz.prog 53 #[.map mb] W fun e w' => e = .returned (.func (.func 78) #[] #[.pointer (some ⟨W.heap.size, 0, none⟩)]) ∧ w' = W.alloc (.cells #[.map mb] 124) :=
 callsIn_wide.1 (AnyZ.keys_in Tryz.keys53 Fence.wide 5 trivial rfl mb W)
theorem sortN_cells (ks : List ByteArray) : encs Value.string (sortN ks) = ((ks.map (fun s => s.data.toList)).mergeSort (fun x y => decide (x ≤ y))).map encStr := by
 unfold sortN encs
 rw [List.map_map]
 rfl
set_option maxHeartbeats 2000000 in
theorem sorted_walk {b n : Nat} {F : ByteArray → Option Value} {w : World} (h : MapIs w b n F) (hn : n ≤ 100000) {ks : List ByteArray} (hnd : ks.Nodup) (hm : ∀ s, s ∈ ks ↔ (F s).isSome = true) :
 Calls Tryz.prog 52 #[.func (.func 78) #[] #[.pointer (some ⟨w.heap.size, 0, none⟩)]] (w.alloc (.cells #[.map (some b)] 124)) fun e w' =>
  ∃ v, e = .returned v ∧ Kd.R Kd.string 9 w' w.heap.size (fun _ => True) v (sortN ks) ∧ Below w.heap.size w w' := by
 obtain ⟨D0, hown, hIM, hF⟩ := h
 have hsz := hown.size_le
 have hbl := hown.lt
 have hseq : SeqGives Fence.wide 2 Tryz.prog 78 #[.pointer (some ⟨w.heap.size, 0, none⟩)] encStr (fun ss => ss.Perm (strKeys D0)) (Maps.size D0) (w.alloc (.cells #[.map (some b)] 124)) :=
  AnyZ.keys_gives (ρ := Tryz.keys53_ren) { Tryz.keys53 with } Fence.wide _ trivial rfl (by omega) w.heap.size b n D0 _ (by simp) (by simp) (by
   obtain ⟨es, clock, hb, Ft, hs, hD⟩ := hown
   exact ⟨es, clock, (Below.heap_alloc _ _ b hbl).trans hb, Ft, hs, hD⟩)
 refine Calls.mono (callsIn_wide.1 (AnyZ.sorted_in Tryz.sorted52 Fence.wide 5 trivial trivial trivial trivial rfl (by omega) (sorts_in _) (enters_of Tryz.func77 (by kernel_rfl) rfl) 78 #[.pointer (some ⟨w.heap.size, 0, none⟩)] trivial (enters_of Tryz.func78 (by kernel_rfl) rfl) _ _ (by unfold maxLen; omega) (by omega) _ hseq)) ?_
 rintro e w' ⟨v, ss, rfl, hS, hrow, _, hb⟩
 refine ⟨v, rfl, ?_, (below_alloc (Below.refl _ w) _).trans (hb.mono (by simp))⟩
 rw [map_keys hown (fun s => (hF s).1) hnd hm hS] at hrow
 have hl : ss.length = (sortN ks).length := by
  have h1 := congrArg List.length (map_keys hown (fun s => (hF s).1) hnd hm hS)
  unfold sortN
  rw [List.length_map, ← h1, List.length_mergeSort]
 rw [hl, ← sortN_cells] at hrow
 exact Kd.R_lower (Kd.R_of_own hrow (fun _ _ => trivial)) (by simp)
end Go.Proofs.YteinkjhimceljaaGreatDoor.J
