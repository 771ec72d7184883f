/- How the rows' arguments read: whole numbers, rows of them, rows of rows, bools, formulas. -/
import Derived.Test.YthnbmlpjbhhamaaJ0
import Derived.WalkKit
import Derived.ProofKit
import Derived.OpenShut
import Derived.ChangeOld
import Derived.Below
import Derived.SizedLaws
import Derived.Lib.SmallJoins
import Derived.Deep.Matrix
import Derived.Deep.Grids
namespace Go.Proofs.Ythnbmlpjbhhamaa.J
open Go.RowKit Go.ChangeShapes Go.WideShapes Go.ChangeAt Go.Deep Go.Joins Go.Proofs.YthnbmlpjbhhamaaW.PrintWords
set_option linter.unusedVariables false

theorem read_ints {H : Type} {enc : TypeId × Value → H} {W : World} {fuel : Nat} {a : Option Addr} {len cap : Nat} {x : DataW H × List MemPlace}
    (hf : DataW.trod enc Try.prog W 0 (fun _ => true) true fuel 25 [.slice a len cap] = some x) :
    ∃ l : List Int, len = l.length ∧ l.length ≤ cap ∧ Kd.C (Kd.int .i64) W a l.length l ∧ ∀ n ∈ l, (Lit.int .i64 n).wf = true := by
  have h : (a = none ∧ len = 0 ∧ cap = 0 ∧ ([] : List Int) = []) ∨ ∃ zs : List Int, ∃ x, a = some x ∧ len ≤ cap ∧ cap ≤ maxLen ∧ zs.length = cap ∧ (∀ i, i < zs.length → W.cell? (x.add i) = some (.int .i64 (zs.getD i 0))) ∧ ∀ n ∈ zs, (Lit.int .i64 n).wf = true := by
    rcases open_ints Try.underlying25 Try.underlying3 (by kernel_rfl) hf with ⟨hcs, _⟩ | ⟨x, l, c, zs, hcs, _, hl, hm, hz, _, hcell, hwz⟩
    · simp at hcs
      obtain ⟨rfl, rfl, rfl⟩ := hcs
      exact .inl ⟨rfl, rfl, rfl, rfl⟩
    · simp at hcs
      obtain ⟨rfl, rfl, rfl⟩ := hcs
      exact .inr ⟨zs, _, rfl, hl, hm, by simpa using hz, hcell, hwz⟩
  rcases h with h | ⟨zs, h⟩
  · obtain ⟨l, h1, h2, h3, h4, h5⟩ := ReadsInt.ofRowC (k := .i64) (w := W) (.inl h)
    exact ⟨l, h1, h5, Kd.C_of_reads (d := (0 : Int)) (h1 := fun _ => rfl) h2, h4⟩
  · obtain ⟨l, h1, h2, h3, h4, h5⟩ := ReadsInt.ofRowC (k := .i64) (w := W) (.inr h)
    exact ⟨l, h1, h5, Kd.C_of_reads (d := (0 : Int)) (h1 := fun _ => rfl) h2, h4⟩

theorem read_bools {H : Type} {enc : TypeId × Value → H} {W : World} {fuel : Nat} {a : Option Addr} {len cap : Nat} {x : DataW H × List MemPlace}
    (hf : DataW.trod enc Try.prog W 0 (fun _ => true) true fuel 38 [.slice a len cap] = some x) :
    ∃ l : List Bool, len = l.length ∧ l.length ≤ cap ∧ Kd.C Kd.bool W a l.length l := by
  rcases open_bools Try.underlying38 Try.underlying4 (by kernel_rfl) hf with ⟨hcs, _⟩ | ⟨ad, l, c, B, hcs, _, hl, hm, _, hcell⟩
  · simp at hcs
    obtain ⟨rfl, rfl, rfl⟩ := hcs
    exact ⟨[], rfl, Nat.zero_le _, Kd.C_of_reads (d := false) (h1 := fun _ => rfl) ⟨rfl, by simp, fun h => absurd h (by simp)⟩⟩
  · simp at hcs
    obtain ⟨rfl, rfl, rfl⟩ := hcs
    refine ⟨(List.range len).map B, by simp, by simpa using hl, Kd.C_of_reads (d := false) (h1 := fun _ => rfl) ⟨rfl, ?_, fun _ => ⟨_, rfl, fun j hj => ?_⟩⟩⟩
    · unfold maxLen at hm; simp; omega
    · have hj' : j < len := by simpa using hj
      rw [hcell j (by omega)]
      simp [hj']

theorem read_rows {H : Type} {enc : TypeId × Value → H} {W : World} {fuel : Nat} {a : Option Addr} {len cap : Nat} {x : DataW H × List MemPlace}
    (hf : DataW.trod enc Try.prog W 0 (fun _ => true) true fuel 22 [.slice a len cap] = some x) :
    ∃ l : List (List Int), len = l.length ∧ l.length ≤ cap ∧ Kd.C (Kd.slice 3 (Kd.int .i64)) W a l.length l ∧ ∀ c ∈ l, ∀ n ∈ c, (Lit.int .i64 n).wf = true := by
  rcases open_int_rows Try.underlying22 Try.underlying25 Try.underlying3 (by kernel_rfl) (by kernel_rfl) hf with ⟨hcs, _⟩ | ⟨ad, l, c, A, L, C, Z, hcs, _, hl, hm, _, hcell⟩
  · simp at hcs
    obtain ⟨rfl, rfl, rfl⟩ := hcs
    exact ⟨[], rfl, Nat.zero_le _, ⟨rfl, by simp, fun h => absurd h (by simp)⟩, fun c hc => by cases hc⟩
  · simp at hcs
    obtain ⟨rfl, rfl, rfl⟩ := hcs
    refine ⟨(List.range len).map (fun r => (Z r).take (L r)), by simp, by simpa using hl, ⟨rfl, ?_, fun _ => ⟨_, rfl, fun j p hj => ?_⟩⟩, ?_⟩
    · unfold maxLen at hm; simp; omega
    · have hj' : j < len := by
        have := (List.getElem?_eq_some_iff.1 hj).1
        simpa using this
      have hp : p = (Z j).take (L j) := by
        rw [List.getElem?_map, List.getElem?_range hj'] at hj
        exact (Option.some.inj hj).symm
      obtain ⟨c1, c2, c3, c4, c5, c6, c7⟩ := hcell j (by omega)
      have hlen : p.length = L j := by rw [hp, List.length_take, c4]; omega
      refine ⟨[.slice (A j) p.length (C j)], rfl, ⟨A j, C j, rfl, by omega, ⟨rfl, by unfold maxLen at c3; omega, fun h0 => ?_⟩⟩, fun i u hu => ?_⟩
      · cases hA : A j with
        | none => have := c6 hA; omega
        | some ad' =>
          refine ⟨ad', rfl, fun i q hi => ?_⟩
          have hi' : i < p.length := (List.getElem?_eq_some_iff.1 hi).1
          refine ⟨[.int .i64 q], rfl, rfl, fun o u hu => ?_⟩
          cases o with
          | zero =>
            simp at hu
            subst hu
            have hz := (c7 ad' hA).2 i (by omega)
            have : q = (Z j).getD i 0 := by
              rw [hp, List.getElem?_take] at hi
              rw [if_pos (by omega)] at hi
              simp [List.getD_eq_getElem?_getD, hi]
            rw [this]
            simpa [Kd.int, Kd.scalar] using hz
          | succ o => simp at hu
      · cases i with
        | zero =>
          simp at hu
          subst hu
          rw [hlen]
          simpa [Kd.slice] using c1
        | succ i => simp at hu
    · intro c hc n hn
      obtain ⟨r, hr, rfl⟩ := List.mem_map.1 hc
      have hr' : r < len := List.mem_range.1 hr
      exact (hcell r (by omega)).2.2.2.2.1 n (List.mem_of_mem_take hn)
end Go.Proofs.Ythnbmlpjbhhamaa.J
