/- What is known in the document's rows: the program's way run on them. No program in sight. -/
import Derived.Test.YthnbmlpjbhhamaaUk
namespace Go.Proofs.Ythnbmlpjbhhamaa.Uk
open Un
set_option linter.unusedVariables false

theorem loop_more (cls : List (List Int)) : ∀ (k : Nat) (ok : Bool) (vals ws : List Int) (r : Bool × List Int), loop cls k ok vals ws = some r → loop cls (k + 1) ok vals ws = some r
  | 0, _, _, _, _, h => absurd h (by simp [loop])
  | k + 1, ok, vals, [], r, h => h
  | k + 1, ok, vals, n :: ws, r, h => by
    by_cases hb : ok = false
    · simp only [loop, if_pos hb] at h ⊢; exact h
    · simp only [loop, if_neg hb] at h ⊢
      exact loop_more cls k _ _ _ r h
theorem loop_add (cls : List (List Int)) (k : Nat) (ok : Bool) (vals ws : List Int) (r : Bool × List Int) (h : loop cls k ok vals ws = some r) : ∀ d, loop cls (k + d) ok vals ws = some r
  | 0 => h
  | d + 1 => loop_more cls (k + d) ok vals ws r (loop_add cls k ok vals ws r h d)
theorem run_add (k d : Nat) (vars : Int) (cls : List (List Int)) (fixed : List Int) (r : Int × List Int) (h : run k vars cls fixed = some r) : run (k + d) vars cls fixed = some r := by
  unfold run at h ⊢
  split
  · rename_i h0; rw [if_pos h0] at h; exact h
  · rename_i h0; rw [if_neg h0] at h
    split
    · rename_i h1; rw [if_pos h1] at h; exact h
    · rename_i h1; rw [if_neg h1] at h
      rcases hf : fix fixed (List.replicate (vars.toNat + 1) 0) [] with ⟨b, v1, w1⟩
      rw [hf] at h
      cases b with
      | false => exact h
      | true =>
        simp only at h ⊢
        rcases hl : look 0 cls v1 w1 with ⟨ok, v2, w2⟩
        rw [hl] at h
        simp only at h ⊢
        cases hp : loop cls k ok v2 w2 with
        | none => rw [hp] at h; exact absurd h (by simp)
        | some q => rw [hp] at h; rw [loop_add cls k ok v2 w2 q hp d]; exact h
theorem run_det {k k' : Nat} {vars : Int} {cls : List (List Int)} {fixed : List Int} {r r' : Int × List Int} (h : run k vars cls fixed = some r) (h' : run k' vars cls fixed = some r') : r = r' := by
  have a := run_add k k' vars cls fixed r h
  have b := run_add k' k vars cls fixed r' h'
  rw [Nat.add_comm k' k, a] at b
  exact Option.some.inj b
theorem prop_run {k : Nat} {vars : Int} {cls : List (List Int)} {fixed : List Int} {r : Int × List Int} (h : run k vars cls fixed = some r) :
    prop vars cls fixed = (if r.1 ≠ 0 then ([], r.1) else (tell r.2, 0)) ∧ free vars cls fixed = (if r.1 ≠ 0 then 0 else freeVar r.2) := by
  obtain ⟨k', r', h1, h2, h3⟩ := run_prop vars cls fixed
  obtain rfl := run_det h h1
  exact ⟨h2.symm, h3.symm⟩

/-- The document's formula. -/
def four : List (List Int) := [[-1, 2], [-2, 3], [-3, -4]]
theorem four_1 : prop 5 four [1] = ([1, 2, 3, -4], 0) ∧ free 5 four [1] = 5 := prop_run (k := 10) (r := (0, [0, 1, 1, 1, -1, 0])) (by decide +kernel)
theorem four_42 : prop 5 four [4, 2] = ([], 110) ∧ free 5 four [4, 2] = 0 := prop_run (k := 10) (r := (110, [])) (by decide +kernel)
theorem four_6 : prop 5 four [6] = ([], 100) := (prop_run (k := 10) (r := (100, [])) (by decide +kernel)).1
end Go.Proofs.Ythnbmlpjbhhamaa.Uk
