/- More of what the solver tells: with a clause more, with a model's literals as clauses. No program in sight. -/
import Derived.Test.YthnbmlpjbhhamaaSv
namespace Go.Proofs.Ythnbmlpjbhhamaa.Sv
open Uk
set_option linter.unusedVariables false

theorem solve_check {v : Int} {cls : List (List Int)} {b : Bool} {m : List Bool} {t : List (List Int)} (h : solve v cls = (b, m, t, 0)) : Sp.check v cls = 0 := by
  by_cases hc : Sp.check v cls = 0
  · exact hc
  · unfold solve at h
    rw [if_pos hc] at h
    injection h with _ h; injection h with _ h; injection h with _ h
/-- What it tells of a formula when it tells. -/
theorem solve_ends {v : Int} {cls : List (List Int)} {b : Bool} {m : List Bool} {t : List (List Int)} (h : solve v cls = (b, m, t, 0)) :
    (b = true ∧ t = [] ∧ Sp.sat v cls m = true ∧ (∀ m', Sp.sat v cls m' = true → Le m m')) ∨ (b = false ∧ m = [] ∧ (∃ t0, t = t0 ++ [[]]) ∧ (∀ m', ¬ Sp.sat v cls m' = true) ∧ All v cls t) := by
  rcases solve_cases (solve_check h) with ⟨e, _⟩ | ⟨m1, e, f, g⟩ | ⟨t1, e, f, g⟩ <;> rw [h] at e
  · injection e with _ e; injection e with _ e; injection e with _ e
    exact absurd e (by decide)
  · injection e with e1 e; injection e with e2 e; injection e with e3 e
    subst e1 e2 e3
    exact .inl ⟨rfl, rfl, f, g⟩
  · injection e with e1 e; injection e with e2 e; injection e with e3 e
    subst e1 e2 e3
    exact .inr ⟨rfl, rfl, ⟨t1, rfl⟩, f, g⟩
theorem sat_less {v : Int} {cls cls' : List (List Int)} {m : List Bool} (hm : ∀ c ∈ cls, c ∈ cls') (hs : Sp.sat v cls' m = true) (hc : Sp.check v cls = 0) : Sp.sat v cls m = true := by
  obtain ⟨h1, h2, h3⟩ := sat_iff.1 hs
  refine sat_iff.2 ⟨?_, h2, fun c hcm => h3 c (hm c hcm)⟩
  obtain ⟨a, b, d⟩ := Sp.check_ok hc
  unfold Sp.right
  simp only [Bool.and_eq_true, decide_eq_true_eq, List.all_eq_true]
  exact ⟨a, b, fun c hcm n hn => d c hcm n hn⟩
theorem solve_less {v : Int} {cls cls' : List (List Int)} {b b' : Bool} {m m' : List Bool} {t t' : List (List Int)} (hm : ∀ c ∈ cls, c ∈ cls') (h : solve v cls = (b, m, t, 0)) (h' : solve v cls' = (b', m', t', 0)) (hb : b' = true) : b = true := by
  subst hb
  rcases solve_ends h with ⟨e, _⟩ | ⟨_, _, _, hn, _⟩
  · exact e
  · rcases solve_ends h' with ⟨_, _, hs, _⟩ | ⟨e, _⟩
    · exact absurd (sat_less hm hs (solve_check h)) (hn _)
    · exact absurd e (by decide)
end Go.Proofs.Ythnbmlpjbhhamaa.Sv
