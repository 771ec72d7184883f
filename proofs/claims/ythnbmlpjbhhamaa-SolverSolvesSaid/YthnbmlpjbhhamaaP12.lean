/- The document's rows of chapter 12, and the bounds of its laws. -/
import Derived.Test.YthnbmlpjbhhamaaHi
import Derived.Test.YthnbmlpjbhhamaaGq
namespace Go.Proofs.Ythnbmlpjbhhamaa.J
open Go.RowKit Go.Proofs.YthnbmlpjbhhamaaW.PrintWords
set_option linter.unusedVariables false

theorem solves_ev : Ev (fun k => hoggetlaw12_solves.f k) true := ev_some (fun _ => rfl)

def large12 (v : Int) (l : List (List Int)) (n : Int) : Bool := (decide (v > n) && decide (v ≤ 60)) || (if (l.length : Int) > 3000 then bigB l 3100 60 else bigB l 40 60)
theorem large12_ev (v : Int) (l : List (List Int)) (n : Int) : Ev (fun k => hoggetlaw12_large.f k v l n) (large12 v l n) := by
  have hj : ∀ b : Bool, Ev (fun k => hoggetlaw12_large.j0 k b v l) (b || (if (l.length : Int) > 3000 then bigB l 3100 60 else bigB l 40 60)) := by
    intro b
    refine next_ev ?_
    simp only [hoggetlaw12_large.j0]
    cases b with
    | true => exact pos_ev rfl (Ev.now _)
    | false =>
      refine neg_ev (by decide) ?_
      rw [Bool.false_or]
      by_cases h : (l.length : Int) > 3000
      · rw [if_pos h]; exact pos_ev h (Ev.bind (big_ev l 3100 60 (by omega)) (Ev.now _))
      · rw [if_neg h]; exact neg_ev h (Ev.bind (big_ev l 40 60 (by omega)) (Ev.now _))
  unfold hoggetlaw12_large.f large12
  by_cases h : v > n
  · rw [decide_eq_true h, Bool.true_and]; exact pos_ev h (hj _)
  · rw [decide_eq_false h, Bool.false_and]; exact neg_ev h (hj _)
theorem large12_bounds {v : Int} {l : List (List Int)} {n : Int} (h : large12 v l n = false) : (v ≤ n ∨ 60 < v) ∧ l.length ≤ 3100 ∧ (l.length ≤ 40 ∨ 3000 < l.length) ∧ ∀ c ∈ l, c.length ≤ 60 := by
  unfold large12 at h
  rw [Bool.or_eq_false_iff, Bool.and_eq_false_iff, decide_eq_false_iff_not, decide_eq_false_iff_not] at h
  obtain ⟨h1, h2⟩ := h
  refine ⟨by omega, ?_⟩
  split at h2
  · obtain ⟨b1, b2⟩ := big_bounds h2
    exact ⟨by omega, by omega, fun c hc => by have := b2 c hc; omega⟩
  · obtain ⟨b1, b2⟩ := big_bounds h2
    exact ⟨by omega, by omega, fun c hc => by have := b2 c hc; omega⟩
end Go.Proofs.Ythnbmlpjbhhamaa.J
