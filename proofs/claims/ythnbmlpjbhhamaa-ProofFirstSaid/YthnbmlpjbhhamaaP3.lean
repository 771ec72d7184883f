/- The document's rows of chapter 13, and the bounds of its laws. -/
import Derived.Test.YthnbmlpjbhhamaaPa
import Derived.Test.YthnbmlpjbhhamaaUf
import Derived.Test.YthnbmlpjbhhamaaGm
import Derived.Test.YthnbmlpjbhhamaaGJ
namespace Go.Proofs.Ythnbmlpjbhhamaa.J
open Go.RowKit Go.Proofs.YthnbmlpjbhhamaaW.PrintWords
set_option linter.unusedVariables false

theorem get_row (l : List (List Int)) (i : Nat) (h : i < l.length) : l.getD i [] = l[i] := by rw [List.getD_eq_getElem?_getD, List.getElem?_eq_getElem h]; rfl
/-! ### the document's rows -/
def sq : List (List Int) := [[1, 2], [1, -2], [-1, 2], [-1, -2]]
theorem sq_f : hoggetlaw13_square.f = some (2, sq) := rfl
theorem sq_chk : Sp.check 2 sq = 0 := by decide
theorem sq_clash (k : Nat) (cls : List (List Int)) (fixed : List Int) (h : Un.run k 2 cls fixed = some (110, [])) : (Uk.prop 2 cls fixed).2 = 110 := by
  rw [(Uk.prop_run h).1]; rfl
theorem sq_one : Pf.follows 2 sq [1] = true := Pf.follows_true.2 ⟨by decide, by decide, sq_clash 10 _ _ (by decide +kernel)⟩
theorem sq_none : Pf.follows 2 sq [] = false := by
  unfold Pf.follows
  rw [decide_eq_false_iff_not]
  rintro ⟨_, _, h⟩
  have := (Uk.prop_run (k := 10) (vars := 2) (cls := sq) (fixed := []) (r := (0, [0, 0, 0])) (by decide +kernel)).1
  unfold Pf.turned at h
  rw [List.map_nil, this] at h
  exact absurd h (by decide)
theorem sq_three : Pf.follows 2 sq [3] = false := by
  unfold Pf.follows
  rw [decide_eq_false_iff_not]
  rintro ⟨_, h, _⟩
  exact absurd h (by decide)
theorem check_1 : Pf.check 2 sq [[1], []] = (2, true) := by
  rw [Pf.check_holds (fun j hj => ?_)]
  · rfl
  · have : j = 0 ∨ j = 1 := by simp at hj; omega
    rcases this with rfl | rfl
    · exact sq_one
    · exact Pf.follows_true.2 ⟨by decide, by decide, sq_clash 10 _ _ (by decide +kernel)⟩
theorem check_2 : Pf.check 2 sq [[]] = (0, false) := Pf.check_fails (i := 0) (by decide) (fun j hj => absurd hj (Nat.not_lt_zero _)) sq_none
theorem check_3 : Pf.check 2 sq [[1], [-1]] = (2, false) := by
  rw [Pf.check_holds (fun j hj => ?_)]
  · rfl
  · have : j = 0 ∨ j = 1 := by simp at hj; omega
    rcases this with rfl | rfl
    · exact sq_one
    · exact Pf.follows_true.2 ⟨by decide, by decide, sq_clash 10 _ _ (by decide +kernel)⟩
theorem check_f {v : Int} {cls tr : List (List Int)} (h : cls.length ≤ 1000000) (h' : tr.length ≤ 1000000) : proof_Check.f v cls tr = some (Pf.check v cls tr) := by
  rw [proof_Check.f_eq, if_pos ⟨h, h'⟩]
theorem proves_f : hoggetlaw13_proves.f = some true := by
  unfold hoggetlaw13_proves.f
  simp only [sq_f, Option.bind_some]
  rw [check_f (by decide) (by decide), check_f (by decide) (by decide), check_f (by decide) (by decide), check_1, check_2, check_3]
  simp only [Option.bind_some, proof_Step.f_eq, sq_one, sq_none, sq_three]
  rfl

/-! ### bounds -/
def large13 (l tr : List (List Int)) : Bool := if (l.length : Int) > 3000 then (bigB l 3100 60 || bigB tr 3 60) else (bigB l 40 60 || bigB tr 40 60)
theorem large13_ev (v : Int) (l tr : List (List Int)) : Ev (fun k => hoggetlaw13_large.f k v l tr) (large13 l tr) := by
  unfold hoggetlaw13_large.f large13
  by_cases h : (l.length : Int) > 3000
  · rw [if_pos h]
    refine pos_ev h (Ev.bind (big_ev l 3100 60 (by omega)) ?_)
    cases e : bigB l 3100 60 with
    | true => exact pos_ev rfl (Ev.now _)
    | false => exact neg_ev (by decide) (Ev.bind (big_ev tr 3 60 (by omega)) (Ev.now _))
  · rw [if_neg h]
    refine neg_ev h (Ev.bind (big_ev l 40 60 (by omega)) ?_)
    cases e : bigB l 40 60 with
    | true => exact pos_ev rfl (Ev.now _)
    | false => exact neg_ev (by decide) (Ev.bind (big_ev tr 40 60 (by omega)) (Ev.now _))
theorem large13_bounds {l tr : List (List Int)} (h : large13 l tr = false) : l.length ≤ 3100 ∧ (∀ c ∈ l, c.length ≤ 60) ∧ tr.length ≤ 40 ∧ ∀ c ∈ tr, c.length ≤ 60 := by
  unfold large13 at h
  split at h <;>
  · rw [Bool.or_eq_false_iff] at h
    obtain ⟨b1, b2⟩ := big_bounds h.1
    obtain ⟨b3, b4⟩ := big_bounds h.2
    exact ⟨by omega, fun c hc => by have := b2 c hc; omega, by omega, fun c hc => by have := b4 c hc; omega⟩
end Go.Proofs.Ythnbmlpjbhhamaa.J
