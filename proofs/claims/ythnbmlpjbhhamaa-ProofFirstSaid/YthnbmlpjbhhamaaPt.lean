/- What follows from a formula follows from it with a clause more; a trace that fails does so at its first place. No program in sight. -/
import Derived.Test.YthnbmlpjbhhamaaPq
namespace Go.Proofs.Ythnbmlpjbhhamaa.Pf
open Uk
set_option linter.unusedVariables false

theorem prop_clash {v : Int} {cls : List (List Int)} {fixed : List Int} (hc : Sp.check v cls = 0) (hl : ∀ m ∈ fixed, Sp.lit v m = true) : (prop v cls fixed).2 = 110 ↔ Clash cls fixed := by
  rcases prop_ends v cls fixed with ⟨k, _⟩ | ⟨_, k, _⟩ | ⟨_, _, h, k⟩ | ⟨_, _, h, k⟩
  · exact absurd hc k
  · exact absurd hl k
  · rw [k]; exact ⟨fun _ => h, fun _ => rfl⟩
  · rw [k]; exact ⟨fun h9 => absurd (show (0 : Int) = 110 from h9) (by decide), fun h9 => absurd h9 h⟩
theorem one_of {v : Int} {cls : List (List Int)} {c : List Int} (hc : Sp.check v cls = 0) (h : c ∈ cls) : Sp.check v [c] = 0 := by
  obtain ⟨⟨h0, h1, h2⟩, h3, h4⟩ := Sp.check_iff.1 hc
  rw [Sp.check_iff]
  simp only [List.mem_singleton, forall_eq, List.length_singleton]
  exact ⟨⟨h0, h1, h2 c h⟩, by omega, h4 c h⟩
theorem turned_fine {v : Int} {c : List Int} (h : Sp.check v [c] = 0) : ∀ m ∈ turned c, Sp.lit v m = true := Sv.turned_lits (one_lits h)
theorem follows_in {v : Int} {cls : List (List Int)} {c : List Int} (hc : Sp.check v cls = 0) (h : c ∈ cls) : follows v cls c = true := by
  have h1 := one_of hc h
  exact follows_true.2 ⟨hc, h1, (prop_clash hc (turned_fine h1)).2 (.inr ⟨c, h, fun m hm => .fix (turned_mem.2 (by rw [Int.neg_neg]; exact hm))⟩)⟩
theorem follows_more {v : Int} {cls cls' : List (List Int)} {c : List Int} (hm : ∀ c ∈ cls, c ∈ cls') (hc : Sp.check v cls' = 0) (h : follows v cls c = true) : follows v cls' c = true := by
  obtain ⟨h1, h2, h3⟩ := follows_true.1 h
  exact follows_true.2 ⟨hc, h2, (prop_clash hc (turned_fine h2)).2 (clash_mono hm (fun _ h => h) ((prop_clash h1 (turned_fine h2)).1 h3))⟩

theorem goes_append {v : Int} {cls tr more : List (List Int)} {i : Nat} (hi : i < tr.length) : goes v cls (tr ++ more) i = goes v cls tr i := by
  unfold goes
  rw [List.take_append_of_le_length (by omega), List.getD_eq_getElem?_getD, List.getD_eq_getElem?_getD, List.getElem?_append_left hi]
theorem goes_take {v : Int} {cls tr : List (List Int)} {n i : Nat} (hi : i < n) : goes v cls (tr.take n) i = goes v cls tr i := by
  unfold goes
  rw [List.take_take, Nat.min_eq_left (by omega), List.getD_eq_getElem?_getD, List.getD_eq_getElem?_getD, List.getElem?_take, if_pos hi]
theorem check_fst_le (v : Int) (cls tr : List (List Int)) : ∃ n : Nat, n ≤ tr.length ∧ (check v cls tr).1 = (n : Int) := by
  rcases check_cases v cls tr with ⟨i, h1, h2, h3, h4⟩ | ⟨h1, h2⟩
  · exact ⟨i, by omega, by rw [h4]⟩
  · exact ⟨tr.length, Nat.le_refl _, by rw [h2]⟩
/-- What a trace tells with more behind it, and cut off at its place. -/
theorem check_first (v : Int) (cls tr more : List (List Int)) : ∃ n : Nat, n ≤ tr.length ∧ (check v cls tr).1 = (n : Int) ∧ (check v cls (tr.take n)).1 = (n : Int) ∧
    ((n < tr.length ∧ (check v cls tr).2 = false ∧ (check v cls (tr ++ more)).1 = (n : Int)) ∨ (n = tr.length ∧ (n : Int) ≤ (check v cls (tr ++ more)).1)) := by
  have htake : ∀ n, n ≤ tr.length → (∀ j, j < n → goes v cls tr j = true) → (check v cls (tr.take n)).1 = (n : Int) := by
    intro n hn h
    have hl : (tr.take n).length = n := by rw [List.length_take]; omega
    rw [check_holds (fun j hj => by rw [goes_take (by omega)]; exact h j (by omega)), hl]
  rcases check_cases v cls tr with ⟨i, h1, h2, h3, h4⟩ | ⟨h1, h2⟩
  · refine ⟨i, by omega, by rw [h4], htake i (by omega) h2, .inl ⟨h1, by rw [h4], ?_⟩⟩
    rw [check_fails (i := i) (by rw [List.length_append]; omega) (fun j hj => by rw [goes_append (by omega)]; exact h2 j hj) (by rw [goes_append h1]; exact h3)]
  · refine ⟨tr.length, Nat.le_refl _, by rw [h2], htake _ (Nat.le_refl _) h1, .inr ⟨rfl, ?_⟩⟩
    rcases check_cases v cls (tr ++ more) with ⟨i, k1, k2, k3, k4⟩ | ⟨k1, k2⟩
    · rw [k4]
      rcases Nat.lt_or_ge i tr.length with hi | hi
      · rw [goes_append hi, h1 i hi] at k3; exact absurd k3 (by decide)
      · show (tr.length : Int) ≤ (i : Int); omega
    · rw [k2, List.length_append]
      show (tr.length : Int) ≤ _; omega
end Go.Proofs.Ythnbmlpjbhhamaa.Pf
