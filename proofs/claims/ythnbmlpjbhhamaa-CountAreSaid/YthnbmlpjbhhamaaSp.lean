/- What the document says of clauses, as plain functions on numbers and lists: no program in sight. -/
namespace Go.Proofs.Ythnbmlpjbhhamaa.Sp
set_option linter.unusedVariables false

/-- A literal of so many variables. -/
def lit (vars n : Int) : Bool := decide (n ≠ 0 ∧ -vars ≤ n ∧ n ≤ vars)
theorem lit_iff {vars n : Int} : lit vars n = true ↔ n ≠ 0 ∧ -vars ≤ n ∧ n ≤ vars := by simp [lit]
theorem lit_false {vars n : Int} : lit vars n = false ↔ n = 0 ∨ n < -vars ∨ vars < n := by
  simp only [lit, decide_eq_false_iff_not]; omega

def right (vars : Int) (cls : List (List Int)) : Bool := decide (0 ≤ vars) && (decide (vars ≤ 60) && cls.all (fun c => c.all (lit vars)))
def narrow (cls : List (List Int)) : Bool := cls.all (fun c => decide (c.length ≤ 30))
/-- P10.1. -/
def check (vars : Int) (cls : List (List Int)) : Int :=
  if 60 < vars ∨ 3000 < cls.length ∨ narrow cls = false then 2 else if right vars cls = false then 100 else 0
/-- Is a literal true in a model? -/
def trueIn (m : List Bool) (n : Int) : Bool := lit 60 n && (decide (n.natAbs ≤ m.length) && (m.getD (n.natAbs - 1) false == decide (0 < n)))
/-- P10.3. -/
def holds (c : List Int) (m : List Bool) : Bool := c.any (trueIn m)
def sat (vars : Int) (cls : List (List Int)) (m : List Bool) : Bool := right vars cls && (decide ((m.length : Int) = vars) && cls.all (fun c => holds c m))

theorem all_not_any {α : Type} (p : α → Bool) (l : List α) : (!l.any (fun x => !p x)) = l.all p := by
  induction l with
  | nil => rfl
  | cons a l ih => simp only [List.any_cons, List.all_cons, Bool.not_or, Bool.not_not, ih]


theorem right_iff {vars : Int} {cls : List (List Int)} : right vars cls = true ↔ 0 ≤ vars ∧ vars ≤ 60 ∧ ∀ c ∈ cls, ∀ m ∈ c, lit vars m = true := by
  simp [right, List.all_eq_true]
/-- A right formula, and not too much of it. -/
theorem check_ok {vars : Int} {cls : List (List Int)} (h : check vars cls = 0) : 0 ≤ vars ∧ vars ≤ 60 ∧ ∀ c ∈ cls, ∀ m ∈ c, lit vars m = true := by
  unfold check at h
  split at h
  · exact absurd h (by decide)
  · split at h
    · exact absurd h (by decide)
    · rename_i h1
      exact right_iff.1 (by simpa using h1)
theorem check_iff {vars : Int} {cls : List (List Int)} : check vars cls = 0 ↔ (0 ≤ vars ∧ vars ≤ 60 ∧ ∀ c ∈ cls, ∀ m ∈ c, lit vars m = true) ∧ cls.length ≤ 3000 ∧ ∀ c ∈ cls, c.length ≤ 30 := by
  rw [← right_iff]
  unfold check narrow
  constructor
  · intro h
    split at h
    · exact absurd h (by decide)
    · rename_i h0
      split at h
      · exact absurd h (by decide)
      · rename_i h1
        have h3 : ¬ (60 < vars) ∧ ¬ (3000 < cls.length) ∧ ¬ (cls.all (fun c => decide (c.length ≤ 30)) = false) := by
          refine ⟨fun h => h0 (.inl h), fun h => h0 (.inr (.inl h)), fun h => h0 (.inr (.inr h))⟩
        refine ⟨by simpa using h1, by omega, ?_⟩
        have := h3.2.2
        simpa [List.all_eq_true] using this
  · rintro ⟨h1, h2, h3⟩
    have hv := (right_iff.1 h1).2.1
    rw [if_neg, if_neg]
    · simp [h1]
    · rintro (h | h | h)
      · omega
      · omega
      · have : cls.all (fun c => decide (c.length ≤ 30)) = true := by simpa [List.all_eq_true] using h3
        rw [this] at h; exact absurd h (by decide)
end Go.Proofs.Ythnbmlpjbhhamaa.Sp
