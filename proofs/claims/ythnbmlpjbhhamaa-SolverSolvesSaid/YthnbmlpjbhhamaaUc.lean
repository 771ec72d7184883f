/- The closure, step by step, as the reference finds it: the known literals, kept in a row, until none is added. No program in sight. -/
import Derived.Test.YthnbmlpjbhhamaaUq
namespace Go.Proofs.Ythnbmlpjbhhamaa.Uk
set_option linter.unusedVariables false

/-- Does this literal of the clause follow? -/
def alone (c known : List Int) (n : Int) : Bool := !known.contains n && c.all (fun m => m == n || known.contains (-m))
/-- The literal that follows, 0 for none. -/
def unitOf (c known : List Int) : Int := ((c.find? (alone c known)).getD 0)
theorem unitOf_some {c known : List Int} (h : unitOf c known ≠ 0) : unitOf c known ∈ c ∧ unitOf c known ∉ known ∧ ∀ m ∈ c, m ≠ unitOf c known → -m ∈ known := by
  unfold unitOf at h ⊢
  cases hf : c.find? (alone c known) with
  | none => rw [hf] at h; exact absurd rfl h
  | some n =>
    have h1 := List.find?_some hf
    have h2 := List.mem_of_find?_eq_some hf
    unfold alone at h1
    simp only [Bool.and_eq_true, Bool.not_eq_true', List.all_eq_true, Bool.or_eq_true, beq_iff_eq] at h1
    refine ⟨h2, ?_, fun m hm hne => ?_⟩
    · intro hc
      have := List.contains_iff_mem.2 hc
      rw [Option.getD_some] at this
      rw [h1.1] at this; exact absurd this (by decide)
    · rcases h1.2 m hm with e | e
      · exact absurd e hne
      · exact List.contains_iff_mem.1 e
theorem unitOf_none {c known : List Int} (h0 : ∀ m ∈ c, m ≠ 0) (h : unitOf c known = 0) {n : Int} (hn : n ∈ c) (ha : ∀ m ∈ c, m ≠ n → -m ∈ known) : n ∈ known := by
  unfold unitOf at h
  cases hf : c.find? (alone c known) with
  | some x => rw [hf] at h; exact absurd h (h0 x (List.mem_of_find?_eq_some hf))
  | none =>
    have := List.find?_eq_none.1 hf n hn
    unfold alone at this
    apply Classical.byContradiction
    intro hc
    refine this ?_
    rw [show known.contains n = false by simpa using hc, Bool.not_false, Bool.true_and, List.all_eq_true]
    intro m hm
    by_cases e : m = n
    · simp [e]
    · rw [List.contains_iff_mem.2 (ha m hm e), Bool.or_true]

/-- The literals of 60 variables that are not yet in a row. -/
def left (known : List Int) : Nat := (List.range 121).countP (fun (i : Nat) => !known.contains ((i : Int) - 60))
theorem countP_lt {α : Type} {p q : α → Bool} : ∀ {l : List α}, (∀ x ∈ l, p x = true → q x = true) → (∃ x ∈ l, p x = false ∧ q x = true) → l.countP p < l.countP q
  | [], _, h => by obtain ⟨_, h, _⟩ := h; exact absurd h (by simp)
  | a :: l, h, ⟨x, hx, h1, h2⟩ => by
    have hle : l.countP p ≤ l.countP q := List.countP_mono_left (fun y hy => h y (List.mem_cons_of_mem _ hy))
    rcases List.mem_cons.1 hx with e | e
    · subst e
      rw [List.countP_cons_of_neg (by rw [h1]; decide), List.countP_cons_of_pos h2]
      omega
    · have := countP_lt (l := l) (fun y hy => h y (List.mem_cons_of_mem _ hy)) ⟨x, e, h1, h2⟩
      rw [List.countP_cons, List.countP_cons]
      have ha := h a List.mem_cons_self
      cases hpa : p a with
      | true => rw [ha hpa]; simp; omega
      | false => cases q a <;> simp <;> omega
theorem left_add {known : List Int} {n : Int} (h1 : -60 ≤ n) (h2 : n ≤ 60) (h : n ∉ known) : left (known ++ [n]) < left known := by
  unfold left
  refine countP_lt (fun i _ hi => ?_) ⟨(n + 60).toNat, List.mem_range.2 (by omega), ?_, ?_⟩
  · simp only [List.contains_append, Bool.not_or, Bool.and_eq_true] at hi; exact hi.1
  · have e : (((n + 60).toNat : Nat) : Int) - 60 = n := by omega
    rw [e]; simp
  · have e : (((n + 60).toNat : Nat) : Int) - 60 = n := by omega
    rw [e]; simpa using h
theorem left_le (known : List Int) : left known ≤ 121 := by
  unfold left
  have := List.countP_le_length (p := fun (i : Nat) => !known.contains ((i : Int) - 60)) (l := List.range 121)
  simpa using this

/-- What holds of a row on the way. -/
structure Part (cls : List (List Int)) (fixed known : List Int) : Prop where
  fix : ∀ m ∈ fixed, m ∈ known
  snd : ∀ m ∈ known, Known cls fixed m
  few : known.length + left known ≤ fixed.length + 121
theorem Part.start (cls : List (List Int)) (fixed : List Int) : Part cls fixed fixed := ⟨fun _ h => h, fun _ h => .fix h, by have := left_le fixed; omega⟩
theorem Part.add {cls : List (List Int)} {fixed known : List Int} (h : Part cls fixed known) (hw : ∀ c ∈ cls, ∀ m ∈ c, -60 ≤ m ∧ m ≤ 60) {c : List Int} (hc : c ∈ cls) (hu : unitOf c known ≠ 0) : Part cls fixed (known ++ [unitOf c known]) ∧ left (known ++ [unitOf c known]) < left known := by
  obtain ⟨h1, h2, h3⟩ := unitOf_some hu
  have hl := left_add (hw c hc _ h1).1 (hw c hc _ h1).2 h2
  refine ⟨⟨fun m hm => List.mem_append_left _ (h.fix m hm), fun m hm => ?_, ?_⟩, hl⟩
  · rcases List.mem_append.1 hm with k | k
    · exact h.snd m k
    · obtain rfl := List.mem_singleton.1 k
      exact .unit hc h1 (fun x hx hne => h.snd _ (h3 x hx hne))
  · have := h.few
    rw [List.length_append, List.length_singleton]
    omega
/-- A row that is closed holds all that is known. -/
theorem Part.all {cls : List (List Int)} {fixed known : List Int} (h : Part cls fixed known) (h0 : ∀ c ∈ cls, ∀ m ∈ c, m ≠ 0) (hu : ∀ c ∈ cls, unitOf c known = 0) (n : Int) : n ∈ known ↔ Known cls fixed n := by
  refine ⟨h.snd n, fun hk => ?_⟩
  induction hk with
  | fix hm => exact h.fix _ hm
  | unit hc hn _ ih => exact unitOf_none (h0 _ hc) (hu _ hc) hn ih
end Go.Proofs.Ythnbmlpjbhhamaa.Uk
