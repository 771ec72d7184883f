/- What the references' small functions answer, from some number of rounds on. -/
import Derived.Test.YthnbmlpjbhhamaaGa
import Derived.Test.YthnbmlpjbhhamaaGd
namespace Go.Proofs.Ythnbmlpjbhhamaa.J
open Go.RowKit Go.Proofs.YthnbmlpjbhhamaaW.PrintWords
set_option linter.unusedVariables false

theorem ev_step {α : Type} {g : Nat → Option α} {r : α} (f : Nat → Option α) (h : ∀ k, g (k + 1) = f k) (k : Ev f r) : Ev g r := Ev.step h k
theorem ev_some {α : Type} {g : Nat → Option α} {r : α} (h : ∀ k, g k = some r) : Ev g r := ⟨0, fun k _ => h k⟩
theorem ite_ev {α : Type} {c : Prop} [Decidable c] {f g : Nat → Option α} {r : α} (hf : c → Ev f r) (hg : ¬ c → Ev g r) : Ev (fun k => if c then f k else g k) r := by
  by_cases h : c
  · exact Ev.congr (fun k => if_pos h) (hf h)
  · exact Ev.congr (fun k => if_neg h) (hg h)
theorem pos_ev {α : Type} {c : Prop} [Decidable c] {f g : Nat → Option α} {r : α} (h : c) (hf : Ev f r) : Ev (fun k => if c then f k else g k) r := Ev.congr (fun k => if_pos h) hf
theorem neg_ev {α : Type} {c : Prop} [Decidable c] {f g : Nat → Option α} {r : α} (h : ¬ c) (hg : Ev g r) : Ev (fun k => if c then f k else g k) r := Ev.congr (fun k => if_neg h) hg
theorem next_ev {α : Type} {g : Nat → Option α} {r : α} (h : Ev (fun k => g (k + 1)) r) : Ev g r := Ev.step (fun _ => rfl) h
theorem some_ev {α β : Type} {a : α} {f : Nat → α → Option β} {r : β} (h : Ev (fun k => f k a) r) : Ev (fun k => (some a).bind (f k)) r := h

theorem wrap_succ {i n : Nat} (h : i < n) (hn : n ≤ 1000000000000) : wrap64 ((i : Int) + 1) = ((i + 1 : Nat) : Int) := by unfold wrap64; omega
theorem wrap_neg {x : Int} (h1 : -1000000000000 ≤ x) (h2 : x ≤ 1000000000000) : wrap64 (-x) = -x := by unfold wrap64; omega
theorem rd_at (l : List Int) (i : Nat) (h : i < l.length) : rd l (i : Int) = l[i] := by simp [rd, h]

theorem has_from (l : List Int) (n : Int) (hl : l.length ≤ 1000000000000) : ∀ (d i : Nat), l.length - i = d → i ≤ l.length → Ev (fun k => hoggetref11_Has.l0 k l n (i : Int)) ((l.drop i).contains n) := by
  intro d
  induction d with
  | zero =>
    intro i hd hi
    have e : l.drop i = [] := List.drop_eq_nil_of_le (by omega)
    rw [e]
    exact Ev.step (f := fun _ => some false) (fun k => by simp only [hoggetref11_Has.l0]; rw [if_neg (by omega)]) (Ev.now false)
  | succ d ih =>
    intro i hd hi
    have hlt : i < l.length := by omega
    rw [List.drop_eq_getElem_cons hlt, List.contains_cons]
    by_cases e : l[i] = n
    · exact Ev.step (f := fun _ => some ((n == l[i]) || (l.drop (i + 1)).contains n)) (fun k => by simp only [hoggetref11_Has.l0]; rw [if_pos (by omega), if_pos (by omega), rd_at l i hlt, if_pos e]; simp [e]) (Ev.now _)
    · have hb : (n == l[i]) = false := beq_eq_false_iff_ne.2 (fun h => e h.symm)
      rw [hb, Bool.false_or]
      exact Ev.step (f := fun k => hoggetref11_Has.l0 k l n ((i + 1 : Nat) : Int)) (fun k => by simp only [hoggetref11_Has.l0]; rw [if_pos (by omega), if_pos (by omega), rd_at l i hlt, if_neg e, wrap_succ hlt hl]) (ih (i + 1) (by omega) (by omega))
theorem has_ev (l : List Int) (n : Int) (hl : l.length ≤ 1000000000000) : Ev (fun k => hoggetref11_Has.f k l n) (l.contains n) := by
  have := has_from l n hl l.length 0 (by omega) (by omega)
  exact this

theorem ints_from (a b : List Int) (he : a.length = b.length) (hl : a.length ≤ 1000000000000) : ∀ (d i : Nat), a.length - i = d → i ≤ a.length → Ev (fun k => hoggetref10_Ints.l0 k a b (i : Int)) (decide (a.drop i = b.drop i)) := by
  intro d
  induction d with
  | zero =>
    intro i hd hi
    have e : a.drop i = b.drop i := by rw [List.drop_eq_nil_of_le (by omega), List.drop_eq_nil_of_le (by omega)]
    rw [decide_eq_true e]
    exact Ev.step (f := fun _ => some true) (fun k => by simp only [hoggetref10_Ints.l0]; rw [if_neg (by omega)]) (Ev.now true)
  | succ d ih =>
    intro i hd hi
    have h1 : i < a.length := by omega
    have h2 : i < b.length := by omega
    by_cases e : a[i] = b[i]
    · have key : (decide (a.drop i = b.drop i)) = decide (a.drop (i + 1) = b.drop (i + 1)) := by
        rw [List.drop_eq_getElem_cons h1, List.drop_eq_getElem_cons h2, e]
        exact decide_eq_decide.2 ⟨fun h => (List.cons.inj h).2, fun h => by rw [h]⟩
      rw [key]
      exact Ev.step (f := fun k => hoggetref10_Ints.l0 k a b ((i + 1 : Nat) : Int)) (fun k => by simp only [hoggetref10_Ints.l0]; rw [if_pos (by omega), if_pos (by omega), if_pos (by omega), rd_at a i h1, rd_at b i h2, if_pos e, wrap_succ h1 hl]) (ih (i + 1) (by omega) (by omega))
    · have key : decide (a.drop i = b.drop i) = false := by
        rw [List.drop_eq_getElem_cons h1, List.drop_eq_getElem_cons h2]
        exact decide_eq_false (fun h => e (List.cons.inj h).1)
      rw [key]
      exact Ev.step (f := fun _ => some false) (fun k => by simp only [hoggetref10_Ints.l0]; rw [if_pos (by omega), if_pos (by omega), if_pos (by omega), rd_at a i h1, rd_at b i h2, if_neg e]) (Ev.now false)
theorem ints_ev (a b : List Int) (hl : a.length ≤ 1000000000000) : Ev (fun k => hoggetref10_Ints.f k a b) (decide (a = b)) := by
  by_cases he : a.length = b.length
  · exact Ev.congr (f := fun k => hoggetref10_Ints.l0 k a b 0) (fun k => by unfold hoggetref10_Ints.f; rw [if_pos (by omega)]) (ints_from a b he hl a.length 0 (by omega) (by omega))
  · have : decide (a = b) = false := decide_eq_false (fun h => he (congrArg List.length h))
    rw [this]
    exact ev_some (fun k => by unfold hoggetref10_Ints.f; rw [if_neg (by omega)])

/-- More clauses than so many, or a wider one. -/
def bigB (l : List (List Int)) (many wide : Int) : Bool := decide ((l.length : Int) > many) || l.any (fun c => decide ((c.length : Int) > wide))
theorem rdL_at (l : List (List Int)) (i : Nat) (h : i < l.length) : rd_L1 l (i : Int) = l[i] := by simp [rd_L1, h]
theorem big_from (l : List (List Int)) (wide : Int) (hl : l.length ≤ 1000000000000) : ∀ (d i : Nat), l.length - i = d → i ≤ l.length → Ev (fun k => hoggetref10_Big.l0 k l wide (i : Int)) ((l.drop i).any (fun c => decide ((c.length : Int) > wide))) := by
  intro d
  induction d with
  | zero =>
    intro i hd hi
    have e : l.drop i = [] := List.drop_eq_nil_of_le (by omega)
    rw [e]
    exact Ev.step (f := fun _ => some false) (fun k => by simp only [hoggetref10_Big.l0]; rw [if_neg (by omega)]) (Ev.now false)
  | succ d ih =>
    intro i hd hi
    have hlt : i < l.length := by omega
    rw [List.drop_eq_getElem_cons hlt, List.any_cons]
    by_cases e : (l[i].length : Int) > wide
    · rw [decide_eq_true e, Bool.true_or]
      exact Ev.step (f := fun _ => some true) (fun k => by simp only [hoggetref10_Big.l0]; rw [if_pos (by omega), if_pos (by omega), rdL_at l i hlt, if_pos e]) (Ev.now true)
    · rw [decide_eq_false e, Bool.false_or]
      exact Ev.step (f := fun k => hoggetref10_Big.l0 k l wide ((i + 1 : Nat) : Int)) (fun k => by simp only [hoggetref10_Big.l0]; rw [if_pos (by omega), if_pos (by omega), rdL_at l i hlt, if_neg e, wrap_succ hlt hl]) (ih (i + 1) (by omega) (by omega))
theorem big_ev (l : List (List Int)) (many wide : Int) (hm : many ≤ 1000000) : Ev (fun k => hoggetref10_Big.f k l many wide) (bigB l many wide) := by
  unfold bigB
  by_cases h : (l.length : Int) > many
  · rw [decide_eq_true h, Bool.true_or]
    exact ev_some (fun k => by unfold hoggetref10_Big.f; rw [if_pos h])
  · rw [decide_eq_false h, Bool.false_or]
    exact Ev.congr (f := fun k => hoggetref10_Big.l0 k l wide 0) (fun k => by unfold hoggetref10_Big.f; rw [if_neg h]) (big_from l wide (by omega) l.length 0 (by omega) (by omega))
theorem big_bounds {l : List (List Int)} {many wide : Int} (h : bigB l many wide = false) : (l.length : Int) ≤ many ∧ ∀ c ∈ l, (c.length : Int) ≤ wide := by
  unfold bigB at h
  simp only [Bool.or_eq_false_iff, decide_eq_false_iff_not, List.any_eq_false] at h
  refine ⟨by omega, fun c hc => ?_⟩
  have := h.2 c hc
  simp at this
  omega
end Go.Proofs.Ythnbmlpjbhhamaa.J
