/- The clauses of layer 14, as plain rows, and what they mean in a model. No program in sight. -/
import Derived.Test.YthnbmlpjbhhamaaUq
namespace Go.Proofs.Ythnbmlpjbhhamaa.Ct
set_option linter.unusedVariables false

/-- Each two places' literals, turned. -/
def pairs : List Int → List (List Int)
  | [] => []
  | a :: l => l.map (fun b => [-a, -b]) ++ pairs l
def never (a : Int) (l : List Int) : List (List Int) := l.map (fun n => [-a, -n])
def good (l : List Int) : Bool := l.all (Sp.lit 60)
def atMost (l : List Int) : List (List Int) × Int := if good l = true then (pairs l, 0) else ([], 100)
def exactly (l : List Int) : List (List Int) × Int := if good l = true then (l :: pairs l, 0) else ([], 100)
def implies (a : Int) (l : List Int) : List Int × Int := if good [a] = true ∧ good l = true then (-a :: l, 0) else ([], 100)
def neverF (a : Int) (l : List Int) : List (List Int) × Int := if good [a] = true ∧ good l = true then (never a l, 0) else ([], 100)

theorem pairs_len : ∀ l : List Int, 2 * (pairs l).length = l.length * (l.length - 1)
  | [] => rfl
  | a :: l => by
    have ih := pairs_len l
    rw [pairs, List.length_append, List.length_map, List.length_cons, Nat.mul_add, ih, Nat.add_sub_cancel]
    cases hn : l.length with
    | zero => rfl
    | succ n =>
      rw [Nat.add_sub_cancel, Nat.add_mul (n + 1) 1 (n + 1), Nat.mul_add (n + 1) n 1]
      omega
theorem pairs_two : ∀ (l : List Int), ∀ c ∈ pairs l, c.length = 2
  | [], c, hc => absurd hc (by simp [pairs])
  | a :: l, c, hc => by
    rw [pairs, List.mem_append] at hc
    rcases hc with hc | hc
    · obtain ⟨b, _, rfl⟩ := List.mem_map.1 hc; rfl
    · exact pairs_two l c hc
theorem pairs_le : ∀ l : List Int, l.length ≤ 1000 → (pairs l).length ≤ 1000000 := by
  intro l hl
  have h := pairs_len l
  have : l.length * (l.length - 1) ≤ 1000 * 1000 := Nat.mul_le_mul hl (by omega)
  omega
/-- All clauses hold in a model. -/
def holds (cls : List (List Int)) (m : List Bool) : Bool := cls.all (fun c => Sp.holds c m)
theorem holds_two (a b : Int) (m : List Bool) : Sp.holds [a, b] m = (Sp.trueIn m a || Sp.trueIn m b) := by
  unfold Sp.holds; simp
theorem holds_one (a : Int) (m : List Bool) : Sp.holds [a] m = Sp.trueIn m a := by
  unfold Sp.holds; simp
theorem pairs_holds (m : List Bool) : ∀ l : List Int, holds (pairs l) m = true ↔ l.Pairwise (fun a b => Sp.trueIn m (-a) = true ∨ Sp.trueIn m (-b) = true)
  | [] => by simp [pairs, holds]
  | a :: l => by
    rw [List.pairwise_cons, ← pairs_holds m l]
    unfold holds
    rw [pairs, List.all_append, Bool.and_eq_true, List.all_map, List.all_eq_true]
    simp only [Function.comp_apply, holds_two, Bool.or_eq_true]
theorem turned_pairs (m : List Bool) (l : List Int) : holds (pairs l.reverse) m = holds (pairs l) m := by
  rw [Bool.eq_iff_iff, pairs_holds, pairs_holds, List.pairwise_reverse]
  constructor
  · exact fun h => h.imp fun h => h.symm
  · exact fun h => h.imp fun h => h.symm
/-- In a model of all variables just one of a variable's literals is true. -/
theorem true_turned {m : List Bool} (hm : m.length = 60) {n : Int} (hn : Sp.lit 60 n = true) : Sp.trueIn m (-n) = !Sp.trueIn m n := by
  have h := Sp.lit_iff.1 hn
  cases e : Sp.trueIn m n with
  | true =>
    cases e2 : Sp.trueIn m (-n) with
    | true => exact absurd e2 (Uk.true_neg e)
    | false => rfl
  | false =>
    cases e2 : Sp.trueIn m (-n) with
    | true => rfl
    | false =>
      exfalso
      have k1 : ¬ Sp.trueIn m n = true := by rw [e]; decide
      have k2 : ¬ Sp.trueIn m (-n) = true := by rw [e2]; decide
      rw [Uk.true_iff] at k1 k2
      rw [Int.natAbs_neg] at k2
      cases hb : m.getD (n.natAbs - 1) false with
      | true =>
        by_cases hp : 0 < n
        · exact k1 ⟨hn, by omega, by rw [hb, decide_eq_true hp]⟩
        · exact k2 ⟨Uk.lit_neg.2 hn, by omega, by rw [hb, decide_eq_true (by omega)]⟩
      | false =>
        by_cases hp : 0 < n
        · exact k2 ⟨Uk.lit_neg.2 hn, by omega, by rw [hb, decide_eq_false (by omega)]⟩
        · exact k1 ⟨hn, by omega, by rw [hb, decide_eq_false (by omega)]⟩
theorem most_count {m : List Bool} (hm : m.length = 60) : ∀ l : List Int, (∀ n ∈ l, Sp.lit 60 n = true) → (l.Pairwise (fun a b => Sp.trueIn m (-a) = true ∨ Sp.trueIn m (-b) = true) ↔ l.countP (Sp.trueIn m) ≤ 1)
  | [], _ => by simp
  | a :: l, h => by
    have ha := h a (by simp)
    have hl := fun n hn => h n (List.mem_cons_of_mem _ hn)
    rw [List.pairwise_cons, most_count hm l hl, List.countP_cons, true_turned hm ha]
    cases e : Sp.trueIn m a with
    | false =>
      simp
    | true =>
      simp only [Bool.not_true, Bool.false_eq_true, false_or, if_true]
      constructor
      · rintro ⟨h1, h2⟩
        have : l.countP (Sp.trueIn m) = 0 := by
          rw [List.countP_eq_zero]
          intro b hb hT
          exact Uk.true_neg hT (h1 b hb)
        omega
      · intro h1
        have h0 : l.countP (Sp.trueIn m) = 0 := by omega
        rw [List.countP_eq_zero] at h0
        refine ⟨fun b hb => ?_, by omega⟩
        rw [true_turned hm (hl b hb)]
        have := h0 b hb
        simp only [Bool.not_eq_true] at this
        rw [this]; rfl
/-- AtMost's clauses: at most one place has a true literal. -/
theorem most_holds {m : List Bool} (hm : m.length = 60) {l : List Int} (h : good l = true) : holds (pairs l) m = decide (l.countP (Sp.trueIn m) ≤ 1) := by
  rw [Bool.eq_iff_iff, pairs_holds, most_count hm l (fun n hn => List.all_eq_true.1 h n hn), decide_eq_true_iff]
theorem any_count (m : List Bool) (l : List Int) : Sp.holds l m = decide (0 < l.countP (Sp.trueIn m)) := by
  rw [Bool.eq_iff_iff, decide_eq_true_iff, List.countP_pos_iff]
  unfold Sp.holds
  rw [List.any_eq_true]
theorem exactly_holds {m : List Bool} (hm : m.length = 60) {l : List Int} (h : good l = true) : holds (l :: pairs l) m = decide (l.countP (Sp.trueIn m) = 1) := by
  have h1 : holds (l :: pairs l) m = (Sp.holds l m && holds (pairs l) m) := rfl
  rw [h1, most_holds hm h, any_count, Bool.eq_iff_iff, Bool.and_eq_true, decide_eq_true_iff, decide_eq_true_iff, decide_eq_true_iff]
  omega
theorem implies_holds {m : List Bool} (hm : m.length = 60) {a : Int} {l : List Int} (ha : Sp.lit 60 a = true) : Sp.holds (-a :: l) m = (!Sp.trueIn m a || decide (0 < l.countP (Sp.trueIn m))) := by
  have h1 : Sp.holds (-a :: l) m = (Sp.trueIn m (-a) || Sp.holds l m) := rfl
  rw [h1, true_turned hm ha, any_count]
theorem never_holds {m : List Bool} (hm : m.length = 60) {a : Int} {l : List Int} (ha : Sp.lit 60 a = true) (h : good l = true) : holds (never a l) m = (!Sp.trueIn m a || decide (l.countP (Sp.trueIn m) = 0)) := by
  rw [Bool.eq_iff_iff]
  unfold holds never
  rw [List.all_map, List.all_eq_true]
  simp only [Function.comp_apply, holds_two, Bool.or_eq_true, decide_eq_true_iff, List.countP_eq_zero, true_turned hm ha]
  cases e : Sp.trueIn m a with
  | false => simp
  | true =>
    simp only [Bool.not_true, Bool.false_eq_true, false_or]
    constructor
    · exact fun h1 n hn hT => Uk.true_neg hT (h1 n hn)
    · intro h1 n hn
      rw [true_turned hm (List.all_eq_true.1 h n hn)]
      have := h1 n hn
      simp only [Bool.not_eq_true] at this
      rw [this]; rfl
end Go.Proofs.Ythnbmlpjbhhamaa.Ct
