/- What the references of layer 10 answer: literals, formulas, tidied clauses, copies. -/
import Derived.Test.YthnbmlpjbhhamaaPa
import Derived.Test.YthnbmlpjbhhamaaGb
import Derived.Test.YthnbmlpjbhhamaaSp
namespace Go.Proofs.Ythnbmlpjbhhamaa.J
open Go.RowKit Go.Proofs.YthnbmlpjbhhamaaW.PrintWords
set_option linter.unusedVariables false

theorem lit_f {vars : Int} (h0 : 0 ≤ vars) (h1 : vars ≤ 60) (n : Int) : hoggetref10_Literal.f n vars = some (Sp.lit vars n) := by
  unfold hoggetref10_Literal.f
  have e : wrap64 (-vars) = -vars := wrap_neg (by omega) (by omega)
  rw [e]
  by_cases a : n ≥ 1
  · rw [if_pos a]
    by_cases b : n ≤ vars
    · rw [if_pos b, Sp.lit_iff.2 (by omega)]
    · rw [if_neg b, if_neg (by omega), Sp.lit_false.2 (by omega)]
  · rw [if_neg a]
    by_cases b : n ≤ -1
    · rw [if_pos b]
      by_cases c : n ≥ -vars
      · rw [decide_eq_true c, Sp.lit_iff.2 (by omega)]
      · rw [decide_eq_false c, Sp.lit_false.2 (by omega)]
    · rw [if_neg b, Sp.lit_false.2 (by omega)]

namespace R10
theorem row {vars : Int} (h0 : 0 ≤ vars) (h1 : vars ≤ 60) (cls : List (List Int)) (j : Nat) (hj : j < cls.length) (hw : cls[j].length ≤ 1000000000000) (hcl : cls.length ≤ 1000000000000) (R : Bool) (hn : Ev (fun k => hoggetref10_Right.l0 k ((j + 1 : Nat) : Int) vars cls) R) :
    ∀ (d i : Nat), cls[j].length - i = d → i ≤ cls[j].length → Ev (fun k => hoggetref10_Right.l1 k (j : Int) (i : Int) vars cls) ((cls[j].drop i).all (Sp.lit vars) && R) := by
  intro d
  induction d with
  | zero =>
    intro i hd hi
    refine next_ev ?_
    simp only [hoggetref10_Right.l1]
    rw [rdL_at cls j hj, List.drop_eq_nil_of_le (by omega)]
    refine pos_ev (by omega) (pos_ev (by omega) (neg_ev (by omega) ?_))
    rw [wrap_succ hj hcl]
    exact hn
  | succ d ih =>
    intro i hd hi
    have hlt : i < cls[j].length := by omega
    refine next_ev ?_
    simp only [hoggetref10_Right.l1]
    rw [rdL_at cls j hj, rd_at _ i hlt, List.drop_eq_getElem_cons hlt, List.all_cons]
    refine pos_ev (by omega) (pos_ev (by omega) (pos_ev (by omega) (pos_ev (by omega) ?_)))
    simp only [lit_f h0 h1]
    refine some_ev ?_
    cases e : Sp.lit vars cls[j][i] with
    | true =>
      refine pos_ev rfl ?_
      rw [wrap_succ hlt hw]
      exact ih (i + 1) (by omega) (by omega)
    | false => exact neg_ev (by decide) (Ev.now _)
theorem rows {vars : Int} (h0 : 0 ≤ vars) (h1 : vars ≤ 60) (cls : List (List Int)) (hw : ∀ c ∈ cls, c.length ≤ 1000000000000) (hcl : cls.length ≤ 1000000000000) :
    ∀ (d j : Nat), cls.length - j = d → j ≤ cls.length → Ev (fun k => hoggetref10_Right.l0 k (j : Int) vars cls) ((cls.drop j).all (fun c => c.all (Sp.lit vars))) := by
  intro d
  induction d with
  | zero =>
    intro j hd hj
    refine next_ev ?_
    simp only [hoggetref10_Right.l0]
    rw [List.drop_eq_nil_of_le (by omega)]
    exact neg_ev (by omega) (Ev.now _)
  | succ d ih =>
    intro j hd hj
    have hlt : j < cls.length := by omega
    refine next_ev ?_
    simp only [hoggetref10_Right.l0]
    rw [List.drop_eq_getElem_cons hlt, List.all_cons]
    refine pos_ev (by omega) ?_
    exact row h0 h1 cls j hlt (hw _ (List.getElem_mem hlt)) hcl _ (ih (j + 1) (by omega) (by omega)) _ 0 rfl (Nat.zero_le _)
end R10
theorem right_ev (vars : Int) (cls : List (List Int)) (hw : ∀ c ∈ cls, c.length ≤ 1000000000000) (hcl : cls.length ≤ 1000000000000) : Ev (fun k => hoggetref10_Right.f k vars cls) (Sp.right vars cls) := by
  unfold hoggetref10_Right.f Sp.right
  by_cases h0 : vars < 0
  · refine pos_ev h0 (next_ev ?_)
    simp only [hoggetref10_Right.j0]
    rw [decide_eq_false (show ¬ 0 ≤ vars by omega), Bool.false_and]
    exact pos_ev trivial (Ev.now _)
  · refine neg_ev h0 (next_ev ?_)
    simp only [hoggetref10_Right.j0]
    rw [decide_eq_true (show 0 ≤ vars by omega), Bool.true_and]
    by_cases h1 : vars > 60
    · rw [decide_eq_true h1, decide_eq_false (show ¬ vars ≤ 60 by omega), Bool.false_and]
      exact pos_ev rfl (Ev.now _)
    · rw [decide_eq_false h1, decide_eq_true (show vars ≤ 60 by omega), Bool.true_and]
      refine neg_ev (by decide) ?_
      exact R10.rows (by omega) (by omega) cls hw hcl _ 0 rfl (Nat.zero_le _)

namespace C10
theorem rows (vars : Int) (hv : vars ≤ 60) (cls : List (List Int)) (hcl : cls.length ≤ 3000) (hw : ∀ c ∈ cls, c.length ≤ 1000000000000) :
    ∀ (d j : Nat), cls.length - j = d → j ≤ cls.length → Ev (fun k => hoggetref10_Check.l0 k (j : Int) vars cls) (if (cls.drop j).all (fun c => decide (c.length ≤ 30)) = false then 2 else if Sp.right vars cls = false then 100 else 0) := by
  intro d
  induction d with
  | zero =>
    intro j hd hj
    refine next_ev ?_
    simp only [hoggetref10_Check.l0]
    rw [List.drop_eq_nil_of_le (by omega), if_neg (by simp)]
    refine neg_ev (by omega) (Ev.bind (right_ev vars cls hw (by omega)) ?_)
    cases Sp.right vars cls with
    | true => exact pos_ev rfl (Ev.now _)
    | false => exact neg_ev (by decide) (Ev.now _)
  | succ d ih =>
    intro j hd hj
    have hlt : j < cls.length := by omega
    refine next_ev ?_
    simp only [hoggetref10_Check.l0]
    rw [rdL_at cls j hlt, List.drop_eq_getElem_cons hlt, List.all_cons, wrap_succ hlt (by omega)]
    refine pos_ev (by omega) (pos_ev (by omega) ?_)
    by_cases h : (cls[j].length : Int) > 30
    · rw [decide_eq_false (show ¬ cls[j].length ≤ 30 by omega), Bool.false_and, if_pos rfl]
      exact pos_ev h (Ev.now _)
    · rw [decide_eq_true (show cls[j].length ≤ 30 by omega), Bool.true_and]
      exact neg_ev h (ih (j + 1) (by omega) (by omega))
end C10
theorem check_ev (vars : Int) (cls : List (List Int)) (hw : ∀ c ∈ cls, c.length ≤ 1000000000000) : Ev (fun k => hoggetref10_Check.f k vars cls) (Sp.check vars cls) := by
  unfold hoggetref10_Check.f Sp.check
  by_cases h0 : vars > 60
  · refine pos_ev h0 (next_ev ?_)
    simp only [hoggetref10_Check.j0]
    rw [if_pos (.inl (by omega))]
    exact pos_ev trivial (Ev.now _)
  · refine neg_ev h0 (next_ev ?_)
    simp only [hoggetref10_Check.j0]
    by_cases h1 : (cls.length : Int) > 3000
    · rw [decide_eq_true h1, if_pos (.inr (.inl (by omega)))]
      exact pos_ev rfl (Ev.now _)
    · rw [decide_eq_false h1]
      refine neg_ev (by decide) ?_
      have := C10.rows vars (by omega) cls (by omega) hw _ 0 rfl (Nat.zero_le _)
      have e : (if 60 < vars ∨ 3000 < cls.length ∨ Sp.narrow cls = false then (2 : Int) else if Sp.right vars cls = false then 100 else 0) = (if (cls.drop 0).all (fun c => decide (c.length ≤ 30)) = false then 2 else if Sp.right vars cls = false then 100 else 0) := by
        rw [List.drop_zero]
        show _ = (if Sp.narrow cls = false then (2 : Int) else if Sp.right vars cls = false then 100 else 0)
        by_cases hn : Sp.narrow cls = false
        · rw [if_pos hn, if_pos (.inr (.inr hn))]
        · rw [if_neg hn, if_neg (by rintro (a | a | a) <;> first | omega | exact hn a)]
      rw [e]
      exact this

namespace H10
theorem has_from (l : List Int) (n : Int) (hl : l.length ≤ 1000000000000) : ∀ (d i : Nat), l.length - i = d → i ≤ l.length → Ev (fun k => hoggetref10_has.l0 k l n (i : Int)) ((l.drop i).contains n) := by
  intro d
  induction d with
  | zero =>
    intro i hd hi
    refine next_ev ?_
    simp only [hoggetref10_has.l0]
    rw [List.drop_eq_nil_of_le (by omega)]
    exact neg_ev (by omega) (Ev.now _)
  | succ d ih =>
    intro i hd hi
    have hlt : i < l.length := by omega
    refine next_ev ?_
    simp only [hoggetref10_has.l0]
    rw [rd_at l i hlt, List.drop_eq_getElem_cons hlt, List.contains_cons, wrap_succ hlt hl]
    refine pos_ev (by omega) (pos_ev (by omega) ?_)
    by_cases e : l[i] = n
    · rw [show (n == l[i]) = true from beq_iff_eq.2 e.symm, Bool.true_or]
      exact pos_ev e (Ev.now _)
    · rw [show (n == l[i]) = false from beq_eq_false_iff_ne.2 (fun h => e h.symm), Bool.false_or]
      exact neg_ev e (ih (i + 1) (by omega) (by omega))
end H10
theorem has10_ev (l : List Int) (n : Int) (hl : l.length ≤ 1000000000000) : Ev (fun k => hoggetref10_has.f k l n) (l.contains n) := H10.has_from l n hl _ 0 rfl (Nat.zero_le _)

/-- A clause, tidied: its literals of one variable. -/
def tidyAt (c : List Int) (i : Nat) : List Int := (if c.contains ((i : Int) + 1) then [(i : Int) + 1] else []) ++ (if c.contains (-((i : Int) + 1)) then [-((i : Int) + 1)] else [])
/-- P10.2. -/
def tidied (c : List Int) : List Int := (List.range 60).flatMap (tidyAt c)
def tidy (c : List Int) : List Int × Int := if c.all (Sp.lit 60) = true then (tidied c, 0) else ([], 100)
theorem flat_len (c : List Int) : ∀ j, ((List.range j).flatMap (tidyAt c)).length ≤ 2 * j
  | 0 => by simp
  | j + 1 => by
    rw [List.range_succ, List.flatMap_append, List.length_append]
    have := flat_len c j
    have : ([j].flatMap (tidyAt c)).length ≤ 2 := by
      simp only [List.flatMap_cons, List.flatMap_nil, List.append_nil]
      unfold tidyAt
      rw [List.length_append]
      split <;> split <;> simp
    omega
namespace T10
theorem vars (c : List Int) (hl : c.length ≤ 1000000000000) : ∀ (d j : Nat), 60 - j = d → j ≤ 60 → Ev (fun k => hoggetref10_Tidy.l1 k c ((List.range j).flatMap (tidyAt c)) ((j : Int) + 1)) (tidied c, 0) := by
  intro d
  induction d with
  | zero =>
    intro j hd hj
    refine next_ev ?_
    simp only [hoggetref10_Tidy.l1]
    have : j = 60 := by omega
    subst this
    exact neg_ev (by decide) (Ev.now _)
  | succ d ih =>
    intro j hd hj
    have hlen := flat_len c j
    refine next_ev ?_
    simp only [hoggetref10_Tidy.l1]
    have ew : wrap64 ((j : Int) + 1 + 1) = ((j + 1 : Nat) : Int) + 1 := by unfold wrap64; omega
    have en : wrap64 (-((j : Int) + 1)) = -((j : Int) + 1) := by unfold wrap64; omega
    rw [ew, en]
    have hnx := ih (j + 1) (by omega) (by omega)
    rw [List.range_succ, List.flatMap_append] at hnx
    simp only [List.flatMap_cons, List.flatMap_nil, List.append_nil] at hnx
    unfold tidyAt at hnx
    refine pos_ev (by omega) ?_
    refine Ev.bind (has10_ev c _ hl) ?_
    cases e1 : c.contains ((j : Int) + 1) with
    | true =>
      rw [e1] at hnx
      refine pos_ev rfl (pos_ev (by omega) (some_ev ?_))
      refine Ev.bind (has10_ev c _ hl) ?_
      cases e2 : c.contains (-((j : Int) + 1)) with
      | true =>
        rw [e2] at hnx
        refine pos_ev rfl (pos_ev (by rw [List.length_append, List.length_singleton]; omega) ?_)
        rw [List.append_assoc]
        exact hnx
      | false =>
        rw [e2] at hnx
        exact neg_ev (by decide) hnx
    | false =>
      rw [e1] at hnx
      refine neg_ev (by decide) ?_
      refine Ev.bind (has10_ev c _ hl) ?_
      cases e2 : c.contains (-((j : Int) + 1)) with
      | true =>
        rw [e2] at hnx
        exact pos_ev rfl (pos_ev (by omega) hnx)
      | false =>
        rw [e2] at hnx
        refine neg_ev (by decide) ?_
        simp only [Bool.false_eq_true, if_false, List.append_nil] at hnx
        exact hnx
theorem lits (c : List Int) (hl : c.length ≤ 1000000000000) : ∀ (d i : Nat), c.length - i = d → i ≤ c.length → Ev (fun k => hoggetref10_Tidy.l0 k c (i : Int)) (if (c.drop i).all (Sp.lit 60) = true then (tidied c, 0) else ([], 100)) := by
  intro d
  induction d with
  | zero =>
    intro i hd hi
    refine next_ev ?_
    simp only [hoggetref10_Tidy.l0]
    rw [List.drop_eq_nil_of_le (by omega), if_pos (by rfl)]
    exact neg_ev (by omega) (vars c hl 60 0 rfl (by omega))
  | succ d ih =>
    intro i hd hi
    have hlt : i < c.length := by omega
    refine next_ev ?_
    simp only [hoggetref10_Tidy.l0]
    rw [rd_at c i hlt, List.drop_eq_getElem_cons hlt, List.all_cons, wrap_succ hlt hl]
    simp only [lit_f (vars := 60) (by omega) (by omega)]
    refine pos_ev (by omega) (pos_ev (by omega) (some_ev ?_))
    cases e : Sp.lit 60 c[i] with
    | true => exact pos_ev rfl (ih (i + 1) (by omega) (by omega))
    | false => exact neg_ev (by decide) (Ev.now _)
end T10
theorem tidy10_ev (c : List Int) (hl : c.length ≤ 1000000000000) : Ev (fun k => hoggetref10_Tidy.f k c) (tidy c) := T10.lits c hl _ 0 rfl (Nat.zero_le _)

theorem own_f (l : List Int) (hl : l.length ≤ 1000000000000) : hoggetref10_Own.f l = some l := by
  unfold hoggetref10_Own.f
  rw [if_pos (by simp; omega)]; rfl

namespace O10
theorem rows (l : List (List Int)) (hl : l.length ≤ 1000000) (hw : ∀ c ∈ l, c.length ≤ 1000000000000) : ∀ (d i : Nat), l.length - i = d → i ≤ l.length → Ev (fun k => hoggetref10_OwnAll.l0 k l (l.take i) (i : Int)) l := by
  intro d
  induction d with
  | zero =>
    intro i hd hi
    refine next_ev ?_
    simp only [hoggetref10_OwnAll.l0]
    rw [List.take_of_length_le (by omega)]
    exact neg_ev (by omega) (Ev.now _)
  | succ d ih =>
    intro i hd hi
    have hlt : i < l.length := by omega
    refine next_ev ?_
    simp only [hoggetref10_OwnAll.l0]
    rw [rdL_at l i hlt, wrap_succ hlt (by omega)]
    simp only [own_f _ (hw _ (List.getElem_mem hlt))]
    refine pos_ev (by omega) (pos_ev (by omega) (some_ev (pos_ev (by rw [List.length_take]; omega) ?_)))
    have := ih (i + 1) (by omega) (by omega)
    rw [List.take_succ_eq_append_getElem hlt] at this
    exact this
theorem same (l : List (List Int)) (hl : l.length ≤ 1000000) (hw : ∀ c ∈ l, c.length ≤ 1000000000000) : ∀ (d i : Nat), l.length - i = d → i ≤ l.length → Ev (fun k => hoggetref10_Clauses.l0 k l l (i : Int)) true := by
  intro d
  induction d with
  | zero =>
    intro i hd hi
    refine next_ev ?_
    simp only [hoggetref10_Clauses.l0]
    exact neg_ev (by omega) (Ev.now _)
  | succ d ih =>
    intro i hd hi
    have hlt : i < l.length := by omega
    refine next_ev ?_
    simp only [hoggetref10_Clauses.l0]
    rw [rdL_at l i hlt, wrap_succ hlt (by omega)]
    have h := ints_ev l[i] l[i] (hw _ (List.getElem_mem hlt))
    rw [decide_eq_true rfl] at h
    exact pos_ev (by omega) (pos_ev (by omega) (pos_ev (by omega) (Ev.bind h (pos_ev rfl (ih (i + 1) (by omega) (by omega))))))
end O10
theorem ownAll_ev (l : List (List Int)) (hl : l.length ≤ 1000000) (hw : ∀ c ∈ l, c.length ≤ 1000000000000) : Ev (fun k => hoggetref10_OwnAll.f k l) l := O10.rows l hl hw _ 0 rfl (Nat.zero_le _)
theorem clauses_same (l : List (List Int)) (hl : l.length ≤ 1000000) (hw : ∀ c ∈ l, c.length ≤ 1000000000000) : Ev (fun k => hoggetref10_Clauses.f k l l) true := by
  unfold hoggetref10_Clauses.f
  exact pos_ev rfl (O10.same l hl hw _ 0 rfl (Nat.zero_le _))
theorem ints_same (l : List Int) (hl : l.length ≤ 1000000000000) : Ev (fun k => hoggetref10_Ints.f k l l) true := by
  have h := ints_ev l l hl
  rw [decide_eq_true rfl] at h
  exact h
end Go.Proofs.Ythnbmlpjbhhamaa.J
