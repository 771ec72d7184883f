/- More of what the references of layer 10 answer: models; the document's rows of chapter 10. -/
import Derived.Test.YthnbmlpjbhhamaaP10
import Derived.Test.YthnbmlpjbhhamaaGc
import Derived.Test.YthnbmlpjbhhamaaGt
import Derived.Test.YthnbmlpjbhhamaaGK
namespace Go.Proofs.Ythnbmlpjbhhamaa.J
open Go.RowKit Go.Proofs.YthnbmlpjbhhamaaW.PrintWords
set_option linter.unusedVariables false

theorem true_f (n : Int) (m : List Bool) (hm : m.length ≤ 1000000) : hoggetref10_True.f n m = some (Sp.trueIn m n) := by
  unfold hoggetref10_True.f Sp.trueIn
  by_cases h0 : n > 0
  · rw [if_pos h0]
    by_cases h1 : n ≤ (m.length : Int)
    · rw [if_pos h1]
      by_cases h2 : n ≤ 60
      · have e : wrap64 (n - 1) = n - 1 := by unfold wrap64; omega
        rw [if_pos h2, e, if_pos (by omega), if_pos (by omega), Sp.lit_iff.2 (by omega), decide_eq_true (show n.natAbs ≤ m.length by omega), decide_eq_true (show 0 < n by omega)]
        have e2 : (n - 1).toNat = n.natAbs - 1 := by omega
        unfold rdOf
        rw [e2]
        simp
      · rw [if_neg h2, Sp.lit_false.2 (by omega)]; rfl
    · rw [if_neg h1, decide_eq_false (show ¬ n.natAbs ≤ m.length by omega)]; simp
  · rw [if_neg h0]
    by_cases h3 : n < 0
    · rw [if_pos h3]
      by_cases h4 : n ≥ -60
      · have e : wrap64 (-n) = -n := by unfold wrap64; omega
        have e3 : wrap64 (-n - 1) = -n - 1 := by unfold wrap64; omega
        rw [if_pos h4, e, e3]
        by_cases h5 : -n ≤ (m.length : Int)
        · have e2 : (-n - 1).toNat = n.natAbs - 1 := by omega
          rw [if_pos h5, if_pos (by omega), if_pos (by omega), Sp.lit_iff.2 (by omega), decide_eq_true (show n.natAbs ≤ m.length by omega), decide_eq_false (show ¬ 0 < n by omega)]
          unfold rdOf
          rw [e2]
          simp
        · rw [if_neg h5, decide_eq_false (show ¬ n.natAbs ≤ m.length by omega)]; simp
      · rw [if_neg h4, Sp.lit_false.2 (by omega)]; rfl
    · rw [if_neg h3, Sp.lit_false.2 (by omega)]; rfl
namespace H10c
theorem rows (c : List Int) (m : List Bool) (hm : m.length ≤ 1000000) (hc : c.length ≤ 1000000000000) : ∀ (d i : Nat), c.length - i = d → i ≤ c.length → Ev (fun k => hoggetref10_Holds.l0 k c m (i : Int)) (Sp.holds (c.drop i) m) := by
  intro d
  induction d with
  | zero =>
    intro i hd hi
    refine next_ev ?_
    simp only [hoggetref10_Holds.l0]
    rw [List.drop_eq_nil_of_le (by omega)]
    exact neg_ev (by omega) (Ev.now _)
  | succ d ih =>
    intro i hd hi
    have hlt : i < c.length := by omega
    refine next_ev ?_
    simp only [hoggetref10_Holds.l0]
    rw [rd_at c i hlt, List.drop_eq_getElem_cons hlt, wrap_succ hlt hc]
    simp only [true_f _ m hm]
    have e : Sp.holds (c[i] :: c.drop (i + 1)) m = (Sp.trueIn m c[i] || Sp.holds (c.drop (i + 1)) m) := rfl
    rw [e]
    refine pos_ev (by omega) (pos_ev (by omega) (some_ev ?_))
    cases h : Sp.trueIn m c[i] with
    | true => exact pos_ev rfl (Ev.now _)
    | false => exact neg_ev (by decide) (ih (i + 1) (by omega) (by omega))
end H10c
theorem holds10_ev (c : List Int) (m : List Bool) (hm : m.length ≤ 1000000) (hc : c.length ≤ 1000000000000) : Ev (fun k => hoggetref10_Holds.f k c m) (Sp.holds c m) := by
  have h := H10c.rows c m hm hc _ 0 rfl (Nat.zero_le _)
  rw [List.drop_zero] at h
  exact h
namespace S10c
theorem rows (v : Int) (cls : List (List Int)) (m : List Bool) (hm : m.length ≤ 1000000) (hc : cls.length ≤ 1000000) (hw : ∀ c ∈ cls, c.length ≤ 1000000000000) : ∀ (d i : Nat), cls.length - i = d → i ≤ cls.length → Ev (fun k => hoggetref10_Sat.l0 k m (i : Int) v cls) ((cls.drop i).all (fun c => Sp.holds c m)) := by
  intro d
  induction d with
  | zero =>
    intro i hd hi
    refine next_ev ?_
    simp only [hoggetref10_Sat.l0]
    rw [List.drop_eq_nil_of_le (by omega)]
    exact neg_ev (by omega) (Ev.now _)
  | succ d ih =>
    intro i hd hi
    have hlt : i < cls.length := by omega
    refine next_ev ?_
    simp only [hoggetref10_Sat.l0]
    rw [rdL_at cls i hlt, List.drop_eq_getElem_cons hlt, List.all_cons, wrap_succ hlt (by omega)]
    refine pos_ev (by omega) (pos_ev (by omega) (Ev.bind (holds10_ev _ m hm (hw _ (List.getElem_mem hlt))) ?_))
    cases h : Sp.holds cls[i] m with
    | true => exact pos_ev rfl (ih (i + 1) (by omega) (by omega))
    | false => exact neg_ev (by decide) (Ev.now _)
end S10c
theorem sat10_ev (v : Int) (cls : List (List Int)) (m : List Bool) (hm : m.length ≤ 1000000) (hc : cls.length ≤ 1000000) (hw : ∀ c ∈ cls, c.length ≤ 1000000000000) : Ev (fun k => hoggetref10_Sat.f k v cls m) (Sp.sat v cls m) := by
  unfold hoggetref10_Sat.f Sp.sat
  refine Ev.bind (right_ev v cls hw (by omega)) ?_
  cases hr : Sp.right v cls with
  | false =>
    refine neg_ev (by decide) (next_ev ?_)
    simp only [hoggetref10_Sat.j0]
    exact pos_ev trivial (Ev.now _)
  | true =>
    refine pos_ev rfl (next_ev ?_)
    simp only [hoggetref10_Sat.j0]
    by_cases h : (m.length : Int) = v
    · rw [decide_eq_true h]
      refine neg_ev (by simp [h]) ?_
      have h9 := S10c.rows v cls m hm hc hw _ 0 rfl (Nat.zero_le _)
      rw [List.drop_zero] at h9
      exact h9
    · rw [decide_eq_false h]
      exact pos_ev (by simp [h]) (Ev.now _)
theorem large10_ev (v : Int) (cls : List (List Int)) : Ev (fun k => hoggetlaw10_large.f k v cls) (bigB cls 3100 60) := by
  unfold hoggetlaw10_large.f
  exact Ev.bind (big_ev cls 3100 60 (by omega)) (Ev.now _)
theorem tidy_f (l : List Int) (h : l.length ≤ 17592186043904) : clause_Tidy.f l = some (Td.tidy l) := by rw [clause_Tidy.f_eq, if_pos h]
theorem clauses_ev : Ev (fun k => hoggetlaw10_clauses.f k) true := by
  unfold hoggetlaw10_clauses.f
  refine Ev.bind (a := ([1, -1, 2], 0)) (ev_some (fun _ => by rw [tidy_f _ (by decide)]; congr 1)) ?_
  refine Ev.bind (a := ([], 100)) (ev_some (fun _ => by rw [tidy_f _ (by decide)]; congr 1)) ?_
  refine some_ev (pos_ev rfl (Ev.bind (ints_same _ (by decide)) (pos_ev rfl (pos_ev rfl ?_))))
  exact ev_some (fun _ => by decide)
end Go.Proofs.Ythnbmlpjbhhamaa.J
