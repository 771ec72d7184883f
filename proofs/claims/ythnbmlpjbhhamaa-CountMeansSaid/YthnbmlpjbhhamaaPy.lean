/- Do all clauses hold? (chapter 14) -/
import Derived.Test.YthnbmlpjbhhamaaPz
import Derived.Test.YthnbmlpjbhhamaaGA
namespace Go.Proofs.Ythnbmlpjbhhamaa.J
open Go.RowKit Go.Proofs.YthnbmlpjbhhamaaW.PrintWords
set_option linter.unusedVariables false

theorem holds_from (cls : List (List Int)) (m : List Bool) (hl : cls.length ≤ 1000000) : ∀ (d i : Nat), cls.length - i = d → i ≤ cls.length → Ev (fun k => hoggetlaw14_holds.l0 k cls m (i : Int)) (Ct.holds (cls.drop i) m) := by
  intro d
  induction d with
  | zero =>
    intro i hd hi
    rw [List.drop_eq_nil_of_le (by omega)]
    refine next_ev ?_
    simp only [hoggetlaw14_holds.l0]
    exact neg_ev (by omega) (Ev.now _)
  | succ d ih =>
    intro i hd hi
    have hlt : i < cls.length := by omega
    rw [List.drop_eq_getElem_cons hlt]
    show Ev _ (Sp.holds cls[i] m && Ct.holds (cls.drop (i + 1)) m)
    refine next_ev ?_
    simp only [hoggetlaw14_holds.l0]
    refine pos_ev (by omega) (pos_ev (by omega) (Ev.bind (a := Sp.holds cls[i] m) (ev_some (fun _ => by rw [rdL_at cls i hlt]; rfl)) ?_))
    cases hh : Sp.holds cls[i] m with
    | true =>
      rw [Bool.true_and, wrap_succ hlt (by omega)]
      exact pos_ev rfl (ih (i + 1) (by omega) (by omega))
    | false =>
      rw [Bool.false_and]
      exact neg_ev (by decide) (Ev.now _)
theorem holds14_ev (cls : List (List Int)) (m : List Bool) (hl : cls.length ≤ 1000000) : Ev (fun k => hoggetlaw14_holds.f k cls m) (Ct.holds cls m) := by
  have h := holds_from cls m hl cls.length 0 rfl (Nat.zero_le _)
  rw [List.drop_zero] at h
  exact h
end Go.Proofs.Ythnbmlpjbhhamaa.J
