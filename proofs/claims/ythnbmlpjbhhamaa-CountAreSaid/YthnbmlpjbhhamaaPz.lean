/- The document's rows of chapter 14; when all clauses hold. -/
import Derived.Test.YthnbmlpjbhhamaaP10
import Derived.Test.YthnbmlpjbhhamaaGM
namespace Go.Proofs.Ythnbmlpjbhhamaa.J
open Go.RowKit Go.Proofs.YthnbmlpjbhhamaaW.PrintWords
set_option linter.unusedVariables false

theorem counts_ev : Ev (fun k => hoggetlaw14_counts.f k) true := by
  unfold hoggetlaw14_counts.f
  refine Ev.bind (a := ([[-1, 2], [-1, -3], [2, -3]], 0)) (ev_some (fun _ => (count_AtMost.f_eq _ (by decide)).trans (congrArg some (by decide)))) ?_
  refine Ev.bind (a := ([[1, 2], [-1, -2]], 0)) (ev_some (fun _ => (count_Exactly.f_eq _ (by decide)).trans (congrArg some (by decide)))) ?_
  refine Ev.bind (a := ([-1, 2, 3], 0)) (ev_some (fun _ => (count_Implies.f_eq _ _ (by decide)).trans (congrArg some (by decide)))) ?_
  refine Ev.bind (a := ([[-1, -2], [-1, -3]], 0)) (ev_some (fun _ => (count_Never.f_eq _ _ (by decide)).trans (congrArg some (by decide)))) ?_
  refine Ev.bind (a := ([], 100)) (ev_some (fun _ => (count_AtMost.f_eq _ (by decide)).trans (congrArg some (by decide)))) ?_
  refine pos_ev rfl (pos_ev rfl (pos_ev rfl (pos_ev rfl (pos_ev rfl ?_))))
  refine Ev.bind (clauses_same _ (by decide) (by simp)) (pos_ev rfl (Ev.bind (clauses_same _ (by decide) (by simp)) (pos_ev rfl ?_)))
  exact Ev.bind (ints_same _ (by decide)) (pos_ev rfl (Ev.bind (clauses_same _ (by decide) (by simp)) (Ev.now _)))
end Go.Proofs.Ythnbmlpjbhhamaa.J
