/- SolverModels: what the walk computes is true. -/
import Derived.Test.YthnbmlpjbhhamaaP12
import Derived.Test.YthnbmlpjbhhamaaGs
namespace Go.Proofs.Ythnbmlpjbhhamaa.J
open Go.RowKit Go.Proofs.YthnbmlpjbhhamaaW.PrintWords
set_option linter.unusedVariables false

theorem SolverModels_ev (v : Int) (cls : List (List Int)) (m : List Bool) : Ev (fun k => hoggetlaw12_SolverModels.f k v cls m) true := by
  have hend : ∀ b : Bool, b = true → Ev (fun k => hoggetlaw12_SolverModels.j0 k m b v cls) true := by
    intro b hb
    refine next_ev ?_
    simp only [hoggetlaw12_SolverModels.j0]
    exact pos_ev hb (Ev.now _)
  unfold hoggetlaw12_SolverModels.f
  refine Ev.bind (large12_ev v cls 12) (ite_ev (fun _ => hend _ rfl) (fun hL => ?_))
  by_cases hm : (m.length : Int) > 100
  · exact hend _ (decide_eq_true hm)
  · refine next_ev ?_
    simp only [hoggetlaw12_SolverModels.j0]
    refine neg_ev (by simp; omega) (Ev.bind (a := Sv.solve v cls) (ev_some (fun _ => solve_f v cls)) ?_)
    by_cases hc : Sp.check v cls = 0
    · rcases Sv.solve_cases hc with ⟨e, _⟩ | ⟨m1, e, hs, _⟩ | ⟨t, e, hno, _⟩
      · rw [e]
        exact neg_ev (by simp) (Ev.bind solves_ev (pos_ev rfl (neg_ev (by simp) (pos_ev rfl (Ev.now _)))))
      · rw [e]
        refine pos_ev rfl (pos_ev rfl (Ev.bind (a := true) (ev_some (fun _ => by unfold clause_Sat.f; simp only; rw [hs])) (next_ev ?_)))
        simp only [hoggetlaw12_SolverModels.j1]
        refine neg_ev (by simp) (Ev.bind solves_ev (pos_ev rfl (Ev.bind (a := Sp.sat v cls m) (Ev.now _) ?_)))
        exact ite_ev (fun _ => pos_ev trivial (Ev.now _)) (fun _ => Ev.now _)
      · rw [e]
        refine pos_ev rfl (neg_ev (by simp) (next_ev ?_))
        simp only [hoggetlaw12_SolverModels.j1]
        refine neg_ev (by simp) (Ev.bind solves_ev (pos_ev rfl (Ev.bind (a := Sp.sat v cls m) (Ev.now _) (neg_ev (hno m) ?_))))
        have e0 : (((t ++ [[]]).length : Int) == 0) = false := by
          rw [List.length_append, List.length_singleton]
          exact beq_eq_false_iff_ne.2 (by omega)
        refine ev_some (fun _ => ?_)
        rw [e0]
        rfl
    · have e : Sv.solve v cls = (false, [], [], Sp.check v cls) := by unfold Sv.solve; rw [if_pos hc]
      rw [e]
      refine neg_ev hc (Ev.bind solves_ev (pos_ev rfl (neg_ev (by simp) (ite_ev (fun _ => Ev.now _) (fun _ => ?_)))))
      exact Ev.bind (a := Sp.check v cls) (Ev.now _) (ev_some (fun _ => by simp))

theorem SolverModels_walk {W : World} (a0 : Int) (A0 : Option Addr) (c0 : Nat) (l0 : List (List Int)) (hr0 : Kd.C (Kd.slice 3 (Kd.int .i64)) W A0 l0.length l0) (hc0 : l0.length ≤ c0) (w0 : (Lit.int .i64 a0).wf = true) (wl0 : ∀ c ∈ l0, ∀ n ∈ c, (Lit.int .i64 n).wf = true)
    (A1 : Option Addr) (c1 : Nat) (l1 : List Bool) (hr1 : Kd.C Kd.bool W A1 l1.length l1) (hc1 : l1.length ≤ c1) :
    Calls Try.prog 18 #[.agg #[.int .i64 a0, .slice A0 l0.length c0], .slice A1 l1.length c1] W fun e w' => e = .returned (.bool true) ∧ Below W.heap.size W w' := by
  obtain ⟨k, hk⟩ := (SolverModels_ev a0 l0 l1).rounds
  exact hoggetlaw12_SolverModels.calls k a0 A0 c0 l0 A1 c1 l1 true W hr0 hc0 hr1 hc1 hk
end Go.Proofs.Ythnbmlpjbhhamaa.J
