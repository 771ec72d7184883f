/- ProofSolved: what the walk computes is true. -/
import Derived.Test.YthnbmlpjbhhamaaP3
import Derived.Test.YthnbmlpjbhhamaaGp
import Derived.Test.YthnbmlpjbhhamaaPq
namespace Go.Proofs.Ythnbmlpjbhhamaa.J
open Go.RowKit Go.Proofs.YthnbmlpjbhhamaaW.PrintWords
set_option linter.unusedVariables false

theorem ProofSolved_ev (v : Int) (cls : List (List Int)) : Ev (fun k => hoggetlaw13_ProofSolved.f k v cls) true := by
  have hend : ∀ b : Bool, b = true → Ev (fun k => hoggetlaw13_ProofSolved.j0 k b v cls) true := by
    intro b hb
    refine next_ev ?_
    simp only [hoggetlaw13_ProofSolved.j0]
    exact pos_ev hb (Ev.now _)
  have hend1 : ∀ (b : Bool) x y z, b = true → Ev (fun k => hoggetlaw13_ProofSolved.j1 k b v cls x y z) true := by
    intro b x y z hb
    refine next_ev ?_
    simp only [hoggetlaw13_ProofSolved.j1]
    exact pos_ev hb (Ev.bind (a := true) (ev_some (fun _ => proves_f)) (Ev.now _))
  unfold hoggetlaw13_ProofSolved.f
  refine Ev.bind (large13_ev v cls []) (ite_ev (fun _ => hend _ rfl) (fun hL => ?_))
  have hL0 : large13 cls [] = false := by simpa using hL
  obtain ⟨b1, b2, b3, b4⟩ := large13_bounds hL0
  by_cases hv : v > 12
  · exact hend _ (decide_eq_true hv)
  · refine next_ev ?_
    simp only [hoggetlaw13_ProofSolved.j0]
    refine neg_ev (by simp; omega) (Ev.bind (a := Sv.solve v cls) (ev_some (fun _ => solver_Solve.f_eq v cls)) ?_)
    by_cases hc : Sp.check v cls = 0
    · rcases Sv.solve_cases hc with ⟨e, _⟩ | ⟨m, e, _⟩ | ⟨t, e, _, hall⟩
      · rw [e]; exact neg_ev (by simp) (hend1 _ _ _ _ rfl)
      · rw [e]; exact pos_ev rfl (pos_ev rfl (hend1 _ _ _ _ rfl))
      · rw [e]
        refine pos_ev rfl (neg_ev (by simp) ?_)
        by_cases hl : ((t ++ [[]]).length : Int) > 150
        · exact hend1 _ _ _ _ (decide_eq_true hl)
        · have hcl : cls.length ≤ 40 := by
            have := (Sp.check_iff.1 hc).2.1
            unfold large13 at hL0
            rw [if_neg (by omega), Bool.or_eq_false_iff] at hL0
            have := (big_bounds hL0.1).1
            omega
          refine next_ev ?_
          simp only [hoggetlaw13_ProofSolved.j1]
          refine neg_ev (by simpa using hl) (Ev.bind (a := Pf.check v cls (t ++ [[]])) (ev_some (fun _ => check_f (by omega) (by omega))) ?_)
          have hch := Pf.check_holds (Pf.all_goes hc (by omega) (by omega) hall)
          have hlast : ((t ++ [[]]).getD ((t ++ [[]]).length - 1) []).length = 0 := by
            rw [List.length_append, List.length_singleton, Nat.add_sub_cancel, List.getD_eq_getElem?_getD, List.getElem?_append_right (Nat.le_refl _), Nat.sub_self]; rfl
          have hpos : 0 < (t ++ [[]]).length := by rw [List.length_append, List.length_singleton]; omega
          rw [hlast, decide_eq_true hpos] at hch
          rw [hch]
          exact Ev.bind (a := true) (ev_some (fun _ => proves_f)) (pos_ev rfl (pos_ev (by simp) (ev_some (fun _ => by simp))))
    · have e : Sv.solve v cls = (false, [], [], Sp.check v cls) := by unfold Sv.solve; rw [if_pos hc]
      rw [e]
      exact neg_ev hc (hend1 _ _ _ _ rfl)

theorem ProofSolved_walk {W : World} (a0 : Int) (A0 : Option Addr) (c0 : Nat) (l0 : List (List Int)) (hr0 : Kd.C (Kd.slice 3 (Kd.int .i64)) W A0 l0.length l0) (hc0 : l0.length ≤ c0) (w0 : (Lit.int .i64 a0).wf = true) (wl0 : ∀ c ∈ l0, ∀ n ∈ c, (Lit.int .i64 n).wf = true) :
    Calls Try.prog 19 #[.agg #[.int .i64 a0, .slice A0 l0.length c0]] W fun e w' => e = .returned (.bool true) ∧ Below W.heap.size W w' := by
  obtain ⟨k, hk⟩ := (ProofSolved_ev a0 l0).rounds
  exact hoggetlaw13_ProofSolved.calls k a0 A0 c0 l0 true W hr0 hc0 hk
end Go.Proofs.Ythnbmlpjbhhamaa.J
