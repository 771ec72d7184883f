/- ClauseChecks: what the walk computes is true. -/
import Derived.Test.YthnbmlpjbhhamaaPc
import Derived.Test.YthnbmlpjbhhamaaGu
namespace Go.Proofs.Ythnbmlpjbhhamaa.J
open Go.RowKit Go.Proofs.YthnbmlpjbhhamaaW.PrintWords
set_option linter.unusedVariables false

theorem ClauseChecks_ev (v : Int) (cls : List (List Int)) (m : List Bool) : Ev (fun k => hoggetlaw10_ClauseChecks.f k v cls m) true := by
  unfold hoggetlaw10_ClauseChecks.f
  refine Ev.bind (large10_ev v cls) ?_
  cases hL : bigB cls 3100 60 with
  | true =>
    refine pos_ev rfl (next_ev ?_)
    simp only [hoggetlaw10_ClauseChecks.j0]
    exact pos_ev trivial (Ev.now _)
  | false =>
    obtain ⟨b1, b2⟩ := big_bounds hL
    have hw : ∀ c ∈ cls, c.length ≤ 1000000000000 := fun c hc => by have := b2 c hc; omega
    refine neg_ev (by decide) (next_ev ?_)
    simp only [hoggetlaw10_ClauseChecks.j0]
    by_cases hm : (m.length : Int) > 200
    · exact pos_ev (decide_eq_true hm) (Ev.now _)
    · refine neg_ev (by simp; omega) (Ev.bind (ownAll_ev cls (by omega) hw) (Ev.bind clauses_ev (pos_ev rfl ?_)))
      refine Ev.bind (a := Sp.check v cls) (Ev.now _) (Ev.bind (check_ev v cls hw) (pos_ev rfl ?_))
      refine Ev.bind (a := Sp.sat v cls m) (Ev.now _) (Ev.bind (sat10_ev v cls m (by omega) (by omega) hw) (pos_ev (by simp) ?_))
      exact Ev.bind (clauses_same cls (by omega) hw) (Ev.now _)

theorem ClauseChecks_walk {W : World} (a0 : Int) (A0 : Option Addr) (c0 : Nat) (l0 : List (List Int)) (hr0 : Kd.C (Kd.slice 3 (Kd.int .i64)) W A0 l0.length l0) (hc0 : l0.length ≤ c0) (w0 : (Lit.int .i64 a0).wf = true) (wl0 : ∀ c ∈ l0, ∀ n ∈ c, (Lit.int .i64 n).wf = true)
    (A1 : Option Addr) (c1 : Nat) (l1 : List Bool) (hr1 : Kd.C Kd.bool W A1 l1.length l1) (hc1 : l1.length ≤ c1) :
    Calls Try.prog 20 #[.agg #[.int .i64 a0, .slice A0 l0.length c0], .slice A1 l1.length c1] W fun e w' => e = .returned (.bool true) ∧ Below W.heap.size W w' := by
  obtain ⟨k, hk⟩ := (ClauseChecks_ev a0 l0 l1).rounds
  exact hoggetlaw10_ClauseChecks.calls k a0 A0 c0 l0 A1 c1 l1 true W hr0 hc0 hr1 hc1 hk
end Go.Proofs.Ythnbmlpjbhhamaa.J
