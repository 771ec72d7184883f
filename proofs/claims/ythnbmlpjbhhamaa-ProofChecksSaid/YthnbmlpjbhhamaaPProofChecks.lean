/- ProofChecks: what the walk computes is true. -/
import Derived.Test.YthnbmlpjbhhamaaP13
import Derived.Test.YthnbmlpjbhhamaaGn
namespace Go.Proofs.Ythnbmlpjbhhamaa.J
open Go.RowKit Go.Proofs.YthnbmlpjbhhamaaW.PrintWords
set_option linter.unusedVariables false

theorem ProofChecks_ev (v : Int) (cls tr : List (List Int)) : Ev (fun k => hoggetlaw13_ProofChecks.f k v cls tr) true := by
  unfold hoggetlaw13_ProofChecks.f
  refine Ev.bind (large13_ev v cls tr) (ite_ev (fun _ => Ev.now true) (fun hL => ?_))
  obtain ⟨b1, b2, b3, b4⟩ := large13_bounds (by simpa using hL)
  have hw : ∀ c ∈ cls, c.length ≤ 1000000000000 := fun c hc => by have := b2 c hc; omega
  have ht : ∀ c ∈ tr, c.length ≤ 1000000000000 := fun c hc => by have := b4 c hc; omega
  refine Ev.bind (ownAll_ev cls (by omega) hw) (Ev.bind (ownAll_ev tr (by omega) ht) ?_)
  refine Ev.bind (a := Pf.check v cls tr) (ev_some (fun _ => check_f (by omega) (by omega))) ?_
  refine Ev.bind (check13_ev v cls tr (fun c hc => by have := b2 c hc; omega) (by omega) (fun c hc => by have := b4 c hc; omega) (by omega)) ?_
  refine Ev.bind (a := true) (ev_some (fun _ => proves_f)) (pos_ev rfl (pos_ev rfl (pos_ev (by simp) ?_)))
  exact Ev.bind (clauses_same cls (by omega) hw) (pos_ev rfl (Ev.bind (clauses_same tr (by omega) ht) (Ev.now _)))

theorem ProofChecks_walk {W : World} (a0 : Int) (A0 : Option Addr) (c0 : Nat) (l0 : List (List Int)) (hr0 : Kd.C (Kd.slice 3 (Kd.int .i64)) W A0 l0.length l0) (hc0 : l0.length ≤ c0) (w0 : (Lit.int .i64 a0).wf = true) (wl0 : ∀ c ∈ l0, ∀ n ∈ c, (Lit.int .i64 n).wf = true)
    (A1 : Option Addr) (c1 : Nat) (l1 : List (List Int)) (hr1 : Kd.C (Kd.slice 3 (Kd.int .i64)) W A1 l1.length l1) (hc1 : l1.length ≤ c1) (wl1 : ∀ c ∈ l1, ∀ n ∈ c, (Lit.int .i64 n).wf = true) :
    Calls Try.prog 8 #[.agg #[.int .i64 a0, .slice A0 l0.length c0], .slice A1 l1.length c1] W fun e w' => e = .returned (.bool true) ∧ Below W.heap.size W w' := by
  obtain ⟨k, hk⟩ := (ProofChecks_ev a0 l0 l1).rounds
  exact hoggetlaw13_ProofChecks.calls k a0 A0 c0 l0 A1 c1 l1 true W hr0 hc0 hr1 hc1 hk
end Go.Proofs.Ythnbmlpjbhhamaa.J
