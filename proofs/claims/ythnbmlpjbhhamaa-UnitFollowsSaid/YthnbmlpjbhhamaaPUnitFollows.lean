/- UnitFollows: what the walk computes is true. -/
import Derived.Test.YthnbmlpjbhhamaaPe
import Derived.Test.YthnbmlpjbhhamaaP11
import Derived.Test.YthnbmlpjbhhamaaGH
namespace Go.Proofs.Ythnbmlpjbhhamaa.J
open Go.RowKit Go.Proofs.YthnbmlpjbhhamaaW.PrintWords
set_option linter.unusedVariables false

theorem UnitFollows_ev (v : Int) (cls : List (List Int)) (fixed : List Int) : Ev (fun k => hoggetlaw11_UnitFollows.f k v cls fixed) true := by
  unfold hoggetlaw11_UnitFollows.f
  refine Ev.bind (large11_ev v cls fixed) (ite_ev (fun _ => Ev.now true) (fun hL => ?_))
  obtain ⟨b1, b2, b3⟩ := large11_bounds (by simpa using hL)
  have hs : Small cls fixed := ⟨b2, b3, by omega⟩
  have hw : ∀ c ∈ cls, c.length ≤ 1000000000000 := fun c hc => by have := b3 c hc; omega
  refine Ev.bind (ownAll_ev cls (by omega) hw) (Ev.bind (a := fixed) (ev_some (fun _ => own_f fixed (by omega))) ?_)
  refine Ev.bind (a := Uk.prop v cls fixed) (Ev.now _) (Ev.bind (prop11_ev v cls fixed hs) (Ev.bind follows11_ev (pos_ev rfl (pos_ev rfl ?_))))
  have hps := Uk.prop_small v cls fixed
  refine Ev.bind (ints_same _ (by omega)) (pos_ev rfl ?_)
  refine Ev.bind (a := Uk.free v cls fixed) (Ev.now _) (Ev.bind (free11_ev v cls fixed hs) (pos_ev rfl ?_))
  exact Ev.bind (clauses_same cls (by omega) hw) (pos_ev rfl (Ev.bind (ints_same fixed (by omega)) (Ev.now _)))

theorem UnitFollows_walk {W : World} (a0 : Int) (A0 : Option Addr) (c0 : Nat) (l0 : List (List Int)) (hr0 : Kd.C (Kd.slice 3 (Kd.int .i64)) W A0 l0.length l0) (hc0 : l0.length ≤ c0) (w0 : (Lit.int .i64 a0).wf = true) (wl0 : ∀ c ∈ l0, ∀ n ∈ c, (Lit.int .i64 n).wf = true)
    (A1 : Option Addr) (c1 : Nat) (l1 : List Int) (hr1 : Kd.C (Kd.int .i64) W A1 l1.length l1) (hc1 : l1.length ≤ c1) (wl1 : ∀ n ∈ l1, (Lit.int .i64 n).wf = true) :
    Calls Try.prog 3 #[.agg #[.int .i64 a0, .slice A0 l0.length c0], .slice A1 l1.length c1] W fun e w' => e = .returned (.bool true) ∧ Below W.heap.size W w' := by
  obtain ⟨k, hk⟩ := (UnitFollows_ev a0 l0 l1).rounds
  exact hoggetlaw11_UnitFollows.calls k a0 A0 c0 l0 A1 c1 l1 true W hr0 hc0 hr1 hc1 hk
end Go.Proofs.Ythnbmlpjbhhamaa.J
