/- ProofHolds: what the walk computes is true. -/
import Derived.Test.YthnbmlpjbhhamaaP3
import Derived.Test.YthnbmlpjbhhamaaGo
import Derived.Test.YthnbmlpjbhhamaaPq
namespace Go.Proofs.Ythnbmlpjbhhamaa.J
open Go.RowKit Go.Proofs.YthnbmlpjbhhamaaW.PrintWords
set_option linter.unusedVariables false

theorem holds_loop (v : Int) (cls tr : List (List Int)) (m : List Bool) (htn : tr.length ≤ 1000000) (n : Nat) (hn : n ≤ tr.length) (hh : ∀ i (hi : i < tr.length), i < n → Sp.holds tr[i] m = true) :
    ∀ (d i : Nat), n - i = d → i ≤ n → Ev (fun k => hoggetlaw13_ProofHolds.l0 k tr m (n : Int) (i : Int)) true := by
  intro d
  induction d with
  | zero =>
    intro i hd hi
    refine next_ev ?_
    simp only [hoggetlaw13_ProofHolds.l0]
    exact neg_ev (by omega) (Ev.bind (a := true) (ev_some (fun _ => proves_f)) (Ev.now _))
  | succ d ih =>
    intro i hd hi
    have hlt : i < tr.length := by omega
    refine next_ev ?_
    simp only [hoggetlaw13_ProofHolds.l0]
    rw [rdL_at tr i hlt, wrap_succ hlt (by omega)]
    refine pos_ev (by omega) (pos_ev (by omega) (pos_ev (by omega) (Ev.bind (a := true) (ev_some (fun _ => by unfold clause_Holds.f; rw [hh i hlt (by omega)])) (pos_ev rfl ?_))))
    exact ih (i + 1) (by omega) (by omega)
theorem ProofHolds_ev (v : Int) (cls tr : List (List Int)) (m : List Bool) : Ev (fun k => hoggetlaw13_ProofHolds.f k v cls tr m) true := by
  have hend : ∀ b : Bool, b = true → Ev (fun k => hoggetlaw13_ProofHolds.j0 k tr m b v cls) true := by
    intro b hb
    refine next_ev ?_
    simp only [hoggetlaw13_ProofHolds.j0]
    exact pos_ev hb (Ev.now _)
  unfold hoggetlaw13_ProofHolds.f
  refine Ev.bind (large13_ev v cls tr) (ite_ev (fun _ => hend _ rfl) (fun hL => ?_))
  obtain ⟨b1, b2, b3, b4⟩ := large13_bounds (by simpa using hL)
  by_cases hm : (m.length : Int) > 100
  · exact hend _ (decide_eq_true hm)
  · refine next_ev ?_
    simp only [hoggetlaw13_ProofHolds.j0]
    refine neg_ev (by simp; omega) (Ev.bind (a := Sp.sat v cls m) (Ev.now _) ?_)
    cases hs : Sp.sat v cls m with
    | false => exact neg_ev (by decide) (Ev.bind (a := true) (ev_some (fun _ => proves_f)) (Ev.now _))
    | true =>
      refine pos_ev rfl (Ev.bind (a := Pf.check v cls tr) (ev_some (fun _ => check_f (by omega) (by omega))) ?_)
      rcases Pf.check_cases v cls tr with ⟨i, h1, h2, h3, e⟩ | ⟨h2, e⟩
      · rw [e]
        refine neg_ev (by simp) (neg_ev (by simp) (next_ev ?_))
        simp only [hoggetlaw13_ProofHolds.j1]
        refine neg_ev (by simp; omega) ?_
        exact holds_loop v cls tr m (by omega) i (by omega) (fun j hj hji => Pf.goes_holds hs h2 j hj hji) _ 0 rfl (Nat.zero_le _)
      · have hall := fun j hj => Pf.goes_holds hs h2 j hj hj
        have hb : (decide (0 < tr.length) && decide ((tr.getD (tr.length - 1) []).length = 0)) = false := by
          rw [Bool.and_eq_false_iff]
          by_cases h0 : 0 < tr.length
          · right
            rw [decide_eq_false_iff_not]
            intro hz
            have h9 := hall (tr.length - 1) (by omega)
            rw [get_row tr _ (by omega)] at hz
            rw [List.eq_nil_of_length_eq_zero hz] at h9
            exact absurd h9 (by simp [Sp.holds])
          · left; exact decide_eq_false h0
        rw [e, hb]
        refine neg_ev (by simp) (neg_ev (by simp) (next_ev ?_))
        simp only [hoggetlaw13_ProofHolds.j1]
        refine neg_ev (by simp) ?_
        exact holds_loop v cls tr m (by omega) tr.length (Nat.le_refl _) (fun j hj _ => hall j hj) _ 0 rfl (Nat.zero_le _)

theorem ProofHolds_walk {W : World} (a0 : Int) (A0 : Option Addr) (c0 : Nat) (l0 : List (List Int)) (hr0 : Kd.C (Kd.slice 3 (Kd.int .i64)) W A0 l0.length l0) (hc0 : l0.length ≤ c0) (w0 : (Lit.int .i64 a0).wf = true) (wl0 : ∀ c ∈ l0, ∀ n ∈ c, (Lit.int .i64 n).wf = true)
    (A1 : Option Addr) (c1 : Nat) (l1 : List (List Int)) (hr1 : Kd.C (Kd.slice 3 (Kd.int .i64)) W A1 l1.length l1) (hc1 : l1.length ≤ c1) (wl1 : ∀ c ∈ l1, ∀ n ∈ c, (Lit.int .i64 n).wf = true) (A2 : Option Addr) (c2 : Nat) (l2 : List Bool) (hr2 : Kd.C Kd.bool W A2 l2.length l2) (hc2 : l2.length ≤ c2) :
    Calls Try.prog 12 #[.agg #[.int .i64 a0, .slice A0 l0.length c0], .slice A1 l1.length c1, .slice A2 l2.length c2] W fun e w' => e = .returned (.bool true) ∧ Below W.heap.size W w' := by
  obtain ⟨k, hk⟩ := (ProofHolds_ev a0 l0 l1 l2).rounds
  exact hoggetlaw13_ProofHolds.calls k a0 A0 c0 l0 A1 c1 l1 A2 c2 l2 true W hr0 hc0 hr1 hc1 hr2 hc2 hk
end Go.Proofs.Ythnbmlpjbhhamaa.J
