/- ClauseTurned: what the walk computes is true. -/
import Derived.Test.YthnbmlpjbhhamaaPc
import Derived.Test.YthnbmlpjbhhamaaGx
import Derived.Test.YthnbmlpjbhhamaaUq
namespace Go.Proofs.Ythnbmlpjbhhamaa.J
open Go.RowKit Go.Proofs.YthnbmlpjbhhamaaW.PrintWords
set_option linter.unusedVariables false

theorem hold_one (n : Int) (m : List Bool) : Sp.holds [n] m = Sp.trueIn m n := by unfold Sp.holds; simp
theorem true_value {m : List Bool} {v : Int} (h0 : 1 ≤ v) (h1 : v ≤ 60) (hl : v ≤ m.length) : Sp.trueIn m v = m.getD (v.toNat - 1) false ∧ Sp.trueIn m (-v) = !m.getD (v.toNat - 1) false := by
  unfold Sp.trueIn
  have e : v.natAbs = v.toNat := by omega
  rw [Int.natAbs_neg, e, Sp.lit_iff.2 (by omega), Sp.lit_iff.2 (by omega), decide_eq_true (show v.toNat ≤ m.length by omega), decide_eq_true (show 0 < v by omega), decide_eq_false (show ¬ 0 < -v by omega)]
  simp
theorem true_none {m : List Bool} {v : Int} (h0 : 1 ≤ v) (hl : (m.length : Int) < v) : Sp.trueIn m v = false ∧ Sp.trueIn m (-v) = false := by
  unfold Sp.trueIn
  rw [Int.natAbs_neg, decide_eq_false (show ¬ v.natAbs ≤ m.length by omega)]
  simp
theorem ClauseTurned_ev (m : List Bool) (v : Int) : Ev (fun k => hoggetlaw10_ClauseTurned.f k m v) true := by
  have hend : ∀ b : Bool, b = true → Ev (fun k => hoggetlaw10_ClauseTurned.j0 k m v b) true := by
    intro b hb
    refine next_ev ?_
    simp only [hoggetlaw10_ClauseTurned.j0]
    exact pos_ev hb (Ev.bind clauses_ev (Ev.now _))
  unfold hoggetlaw10_ClauseTurned.f
  by_cases hm : (m.length : Int) > 200
  · exact pos_ev hm (hend _ rfl)
  · refine neg_ev hm ?_
    by_cases h1 : v < 1
    · exact pos_ev h1 (hend _ rfl)
    · refine neg_ev h1 ?_
      by_cases h2 : v > 60
      · exact hend _ (decide_eq_true h2)
      · refine next_ev ?_
        simp only [hoggetlaw10_ClauseTurned.j0]
        have ew : wrap64 (-v) = -v := by unfold wrap64; omega
        have ew1 : wrap64 (v - 1) = v - 1 := by unfold wrap64; omega
        rw [ew, ew1]
        refine neg_ev (by simp; omega) ?_
        refine Ev.bind (a := Sp.holds [v] m) (Ev.now _) (Ev.bind (a := Sp.holds [-v] m) (Ev.now _) ?_)
        rw [hold_one, hold_one]
        by_cases h3 : v > (m.length : Int)
        · obtain ⟨t1, t2⟩ := true_none (m := m) (v := v) (by omega) (by omega)
          rw [t1, t2]
          exact pos_ev h3 (Ev.bind clauses_ev (pos_ev rfl (neg_ev (by decide) (Ev.now _))))
        · obtain ⟨t1, t2⟩ := true_value (m := m) (v := v) (by omega) (by omega) (by omega)
          rw [t1, t2]
          have e3 : rdOf false m (v - 1) = m.getD (v.toNat - 1) false := by
            unfold rdOf
            rw [show (v - 1).toNat = v.toNat - 1 by omega]
          refine neg_ev h3 (Ev.bind clauses_ev (pos_ev rfl (pos_ev (by cases m.getD (v.toNat - 1) false <;> rfl) (pos_ev (by omega) (pos_ev (by omega) (pos_ev (by rw [e3]; simp) ?_))))))
          refine ev_some (fun _ => ?_)
          have e4 : Sp.holds [v, -v] m = (Sp.trueIn m v || Sp.trueIn m (-v)) := by unfold Sp.holds; simp
          unfold clause_Holds.f
          rw [e4, t1, t2]
          cases m.getD (v.toNat - 1) false <;> rfl

theorem ClauseTurned_walk {W : World} (A0 : Option Addr) (c0 : Nat) (l0 : List Bool) (hr0 : Kd.C Kd.bool W A0 l0.length l0) (hc0 : l0.length ≤ c0) (a1 : Int) (w1 : (Lit.int .i64 a1).wf = true) :
    Calls Try.prog 24 #[.slice A0 l0.length c0, .int .i64 a1] W fun e w' => e = .returned (.bool true) ∧ Below W.heap.size W w' := by
  obtain ⟨k, hk⟩ := (ClauseTurned_ev l0 a1).rounds
  exact hoggetlaw10_ClauseTurned.calls k A0 c0 l0 a1 true W hr0 hc0 hk
end Go.Proofs.Ythnbmlpjbhhamaa.J
