/- CountTurned: what the walk computes is true. -/
import Derived.Test.YthnbmlpjbhhamaaPy
import Derived.Test.YthnbmlpjbhhamaaGE
namespace Go.Proofs.Ythnbmlpjbhhamaa.J
open Go.RowKit Go.Proofs.YthnbmlpjbhhamaaW.PrintWords
set_option linter.unusedVariables false

theorem turned_end (l : List Int) (m : List Bool) (hl : l.length ≤ 60) : Ev (fun k => hoggetlaw14_CountTurned.l0 k l m l.reverse (-1)) true := by
  refine next_ev ?_
  simp only [hoggetlaw14_CountTurned.l0]
  refine neg_ev (by decide) (Ev.bind (a := Ct.atMost l) (ev_some (fun _ => count_AtMost.f_eq l (by omega))) ?_)
  refine Ev.bind (a := Ct.atMost l.reverse) (ev_some (fun _ => count_AtMost.f_eq l.reverse (by rw [List.length_reverse]; omega))) (Ev.bind counts_ev (pos_ev rfl ?_))
  have hgr : Ct.good l.reverse = Ct.good l := by unfold Ct.good; rw [List.all_reverse]
  have hle := Ct.pairs_le l (by omega)
  have hlr : (Ct.pairs l.reverse).length = (Ct.pairs l).length := by
    have h1 := Ct.pairs_len l
    have h2 := Ct.pairs_len l.reverse
    rw [List.length_reverse] at h2
    omega
  have hle2 : (Ct.pairs l.reverse).length ≤ 1000000 := by omega
  unfold Ct.atMost
  rw [hgr]
  by_cases hg : Ct.good l = true
  · rw [if_pos hg, if_pos hg]
    refine pos_ev rfl (pos_ev (by simp only; omega) (Ev.bind (holds14_ev _ m hle) (Ev.bind (holds14_ev _ m hle2) (ev_some (fun _ => ?_)))))
    rw [Ct.turned_pairs, beq_self_eq_true]
  · rw [if_neg hg, if_neg hg]
    refine pos_ev rfl (pos_ev rfl (Ev.bind (holds14_ev _ m (by simp)) (Ev.bind (holds14_ev _ m (by simp)) (ev_some (fun _ => ?_)))))
    rw [beq_self_eq_true]
theorem turned_down (l : List Int) (m : List Bool) (hl : l.length ≤ 60) : ∀ (i : Nat), i ≤ l.length → Ev (fun k => hoggetlaw14_CountTurned.l0 k l m (l.drop i).reverse ((i : Int) - 1)) true := by
  intro i
  induction i with
  | zero =>
    intro hi
    rw [List.drop_zero]
    exact turned_end l m hl
  | succ i ih =>
    intro hi
    have hlt : i < l.length := by omega
    have e : ((i + 1 : Nat) : Int) - 1 = (i : Int) := by omega
    rw [e]
    refine next_ev ?_
    simp only [hoggetlaw14_CountTurned.l0]
    refine pos_ev (by omega) (pos_ev (by omega) (pos_ev (by omega) (pos_ev (by rw [List.length_reverse, List.length_drop]; omega) ?_)))
    have e2 : wrap64 ((i : Int) - 1) = (i : Int) - 1 := by unfold wrap64; omega
    have e3 : (l.drop (i + 1)).reverse ++ [rd l (i : Int)] = (l.drop i).reverse := by
      rw [rd_at l i hlt, List.drop_eq_getElem_cons hlt, List.reverse_cons]
    rw [e2, e3]
    exact ih (by omega)
theorem CountTurned_ev (l : List Int) (m : List Bool) : Ev (fun k => hoggetlaw14_CountTurned.f k l m) true := by
  have hend : Ev (fun k => hoggetlaw14_CountTurned.j0 k l m true) true := by
    refine next_ev ?_
    simp only [hoggetlaw14_CountTurned.j0]
    exact pos_ev trivial (Ev.now _)
  unfold hoggetlaw14_CountTurned.f
  by_cases hl : (l.length : Int) > 60
  · exact pos_ev hl hend
  · refine neg_ev hl ?_
    by_cases hm : (m.length : Int) > 100
    · rw [decide_eq_true hm]; exact hend
    · rw [decide_eq_false hm]
      refine next_ev ?_
      simp only [hoggetlaw14_CountTurned.j0]
      refine neg_ev (by decide) ?_
      have h := turned_down l m (by omega) l.length (Nat.le_refl _)
      rw [List.drop_length] at h
      have e : wrap64 ((l.length : Int) - 1) = (l.length : Int) - 1 := by unfold wrap64; omega
      rw [e]
      exact h

theorem CountTurned_walk {W : World} (A0 : Option Addr) (c0 : Nat) (l0 : List Int) (hr0 : Kd.C (Kd.int .i64) W A0 l0.length l0) (hc0 : l0.length ≤ c0) (wl0 : ∀ n ∈ l0, (Lit.int .i64 n).wf = true)
    (A1 : Option Addr) (c1 : Nat) (l1 : List Bool) (hr1 : Kd.C Kd.bool W A1 l1.length l1) (hc1 : l1.length ≤ c1) :
    Calls Try.prog 30 #[.slice A0 l0.length c0, .slice A1 l1.length c1] W fun e w' => e = .returned (.bool true) ∧ Below W.heap.size W w' := by
  obtain ⟨k, hk⟩ := (CountTurned_ev l0 l1).rounds
  exact hoggetlaw14_CountTurned.calls k A0 c0 l0 A1 c1 l1 true W hr0 hc0 hr1 hc1 hk
end Go.Proofs.Ythnbmlpjbhhamaa.J
