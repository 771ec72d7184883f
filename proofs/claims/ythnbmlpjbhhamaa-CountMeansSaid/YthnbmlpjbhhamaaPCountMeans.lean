/- CountMeans: what the walk computes is true. -/
import Derived.Test.YthnbmlpjbhhamaaPy
import Derived.Test.YthnbmlpjbhhamaaGD
namespace Go.Proofs.Ythnbmlpjbhhamaa.J
open Go.RowKit Go.Proofs.YthnbmlpjbhhamaaW.PrintWords
set_option linter.unusedVariables false

theorem good_one (a : Int) : Ct.good [a] = Sp.lit 60 a := by unfold Ct.good; simp
theorem j2_end (a : Int) (l : List Int) (m : List Bool) (hm : m.length = 60) (hl : l.length ≤ 60) {n : Nat} (hn : l.countP (Sp.trueIn m) = n) :
    Ev (fun k => hoggetlaw14_CountMeans.j2 k a m (Ct.implies a l).1 (Ct.implies a l).2 (Ct.neverF a l).1 (Ct.neverF a l).2 (n : Int) false) true := by
  refine next_ev ?_
  simp only [hoggetlaw14_CountMeans.j2]
  refine neg_ev (by decide) (Ev.bind (a := Sp.holds [a] m) (ev_some (fun _ => rfl)) (Ev.bind counts_ev (pos_ev rfl ?_)))
  rw [Ct.holds_one]
  unfold Ct.implies Ct.neverF
  by_cases hg : Ct.good [a] = true ∧ Ct.good l = true
  · rw [if_pos hg, if_pos hg]
    have ha : Sp.lit 60 a = true := by rw [← good_one]; exact hg.1
    have hi := Ct.implies_holds (l := l) hm ha
    have hv := Ct.never_holds hm ha hg.2
    rw [hn] at hi hv
    have hnl : (Ct.never a l).length ≤ 1000000 := by unfold Ct.never; rw [List.length_map]; omega
    refine pos_ev rfl (Ev.bind (a := Sp.holds (-a :: l) m) (ev_some (fun _ => rfl)) ?_)
    cases ht : Sp.trueIn m a with
    | true =>
      rw [ht] at hi hv
      rw [hi]
      refine pos_ev rfl (pos_ev ?_ (pos_ev rfl (Ev.bind (holds14_ev _ m hnl) (ev_some (fun _ => ?_)))))
      · simp
      · rw [hv]
        simp only [Bool.not_true, Bool.false_or, Option.some.injEq]
        rw [Bool.eq_iff_iff]
        simp
        rw [Bool.eq_iff_iff, decide_eq_true_iff, beq_iff_eq]
        omega
    | false =>
      rw [ht] at hi hv
      rw [hi]
      refine neg_ev (by decide) (pos_ev (by simp) (pos_ev rfl (Ev.bind (holds14_ev _ m hnl) (ev_some (fun _ => ?_)))))
      rw [hv]
      simp
  · rw [if_neg hg, if_neg hg]
    exact neg_ev (by decide) (neg_ev (by decide) (Ev.now _))
theorem l0_end (a : Int) (l : List Int) (m : List Bool) (hm : m.length = 60) (hl : l.length ≤ 60) :
    Ev (fun k => hoggetlaw14_CountMeans.l0 k a l m (Ct.atMost l).1 (Ct.atMost l).2 (Ct.exactly l).1 (Ct.exactly l).2 (Ct.implies a l).1 (Ct.implies a l).2 (Ct.neverF a l).1 (Ct.neverF a l).2 ((l.countP (Sp.trueIn m) : Nat) : Int) (l.length : Int)) true := by
  obtain ⟨n, hn⟩ : ∃ n, l.countP (Sp.trueIn m) = n := ⟨_, rfl⟩
  have hj := j2_end a l m hm hl hn
  rw [hn]
  refine next_ev ?_
  simp only [hoggetlaw14_CountMeans.l0]
  refine neg_ev (by omega) ?_
  have hle := Ct.pairs_le l (by omega)
  unfold Ct.atMost Ct.exactly
  by_cases hg : Ct.good l = true
  · rw [if_pos hg, if_pos hg]
    have h1 := Ct.most_holds hm hg
    have h2 := Ct.exactly_holds hm hg
    rw [hn] at h1 h2
    refine pos_ev rfl (Ev.bind (holds14_ev _ m hle) (neg_ev ?_ (pos_ev rfl (Ev.bind (holds14_ev _ m (by rw [List.length_cons]; have := Ct.pairs_len l; have h60 : l.length * (l.length - 1) ≤ 60 * 60 := Nat.mul_le_mul hl (by omega); omega)) ?_))))
    · rw [h1]
      simp only [bne_iff_ne, ne_eq, Decidable.not_not, decide_eq_decide]
      omega
    · rw [h2]
      have e : (decide (n = 1) != ((n : Int) == 1)) = false := by
        rw [bne_eq_false_iff_eq, Bool.eq_iff_iff]
        simp
        omega
      rw [e]
      exact hj
  · rw [if_neg hg, if_neg hg]
    exact neg_ev (by decide) (neg_ev (by decide) hj)
theorem l0_from (a : Int) (l : List Int) (m : List Bool) (hm : m.length = 60) (hl : l.length ≤ 60) : ∀ (d i : Nat), l.length - i = d → i ≤ l.length →
    Ev (fun k => hoggetlaw14_CountMeans.l0 k a l m (Ct.atMost l).1 (Ct.atMost l).2 (Ct.exactly l).1 (Ct.exactly l).2 (Ct.implies a l).1 (Ct.implies a l).2 (Ct.neverF a l).1 (Ct.neverF a l).2 (((l.take i).countP (Sp.trueIn m) : Nat) : Int) (i : Int)) true := by
  intro d
  induction d with
  | zero =>
    intro i hd hi
    obtain rfl : i = l.length := by omega
    rw [List.take_of_length_le (Nat.le_refl _)]
    exact l0_end a l m hm hl
  | succ d ih =>
    intro i hd hi
    have hlt : i < l.length := by omega
    have ih1 := ih (i + 1) (by omega) (by omega)
    rw [List.take_succ_eq_append_getElem hlt, List.countP_append, List.countP_singleton] at ih1
    have hc : (l.take i).countP (Sp.trueIn m) ≤ 60 := by have := List.countP_le_length (p := Sp.trueIn m) (l := l.take i); rw [List.length_take] at this; omega
    generalize (l.take i).countP (Sp.trueIn m) = n at ih1 hc ⊢
    refine next_ev ?_
    simp only [hoggetlaw14_CountMeans.l0]
    refine pos_ev (by omega) (pos_ev (by omega) (Ev.bind (a := Sp.holds [rd l (i : Int)] m) (ev_some (fun _ => rfl)) ?_))
    rw [Ct.holds_one, rd_at l i hlt, wrap_succ hlt (by omega)]
    cases ht : Sp.trueIn m l[i] with
    | true =>
      rw [ht] at ih1
      refine pos_ev rfl ?_
      have e : wrap64 ((n : Int) + 1) = ((n + 1 : Nat) : Int) := by unfold wrap64; omega
      rw [e]
      exact ih1
    | false =>
      rw [ht] at ih1
      exact neg_ev (by decide) ih1
theorem CountMeans_ev (a : Int) (l : List Int) (m : List Bool) : Ev (fun k => hoggetlaw14_CountMeans.f k a l m) true := by
  have hend : Ev (fun k => hoggetlaw14_CountMeans.j0 k a l m true) true := by
    refine next_ev ?_
    simp only [hoggetlaw14_CountMeans.j0]
    exact pos_ev trivial (Ev.bind counts_ev (Ev.now _))
  unfold hoggetlaw14_CountMeans.f
  by_cases hl : (l.length : Int) > 60
  · exact pos_ev hl hend
  · refine neg_ev hl ?_
    by_cases hm : m.length = 60
    · rw [show ((m.length : Int) != 60) = false by rw [hm]; rfl]
      refine next_ev ?_
      simp only [hoggetlaw14_CountMeans.j0]
      refine neg_ev (by decide) (Ev.bind (a := Ct.atMost l) (ev_some (fun _ => count_AtMost.f_eq l (by omega))) ?_)
      refine Ev.bind (a := Ct.exactly l) (ev_some (fun _ => count_Exactly.f_eq l (by omega))) ?_
      refine Ev.bind (a := Ct.implies a l) (ev_some (fun _ => count_Implies.f_eq a l (by omega))) ?_
      refine Ev.bind (a := Ct.neverF a l) (ev_some (fun _ => count_Never.f_eq a l (by omega))) ?_
      exact l0_from a l m hm (by omega) l.length 0 rfl (Nat.zero_le _)
    · rw [show ((m.length : Int) != 60) = true from bne_iff_ne.2 (by omega)]; exact hend

theorem CountMeans_walk {W : World} (a0 : Int) (w0 : (Lit.int .i64 a0).wf = true) (A1 : Option Addr) (c1 : Nat) (l1 : List Int) (hr1 : Kd.C (Kd.int .i64) W A1 l1.length l1) (hc1 : l1.length ≤ c1) (wl1 : ∀ n ∈ l1, (Lit.int .i64 n).wf = true)
    (A2 : Option Addr) (c2 : Nat) (l2 : List Bool) (hr2 : Kd.C Kd.bool W A2 l2.length l2) (hc2 : l2.length ≤ c2) :
    Calls Try.prog 29 #[.int .i64 a0, .slice A1 l1.length c1, .slice A2 l2.length c2] W fun e w' => e = .returned (.bool true) ∧ Below W.heap.size W w' := by
  obtain ⟨k, hk⟩ := (CountMeans_ev a0 l1 l2).rounds
  exact hoggetlaw14_CountMeans.calls k a0 A1 c1 l1 A2 c2 l2 true W hr1 hc1 hr2 hc2 hk
end Go.Proofs.Ythnbmlpjbhhamaa.J
