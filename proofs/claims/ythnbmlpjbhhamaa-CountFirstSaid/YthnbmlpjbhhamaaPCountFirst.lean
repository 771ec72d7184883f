/- CountFirst: what the walk computes is true. -/
import Derived.Test.YthnbmlpjbhhamaaPz
import Derived.Test.YthnbmlpjbhhamaaGC
namespace Go.Proofs.Ythnbmlpjbhhamaa.J
open Go.RowKit Go.Proofs.YthnbmlpjbhhamaaW.PrintWords
set_option linter.unusedVariables false

theorem good_take {l : List Int} (n : Nat) (h : Ct.good l = true) : Ct.good (l.take n) = true :=
  List.all_eq_true.2 fun x hx => List.all_eq_true.1 h x (List.mem_of_mem_take hx)
theorem CountFirst_ev (a : Int) (l : List Int) : Ev (fun k => hoggetlaw14_CountFirst.f k a l) true := by
  have hend : Ev (fun k => hoggetlaw14_CountFirst.j0 k a l true) true := by
    refine next_ev ?_
    simp only [hoggetlaw14_CountFirst.j0]
    exact pos_ev trivial (Ev.bind counts_ev (Ev.now _))
  unfold hoggetlaw14_CountFirst.f
  by_cases hl : (l.length : Int) > 60
  · exact pos_ev hl hend
  · refine neg_ev hl ?_
    by_cases h0 : l.length = 0
    · rw [show ((l.length : Int) == 0) = true by rw [h0]; rfl]; exact hend
    · rw [show ((l.length : Int) == 0) = false from beq_eq_false_iff_ne.2 (by omega)]
      refine next_ev ?_
      simp only [hoggetlaw14_CountFirst.j0]
      have e0 : wrap64 ((l.length : Int) - 1) = ((l.length - 1 : Nat) : Int) := by unfold wrap64; omega
      rw [e0]
      refine neg_ev (by decide) (Ev.bind (a := Ct.neverF a l) (ev_some (fun _ => count_Never.f_eq a l (by omega))) (pos_ev (by omega) (pos_ev (by omega) ?_)))
      rw [Int.toNat_natCast]
      refine Ev.bind (a := Ct.neverF a (l.take (l.length - 1))) (ev_some (fun _ => count_Never.f_eq a _ (by rw [List.length_take]; omega))) ?_
      unfold Ct.neverF
      by_cases hg : Ct.good [a] = true ∧ Ct.good l = true
      · rw [if_pos hg, if_pos ⟨hg.1, good_take _ hg.2⟩]
        refine pos_ev rfl (next_ev ?_)
        simp only [hoggetlaw14_CountFirst.j1]
        have e1 : wrap64 (((Ct.never a l).length : Int) - 1) = ((l.length - 1 : Nat) : Int) := by unfold Ct.never; rw [List.length_map]; unfold wrap64; omega
        rw [e1]
        refine neg_ev (by decide) (Ev.bind counts_ev (pos_ev rfl (pos_ev ?_ (pos_ev (by omega) (pos_ev ?_ ?_)))))
        · unfold Ct.never; rw [List.length_map, List.length_take]; omega
        · unfold Ct.never; rw [List.length_map]; omega
        · rw [Int.toNat_natCast, show (Ct.never a l).take (l.length - 1) = Ct.never a (l.take (l.length - 1)) from List.map_take.symm]
          refine Ev.bind (clauses_same _ (by unfold Ct.never; rw [List.length_map, List.length_take]; omega) (fun c hc => ?_)) (Ev.now _)
          unfold Ct.never at hc
          obtain ⟨n, _, rfl⟩ := List.mem_map.1 hc
          simp
      · rw [if_neg hg]
        refine neg_ev (by decide) (next_ev ?_)
        simp only [hoggetlaw14_CountFirst.j1]
        exact pos_ev trivial (Ev.bind counts_ev (pos_ev rfl (Ev.now _)))

theorem CountFirst_walk {W : World} (a0 : Int) (w0 : (Lit.int .i64 a0).wf = true) (A1 : Option Addr) (c1 : Nat) (l1 : List Int) (hr1 : Kd.C (Kd.int .i64) W A1 l1.length l1) (hc1 : l1.length ≤ c1) (wl1 : ∀ n ∈ l1, (Lit.int .i64 n).wf = true) :
    Calls Try.prog 28 #[.int .i64 a0, .slice A1 l1.length c1] W fun e w' => e = .returned (.bool true) ∧ Below W.heap.size W w' := by
  obtain ⟨k, hk⟩ := (CountFirst_ev a0 l1).rounds
  exact hoggetlaw14_CountFirst.calls k a0 A1 c1 l1 true W hr1 hc1 hk
end Go.Proofs.Ythnbmlpjbhhamaa.J
