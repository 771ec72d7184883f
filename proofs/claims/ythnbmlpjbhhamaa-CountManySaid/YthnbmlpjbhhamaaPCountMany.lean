/- CountMany: what the walk computes is true. -/
import Derived.Test.YthnbmlpjbhhamaaPz
import Derived.Test.YthnbmlpjbhhamaaGB
namespace Go.Proofs.Ythnbmlpjbhhamaa.J
open Go.RowKit Go.Proofs.YthnbmlpjbhhamaaW.PrintWords
set_option linter.unusedVariables false

theorem many_from (l : List Int) (ps qs : List (List Int)) (hp : ps.length ≤ 1000000) (h2 : ∀ c ∈ ps, c.length = 2) {b : Bool}
    (hend : Ev (fun k => hoggetlaw14_CountMany.l0 k l ps qs (ps.length : Int)) b) : ∀ (d i : Nat), ps.length - i = d → i ≤ ps.length → Ev (fun k => hoggetlaw14_CountMany.l0 k l ps qs (i : Int)) b := by
  intro d
  induction d with
  | zero =>
    intro i hd hi
    obtain rfl : i = ps.length := by omega
    exact hend
  | succ d ih =>
    intro i hd hi
    have hlt : i < ps.length := by omega
    refine next_ev ?_
    simp only [hoggetlaw14_CountMany.l0]
    refine pos_ev (by omega) (pos_ev (by omega) (pos_ev ?_ ?_))
    · rw [rdL_at ps i hlt, h2 _ (List.getElem_mem hlt)]; rfl
    · rw [wrap_succ hlt (by omega)]
      exact ih (i + 1) (by omega) (by omega)
theorem CountMany_ev (l : List Int) : Ev (fun k => hoggetlaw14_CountMany.f k l) true := by
  unfold hoggetlaw14_CountMany.f
  by_cases hl : (l.length : Int) > 60
  · exact pos_ev hl (Ev.now _)
  · refine neg_ev hl ?_
    have hn : l.length ≤ 60 := by omega
    refine Ev.bind (a := Ct.atMost l) (ev_some (fun _ => count_AtMost.f_eq l (by omega))) ?_
    refine Ev.bind (a := Ct.exactly l) (ev_some (fun _ => count_Exactly.f_eq l (by omega))) ?_
    unfold Ct.atMost Ct.exactly
    by_cases hg : Ct.good l = true
    · rw [if_pos hg, if_pos hg]
      refine pos_ev rfl (pos_ev rfl ?_)
      have hpl := Ct.pairs_len l
      have hple := Ct.pairs_le l (by omega)
      have h60 : l.length * (l.length - 1) ≤ 60 * 60 := Nat.mul_le_mul hn (by omega)
      refine many_from l (Ct.pairs l) (l :: Ct.pairs l) hple (Ct.pairs_two l) ?_ _ 0 rfl (Nat.zero_le _)
      refine next_ev ?_
      simp only [hoggetlaw14_CountMany.l0]
      have e1 : wrap64 (2 * ((Ct.pairs l).length : Int)) = wrap64 ((l.length : Int) * wrap64 ((l.length : Int) - 1)) := by
        have e0 : wrap64 ((l.length : Int) - 1) = (l.length : Int) - 1 := by unfold wrap64; omega
        rw [e0]
        congr 1
        rcases Nat.eq_zero_or_pos l.length with h0 | h0
        · have h1 : (Ct.pairs l).length = 0 := by rw [h0] at hpl; omega
          rw [h0, h1]; rfl
        · have e2 : ((l.length * (l.length - 1) : Nat) : Int) = (l.length : Int) * ((l.length : Int) - 1) := by
            rw [Int.natCast_mul, Int.natCast_sub h0]; rfl
          rw [← e2, ← hpl]; push_cast; rfl
      have e3 : wrap64 (((l :: Ct.pairs l).length : Int) - 1) = ((Ct.pairs l).length : Int) := by
        rw [List.length_cons]; unfold wrap64; omega
      refine neg_ev (by omega) (Ev.bind counts_ev (pos_ev rfl (pos_ev e1 (pos_ev e3 (pos_ev (by rw [List.length_cons]; omega) ?_)))))
      refine Ev.bind (a := true) ?_ (pos_ev rfl (pos_ev (by rw [List.length_cons]; omega) (Ev.bind (a := true) ?_ (Ev.now _))))
      · exact clauses_same (Ct.pairs l) hple (fun c hc => by rw [Ct.pairs_two l c hc]; omega)
      · have e4 : rd_L1 (l :: Ct.pairs l) 0 = l := rdL_at (l :: Ct.pairs l) 0 (by simp)
        rw [e4]
        exact ints_same l (by omega)
    · rw [if_neg hg, if_neg hg]
      exact pos_ev rfl (neg_ev (by simp) (Ev.bind counts_ev (pos_ev rfl (pos_ev rfl (Ev.now _)))))

theorem CountMany_walk {W : World} (A0 : Option Addr) (c0 : Nat) (l0 : List Int) (hr0 : Kd.C (Kd.int .i64) W A0 l0.length l0) (hc0 : l0.length ≤ c0) (wl0 : ∀ n ∈ l0, (Lit.int .i64 n).wf = true) :
    Calls Try.prog 27 #[.slice A0 l0.length c0] W fun e w' => e = .returned (.bool true) ∧ Below W.heap.size W w' := by
  obtain ⟨k, hk⟩ := (CountMany_ev l0).rounds
  exact hoggetlaw14_CountMany.calls k A0 c0 l0 true W hr0 hc0 hk
end Go.Proofs.Ythnbmlpjbhhamaa.J
