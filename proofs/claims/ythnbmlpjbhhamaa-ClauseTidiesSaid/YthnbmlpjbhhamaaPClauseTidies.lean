/- ClauseTidies: what the walk computes is true. -/
import Derived.Test.YthnbmlpjbhhamaaPc
import Derived.Test.YthnbmlpjbhhamaaGv
namespace Go.Proofs.Ythnbmlpjbhhamaa.J
open Go.RowKit Go.Proofs.YthnbmlpjbhhamaaW.PrintWords
set_option linter.unusedVariables false

theorem tidies_loop (c : List Int) (hc : c.length ≤ 1000000000000) : ∀ (d i : Nat) (a : List Int), a.length ≤ 1000000000000 → a.length - i = d → i ≤ a.length → Ev (fun k => hoggetlaw10_ClauseTidies.l0 k c c a true (i : Int)) true := by
  intro d
  induction d with
  | zero =>
    intro i a ha hd hi
    refine next_ev ?_
    simp only [hoggetlaw10_ClauseTidies.l0]
    exact neg_ev (by omega) (Ev.bind clauses_ev (pos_ev rfl (pos_ev trivial (Ev.bind (ints_same c hc) (Ev.now _)))))
  | succ d ih =>
    intro i a ha hd hi
    have hlt : i < a.length := by omega
    have hn := ih (i + 1) (a.set i 77) (by rw [List.length_set]; exact ha) (by rw [List.length_set]; omega) (by rw [List.length_set]; omega)
    refine next_ev ?_
    simp only [hoggetlaw10_ClauseTidies.l0]
    rw [wrap_succ hlt ha, Int.toNat_natCast]
    exact pos_ev (by omega) (pos_ev (by omega) hn)
theorem tidied_len (c : List Int) : (Td.tidied c).length ≤ 120 := flat_len c 60
theorem tidy_len (c : List Int) : (Td.tidy c).1.length ≤ 120 := by
  unfold Td.tidy
  split
  · exact tidied_len c
  · simp
theorem ClauseTidies_ev (c : List Int) (m : List Bool) : Ev (fun k => hoggetlaw10_ClauseTidies.f k c m) true := by
  unfold hoggetlaw10_ClauseTidies.f
  by_cases hc : (c.length : Int) > 200
  · refine pos_ev hc (next_ev ?_)
    simp only [hoggetlaw10_ClauseTidies.j0]
    exact pos_ev trivial (Ev.now _)
  · refine neg_ev hc (next_ev ?_)
    simp only [hoggetlaw10_ClauseTidies.j0]
    by_cases hm : (m.length : Int) > 200
    · exact pos_ev (decide_eq_true hm) (Ev.now _)
    · refine neg_ev (by simp; omega) (Ev.bind (a := c) (ev_some (fun _ => own_f c (by omega))) ?_)
      refine Ev.bind (a := Td.tidy c) (ev_some (fun _ => tidy_f c (by omega))) (Ev.bind (tidy10_ev c (by omega)) (pos_ev rfl ?_))
      have hl := tidy_len c
      refine Ev.bind (ints_same (Td.tidy c).1 (by omega)) (pos_ev rfl ?_)
      refine Ev.bind (a := Sp.holds c m) (Ev.now _) (Ev.bind (holds10_ev c m (by omega) (by omega)) ?_)
      rw [beq_self_eq_true]
      refine next_ev ?_
      simp only [hoggetlaw10_ClauseTidies.j1]
      exact tidies_loop c (by omega) _ 0 _ (by omega) rfl (Nat.zero_le _)

theorem ClauseTidies_walk {W : World} (A0 : Option Addr) (c0 : Nat) (l0 : List Int) (hr0 : Kd.C (Kd.int .i64) W A0 l0.length l0) (hc0 : l0.length ≤ c0) (wl0 : ∀ n ∈ l0, (Lit.int .i64 n).wf = true)
    (A1 : Option Addr) (c1 : Nat) (l1 : List Bool) (hr1 : Kd.C Kd.bool W A1 l1.length l1) (hc1 : l1.length ≤ c1) :
    Calls Try.prog 21 #[.slice A0 l0.length c0, .slice A1 l1.length c1] W fun e w' => e = .returned (.bool true) ∧ Below W.heap.size W w' := by
  obtain ⟨k, hk⟩ := (ClauseTidies_ev l0 l1).rounds
  exact hoggetlaw10_ClauseTidies.calls k A0 c0 l0 A1 c1 l1 true W hr0 hc0 hr1 hc1 hk
end Go.Proofs.Ythnbmlpjbhhamaa.J
