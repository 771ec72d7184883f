/- The document's rows of chapter 12, and the bounds of its laws. -/
import Derived.Test.YthnbmlpjbhhamaaP10
import Derived.Test.YthnbmlpjbhhamaaUf
import Derived.Test.YthnbmlpjbhhamaaSv
import Derived.Test.YthnbmlpjbhhamaaGq
import Derived.Test.YthnbmlpjbhhamaaGL
namespace Go.Proofs.Ythnbmlpjbhhamaa.J
open Go.RowKit Go.Proofs.YthnbmlpjbhhamaaW.PrintWords
set_option linter.unusedVariables false

theorem solve_f (v : Int) (cls : List (List Int)) : solver_Solve.f v cls = some (Sv.solve v cls) := solver_Solve.f_eq v cls
def xor2 : List (List Int) := [[1, 2], [-1, -2]]
def sq4 : List (List Int) := [[1, 2], [1, -2], [-1, 2], [-1, -2]]
theorem x_0 : Uk.prop 2 xor2 [] = ([], 0) ∧ Uk.free 2 xor2 [] = 1 := Uk.prop_run (k := 10) (r := (0, [0, 0, 0])) (by decide +kernel)
theorem x_1 : Uk.prop 2 xor2 [1] = ([1, -2], 0) ∧ Uk.free 2 xor2 [1] = 0 := Uk.prop_run (k := 10) (r := (0, [0, 1, -1])) (by decide +kernel)
theorem s_0 : Uk.prop 2 sq4 [] = ([], 0) ∧ Uk.free 2 sq4 [] = 1 := Uk.prop_run (k := 10) (r := (0, [0, 0, 0])) (by decide +kernel)
theorem s_1 : Uk.prop 2 sq4 [1] = ([], 110) ∧ Uk.free 2 sq4 [1] = 0 := Uk.prop_run (k := 10) (r := (110, [])) (by decide +kernel)
theorem s_2 : Uk.prop 2 sq4 [-1] = ([], 110) ∧ Uk.free 2 sq4 [-1] = 0 := Uk.prop_run (k := 10) (r := (110, [])) (by decide +kernel)
theorem e_0 : Uk.prop 0 [] [] = ([], 0) ∧ Uk.free 0 [] [] = 0 := Uk.prop_run (k := 10) (r := (0, [0])) (by decide +kernel)
theorem ends_x : Sv.ends 2 xor2 = ⟨2, true, [true, false], []⟩ := by
  unfold Sv.ends
  rw [show (2 : Int).toNat + 1 = 1 + 1 + 1 from rfl, Sv.look_one (by decide) (by rw [x_0.1]) (by rw [x_0.1]; decide)]
  · rw [x_0.2, List.nil_append, Sv.look_full (by decide) (by rw [x_1.1]) (by rw [x_1.1]; rfl), x_1.1]
    rfl
  · rw [x_0.2, List.nil_append, Sv.look_full (by decide) (by rw [x_1.1]) (by rw [x_1.1]; rfl)]
theorem ends_s : Sv.ends 2 sq4 = ⟨3, false, [], [[-1], [1], []]⟩ := by
  unfold Sv.ends
  have h1 : Sv.look 2 sq4 2 ([] ++ [Uk.free 2 sq4 []]) Sv.St.zero.tick = (true, Sv.St.zero.tick.tick.lay [1]) := by
    rw [s_0.2, List.nil_append]; exact Sv.look_clash (by decide) (by rw [s_1.1]; decide)
  have h2 : Sv.look 2 sq4 2 ([] ++ [-(Uk.free 2 sq4 [])]) (Sv.St.zero.tick.tick.lay [1]) = (true, (Sv.St.zero.tick.tick.lay [1]).tick.lay [-1]) := by
    rw [s_0.2, List.nil_append]; exact Sv.look_clash (by decide) (by rw [s_2.1]; decide)
  rw [show (2 : Int).toNat + 1 = 2 + 1 from rfl, Sv.look_lay (by decide) (by rw [s_0.1]) (by rw [s_0.1]; decide) h1 h2]
  rfl
theorem ends_e : Sv.ends 0 [] = ⟨1, true, [], []⟩ := by
  unfold Sv.ends
  rw [show (0 : Int).toNat + 1 = 0 + 1 from rfl, Sv.look_full (by decide) (by rw [e_0.1]) (by rw [e_0.1]; rfl), e_0.1]
  rfl
theorem solve_x : Sv.solve 2 xor2 = (true, [true, false], [], 0) := by
  unfold Sv.solve; rw [if_neg (by decide), ends_x]; rfl
theorem solve_s : Sv.solve 2 sq4 = (false, [], [[-1], [1], []], 0) := by
  unfold Sv.solve; rw [if_neg (by decide), ends_s]; rfl
theorem looks_s : Sv.looks 2 sq4 = 3 := by unfold Sv.looks; rw [if_neg (by decide), ends_s]; rfl
theorem looks_e : Sv.looks 0 [] = 1 := by unfold Sv.looks; rw [if_neg (by decide), ends_e]; rfl
theorem bools_same (l : List Bool) (hl : l.length ≤ 1000000) : Ev (fun k => hoggetref10_Bools.f k l l) true := by
  have rows : ∀ (d i : Nat), l.length - i = d → i ≤ l.length → Ev (fun k => hoggetref10_Bools.l0 k l l (i : Int)) true := by
    intro d
    induction d with
    | zero =>
      intro i hd hi
      refine next_ev ?_
      simp only [hoggetref10_Bools.l0]
      exact neg_ev (by omega) (Ev.now _)
    | succ d ih =>
      intro i hd hi
      have hlt : i < l.length := by omega
      refine next_ev ?_
      simp only [hoggetref10_Bools.l0]
      rw [wrap_succ hlt (by omega)]
      exact pos_ev (by omega) (pos_ev (by omega) (pos_ev (by omega) (neg_ev (by simp) (ih (i + 1) (by omega) (by omega)))))
  unfold hoggetref10_Bools.f
  exact pos_ev rfl (rows _ 0 rfl (Nat.zero_le _))
theorem solves_ev : Ev (fun k => hoggetlaw12_solves.f k) true := by
  unfold hoggetlaw12_solves.f
  refine Ev.bind (a := (true, [true, false], [], 0)) (ev_some (fun _ => (solve_f 2 xor2).trans (congrArg some solve_x))) (some_ev ?_)
  refine Ev.bind (a := (false, [], [[-1], [1], []], 0)) (ev_some (fun _ => (solve_f 2 sq4).trans (congrArg some solve_s))) ?_
  refine pos_ev rfl (pos_ev rfl (Ev.bind (bools_same _ (by decide)) (pos_ev rfl (pos_ev rfl (neg_ev (by simp) ?_)))))
  refine Ev.bind (clauses_same _ (by decide) (by simp)) (pos_ev rfl ?_)
  refine Ev.bind (a := 3) (ev_some (fun _ => (solver_Looks.f_eq 2 sq4).trans (congrArg some looks_s))) (pos_ev rfl ?_)
  exact Ev.bind (a := 1) (ev_some (fun _ => (solver_Looks.f_eq 0 []).trans (congrArg some looks_e))) (Ev.now _)

def large12 (v : Int) (l : List (List Int)) (n : Int) : Bool := (decide (v > n) && decide (v ≤ 60)) || (if (l.length : Int) > 3000 then bigB l 3100 60 else bigB l 40 60)
theorem large12_ev (v : Int) (l : List (List Int)) (n : Int) : Ev (fun k => hoggetlaw12_large.f k v l n) (large12 v l n) := by
  have hj : ∀ b : Bool, Ev (fun k => hoggetlaw12_large.j0 k b v l) (b || (if (l.length : Int) > 3000 then bigB l 3100 60 else bigB l 40 60)) := by
    intro b
    refine next_ev ?_
    simp only [hoggetlaw12_large.j0]
    cases b with
    | true => exact pos_ev rfl (Ev.now _)
    | false =>
      refine neg_ev (by decide) ?_
      rw [Bool.false_or]
      by_cases h : (l.length : Int) > 3000
      · rw [if_pos h]; exact pos_ev h (Ev.bind (big_ev l 3100 60 (by omega)) (Ev.now _))
      · rw [if_neg h]; exact neg_ev h (Ev.bind (big_ev l 40 60 (by omega)) (Ev.now _))
  unfold hoggetlaw12_large.f large12
  by_cases h : v > n
  · rw [decide_eq_true h, Bool.true_and]; exact pos_ev h (hj _)
  · rw [decide_eq_false h, Bool.false_and]; exact neg_ev h (hj _)
theorem large12_bounds {v : Int} {l : List (List Int)} {n : Int} (h : large12 v l n = false) : (v ≤ n ∨ 60 < v) ∧ l.length ≤ 3100 ∧ (l.length ≤ 40 ∨ 3000 < l.length) ∧ ∀ c ∈ l, c.length ≤ 60 := by
  unfold large12 at h
  rw [Bool.or_eq_false_iff, Bool.and_eq_false_iff, decide_eq_false_iff_not, decide_eq_false_iff_not] at h
  obtain ⟨h1, h2⟩ := h
  refine ⟨by omega, ?_⟩
  split at h2
  · obtain ⟨b1, b2⟩ := big_bounds h2
    exact ⟨by omega, by omega, fun c hc => by have := b2 c hc; omega⟩
  · obtain ⟨b1, b2⟩ := big_bounds h2
    exact ⟨by omega, by omega, fun c hc => by have := b2 c hc; omega⟩
end Go.Proofs.Ythnbmlpjbhhamaa.J
