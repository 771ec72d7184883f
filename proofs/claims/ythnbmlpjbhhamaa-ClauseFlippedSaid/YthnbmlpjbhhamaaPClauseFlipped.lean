/- ClauseFlipped: what the walk computes is true. -/
import Derived.Test.YthnbmlpjbhhamaaPc
import Derived.Test.YthnbmlpjbhhamaaGy
namespace Go.Proofs.Ythnbmlpjbhhamaa.J
open Go.RowKit Go.Proofs.YthnbmlpjbhhamaaW.PrintWords
set_option linter.unusedVariables false

theorem flip_true (m : List Bool) (n : Int) : Sp.trueIn (m.map (fun b => !b)) (-n) = Sp.trueIn m n := by
  unfold Sp.trueIn
  have hl : Sp.lit 60 (-n) = Sp.lit 60 n := by
    cases h : Sp.lit 60 n with
    | true => exact Sp.lit_iff.2 (by have := Sp.lit_iff.1 h; omega)
    | false => exact Sp.lit_false.2 (by have := Sp.lit_false.1 h; omega)
  rw [hl, Int.natAbs_neg, List.length_map]
  cases h : Sp.lit 60 n with
  | false => rfl
  | true =>
    have h0 := Sp.lit_iff.1 h
    by_cases hn : n.natAbs ≤ m.length
    · rw [decide_eq_true hn]
      have hi : n.natAbs - 1 < m.length := by omega
      rw [List.getD_eq_getElem?_getD, List.getD_eq_getElem?_getD, List.getElem?_map, List.getElem?_eq_getElem hi]
      simp only [Option.map_some, Option.getD_some, Bool.true_and]
      by_cases hp : 0 < n
      · rw [decide_eq_true hp, decide_eq_false (show ¬ 0 < -n by omega)]; cases m[n.natAbs - 1] <;> rfl
      · rw [decide_eq_false hp, decide_eq_true (show 0 < -n by omega)]; cases m[n.natAbs - 1] <;> rfl
    · rw [decide_eq_false hn]; rfl
theorem flip_holds (c : List Int) (m : List Bool) : Sp.holds (c.map (fun n => -n)) (m.map (fun b => !b)) = Sp.holds c m := by
  unfold Sp.holds
  rw [List.any_map]
  congr 1
  funext n
  exact flip_true m n
theorem flip_last (c d : List Int) (hd : d = c.map (fun n => -n)) (m : List Bool) (hm : m.length ≤ 200) : ∀ (e i : Nat), m.length - i = e → i ≤ m.length → Ev (fun k => hoggetlaw10_ClauseFlipped.l1 k c m d ((m.take i).map (fun b => !b)) (i : Int)) true := by
  intro e
  induction e with
  | zero =>
    intro i he hi
    refine next_ev ?_
    simp only [hoggetlaw10_ClauseFlipped.l1]
    rw [List.take_of_length_le (by omega)]
    refine neg_ev (by omega) (Ev.bind clauses_ev (pos_ev rfl ?_))
    refine Ev.bind (a := Sp.holds c m) (Ev.now _) (Ev.bind (a := Sp.holds c m) (ev_some (fun _ => by unfold clause_Holds.f; rw [hd, flip_holds])) ?_)
    rw [beq_self_eq_true]
    exact Ev.now _
  | succ e ih =>
    intro i he hi
    have hlt : i < m.length := by omega
    have hn := ih (i + 1) (by omega) (by omega)
    refine next_ev ?_
    simp only [hoggetlaw10_ClauseFlipped.l1]
    have er : rdOf false m (i : Int) = m[i] := by unfold rdOf; simp [hlt]
    have et : (m.take i).map (fun b => !b) ++ [!m[i]] = (m.take (i + 1)).map (fun b => !b) := by rw [List.take_succ_eq_append_getElem hlt, List.map_append]; rfl
    rw [er, wrap_succ hlt (by omega), et]
    exact pos_ev (by omega) (pos_ev (by omega) (pos_ev (by rw [List.length_map, List.length_take]; omega) hn))
theorem flip_first (c : List Int) (hc : c.length ≤ 200) (hw : ∀ n ∈ c, -60 ≤ n ∧ n ≤ 60) (m : List Bool) (hm : m.length ≤ 200) : ∀ (e i : Nat), c.length - i = e → i ≤ c.length → Ev (fun k => hoggetlaw10_ClauseFlipped.l0 k c m ((c.take i).map (fun n => -n)) (i : Int)) true := by
  intro e
  induction e with
  | zero =>
    intro i he hi
    refine next_ev ?_
    simp only [hoggetlaw10_ClauseFlipped.l0]
    rw [List.take_of_length_le (by omega)]
    refine neg_ev (by omega) ?_
    have h := flip_last c _ rfl m hm _ 0 rfl (Nat.zero_le _)
    exact h
  | succ e ih =>
    intro i he hi
    have hlt : i < c.length := by omega
    have hn := ih (i + 1) (by omega) (by omega)
    refine next_ev ?_
    simp only [hoggetlaw10_ClauseFlipped.l0]
    have hb := hw _ (List.getElem_mem hlt)
    have et : (c.take i).map (fun n => -n) ++ [wrap64 (-c[i])] = (c.take (i + 1)).map (fun n => -n) := by
      rw [show wrap64 (-c[i]) = -c[i] by unfold wrap64; omega, List.take_succ_eq_append_getElem hlt, List.map_append]; rfl
    rw [rd_at c i hlt, wrap_succ hlt (by omega), et]
    exact pos_ev (by omega) (pos_ev (by omega) (pos_ev (by rw [List.length_map, List.length_take]; omega) hn))
theorem ClauseFlipped_ev (c : List Int) (m : List Bool) (hl : c.length * 8 ≤ 140737488351232) : Ev (fun k => hoggetlaw10_ClauseFlipped.f k c m) true := by
  have hend : ∀ b : Bool, b = true → Ev (fun k => hoggetlaw10_ClauseFlipped.j0 k c m b) true := by
    intro b hb
    refine next_ev ?_
    simp only [hoggetlaw10_ClauseFlipped.j0]
    exact pos_ev hb (Ev.bind clauses_ev (Ev.now _))
  unfold hoggetlaw10_ClauseFlipped.f
  refine Ev.bind (a := Td.tidy c) (ev_some (fun _ => tidy_f c (by omega))) ?_
  by_cases hc : (c.length : Int) > 200
  · exact pos_ev hc (hend _ rfl)
  · refine neg_ev hc ?_
    by_cases hm : (m.length : Int) > 200
    · exact pos_ev hm (hend _ rfl)
    · refine neg_ev hm ?_
      cases ha : c.all (Sp.lit 60) with
      | false =>
        have e : Td.tidy c = ([], 100) := by unfold Td.tidy; rw [ha]; rfl
        rw [e]
        exact hend _ rfl
      | true =>
        have e : Td.tidy c = (Td.tidied c, 0) := by unfold Td.tidy; rw [ha]; rfl
        rw [e]
        refine next_ev ?_
        simp only [hoggetlaw10_ClauseFlipped.j0]
        refine neg_ev (by decide) ?_
        have h := flip_first c (by omega) (fun n hn => by have := Sp.lit_iff.1 (List.all_eq_true.1 ha n hn); omega) m (by omega) _ 0 rfl (Nat.zero_le _)
        exact h

theorem ClauseFlipped_walk {W : World} (A0 : Option Addr) (c0 : Nat) (l0 : List Int) (hr0 : Kd.C (Kd.int .i64) W A0 l0.length l0) (hc0 : l0.length ≤ c0) (wl0 : ∀ n ∈ l0, (Lit.int .i64 n).wf = true) (z0 : l0.length * 8 ≤ 140737488351232)
    (A1 : Option Addr) (c1 : Nat) (l1 : List Bool) (hr1 : Kd.C Kd.bool W A1 l1.length l1) (hc1 : l1.length ≤ c1) :
    Calls Try.prog 25 #[.slice A0 l0.length c0, .slice A1 l1.length c1] W fun e w' => e = .returned (.bool true) ∧ Below W.heap.size W w' := by
  obtain ⟨k, hk⟩ := (ClauseFlipped_ev l0 l1 z0).rounds
  exact hoggetlaw10_ClauseFlipped.calls k A0 c0 l0 A1 c1 l1 true W hr0 hc0 hr1 hc1 hk
end Go.Proofs.Ythnbmlpjbhhamaa.J
