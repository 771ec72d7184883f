/- What the references of layer 13 answer, and the bounds of its laws. -/
import Derived.Test.YthnbmlpjbhhamaaP11
import Derived.Test.YthnbmlpjbhhamaaGl
import Derived.Test.YthnbmlpjbhhamaaP3
namespace Go.Proofs.Ythnbmlpjbhhamaa.J
open Go.RowKit Go.Proofs.YthnbmlpjbhhamaaW.PrintWords
set_option linter.unusedVariables false

theorem turned_len (c : List Int) : (Pf.turned c).length = c.length := by unfold Pf.turned; rw [List.length_map]
theorem one_check {v : Int} {c : List Int} (h0 : 0 ≤ v) (h1 : v ≤ 60) : Sp.check v [c] = 0 ↔ c.length ≤ 30 ∧ c.all (Sp.lit v) = true := by
  rw [Sp.check_iff]
  simp only [List.mem_singleton, forall_eq, List.length_singleton, List.all_eq_true]
  exact ⟨fun h => ⟨h.2.2, h.1.2.2⟩, fun h => ⟨⟨h0, h1, h.2⟩, by omega, h.1⟩⟩
namespace S13
theorem lits {v : Int} (cls : List (List Int)) (c : List Int) (hc : Sp.check v cls = 0) (hl : c.length ≤ 1000) :
    ∀ (d i : Nat), c.length - i = d → i ≤ c.length → Ev (fun k => hoggetref13_Step.l0 k c (Pf.turned (c.take i)) (i : Int) v cls) ((c.drop i).all (Sp.lit v) && ((Uk.prop v cls (Pf.turned c)).2 == 110)) := by
  obtain ⟨⟨h0, h1, h2⟩, h3, h4⟩ := Sp.check_iff.1 hc
  intro d
  induction d with
  | zero =>
    intro i hd hi
    refine next_ev ?_
    simp only [hoggetref13_Step.l0]
    rw [List.drop_eq_nil_of_le (by omega), List.take_of_length_le (by omega)]
    refine neg_ev (by omega) (Ev.bind (prop11_ev v cls (Pf.turned c) ⟨by omega, fun c hc => by have := h4 c hc; omega, by rw [turned_len]; exact hl⟩) (Ev.now _))
  | succ d ih =>
    intro i hd hi
    have hlt : i < c.length := by omega
    have ihn := ih (i + 1) (by omega) (by omega)
    refine next_ev ?_
    simp only [hoggetref13_Step.l0]
    rw [rd_at c i hlt, List.drop_eq_getElem_cons hlt, List.all_cons, wrap_succ hlt (by omega)]
    simp only [lit_f h0 h1]
    refine pos_ev (by omega) (pos_ev (by omega) (some_ev ?_))
    cases e : Sp.lit v c[i] with
    | true =>
      have hb := Sp.lit_iff.1 e
      refine pos_ev rfl (pos_ev (by rw [turned_len, List.length_take]; omega) ?_)
      have ew : wrap64 (-c[i]) = -c[i] := by unfold wrap64; omega
      have et : Pf.turned (c.take i) ++ [-c[i]] = Pf.turned (c.take (i + 1)) := by rw [List.take_succ_eq_append_getElem hlt]; unfold Pf.turned; rw [List.map_append]; rfl
      rw [ew, et]
      exact ihn
    | false => exact neg_ev (by decide) (Ev.now _)
end S13
theorem step13_ev (v : Int) (cls : List (List Int)) (c : List Int) (hw : ∀ c ∈ cls, c.length ≤ 1000000000000) : Ev (fun k => hoggetref13_Step.f k v cls c) (Pf.follows v cls c) := by
  unfold hoggetref13_Step.f
  refine Ev.bind (check_ev v cls hw) (ite_ev (fun h => ?_) (fun h => ?_))
  · refine next_ev ?_
    simp only [hoggetref13_Step.j0]
    obtain ⟨⟨h0, h1, h2⟩, h3, h4⟩ := Sp.check_iff.1 h
    by_cases hl : c.length ≤ 30
    · refine neg_ev (by simp; omega) ?_
      have e : Pf.follows v cls c = ((c.drop 0).all (Sp.lit v) && ((Uk.prop v cls (Pf.turned c)).2 == 110)) := by
        unfold Pf.follows
        rw [List.drop_zero, Bool.eq_iff_iff, decide_eq_true_iff, one_check h0 h1, Bool.and_eq_true, beq_iff_eq]
        exact ⟨fun k => ⟨k.2.1.2, k.2.2⟩, fun k => ⟨h, ⟨hl, k.1⟩, k.2⟩⟩
      rw [e]
      exact S13.lits cls c h (by omega) _ 0 rfl (Nat.zero_le _)
    · refine pos_ev (by simp; omega) ?_
      have e : Pf.follows v cls c = false := by
        unfold Pf.follows
        rw [decide_eq_false_iff_not, one_check h0 h1]
        exact fun k => hl k.2.1.1
      rw [e]
      exact Ev.now _
  · refine next_ev ?_
    simp only [hoggetref13_Step.j0]
    have e : Pf.follows v cls c = false := by
      unfold Pf.follows
      rw [decide_eq_false_iff_not]
      exact fun k => h k.1
    rw [e]
    exact pos_ev trivial (Ev.now _)
namespace C13
theorem rows {v : Int} (cls tr : List (List Int)) (hw : ∀ c ∈ cls, c.length ≤ 1000000) (hn : cls.length ≤ 1000000) (ht : ∀ c ∈ tr, c.length ≤ 1000000) (htn : tr.length ≤ 1000000) :
    ∀ (d i : Nat), tr.length - i = d → i ≤ tr.length → (∀ j, j < i → Pf.goes v cls tr j = true) → Ev (fun k => hoggetref13_Check.l0 k tr (i : Int) v (cls ++ tr.take i)) (Pf.check v cls tr) := by
  intro d
  induction d with
  | zero =>
    intro i hd hi hg
    refine next_ev ?_
    simp only [hoggetref13_Check.l0]
    rw [Pf.check_holds (fun j hj => hg j (by omega))]
    refine neg_ev (by omega) ?_
    by_cases h0 : 0 < tr.length
    · have e1 : wrap64 ((tr.length : Int) - 1) = ((tr.length - 1 : Nat) : Int) := by unfold wrap64; omega
      rw [e1, rdL_at tr (tr.length - 1) (by omega), get_row tr (tr.length - 1) (by omega), decide_eq_true h0, Bool.true_and]
      refine pos_ev (by omega) (pos_ev (by omega) (pos_ev (by omega) ?_))
      have e2 : (((tr[tr.length - 1].length : Nat) : Int) == 0) = decide (tr[tr.length - 1].length = 0) := by
        rw [Bool.eq_iff_iff, beq_iff_eq, decide_eq_true_iff]; omega
      rw [e2]
      exact Ev.now _
    · rw [decide_eq_false h0, Bool.false_and]
      exact neg_ev (by omega) (Ev.now _)
  | succ d ih =>
    intro i hd hi hg
    have hlt : i < tr.length := by omega
    have ihn := fun h => ih (i + 1) (by omega) (by omega) h
    refine next_ev ?_
    simp only [hoggetref13_Check.l0]
    rw [rdL_at tr i hlt, wrap_succ hlt (by omega)]
    refine pos_ev (by omega) (pos_ev (by omega) ?_)
    have hst := step13_ev v (cls ++ tr.take i) tr[i] (fun c hc => by
      rcases List.mem_append.1 hc with hc | hc
      · have := hw c hc; omega
      · have := ht c (List.mem_of_mem_take hc); omega)
    have hgo : Pf.follows v (cls ++ tr.take i) tr[i] = Pf.goes v cls tr i := by unfold Pf.goes; rw [get_row tr i hlt]
    rw [hgo] at hst
    refine Ev.bind hst ?_
    cases e : Pf.goes v cls tr i with
    | true =>
      refine pos_ev rfl (pos_ev (by rw [List.length_append, List.length_take]; omega) ?_)
      have et : cls ++ tr.take i ++ [tr[i]] = cls ++ tr.take (i + 1) := by rw [List.take_succ_eq_append_getElem hlt, List.append_assoc]
      rw [et]
      refine ihn (fun j hj => ?_)
      by_cases hj2 : j = i
      · subst hj2; exact e
      · exact hg j (by omega)
    | false =>
      rw [Pf.check_fails hlt hg e]
      exact neg_ev (by decide) (Ev.now _)
end C13
theorem check13_ev (v : Int) (cls tr : List (List Int)) (hw : ∀ c ∈ cls, c.length ≤ 1000000) (hn : cls.length ≤ 1000000) (ht : ∀ c ∈ tr, c.length ≤ 1000000) (htn : tr.length ≤ 1000000) : Ev (fun k => hoggetref13_Check.f k v cls tr) (Pf.check v cls tr) := by
  unfold hoggetref13_Check.f
  refine Ev.bind (ownAll_ev cls hn (fun c hc => by have := hw c hc; omega)) ?_
  have h := C13.rows (v := v) cls tr hw hn ht htn _ 0 rfl (Nat.zero_le _) (fun j hj => absurd hj (Nat.not_lt_zero _))
  rw [List.take_zero, List.append_nil] at h
  exact h

end Go.Proofs.Ythnbmlpjbhhamaa.J
