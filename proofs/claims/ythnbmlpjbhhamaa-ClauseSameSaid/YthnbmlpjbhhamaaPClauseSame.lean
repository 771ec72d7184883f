/- ClauseSame: what the walk computes is true. -/
import Derived.Test.YthnbmlpjbhhamaaPc
import Derived.Test.YthnbmlpjbhhamaaGw
namespace Go.Proofs.Ythnbmlpjbhhamaa.J
open Go.RowKit Go.Proofs.YthnbmlpjbhhamaaW.PrintWords
set_option linter.unusedVariables false

theorem tidied_mem {c : List Int} (h : c.all (Sp.lit 60) = true) (x : Int) : x ∈ Td.tidied c ↔ x ∈ c := by
  unfold Td.tidied
  rw [(Td.upto_spec c 60).2 x]
  constructor
  · exact fun h => h.1
  · intro hx
    have := Sp.lit_iff.1 (List.all_eq_true.1 h x hx)
    exact ⟨hx, by omega, by omega⟩
theorem tidied_all {c : List Int} (h : c.all (Sp.lit 60) = true) : (Td.tidied c).all (Sp.lit 60) = true :=
  List.all_eq_true.2 (fun x hx => List.all_eq_true.1 h x ((tidied_mem h x).1 hx))
theorem tidied_twice {c : List Int} (h : c.all (Sp.lit 60) = true) : Td.tidied (Td.tidied c) = Td.tidied c :=
  Td.same_of _ _ (Td.upto_spec _ 60).1 (Td.upto_spec _ 60).1 (fun x => tidied_mem (tidied_all h) x)
theorem tidied_holds {c : List Int} (h : c.all (Sp.lit 60) = true) (m : List Bool) : Sp.holds (Td.tidied c) m = Sp.holds c m := by
  unfold Sp.holds
  rw [Bool.eq_iff_iff, List.any_eq_true, List.any_eq_true]
  constructor
  · rintro ⟨x, hx, ht⟩; exact ⟨x, (tidied_mem h x).1 hx, ht⟩
  · rintro ⟨x, hx, ht⟩; exact ⟨x, (tidied_mem h x).2 hx, ht⟩
theorem ClauseSame_ev (c : List Int) (m : List Bool) : Ev (fun k => hoggetlaw10_ClauseSame.f k c m) true := by
  unfold hoggetlaw10_ClauseSame.f
  by_cases hc : (c.length : Int) > 200
  · refine pos_ev hc (next_ev ?_)
    simp only [hoggetlaw10_ClauseSame.j0]
    exact pos_ev trivial (Ev.now _)
  · refine neg_ev hc (next_ev ?_)
    simp only [hoggetlaw10_ClauseSame.j0]
    by_cases hm : (m.length : Int) > 200
    · exact pos_ev (decide_eq_true hm) (Ev.now _)
    · refine neg_ev (by simp; omega) ?_
      cases ha : c.all (Sp.lit 60) with
      | false =>
        have e : Td.tidy c = ([], 100) := by unfold Td.tidy; rw [ha]; rfl
        refine Ev.bind (a := ([], 100)) (ev_some (fun _ => by rw [tidy_f c (by omega), e])) (neg_ev (by decide) ?_)
        exact Ev.bind clauses_ev (pos_ev rfl (Ev.now _))
      | true =>
        have hl : (Td.tidied c).length ≤ 120 := flat_len c 60
        have e : Td.tidy c = (Td.tidied c, 0) := by unfold Td.tidy; rw [ha]; rfl
        have e2 : Td.tidy (Td.tidied c) = (Td.tidied c, 0) := by unfold Td.tidy; rw [tidied_all ha, tidied_twice ha]; rfl
        refine Ev.bind (a := (Td.tidied c, 0)) (ev_some (fun _ => by rw [tidy_f c (by omega), e])) (pos_ev rfl ?_)
        refine Ev.bind (a := (Td.tidied c, 0)) (ev_some (fun _ => by rw [tidy_f _ (show (Td.tidied c).length ≤ _ by omega), e2])) ?_
        refine Ev.bind clauses_ev (pos_ev rfl (pos_ev rfl (Ev.bind (ints_same (Td.tidied c) (show (Td.tidied c).length ≤ _ by omega)) (pos_ev rfl ?_))))
        refine Ev.bind (a := Sp.holds c m) (Ev.now _) (Ev.bind (a := Sp.holds c m) (ev_some (fun _ => by unfold clause_Holds.f; rw [tidied_holds ha])) ?_)
        rw [beq_self_eq_true]
        exact Ev.now _

theorem ClauseSame_walk {W : World} (A0 : Option Addr) (c0 : Nat) (l0 : List Int) (hr0 : Kd.C (Kd.int .i64) W A0 l0.length l0) (hc0 : l0.length ≤ c0) (wl0 : ∀ n ∈ l0, (Lit.int .i64 n).wf = true)
    (A1 : Option Addr) (c1 : Nat) (l1 : List Bool) (hr1 : Kd.C Kd.bool W A1 l1.length l1) (hc1 : l1.length ≤ c1) :
    Calls Try.prog 22 #[.slice A0 l0.length c0, .slice A1 l1.length c1] W fun e w' => e = .returned (.bool true) ∧ Below W.heap.size W w' := by
  obtain ⟨k, hk⟩ := (ClauseSame_ev l0 l1).rounds
  exact hoggetlaw10_ClauseSame.calls k A0 c0 l0 A1 c1 l1 true W hr0 hc0 hr1 hc1 hk
end Go.Proofs.Ythnbmlpjbhhamaa.J
