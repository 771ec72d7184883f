/- The free variable, and the model that is known when there is none. No program in sight. -/
import Derived.Test.YthnbmlpjbhhamaaUq
namespace Go.Proofs.Ythnbmlpjbhhamaa.Uk
open Un
set_option linter.unusedVariables false

/-! ### the free variable -/
open Classical in
/-- A variable that is free: no lesser one is, nothing is known of it. -/
theorem free_some {vars : Int} {cls : List (List Int)} {fixed : List Int} (h : Ok vars cls fixed) (h0 : free vars cls fixed ≠ 0) :
    0 < free vars cls fixed ∧ free vars cls fixed ≤ vars ∧ ¬ Known cls fixed (free vars cls fixed) ∧ ¬ Known cls fixed (-(free vars cls fixed)) ∧ ∀ i : Int, 0 < i → i < free vars cls fixed → Known cls fixed i ∨ Known cls fixed (-i) := by
  have hv := h.vars
  unfold free at h0 ⊢
  rw [if_neg (show ¬ ((prop vars cls fixed).2 ≠ 0) by simp [ok_iff.2 h])] at h0 ⊢
  cases hf : (List.range vars.toNat).find? (fun (i : Nat) => decide (¬ Known cls fixed ((i : Int) + 1) ∧ ¬ Known cls fixed (-((i : Int) + 1)))) with
  | none => rw [hf] at h0; exact absurd rfl h0
  | some i =>
    obtain ⟨h1, as, bs, h2, h3⟩ := List.find?_eq_some_iff_append.1 hf
    obtain ⟨k1, k2⟩ := of_decide_eq_true h1
    have hi : i < vars.toNat := List.mem_range.1 (List.mem_of_find?_eq_some hf)
    refine ⟨by simp only; omega, by simp only; omega, k1, k2, fun j j1 j2 => ?_⟩
    simp only at j2
    have hlen : i = as.length := by
      have hil : as.length < vars.toNat := by
        have := congrArg List.length h2
        simp at this; omega
      have : (List.range vars.toNat)[as.length]? = some i := by rw [h2]; simp
      rw [List.getElem?_range hil] at this
      exact (Option.some.inj this).symm
    have hj : (j - 1).toNat ∈ as := by
      have : (List.range vars.toNat)[(j - 1).toNat]? = some (j - 1).toNat := by rw [List.getElem?_range (by omega)]
      rw [h2, List.getElem?_append_left (by omega)] at this
      exact List.mem_of_getElem? this
    have := h3 _ hj
    have e : (((j - 1).toNat : Nat) : Int) + 1 = j := by omega
    rw [e] at this
    simp only [Bool.not_eq_true', decide_eq_false_iff_not, not_and, Classical.not_not] at this
    by_cases hk : Known cls fixed j
    · exact .inl hk
    · exact .inr (this hk)
open Classical in
theorem free_none {vars : Int} {cls : List (List Int)} {fixed : List Int} (h : Ok vars cls fixed) (h0 : free vars cls fixed = 0) :
    ∀ i : Int, 0 < i → i ≤ vars → Known cls fixed i ∨ Known cls fixed (-i) := by
  have hv := h.vars
  unfold free at h0
  rw [if_neg (show ¬ ((prop vars cls fixed).2 ≠ 0) by simp [ok_iff.2 h])] at h0
  cases hf : (List.range vars.toNat).find? (fun (i : Nat) => decide (¬ Known cls fixed ((i : Int) + 1) ∧ ¬ Known cls fixed (-((i : Int) + 1)))) with
  | some i => rw [hf] at h0; simp only at h0; omega
  | none =>
    intro j j1 j2
    have := List.find?_eq_none.1 hf (j - 1).toNat (List.mem_range.2 (by omega))
    have e : (((j - 1).toNat : Nat) : Int) + 1 = j := by omega
    rw [e] at this
    simp only [decide_eq_true_eq, not_and, Classical.not_not] at this
    by_cases hk : Known cls fixed j
    · exact .inl hk
    · exact .inr (this hk)
/-- All is known: the literals are those of each variable in turn. -/
theorem told_full : ∀ (nv : Nat) (P : Int → Prop), (∀ i : Int, 0 < i → i ≤ nv → P i ∨ P (-i)) → (told nv P).length = nv ∧ ∀ i : Nat, i < nv → ∃ h : i < (told nv P).length, ((told nv P)[i] = (i : Int) + 1 ∧ P ((i : Int) + 1)) ∨ ((told nv P)[i] = -((i : Int) + 1) ∧ ¬ P ((i : Int) + 1) ∧ P (-((i : Int) + 1)))
  | 0, P, h => ⟨rfl, fun i hi => absurd hi (Nat.not_lt_zero _)⟩
  | nv + 1, P, h => by
    obtain ⟨h1, h2⟩ := told_full nv P (fun i a b => h i a (by omega))
    by_cases hp : P ((nv : Int) + 1)
    · have e : told (nv + 1) P = told nv P ++ [(nv : Int) + 1] := by
        unfold told; rw [List.range_succ, List.filterMap_append]; simp [hp]
      rw [e]
      refine ⟨by simp [h1], fun i hi => ?_⟩
      by_cases hin : i < nv
      · obtain ⟨k1, k2⟩ := h2 i hin
        refine ⟨by simp; omega, ?_⟩
        rw [List.getElem_append_left k1]; exact k2
      · have : i = nv := by omega
        subst this
        refine ⟨by simp; omega, .inl ⟨?_, hp⟩⟩
        rw [List.getElem_append_right (by omega)]; simp
    · have hn : P (-((nv : Int) + 1)) := (h ((nv : Int) + 1) (by omega) (by omega)).resolve_left hp
      have e : told (nv + 1) P = told nv P ++ [-((nv : Int) + 1)] := by
        unfold told; rw [List.range_succ, List.filterMap_append]; simp [hp, hn]
      rw [e]
      refine ⟨by simp [h1], fun i hi => ?_⟩
      by_cases hin : i < nv
      · obtain ⟨k1, k2⟩ := h2 i hin
        refine ⟨by simp; omega, ?_⟩
        rw [List.getElem_append_left k1]; exact k2
      · have : i = nv := by omega
        subst this
        refine ⟨by simp; omega, .inr ⟨?_, hp, hn⟩⟩
        rw [List.getElem_append_right (by omega)]; simp
/-- The known literals, all known, are a model. -/
theorem full_sat {vars : Int} {cls : List (List Int)} {fixed : List Int} (h : Ok vars cls fixed) (h0 : free vars cls fixed = 0) :
    Sp.sat vars cls ((told vars.toNat (Known cls fixed)).map (fun x => decide (x > 0))) = true := by
  have hv := h.vars
  obtain ⟨t1, t2⟩ := told_full vars.toNat (Known cls fixed) (fun i a b => free_none h h0 i a (by omega))
  have hr : Sp.right vars cls = true := Sp.right_iff.2 (Sp.check_ok h.chk)
  have key : ∀ n, Known cls fixed n → Sp.trueIn ((told vars.toNat (Known cls fixed)).map (fun x => decide (x > 0))) n = true := by
    intro n hn
    have hl := Sp.lit_iff.1 (h.known hn)
    obtain ⟨k1, k2⟩ := t2 (n.natAbs - 1) (by omega)
    rw [true_iff, Sp.lit_iff]
    refine ⟨by omega, by simp; omega, ?_⟩
    rw [List.getD_eq_getElem?_getD, List.getElem?_map, List.getElem?_eq_getElem k1]
    simp only [Option.map_some, Option.getD_some]
    by_cases hp : 0 < n
    · have e : ((n.natAbs - 1 : Nat) : Int) + 1 = n := by omega
      rw [e] at k2
      rcases k2 with ⟨a, _⟩ | ⟨_, b, _⟩
      · rw [a]
      · exact absurd hn b
    · have e : ((n.natAbs - 1 : Nat) : Int) + 1 = -n := by omega
      rw [e] at k2
      rcases k2 with ⟨_, b⟩ | ⟨a, _, _⟩
      · exact absurd (.inl ⟨n, hn, b⟩) h.calm
      · rw [a, Int.neg_neg]
  rw [sat_iff]
  refine ⟨hr, by simp [t1]; omega, fun c hc => ?_⟩
  apply Classical.byContradiction
  intro hno
  refine h.calm (.inr ⟨c, hc, fun m hm => ?_⟩)
  have hl := Sp.lit_iff.1 ((Sp.check_ok h.chk).2.2 c hc m hm)
  have hnk : ¬ Known cls fixed m := fun k => hno ⟨m, hm, key m k⟩
  by_cases hp : 0 < m
  · exact (free_none h h0 m hp (by omega)).resolve_left hnk
  · have := free_none h h0 (-m) (by omega) (by omega)
    rw [Int.neg_neg] at this
    exact this.resolve_right hnk
end Go.Proofs.Ythnbmlpjbhhamaa.Uk
