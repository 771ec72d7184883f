/- A model's literals as clauses: the solver tells it at its first look. No program in sight. -/
import Derived.Test.YthnbmlpjbhhamaaSl
namespace Go.Proofs.Ythnbmlpjbhhamaa.Sv
open Uk
set_option linter.unusedVariables false

/-! ### a model's literals as clauses -/
def unitAt (m : List Bool) (i : Nat) : Int := if m.getD i false = true then (i : Int) + 1 else -((i : Int) + 1)
def units (m : List Bool) : List (List Int) := (List.range m.length).map (fun i => [unitAt m i])
theorem unitAt_abs (m : List Bool) (i : Nat) : (unitAt m i).natAbs = i + 1 := by
  unfold unitAt; split <;> omega
theorem unitAt_pos (m : List Bool) (i : Nat) : decide (0 < unitAt m i) = m.getD i false := by
  unfold unitAt
  cases h : m.getD i false with
  | true => rw [if_pos rfl]; exact decide_eq_true (by omega)
  | false => rw [if_neg (by simp)]; exact decide_eq_false (by omega)
theorem true_unit (m m' : List Bool) (hl : m.length ≤ 60) {i : Nat} (hi : i < m.length) (hl' : m'.length = m.length) : Sp.trueIn m' (unitAt m i) = true ↔ m'.getD i false = m.getD i false := by
  have ha := unitAt_abs m i
  rw [Uk.true_iff, unitAt_pos, ha, Nat.add_sub_cancel]
  constructor
  · exact fun h => h.2.2
  · exact fun h => ⟨Sp.lit_iff.2 (by omega), by omega, h⟩
theorem mem_units {m : List Bool} {c : List Int} : c ∈ units m ↔ ∃ i, i < m.length ∧ c = [unitAt m i] := by
  unfold units
  rw [List.mem_map]
  constructor
  · rintro ⟨i, hi, rfl⟩; exact ⟨i, List.mem_range.1 hi, rfl⟩
  · rintro ⟨i, hi, rfl⟩; exact ⟨i, List.mem_range.2 hi, rfl⟩
theorem units_sat {m m' : List Bool} (hl : m.length ≤ 60) (hl' : m'.length = m.length) (h : ∀ c ∈ units m, ∃ n ∈ c, Sp.trueIn m' n = true) : m' = m := by
  refine List.ext_getElem hl' fun i h1 h2 => ?_
  obtain ⟨n, hn, ht⟩ := h _ (mem_units.2 ⟨i, h2, rfl⟩)
  rw [List.mem_singleton] at hn
  subst hn
  have := (true_unit m m' hl h2 hl').1 ht
  rw [List.getD_eq_getElem?_getD, List.getD_eq_getElem?_getD, List.getElem?_eq_getElem h1, List.getElem?_eq_getElem h2] at this
  exact this
theorem solve_fixed {v : Int} {cls : List (List Int)} {m : List Bool} {t : List (List Int)} (h : solve v cls = (true, m, t, 0)) (hn : cls.length + m.length ≤ 3000) :
    solve v (cls ++ units m) = (true, m, [], 0) ∧ looks v (cls ++ units m) = 1 := by
  have hc := solve_check h
  have hs : Sp.sat v cls m = true := by
    rcases solve_ends h with ⟨_, _, a, _⟩ | ⟨e, _⟩
    · exact a
    · exact absurd e (by decide)
  obtain ⟨s1, s2, s3⟩ := sat_iff.1 hs
  obtain ⟨⟨h0, h1, h2⟩, h3, h4⟩ := Sp.check_iff.1 hc
  have hl : m.length ≤ 60 := by omega
  have hck : Sp.check v (cls ++ units m) = 0 := by
    rw [Sp.check_iff]
    refine ⟨⟨h0, h1, fun c hcm => ?_⟩, by rw [List.length_append]; unfold units; rw [List.length_map, List.length_range]; omega, fun c hcm => ?_⟩
    · rcases List.mem_append.1 hcm with hcm | hcm
      · exact h2 c hcm
      · obtain ⟨i, hi, rfl⟩ := mem_units.1 hcm
        intro n hn1
        rw [List.mem_singleton] at hn1
        subst hn1
        have := unitAt_abs m i
        exact Sp.lit_iff.2 (by omega)
    · rcases List.mem_append.1 hcm with hcm | hcm
      · exact h4 c hcm
      · obtain ⟨i, hi, rfl⟩ := mem_units.1 hcm
        simp
  have hsm : Sp.sat v (cls ++ units m) m = true := by
    refine sat_iff.2 ⟨?_, s2, fun c hcm => ?_⟩
    · obtain ⟨a, b, d⟩ := Sp.check_ok hck
      unfold Sp.right
      simp only [Bool.and_eq_true, decide_eq_true_eq, List.all_eq_true]
      exact ⟨a, b, fun c hcm n hn => d c hcm n hn⟩
    · rcases List.mem_append.1 hcm with hcm | hcm
      · exact s3 c hcm
      · obtain ⟨i, hi, rfl⟩ := mem_units.1 hcm
        exact ⟨_, by simp, (true_unit m m hl hi rfl).2 rfl⟩
  have hok : Ok v (cls ++ units m) [] := model_ok hsm hck (by simp)
  have hp := hok.prop
  have hfull := told_full v.toNat (Known (cls ++ units m) []) (fun i hi1 hi2 => by
    obtain ⟨j, rfl⟩ : ∃ j : Nat, i = (j : Int) + 1 := ⟨(i - 1).toNat, by omega⟩
    have hk : Known (cls ++ units m) [] (unitAt m j) := .unit (c := [unitAt m j]) (by simp [mem_units]; exact .inr ⟨j, by omega, rfl⟩) (by simp) (fun x hx hne => absurd (List.mem_singleton.1 hx) hne)
    unfold unitAt at hk
    split at hk
    · exact .inl hk
    · exact .inr hk)
  have hlk := look_full (vars := v) (cls := cls ++ units m) (k := v.toNat) (d := []) (s := St.zero) (by decide) (by rw [hp]) (by rw [hp]; show ((told _ _).length : Int) = v; rw [hfull.1]; omega)
  have hE : ends v (cls ++ units m) = St.zero.tick.tell (prop v (cls ++ units m) []).1 := by unfold ends; rw [hlk]
  have hL : (ends v (cls ++ units m)).looks = 1 := by rw [hE]; rfl
  obtain ⟨mm, tt, e, hb⟩ : ∃ mm tt, solve v (cls ++ units m) = (true, mm, tt, 0) ∧ tt = [] := by
    unfold solve
    rw [if_neg (by simp [hck]), if_neg (by rw [hL]; decide), hE]
    exact ⟨_, _, rfl, rfl⟩
  subst hb
  refine ⟨?_, by unfold looks; rw [if_neg (by simp [hck]), hL]; rfl⟩
  rcases solve_ends e with ⟨_, _, hsat, _⟩ | ⟨e, _⟩
  · obtain ⟨_, u2, u3⟩ := sat_iff.1 hsat
    have := units_sat hl (by omega) (fun c hcm => u3 c (by simp [hcm]))
    rw [e, this]
  · exact absurd e (by decide)
end Go.Proofs.Ythnbmlpjbhhamaa.Sv
