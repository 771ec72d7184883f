/- More of what follows: traces and models, growth. No program in sight. -/
import Derived.Test.YthnbmlpjbhhamaaUp
import Derived.Test.YthnbmlpjbhhamaaSv
namespace Go.Proofs.Ythnbmlpjbhhamaa.Pf
open Uk
set_option linter.unusedVariables false

theorem least (p : Nat → Prop) [DecidablePred p] : ∀ n, (∀ i, i < n → p i) ∨ ∃ i, i < n ∧ (∀ j, j < i → p j) ∧ ¬ p i
  | 0 => .inl (fun i hi => absurd hi (Nat.not_lt_zero _))
  | n + 1 => by
    rcases least p n with h | ⟨i, h1, h2, h3⟩
    · by_cases hp : p n
      · left
        intro i hi
        by_cases e : i = n
        · exact e ▸ hp
        · exact h i (by omega)
      · exact .inr ⟨n, by omega, h, hp⟩
    · exact .inr ⟨i, by omega, h2, h3⟩
theorem check_cases (vars : Int) (cls tr : List (List Int)) :
    (∃ i, i < tr.length ∧ (∀ j, j < i → goes vars cls tr j = true) ∧ goes vars cls tr i = false ∧ check vars cls tr = ((i : Int), false)) ∨
    ((∀ j, j < tr.length → goes vars cls tr j = true) ∧ check vars cls tr = ((tr.length : Int), decide (0 < tr.length) && decide ((tr.getD (tr.length - 1) []).length = 0))) := by
  rcases least (fun j => goes vars cls tr j = true) tr.length with h | ⟨i, h1, h2, h3⟩
  · exact .inr ⟨h, check_holds h⟩
  · have h4 : goes vars cls tr i = false := by simpa using h3
    exact .inl ⟨i, h1, h2, h4, check_fails h1 h2 h4⟩
theorem turned_mem {c : List Int} {n : Int} : n ∈ turned c ↔ -n ∈ c := by
  unfold turned
  rw [List.mem_map]
  constructor
  · rintro ⟨x, hx, rfl⟩; rw [Int.neg_neg]; exact hx
  · exact fun h => ⟨_, h, Int.neg_neg n⟩
theorem one_lits {v : Int} {c : List Int} (h : Sp.check v [c] = 0) : ∀ n ∈ c, Sp.lit v n = true := (Sp.check_ok h).2.2 c (by simp)
/-- What follows holds in each model. -/
theorem follows_holds {v : Int} {cls : List (List Int)} {c : List Int} {m : List Bool} (hs : Sp.sat v cls m = true) (hf : follows v cls c = true) : Sp.holds c m = true := by
  obtain ⟨h1, h2, h3⟩ := follows_true.1 hf
  obtain ⟨s1, s2, s3⟩ := sat_iff.1 hs
  have hv := Sp.check_ok h1
  cases hh : Sp.holds c m with
  | true => rfl
  | false =>
    exfalso
    have hall : ∀ n ∈ turned c, Sp.trueIn m n = true := by
      intro n hn
      have hc := turned_mem.1 hn
      have hl := Sp.lit_iff.1 (one_lits h2 _ hc)
      have hno : Sp.trueIn m (-n) = false := by
        unfold Sp.holds at hh
        have := List.any_eq_false.1 hh _ hc
        simpa using this
      rcases (show 0 < n ∨ 0 < -n by omega) with hp | hp
      · rcases Sv.either s2 hv.2.1 hp (by omega) with k | k
        · exact k
        · rw [hno] at k; exact absurd k (by decide)
      · rcases Sv.either s2 hv.2.1 hp (by omega) with k | k
        · rw [hno] at k; exact absurd k (by decide)
        · rw [Int.neg_neg] at k; exact k
    have hok := ok_iff.2 (model_ok hs h1 hall)
    rw [h3] at hok
    exact absurd hok (by decide)
theorem sat_more {v : Int} {cls : List (List Int)} {c : List Int} {m : List Bool} (hs : Sp.sat v cls m = true) (hl : ∀ n ∈ c, Sp.lit v n = true) (hh : Sp.holds c m = true) : Sp.sat v (cls ++ [c]) m = true := by
  obtain ⟨s1, s2, s3⟩ := sat_iff.1 hs
  obtain ⟨r1, r2, r3⟩ := Sp.right_iff.1 s1
  refine sat_iff.2 ⟨Sp.right_iff.2 ⟨r1, r2, fun d hd => ?_⟩, s2, fun d hd => ?_⟩
  · rcases List.mem_append.1 hd with hd | hd
    · exact r3 d hd
    · rw [List.mem_singleton] at hd; subst hd; exact hl
  · rcases List.mem_append.1 hd with hd | hd
    · exact s3 d hd
    · rw [List.mem_singleton] at hd; subst hd
      unfold Sp.holds at hh
      exact List.any_eq_true.1 hh
theorem goes_sat {v : Int} {cls tr : List (List Int)} {m : List Bool} (hs : Sp.sat v cls m = true) : ∀ n, n ≤ tr.length → (∀ j, j < n → goes v cls tr j = true) → Sp.sat v (cls ++ tr.take n) m = true
  | 0, _, _ => by rw [List.take_zero, List.append_nil]; exact hs
  | n + 1, hn, hg => by
    have ih := goes_sat hs n (by omega) (fun j hj => hg j (by omega))
    have h := hg n (by omega)
    unfold goes at h
    have e : tr.getD n [] = tr[n] := by rw [List.getD_eq_getElem?_getD, List.getElem?_eq_getElem (by omega)]; rfl
    rw [e] at h
    have := sat_more ih (one_lits (follows_true.1 h).2.1) (follows_holds ih h)
    rw [List.take_succ_eq_append_getElem (by omega), ← List.append_assoc]
    exact this
theorem goes_holds {v : Int} {cls tr : List (List Int)} {m : List Bool} (hs : Sp.sat v cls m = true) {n : Nat} (hg : ∀ j, j < n → goes v cls tr j = true) (i : Nat) (hi : i < tr.length) (hin : i < n) : Sp.holds tr[i] m = true := by
  have h := hg i hin
  have ih := goes_sat hs i (by omega) (fun j hj => hg j (by omega))
  unfold goes at h
  have e : tr.getD i [] = tr[i] := by rw [List.getD_eq_getElem?_getD, List.getElem?_eq_getElem hi]; rfl
  rw [e] at h
  exact follows_holds ih h
/-- A trace whose clauses follow goes on at each place. -/
theorem all_at {v : Int} : ∀ (t C : List (List Int)) (i : Nat) (h : i < t.length), Sv.All v C t → Sv.Step v (C ++ t.take i) t[i]
  | c :: t, C, 0, _, h => by
    rw [List.take_zero, List.append_nil]
    exact h.1
  | c :: t, C, i + 1, hi, h => by
    have := all_at t (C ++ [c]) i (by simpa using hi) h.2
    rw [List.append_assoc] at this
    exact this
theorem all_goes {v : Int} {cls tr : List (List Int)} (hc : Sp.check v cls = 0) (hv : v ≤ 30) (hn : cls.length + tr.length ≤ 3000) (h : Sv.All v cls tr) (i : Nat) (hi : i < tr.length) : goes v cls tr i = true := by
  obtain ⟨⟨h0, h1, h2⟩, h3, h4⟩ := Sp.check_iff.1 hc
  have hstep := all_at tr cls i hi h
  have e : tr.getD i [] = tr[i] := by rw [List.getD_eq_getElem?_getD, List.getElem?_eq_getElem hi]; rfl
  unfold goes
  rw [e]
  have hin : ∀ c ∈ tr.take i, (∀ m ∈ c, Sp.lit v m = true) ∧ c.length ≤ v.toNat := by
    intro c hcm
    obtain ⟨j, hj, ej⟩ := List.getElem_of_mem hcm
    have hjt : j < tr.length := by rw [List.length_take] at hj; omega
    have hs := all_at tr cls j hjt h
    have : c = tr[j] := by rw [← ej, List.getElem_take]
    rw [this]
    exact ⟨hs.2.1, hs.2.2⟩
  have hck : Sp.check v (cls ++ tr.take i) = 0 := by
    rw [Sp.check_iff]
    refine ⟨⟨h0, h1, fun c hcm => ?_⟩, by rw [List.length_append, List.length_take]; omega, fun c hcm => ?_⟩
    · rcases List.mem_append.1 hcm with hcm | hcm
      · exact h2 c hcm
      · exact (hin c hcm).1
    · rcases List.mem_append.1 hcm with hcm | hcm
      · exact h4 c hcm
      · have := (hin c hcm).2; omega
  refine follows_true.2 ⟨hck, ?_, ?_⟩
  · rw [Sp.check_iff]
    simp only [List.mem_singleton, forall_eq, List.length_singleton]
    exact ⟨⟨h0, h1, hstep.2.1⟩, by omega, by have := hstep.2.2; omega⟩
  · rcases prop_ends v (cls ++ tr.take i) (turned tr[i]) with ⟨k, _⟩ | ⟨_, k, _⟩ | ⟨_, _, _, k⟩ | ⟨_, _, k, _⟩
    · exact absurd hck k
    · exact absurd (Sv.turned_lits hstep.2.1) k
    · rw [k]
    · exact absurd hstep.1 k
end Go.Proofs.Ythnbmlpjbhhamaa.Pf
