/- More of what is known: members, growth, more literals. No program in sight. -/
import Derived.Test.YthnbmlpjbhhamaaUk
namespace Go.Proofs.Ythnbmlpjbhhamaa.Uk
open Un
set_option linter.unusedVariables false

theorem mem_told {nv : Nat} {P : Int → Prop} (hl : ∀ n, P n → n ≠ 0 ∧ n.natAbs ≤ nv) (hc : ∀ n, P n → ¬ P (-n)) (x : Int) : x ∈ told nv P ↔ P x := by
  unfold told
  rw [List.mem_filterMap]
  constructor
  · rintro ⟨i, hi, h⟩
    by_cases h1 : P ((i : Int) + 1)
    · rw [if_pos h1] at h; obtain rfl := Option.some.inj h; exact h1
    · rw [if_neg h1] at h
      by_cases h2 : P (-((i : Int) + 1))
      · rw [if_pos h2] at h; obtain rfl := Option.some.inj h; exact h2
      · rw [if_neg h2] at h; exact absurd h (by simp)
  · intro h
    obtain ⟨h0, h1⟩ := hl x h
    refine ⟨x.natAbs - 1, List.mem_range.2 (by omega), ?_⟩
    by_cases hp : 0 < x
    · have e : ((x.natAbs - 1 : Nat) : Int) + 1 = x := by omega
      rw [e, if_pos h]
    · have e : ((x.natAbs - 1 : Nat) : Int) + 1 = -x := by omega
      rw [e, if_neg (hc x h), Int.neg_neg, if_pos h]
theorem told_congr {nv : Nat} {P Q : Int → Prop} (h : ∀ x, P x ↔ Q x) : told nv P = told nv Q := by
  have : P = Q := funext fun x => propext (h x)
  rw [this]
theorem told_length (nv : Nat) (P : Int → Prop) : (told nv P).length ≤ nv := by
  unfold told
  exact Nat.le_trans (List.length_filterMap_le _ _) (by simp)

theorem known_mono {cls cls' : List (List Int)} {fixed fixed' : List Int} (hc : ∀ c ∈ cls, c ∈ cls') (hf : ∀ m ∈ fixed, m ∈ fixed') {n : Int} (h : Known cls fixed n) : Known cls' fixed' n := by
  induction h with
  | fix h => exact .fix (hf _ h)
  | unit h1 h2 _ ih => exact .unit (hc _ h1) h2 ih
theorem known_cut {cls : List (List Int)} {fixed fixed' : List Int} (hf : ∀ m ∈ fixed', Known cls fixed m) {n : Int} (h : Known cls fixed' n) : Known cls fixed n := by
  induction h with
  | fix h => exact hf _ h
  | unit h1 h2 _ ih => exact .unit h1 h2 ih
theorem clash_mono {cls cls' : List (List Int)} {fixed fixed' : List Int} (hc : ∀ c ∈ cls, c ∈ cls') (hf : ∀ m ∈ fixed, m ∈ fixed') (h : Clash cls fixed) : Clash cls' fixed' := by
  rcases h with ⟨n, h1, h2⟩ | ⟨c, h1, h2⟩
  · exact .inl ⟨n, known_mono hc hf h1, known_mono hc hf h2⟩
  · exact .inr ⟨c, hc c h1, fun m hm => known_mono hc hf (h2 m hm)⟩

theorem check_cases (vars : Int) (cls : List (List Int)) : Sp.check vars cls = 0 ∨ Sp.check vars cls = 2 ∨ Sp.check vars cls = 100 := by
  unfold Sp.check; split
  · exact .inr (.inl rfl)
  · split
    · exact .inr (.inr rfl)
    · exact .inl rfl
/-- The four ends of Propagate. -/
theorem prop_ends (vars : Int) (cls : List (List Int)) (fixed : List Int) :
    (Sp.check vars cls ≠ 0 ∧ prop vars cls fixed = ([], Sp.check vars cls)) ∨
    (Sp.check vars cls = 0 ∧ (¬ ∀ m ∈ fixed, Sp.lit vars m = true) ∧ prop vars cls fixed = ([], 100)) ∨
    (Sp.check vars cls = 0 ∧ (∀ m ∈ fixed, Sp.lit vars m = true) ∧ Clash cls fixed ∧ prop vars cls fixed = ([], 110)) ∨
    (Sp.check vars cls = 0 ∧ (∀ m ∈ fixed, Sp.lit vars m = true) ∧ ¬ Clash cls fixed ∧ prop vars cls fixed = (told vars.toNat (Known cls fixed), 0)) := by
  unfold prop
  by_cases h1 : Sp.check vars cls = 0
  · rw [if_neg (by simp [h1])]
    by_cases h2 : ∀ m ∈ fixed, Sp.lit vars m = true
    · rw [if_neg (by simpa using h2)]
      by_cases h3 : Clash cls fixed
      · rw [if_pos h3]; exact .inr (.inr (.inl ⟨h1, h2, h3, rfl⟩))
      · rw [if_neg h3]; exact .inr (.inr (.inr ⟨h1, h2, h3, rfl⟩))
    · rw [if_pos h2]; exact .inr (.inl ⟨h1, h2, rfl⟩)
  · rw [if_pos h1]; exact .inl ⟨h1, rfl⟩
/-- Propagate goes through. -/
structure Ok (vars : Int) (cls : List (List Int)) (fixed : List Int) : Prop where
  chk : Sp.check vars cls = 0
  lits : ∀ m ∈ fixed, Sp.lit vars m = true
  calm : ¬ Clash cls fixed
theorem ok_iff {vars : Int} {cls : List (List Int)} {fixed : List Int} : (prop vars cls fixed).2 = 0 ↔ Ok vars cls fixed := by
  rcases prop_ends vars cls fixed with ⟨h, e⟩ | ⟨h, h2, e⟩ | ⟨h, h2, h3, e⟩ | ⟨h, h2, h3, e⟩ <;> rw [e]
  · exact ⟨fun k => absurd k h, fun k => absurd k.chk h⟩
  · exact ⟨fun k => absurd k (by simp), fun k => absurd k.lits h2⟩
  · exact ⟨fun k => absurd k (by simp), fun k => absurd h3 k.calm⟩
  · exact ⟨fun _ => ⟨h, h2, h3⟩, fun _ => rfl⟩
theorem Ok.prop {vars : Int} {cls : List (List Int)} {fixed : List Int} (h : Ok vars cls fixed) : prop vars cls fixed = (told vars.toNat (Known cls fixed), 0) := by
  unfold Uk.prop
  rw [if_neg (by simp [h.chk]), if_neg (by simpa using h.lits), if_neg h.calm]
theorem prop_bad {vars : Int} {cls : List (List Int)} {fixed : List Int} (h : (prop vars cls fixed).2 ≠ 0) : (prop vars cls fixed).1 = [] := by
  rcases prop_ends vars cls fixed with ⟨_, e⟩ | ⟨_, _, e⟩ | ⟨_, _, _, e⟩ | ⟨_, _, _, e⟩ <;> rw [e] at h ⊢
  exact absurd rfl h
theorem Ok.vars {vars : Int} {cls : List (List Int)} {fixed : List Int} (h : Ok vars cls fixed) : 0 ≤ vars ∧ vars ≤ 60 := ⟨(Sp.check_ok h.chk).1, (Sp.check_ok h.chk).2.1⟩
theorem Ok.known {vars : Int} {cls : List (List Int)} {fixed : List Int} (h : Ok vars cls fixed) {n : Int} (k : Known cls fixed n) : Sp.lit vars n = true := by
  induction k with
  | fix h1 => exact h.lits _ h1
  | unit h1 h2 _ _ => exact (Sp.check_ok h.chk).2.2 _ h1 _ h2
theorem Ok.mem {vars : Int} {cls : List (List Int)} {fixed : List Int} (h : Ok vars cls fixed) (x : Int) : x ∈ told vars.toNat (Known cls fixed) ↔ Known cls fixed x := by
  have hv := h.vars
  refine mem_told (fun n k => ?_) (fun n k k' => h.calm (.inl ⟨n, k, k'⟩)) x
  have := Sp.lit_iff.1 (h.known k)
  omega
theorem Ok.small {vars : Int} {cls : List (List Int)} {fixed : List Int} (h : Ok vars cls fixed) : (told vars.toNat (Known cls fixed)).length ≤ 60 := by
  have hv := h.vars
  have := told_length vars.toNat (Known cls fixed)
  omega
theorem prop_small (vars : Int) (cls : List (List Int)) (fixed : List Int) : (prop vars cls fixed).1.length ≤ 60 := by
  by_cases h : (prop vars cls fixed).2 = 0
  · have := (ok_iff.1 h); rw [this.prop]; exact this.small
  · rw [prop_bad h]; simp

/-! ### one literal more -/
theorem more_ok {vars : Int} {cls : List (List Int)} {fixed : List Int} {n : Int} (h : Ok vars cls (fixed ++ [n])) : Ok vars cls fixed :=
  ⟨h.chk, fun m hm => h.lits m (List.mem_append_left _ hm), fun k => h.calm (clash_mono (fun _ h => h) (fun _ h => List.mem_append_left _ h) k)⟩
theorem lit_neg {vars n : Int} : Sp.lit vars (-n) = true ↔ Sp.lit vars n = true := by
  rw [Sp.lit_iff, Sp.lit_iff]; omega
theorem more_turned {vars : Int} {cls : List (List Int)} {fixed : List Int} {n : Int} (h : Ok vars cls fixed) (k : Known cls fixed (-n)) : prop vars cls (fixed ++ [n]) = ([], 110) := by
  have hl : ∀ m ∈ fixed ++ [n], Sp.lit vars m = true := by
    intro m hm
    rcases List.mem_append.1 hm with h1 | h1
    · exact h.lits m h1
    · obtain rfl := List.mem_singleton.1 h1; exact lit_neg.1 (h.known k)
  have hc : Clash cls (fixed ++ [n]) := .inl ⟨n, .fix (by simp), known_mono (fun _ h => h) (fun _ h => List.mem_append_left _ h) k⟩
  unfold prop
  rw [if_neg (by simp [h.chk]), if_neg (fun k => k hl), if_pos hc]
theorem more_same {vars : Int} {cls : List (List Int)} {fixed : List Int} {n : Int} (h : Ok vars cls fixed) (k : Known cls fixed n) : prop vars cls (fixed ++ [n]) = prop vars cls fixed := by
  have hk : ∀ x, Known cls (fixed ++ [n]) x ↔ Known cls fixed x := fun x =>
    ⟨fun hx => known_cut (fun m hm => by
      rcases List.mem_append.1 hm with h1 | h1
      · exact .fix h1
      · obtain rfl := List.mem_singleton.1 h1; exact k) hx, fun hx => known_mono (fun _ h => h) (fun _ h => List.mem_append_left _ h) hx⟩
  have h2 : Ok vars cls (fixed ++ [n]) := by
    refine ⟨h.chk, fun m hm => ?_, fun hc => h.calm ?_⟩
    · rcases List.mem_append.1 hm with h1 | h1
      · exact h.lits m h1
      · obtain rfl := List.mem_singleton.1 h1; exact h.known k
    · rcases hc with ⟨x, h1, h2⟩ | ⟨c, h1, h2⟩
      · exact .inl ⟨x, (hk _).1 h1, (hk _).1 h2⟩
      · exact .inr ⟨c, h1, fun m hm => (hk _).1 (h2 m hm)⟩
  rw [h.prop, h2.prop, told_congr hk]
theorem more_keeps {vars : Int} {cls : List (List Int)} {fixed : List Int} {n : Int} (h : Ok vars cls (fixed ++ [n])) {x : Int} (hx : x ∈ told vars.toNat (Known cls fixed)) : x ∈ told vars.toNat (Known cls (fixed ++ [n])) :=
  (h.mem x).2 (known_mono (fun _ h => h) (fun _ h => List.mem_append_left _ h) (((more_ok h).mem x).1 hx))

/-! ### models -/
theorem true_iff {m : List Bool} {n : Int} : Sp.trueIn m n = true ↔ Sp.lit 60 n = true ∧ n.natAbs ≤ m.length ∧ m.getD (n.natAbs - 1) false = decide (0 < n) := by
  unfold Sp.trueIn; simp
theorem true_neg {m : List Bool} {n : Int} (h : Sp.trueIn m n = true) : ¬ Sp.trueIn m (-n) = true := by
  intro k
  obtain ⟨h1, h2, h3⟩ := true_iff.1 h
  obtain ⟨k1, k2, k3⟩ := true_iff.1 k
  rw [Int.natAbs_neg, h3] at k3
  have := (Sp.lit_iff.1 h1).1
  by_cases hp : 0 < n
  · rw [decide_eq_true hp, decide_eq_false (by omega)] at k3; exact absurd k3 (by decide)
  · rw [decide_eq_false hp, decide_eq_true (by omega)] at k3; exact absurd k3 (by decide)
theorem sat_iff {vars : Int} {cls : List (List Int)} {m : List Bool} : Sp.sat vars cls m = true ↔ Sp.right vars cls = true ∧ (m.length : Int) = vars ∧ ∀ c ∈ cls, ∃ n ∈ c, Sp.trueIn m n = true := by
  unfold Sp.sat Sp.holds
  simp [List.all_eq_true, List.any_eq_true]
/-- All that is known of a model's literals holds in it. -/
theorem model_known {vars : Int} {cls : List (List Int)} {m : List Bool} {fixed : List Int} (hs : Sp.sat vars cls m = true) (hf : ∀ n ∈ fixed, Sp.trueIn m n = true) {n : Int} (h : Known cls fixed n) : Sp.trueIn m n = true := by
  obtain ⟨_, _, h3⟩ := sat_iff.1 hs
  induction h with
  | fix h => exact hf _ h
  | @unit c n hc hn ho ih =>
    obtain ⟨x, hx, hx2⟩ := h3 c hc
    by_cases e : x = n
    · exact e ▸ hx2
    · exact absurd (ih x hx e) (true_neg hx2)
theorem model_ok {vars : Int} {cls : List (List Int)} {m : List Bool} {fixed : List Int} (hs : Sp.sat vars cls m = true) (hc : Sp.check vars cls = 0) (hf : ∀ n ∈ fixed, Sp.trueIn m n = true) : Ok vars cls fixed := by
  obtain ⟨_, h2, h3⟩ := sat_iff.1 hs
  refine ⟨hc, fun n hn => ?_, ?_⟩
  · obtain ⟨k1, k2, k3⟩ := true_iff.1 (hf n hn)
    rw [Sp.lit_iff] at k1 ⊢
    omega
  · rintro (⟨n, h, k⟩ | ⟨c, hcl, ha⟩)
    · exact true_neg (model_known hs hf h) (model_known hs hf k)
    · obtain ⟨x, hx, hx2⟩ := h3 c hcl
      exact true_neg hx2 (model_known hs hf (ha x hx))
end Go.Proofs.Ythnbmlpjbhhamaa.Uk
