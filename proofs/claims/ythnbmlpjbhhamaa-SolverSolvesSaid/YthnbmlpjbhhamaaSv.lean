/- The solver's looks: by recursion, and as the program makes them, with a stack. What a model and a trace are good for. No program in sight. -/
import Derived.Test.YthnbmlpjbhhamaaUr
import Derived.Test.YthnbmlpjbhhamaaUp
import Derived.Test.YthnbmlpjbhhamaaUc
namespace Go.Proofs.Ythnbmlpjbhhamaa.Sv
open Uk
set_option linter.unusedVariables false

structure St where
  looks : Nat
  sat : Bool
  model : List Bool
  trace : List (List Int)
def St.zero : St := ⟨0, false, [], []⟩
def St.tick (s : St) : St := ⟨s.looks + 1, s.sat, s.model, s.trace⟩
def St.lay (s : St) (d : List Int) : St := ⟨s.looks, s.sat, s.model, s.trace ++ [Pf.turned d]⟩
def St.tell (s : St) (l : List Int) : St := ⟨s.looks, true, s.model ++ l.map (fun x => decide (x > 0)), []⟩

/-- A look, by the document's words; has it failed? -/
noncomputable def look (vars : Int) (cls : List (List Int)) : Nat → List Int → St → Bool × St
  | 0, _, s => (true, s)
  | k + 1, d, s =>
    if 2000 < s.looks + 1 then (false, s.tick) else
    if (prop vars cls d).2 ≠ 0 then (true, s.tick.lay d) else
    if ((prop vars cls d).1.length : Int) = vars then (false, s.tick.tell (prop vars cls d).1) else
    if (look vars cls k (d ++ [free vars cls d]) s.tick).1 = false then look vars cls k (d ++ [free vars cls d]) s.tick else
    if (look vars cls k (d ++ [-(free vars cls d)]) (look vars cls k (d ++ [free vars cls d]) s.tick).2).1 = false then look vars cls k (d ++ [-(free vars cls d)]) (look vars cls k (d ++ [free vars cls d]) s.tick).2 else
    (true, (look vars cls k (d ++ [-(free vars cls d)]) (look vars cls k (d ++ [free vars cls d]) s.tick).2).2.lay d)

/-- The looks as they are made: true: a look has failed. -/
noncomputable def mach (vars : Int) (cls : List (List Int)) : Nat → Bool → List Int → List (Int × Int) → St → Option (Bool × St)
  | 0, _, _, _, _ => none
  | k + 1, false, d, stk, s =>
    if 2000 < s.looks + 1 then some (false, s.tick) else
    if (prop vars cls d).2 ≠ 0 then mach vars cls k true d stk s.tick else
    if ((prop vars cls d).1.length : Int) = vars then some (true, s.tick.tell (prop vars cls d).1) else
    mach vars cls k false (d ++ [free vars cls d]) (stk ++ [(free vars cls d, 1)]) s.tick
  | k + 1, true, d, stk, s =>
    if stk.length = 0 then some (true, s.lay d) else
    if (stk.getD (stk.length - 1) (0, 0)).2 = 1 then mach vars cls k false (d.take (d.length - 1) ++ [-(stk.getD (stk.length - 1) (0, 0)).1]) (stk.set (stk.length - 1) ((stk.getD (stk.length - 1) (0, 0)).1, 2)) (s.lay d) else
    mach vars cls k true (d.take (d.length - 1)) (stk.take (stk.length - 1)) (s.lay d)

/-- P12.1. -/
noncomputable def ends (vars : Int) (cls : List (List Int)) : St := (look vars cls (vars.toNat + 1) [] St.zero).2
noncomputable def solve (vars : Int) (cls : List (List Int)) : Bool × List Bool × List (List Int) × Int :=
  if Sp.check vars cls ≠ 0 then (false, [], [], Sp.check vars cls) else
  if 2000 < (ends vars cls).looks then (false, [], [], 120) else
  ((ends vars cls).sat, (ends vars cls).model, (ends vars cls).trace, 0)
noncomputable def looks (vars : Int) (cls : List (List Int)) : Int :=
  if Sp.check vars cls ≠ 0 then 0 else ((ends vars cls).looks : Int)

/-! ### how deep -/
def left (vars : Int) (d : List Int) : Nat := (List.range vars.toNat).countP (fun (i : Nat) => !d.contains ((i : Int) + 1) && !d.contains (-((i : Int) + 1)))
theorem left_le (vars : Int) (d : List Int) : left vars d ≤ vars.toNat := by
  have := List.countP_le_length (p := fun (i : Nat) => !d.contains ((i : Int) + 1) && !d.contains (-((i : Int) + 1))) (l := List.range vars.toNat)
  unfold left
  simpa using this
open Classical in
theorem told_lacks : ∀ (nv : Nat) (P : Int → Prop) (i : Int), 0 < i → i ≤ nv → ¬ P i → ¬ P (-i) → (told nv P).length < nv
  | 0, P, i, h0, h1, _, _ => by omega
  | nv + 1, P, i, h0, h1, h2, h3 => by
    have hl := told_length nv P
    unfold told at hl ⊢
    rw [List.range_succ, List.filterMap_append, List.length_append]
    by_cases hi : i = (nv : Int) + 1
    · subst hi
      rw [List.filterMap_cons_none (by rw [if_neg h2, if_neg h3])]
      simp only [List.filterMap_nil, List.length_nil]
      omega
    · have := told_lacks nv P i h0 (by omega) h2 h3
      unfold told at this
      have h9 := List.length_filterMap_le (fun (i : Nat) => if P ((i : Int) + 1) then some ((i : Int) + 1) else if P (-((i : Int) + 1)) then some (-((i : Int) + 1)) else none) [nv]
      simp only [List.length_singleton] at h9
      omega
variable {vars : Int} {cls : List (List Int)}
theorem full_free {d : List Int} (h : Ok vars cls d) (hf : ((prop vars cls d).1.length : Int) = vars) : free vars cls d = 0 := by
  apply Classical.byContradiction
  intro h0
  obtain ⟨a, b, c, e, _⟩ := free_some h h0
  have hv := h.vars
  have := told_lacks vars.toNat (Known cls d) _ a (by omega) c e
  rw [h.prop] at hf
  simp only at hf
  omega
theorem less_free {d : List Int} (h : Ok vars cls d) (hf : ¬ ((prop vars cls d).1.length : Int) = vars) : free vars cls d ≠ 0 := by
  intro h0
  have hv := h.vars
  have := (told_full vars.toNat (Known cls d) (fun i a b => free_none h h0 i a (by omega))).1
  rw [h.prop] at hf
  simp only at hf
  omega
theorem left_add {d : List Int} {v x : Int} (h0 : 0 < v) (h1 : v ≤ vars) (h2 : v ∉ d) (h3 : -v ∉ d) (hx : x = v ∨ x = -v) : left vars (d ++ [x]) < left vars d := by
  unfold left
  apply countP_lt
  · intro i _ hi
    simp only [Bool.and_eq_true, Bool.not_eq_true', List.contains_eq_mem, decide_eq_false_iff_not, List.mem_append, not_or] at hi ⊢
    exact ⟨hi.1.1, hi.2.1⟩
  · refine ⟨(v - 1).toNat, List.mem_range.2 (by omega), ?_, ?_⟩
    · have e : (((v - 1).toNat : Nat) : Int) + 1 = v := by omega
      rw [e]
      rcases hx with rfl | rfl <;> simp
    · have e : (((v - 1).toNat : Nat) : Int) + 1 = v := by omega
      rw [e]
      simp [h2, h3]
/-- What is decided: literals, and no more than are left. -/
structure Fine (vars : Int) (d : List Int) : Prop where
  lits : ∀ m ∈ d, Sp.lit vars m = true
  size : d.length + left vars d ≤ vars.toNat
theorem Fine.nil : Fine vars [] := ⟨by simp, by have := left_le vars []; simpa using this⟩
theorem Fine.add {d : List Int} (hd : Fine vars d) (h : Ok vars cls d) (hf : ¬ ((prop vars cls d).1.length : Int) = vars) {x : Int} (hx : x = free vars cls d ∨ x = -(free vars cls d)) : Fine vars (d ++ [x]) ∧ left vars (d ++ [x]) < left vars d := by
  obtain ⟨a, b, c, e, _⟩ := free_some h (less_free h hf)
  have hl := left_add a b (fun k => c (.fix k)) (fun k => e (.fix k)) hx
  refine ⟨⟨fun m hm => ?_, ?_⟩, hl⟩
  · rcases List.mem_append.1 hm with hm | hm
    · exact hd.lits m hm
    · rw [List.mem_singleton] at hm
      subst hm
      rw [Sp.lit_iff]
      omega
  · have := hd.size
    simp only [List.length_append, List.length_singleton]
    omega
theorem Fine.neat {d : List Int} (hd : Fine vars d) (hc : Sp.check vars cls = 0) : (prop vars cls d).2 = 0 ∨ ((prop vars cls d).2 = 110 ∧ Clash cls d) := by
  rcases prop_ends vars cls d with ⟨h, e⟩ | ⟨h, h2, e⟩ | ⟨h, h2, h3, e⟩ | ⟨h, h2, h3, e⟩ <;> rw [e]
  · exact absurd hc h
  · exact absurd hd.lits h2
  · exact .inr ⟨rfl, h3⟩
  · exact .inl rfl

/-! ### the rows of a look -/
theorem look_spent {k : Nat} {d : List Int} {s : St} (h : 2000 < s.looks + 1) : look vars cls (k + 1) d s = (false, s.tick) := by
  unfold look; rw [if_pos h]
theorem look_clash {k : Nat} {d : List Int} {s : St} (h : ¬ 2000 < s.looks + 1) (h1 : (prop vars cls d).2 ≠ 0) : look vars cls (k + 1) d s = (true, s.tick.lay d) := by
  unfold look; rw [if_neg h, if_pos h1]
theorem look_full {k : Nat} {d : List Int} {s : St} (h : ¬ 2000 < s.looks + 1) (h1 : (prop vars cls d).2 = 0) (h2 : ((prop vars cls d).1.length : Int) = vars) : look vars cls (k + 1) d s = (false, s.tick.tell (prop vars cls d).1) := by
  unfold look; rw [if_neg h, if_neg (by simp [h1]), if_pos h2]
theorem look_one {k : Nat} {d : List Int} {s : St} (h : ¬ 2000 < s.looks + 1) (h1 : (prop vars cls d).2 = 0) (h2 : ¬ ((prop vars cls d).1.length : Int) = vars) (h3 : (look vars cls k (d ++ [free vars cls d]) s.tick).1 = false) : look vars cls (k + 1) d s = look vars cls k (d ++ [free vars cls d]) s.tick := by
  rw [look, if_neg h, if_neg (by simp [h1]), if_neg h2, if_pos h3]
theorem look_two {k : Nat} {d : List Int} {s : St} (h : ¬ 2000 < s.looks + 1) (h1 : (prop vars cls d).2 = 0) (h2 : ¬ ((prop vars cls d).1.length : Int) = vars) {s1 : St} (h3 : look vars cls k (d ++ [free vars cls d]) s.tick = (true, s1)) (h4 : (look vars cls k (d ++ [-(free vars cls d)]) s1).1 = false) : look vars cls (k + 1) d s = look vars cls k (d ++ [-(free vars cls d)]) s1 := by
  rw [look, if_neg h, if_neg (by simp [h1]), if_neg h2, if_neg (by simp [h3]), if_pos (by rw [h3]; exact h4), h3]
theorem look_lay {k : Nat} {d : List Int} {s : St} (h : ¬ 2000 < s.looks + 1) (h1 : (prop vars cls d).2 = 0) (h2 : ¬ ((prop vars cls d).1.length : Int) = vars) {s1 s2 : St} (h3 : look vars cls k (d ++ [free vars cls d]) s.tick = (true, s1)) (h4 : look vars cls k (d ++ [-(free vars cls d)]) s1 = (true, s2)) : look vars cls (k + 1) d s = (true, s2.lay d) := by
  rw [look, if_neg h, if_neg (by simp [h1]), if_neg h2, if_neg (by simp [h3]), if_neg (by rw [h3]; simp [h4]), h3]
  simp only [h4]
/-- A look's five ends. -/
theorem look_cases (hc : Sp.check vars cls = 0) {P : Nat → List Int → St → Bool × St → Prop}
    (spent : ∀ k d s, 2000 < s.looks + 1 → P (k + 1) d s (false, s.tick))
    (clash : ∀ k d s, Fine vars d → s.looks + 1 ≤ 2000 → (prop vars cls d).2 ≠ 0 → P (k + 1) d s (true, s.tick.lay d))
    (full : ∀ k d s, Fine vars d → s.looks + 1 ≤ 2000 → Ok vars cls d → ((prop vars cls d).1.length : Int) = vars → P (k + 1) d s (false, s.tick.tell (prop vars cls d).1))
    (one : ∀ k d s s1, Fine vars d → s.looks + 1 ≤ 2000 → Ok vars cls d → ¬ ((prop vars cls d).1.length : Int) = vars → P k (d ++ [free vars cls d]) s.tick (false, s1) → P (k + 1) d s (false, s1))
    (two : ∀ k d s s1 s2, Fine vars d → s.looks + 1 ≤ 2000 → Ok vars cls d → ¬ ((prop vars cls d).1.length : Int) = vars → P k (d ++ [free vars cls d]) s.tick (true, s1) → P k (d ++ [-(free vars cls d)]) s1 (false, s2) → P (k + 1) d s (false, s2))
    (lay : ∀ k d s s1 s2, Fine vars d → s.looks + 1 ≤ 2000 → Ok vars cls d → ¬ ((prop vars cls d).1.length : Int) = vars → P k (d ++ [free vars cls d]) s.tick (true, s1) → P k (d ++ [-(free vars cls d)]) s1 (true, s2) → P (k + 1) d s (true, s2.lay d)) :
    ∀ (k : Nat) (d : List Int) (s : St), Fine vars d → left vars d < k → P k d s (look vars cls k d s)
  | 0, d, s, hd, hk => absurd hk (Nat.not_lt_zero _)
  | k + 1, d, s, hd, hk => by
    by_cases h : 2000 < s.looks + 1
    · rw [look_spent h]; exact spent k d s h
    · have hle : s.looks + 1 ≤ 2000 := by omega
      by_cases h1 : (prop vars cls d).2 = 0
      · have hok := ok_iff.1 h1
        by_cases h2 : ((prop vars cls d).1.length : Int) = vars
        · rw [look_full h h1 h2]; exact full k d s hd hle hok h2
        · obtain ⟨hd1, hl1⟩ := hd.add hok h2 (.inl rfl)
          obtain ⟨hd2, hl2⟩ := hd.add hok h2 (.inr rfl)
          have ih1 := look_cases hc spent clash full one two lay k _ s.tick hd1 (by omega)
          rcases hr1 : look vars cls k (d ++ [free vars cls d]) s.tick with ⟨b1, s1⟩
          rw [hr1] at ih1
          cases b1 with
          | false => rw [look_one h h1 h2 (by rw [hr1]), hr1]; exact one k d s s1 hd hle hok h2 ih1
          | true =>
            have ih2 := look_cases hc spent clash full one two lay k _ s1 hd2 (by omega)
            rcases hr2 : look vars cls k (d ++ [-(free vars cls d)]) s1 with ⟨b2, s2⟩
            rw [hr2] at ih2
            cases b2 with
            | false => rw [look_two h h1 h2 hr1 (by rw [hr2]), hr2]; exact two k d s s1 s2 hd hle hok h2 ih1 ih2
            | true => rw [look_lay h h1 h2 hr1 hr2]; exact lay k d s s1 s2 hd hle hok h2 ih1 ih2
      · rw [look_clash h h1]; exact clash k d s hd hle h1

/-! ### the program's way -/
theorem mach_spent {k : Nat} {d : List Int} {stk : List (Int × Int)} {s : St} (h : 2000 < s.looks + 1) : mach vars cls (k + 1) false d stk s = some (false, s.tick) := by
  rw [mach, if_pos h]
theorem mach_clash {k : Nat} {d : List Int} {stk : List (Int × Int)} {s : St} (h : ¬ 2000 < s.looks + 1) (h1 : (prop vars cls d).2 ≠ 0) : mach vars cls (k + 1) false d stk s = mach vars cls k true d stk s.tick := by
  rw [mach, if_neg h, if_pos h1]
theorem mach_full {k : Nat} {d : List Int} {stk : List (Int × Int)} {s : St} (h : ¬ 2000 < s.looks + 1) (h1 : (prop vars cls d).2 = 0) (h2 : ((prop vars cls d).1.length : Int) = vars) : mach vars cls (k + 1) false d stk s = some (true, s.tick.tell (prop vars cls d).1) := by
  rw [mach, if_neg h, if_neg (by simp [h1]), if_pos h2]
theorem mach_go {k : Nat} {d : List Int} {stk : List (Int × Int)} {s : St} (h : ¬ 2000 < s.looks + 1) (h1 : (prop vars cls d).2 = 0) (h2 : ¬ ((prop vars cls d).1.length : Int) = vars) : mach vars cls (k + 1) false d stk s = mach vars cls k false (d ++ [free vars cls d]) (stk ++ [(free vars cls d, 1)]) s.tick := by
  rw [mach, if_neg h, if_neg (by simp [h1]), if_neg h2]
theorem mach_end {k : Nat} {d : List Int} {s : St} : mach vars cls (k + 1) true d [] s = some (true, s.lay d) := by
  unfold mach; rfl
theorem mach_turn {k : Nat} {d : List Int} {stk : List (Int × Int)} {s : St} {v x : Int} : mach vars cls (k + 1) true (d ++ [x]) (stk ++ [(v, 1)]) s = mach vars cls k false (d ++ [-v]) (stk ++ [(v, 2)]) (s.lay (d ++ [x])) := by
  rw [mach, if_neg (by simp)]
  simp
theorem mach_back {k : Nat} {d : List Int} {stk : List (Int × Int)} {s : St} {v x : Int} : mach vars cls (k + 1) true (d ++ [x]) (stk ++ [(v, 2)]) s = mach vars cls k true d stk (s.lay (d ++ [x])) := by
  rw [mach, if_neg (by simp)]
  simp
theorem sim (hc : Sp.check vars cls = 0) (k : Nat) (d : List Int) (s : St) (hd : Fine vars d) (hk : left vars d < k) :
    (fun (k : Nat) (d : List Int) (s : St) (r : Bool × St) =>
      (r.1 = true → ∃ n s', r.2 = s'.lay d ∧ ∀ m stk, mach vars cls (n + m) false d stk s = mach vars cls m true d stk s') ∧
      (r.1 = false → ∃ n, ∀ m stk, mach vars cls (n + m) false d stk s = some (decide (r.2.looks ≤ 2000), r.2))) k d s (look vars cls k d s) := by
  refine look_cases hc (P := (fun (k : Nat) (d : List Int) (s : St) (r : Bool × St) => (r.1 = true → ∃ n s', r.2 = s'.lay d ∧ ∀ m stk, mach vars cls (n + m) false d stk s = mach vars cls m true d stk s') ∧ (r.1 = false → ∃ n, ∀ m stk, mach vars cls (n + m) false d stk s = some (decide (r.2.looks ≤ 2000), r.2)))) ?_ ?_ ?_ ?_ ?_ ?_ k d s hd hk
  · intro k d s h
    refine ⟨fun h => absurd h (by simp), fun _ => ⟨1, fun m stk => ?_⟩⟩
    rw [Nat.add_comm, mach_spent h]
    have : ¬ s.tick.looks ≤ 2000 := by unfold St.tick; simp only; omega
    simp [this]
  · intro k d s hd h h1
    refine ⟨fun _ => ⟨1, s.tick, rfl, fun m stk => ?_⟩, fun h => absurd h (by simp)⟩
    rw [Nat.add_comm, mach_clash (by omega) h1]
  · intro k d s hd h hok h2
    refine ⟨fun h => absurd h (by simp), fun _ => ⟨1, fun m stk => ?_⟩⟩
    rw [Nat.add_comm, mach_full (by omega) (ok_iff.2 hok) h2]
    have : (s.tick.tell (prop vars cls d).1).looks ≤ 2000 := by unfold St.tick St.tell; simp only; omega
    simp [this]
  · intro k d s s1 hd h hok h2 ih
    refine ⟨fun h => absurd h (by simp), fun _ => ?_⟩
    obtain ⟨n, hn⟩ := ih.2 rfl
    refine ⟨n + 1, fun m stk => ?_⟩
    have e : n + 1 + m = (n + m) + 1 := by omega
    rw [e, mach_go (by omega) (ok_iff.2 hok) h2, hn]
  · intro k d s s1 s2 hd h hok h2 ih1 ih2
    refine ⟨fun h => absurd h (by simp), fun _ => ?_⟩
    obtain ⟨n1, s1', e1, hn1⟩ := ih1.1 rfl
    obtain ⟨n2, hn2⟩ := ih2.2 rfl
    refine ⟨n1 + n2 + 2, fun m stk => ?_⟩
    have e : n1 + n2 + 2 + m = (n1 + (n2 + m + 1)) + 1 := by omega
    simp only at e1
    rw [e, mach_go (by omega) (ok_iff.2 hok) h2, hn1, mach_turn, ← e1, hn2]
  · intro k d s s1 s2 hd h hok h2 ih1 ih2
    refine ⟨fun _ => ?_, fun h => absurd h (by simp)⟩
    obtain ⟨n1, s1', e1, hn1⟩ := ih1.1 rfl
    obtain ⟨n2, s2', e2, hn2⟩ := ih2.1 rfl
    simp only at e1 e2
    refine ⟨n1 + n2 + 3, s2, rfl, fun m stk => ?_⟩
    have e : n1 + n2 + 3 + m = (n1 + (n2 + (m + 1) + 1)) + 1 := by omega
    rw [e, mach_go (by omega) (ok_iff.2 hok) h2, hn1, mach_turn, ← e1, hn2, mach_back, ← e2]
/-- The program's looks come to the recursion's. -/
theorem mach_ends (hc : Sp.check vars cls = 0) : ∃ n, mach vars cls n false [] [] St.zero = some (decide ((ends vars cls).looks ≤ 2000), ends vars cls) := by
  have hk : left vars [] < vars.toNat + 1 := by have := left_le vars []; omega
  have hs := sim hc (vars.toNat + 1) [] St.zero Fine.nil hk
  unfold ends
  rcases hr : look vars cls (vars.toNat + 1) [] St.zero with ⟨b, s⟩
  rw [hr] at hs
  simp only at hs ⊢
  cases b with
  | false =>
    obtain ⟨n, hn⟩ := hs.2 rfl
    exact ⟨n + 0, hn 0 []⟩
  | true =>
    obtain ⟨n, s', e, hn⟩ := hs.1 rfl
    refine ⟨n + 1, ?_⟩
    rw [hn 1 [], mach_end, ← e]
    have : s.looks ≤ 2000 := by
      have := (look_cases hc (P := fun k d s r => r.1 = true → r.2.looks ≤ 2000) (fun k d s _ h => absurd h (by simp)) (fun k d s _ h _ _ => h) (fun k d s _ _ _ _ h => absurd h (by simp)) (fun k d s s1 _ _ _ _ _ h => absurd h (by simp)) (fun k d s s1 s2 _ _ _ _ _ _ h => absurd h (by simp)) (fun k d s s1 s2 _ _ _ _ _ ih _ => ih rfl) (vars.toNat + 1) [] St.zero Fine.nil hk)
      rw [hr] at this
      exact this rfl
    simp [this]
/-- No more looks than one too many. -/
theorem looks_le (hc : Sp.check vars cls = 0) (k : Nat) (d : List Int) (s : St) (hd : Fine vars d) (hk : left vars d < k) (hs : s.looks ≤ 2000) : (look vars cls k d s).2.looks ≤ 2001 ∧ ((look vars cls k d s).1 = true → (look vars cls k d s).2.looks ≤ 2000) := by
  have := look_cases hc (P := fun k d s r => s.looks ≤ 2000 → r.2.looks ≤ 2001 ∧ (r.1 = true → r.2.looks ≤ 2000)) (fun k d s h hs => ⟨by show s.looks + 1 ≤ 2001; omega, fun h => absurd h (by simp)⟩) (fun k d s _ h _ _ => ⟨by show s.looks + 1 ≤ 2001; omega, fun _ => h⟩) (fun k d s _ h _ _ _ => ⟨by show s.looks + 1 ≤ 2001; omega, fun h => absurd h (by simp)⟩) (fun k d s s1 _ h _ _ ih hs => ⟨(ih h).1, fun h => absurd h (by simp)⟩) (fun k d s s1 s2 _ h _ _ ih1 ih2 _ => ⟨(ih2 ((ih1 h).2 rfl)).1, fun h => absurd h (by simp)⟩) (fun k d s s1 s2 _ h _ _ ih1 ih2 _ => ⟨(ih2 ((ih1 h).2 rfl)).1, fun _ => (ih2 ((ih1 h).2 rfl)).2 rfl⟩) k d s hd hk
  exact this hs

/-! ### models -/
def Fits (vars : Int) (cls : List (List Int)) (d : List Int) (m : List Bool) : Prop := Sp.sat vars cls m = true ∧ ∀ n ∈ d, Sp.trueIn m n = true
/-- The first of some models: true ahead of false. -/
def Le (m m' : List Bool) : Prop := m' = m ∨ ∃ i, i < m.length ∧ m.getD i false = true ∧ m'.getD i false = false ∧ ∀ j, j < i → m.getD j false = m'.getD j false
theorem Le.antisymm {m m' : List Bool} (h : Le m m') (h' : Le m' m) : m = m' := by
  rcases h with h | ⟨i, hi, h1, h2, h3⟩
  · exact h.symm
  · rcases h' with h' | ⟨j, hj, k1, k2, k3⟩
    · exact h'
    · exfalso
      rcases Nat.lt_trichotomy i j with h | h | h
      · rw [k3 i h, h1] at h2; exact absurd h2 (by decide)
      · subst h; rw [k1] at h2; exact absurd h2 (by decide)
      · rw [h3 j h, k1] at k2; exact absurd k2 (by decide)
theorem true_at {m : List Bool} {i : Nat} (h : Sp.trueIn m ((i : Int) + 1) = true) : m.getD i false = true := by
  have := (Uk.true_iff.1 h).2.2
  have e : ((i : Int) + 1).natAbs - 1 = i := by omega
  rw [e] at this
  rw [this]
  exact decide_eq_true (by omega)
theorem false_at {m : List Bool} {i : Nat} (h : Sp.trueIn m (-((i : Int) + 1)) = true) : m.getD i false = false := by
  have := (Uk.true_iff.1 h).2.2
  have e : (-((i : Int) + 1)).natAbs - 1 = i := by omega
  rw [e] at this
  rw [this]
  exact decide_eq_false (by omega)
theorem either {m : List Bool} (hl : (m.length : Int) = vars) (hv : vars ≤ 60) {v : Int} (h0 : 0 < v) (h1 : v ≤ vars) : Sp.trueIn m v = true ∨ Sp.trueIn m (-v) = true := by
  rw [Uk.true_iff, Uk.true_iff, Sp.lit_iff, Sp.lit_iff]
  cases hb : m.getD (v.natAbs - 1) false with
  | true => exact .inl ⟨by omega, by omega, by simp [h0]⟩
  | false => exact .inr ⟨by omega, by omega, by rw [Int.natAbs_neg, hb]; simp; omega⟩
theorem agree {d : List Int} {m m' : List Bool} (h : Fits vars cls d m) (h' : Fits vars cls d m') {i : Nat} (hk : Known cls d ((i : Int) + 1) ∨ Known cls d (-((i : Int) + 1))) : m.getD i false = m'.getD i false := by
  rcases hk with hk | hk
  · rw [true_at (model_known h.1 h.2 hk), true_at (model_known h'.1 h'.2 hk)]
  · rw [false_at (model_known h.1 h.2 hk), false_at (model_known h'.1 h'.2 hk)]
theorem full_fits {d : List Int} (h : Ok vars cls d) (h0 : free vars cls d = 0) : Fits vars cls d ((told vars.toNat (Known cls d)).map (fun x => decide (x > 0))) := by
  refine ⟨full_sat h h0, fun n hn => ?_⟩
  have hv := h.vars
  obtain ⟨t1, t2⟩ := told_full vars.toNat (Known cls d) (fun i a b => free_none h h0 i a (by omega))
  have hn := Known.fix (cls := cls) hn
  have hl := Sp.lit_iff.1 (h.known hn)
  obtain ⟨k1, k2⟩ := t2 (n.natAbs - 1) (by omega)
  rw [Uk.true_iff, Sp.lit_iff]
  refine ⟨by omega, by simp; omega, ?_⟩
  rw [List.getD_eq_getElem?_getD, List.getElem?_map, List.getElem?_eq_getElem k1]
  simp only [Option.map_some, Option.getD_some]
  by_cases hp : 0 < n
  · have e : ((n.natAbs - 1 : Nat) : Int) + 1 = n := by omega
    rw [e] at k2
    rcases k2 with ⟨a, _⟩ | ⟨_, b, _⟩
    · rw [a]
    · exact absurd hn b
  · have e : ((n.natAbs - 1 : Nat) : Int) + 1 = -n := by omega
    rw [e] at k2
    rcases k2 with ⟨_, b⟩ | ⟨a, _, _⟩
    · exact absurd (.inl ⟨n, hn, b⟩) h.calm
    · rw [a, Int.neg_neg]
theorem full_only {d : List Int} (h : Ok vars cls d) (h0 : free vars cls d = 0) {m m' : List Bool} (hm : Fits vars cls d m) (hm' : Fits vars cls d m') : m' = m := by
  have l1 := (sat_iff.1 hm.1).2.1
  have l2 := (sat_iff.1 hm'.1).2.1
  have hv := h.vars
  refine List.ext_getElem (by omega) (fun i a b => ?_)
  have := agree hm hm' (i := i) (free_none h h0 ((i : Int) + 1) (by omega) (by omega))
  rw [List.getD_eq_getElem?_getD, List.getD_eq_getElem?_getD, List.getElem?_eq_getElem a, List.getElem?_eq_getElem b] at this
  simp only [Option.getD_some] at this
  exact this.symm
theorem fits_less {d : List Int} {x : Int} {m : List Bool} (h : Fits vars cls (d ++ [x]) m) : Fits vars cls d m := ⟨h.1, fun n hn => h.2 n (by simp [hn])⟩
theorem fits_more {d : List Int} {x : Int} {m : List Bool} (h : Fits vars cls d m) (hx : Sp.trueIn m x = true) : Fits vars cls (d ++ [x]) m := ⟨h.1, fun n hn => by
  rcases List.mem_append.1 hn with hn | hn
  · exact h.2 n hn
  · rw [List.mem_singleton] at hn; exact hn ▸ hx⟩
/-- A look that has failed has no model; one that stops with a model has the first of them. -/
theorem look_models (hc : Sp.check vars cls = 0) (k : Nat) (d : List Int) (s : St) (hd : Fine vars d) (hk : left vars d < k) :
    (fun (k : Nat) (d : List Int) (s : St) (r : Bool × St) =>
      (r.1 = true → (∀ m, ¬ Fits vars cls d m) ∧ r.2.sat = s.sat ∧ r.2.model = s.model) ∧
      (r.1 = false → r.2.looks ≤ 2000 → ∃ m, r.2.sat = true ∧ r.2.model = s.model ++ m ∧ r.2.trace = [] ∧ Fits vars cls d m ∧ ∀ m', Fits vars cls d m' → Le m m')) k d s (look vars cls k d s) := by
  have hv := (Sp.check_ok hc)
  refine look_cases hc (P := (fun (k : Nat) (d : List Int) (s : St) (r : Bool × St) => (r.1 = true → (∀ m, ¬ Fits vars cls d m) ∧ r.2.sat = s.sat ∧ r.2.model = s.model) ∧ (r.1 = false → r.2.looks ≤ 2000 → ∃ m, r.2.sat = true ∧ r.2.model = s.model ++ m ∧ r.2.trace = [] ∧ Fits vars cls d m ∧ ∀ m', Fits vars cls d m' → Le m m'))) ?_ ?_ ?_ ?_ ?_ ?_ k d s hd hk
  · intro k d s h
    refine ⟨fun h => absurd h (by simp), fun _ h1 => ?_⟩
    have : s.looks + 1 ≤ 2000 := h1
    omega
  · intro k d s hd h h1
    exact ⟨fun _ => ⟨fun m hm => h1 (ok_iff.2 (model_ok hm.1 hc hm.2)), rfl, rfl⟩, fun h => absurd h (by simp)⟩
  · intro k d s hd h hok h2
    refine ⟨fun h => absurd h (by simp), fun _ _ => ⟨_, rfl, ?_, rfl, full_fits hok (full_free hok h2), fun m' hm' => .inl (full_only hok (full_free hok h2) (full_fits hok (full_free hok h2)) hm')⟩⟩
    rw [hok.prop]; rfl
  · intro k d s s1 hd h hok h2 ih
    refine ⟨fun h => absurd h (by simp), fun _ hl => ?_⟩
    obtain ⟨m, a, b, c, e, f⟩ := ih.2 rfl hl
    refine ⟨m, a, b, c, fits_less e, fun m' hm' => ?_⟩
    obtain ⟨f1, f2, f3, f4, f5⟩ := free_some hok (less_free hok h2)
    have l1 := (sat_iff.1 hm'.1).2.1
    have l2 := (sat_iff.1 e.1).2.1
    rcases either l1 hv.2.1 f1 f2 with ht | ht
    · exact f m' (fits_more hm' ht)
    · have e1 : (((free vars cls d - 1).toNat : Nat) : Int) + 1 = free vars cls d := by omega
      refine .inr ⟨(free vars cls d - 1).toNat, by omega, true_at (by rw [e1]; exact e.2 _ (by simp)), false_at (by rw [e1]; exact ht), fun j hj => agree (fits_less e) hm' (f5 _ (by omega) (by omega))⟩
  · intro k d s s1 s2 hd h hok h2 ih1 ih2
    refine ⟨fun h => absurd h (by simp), fun _ hl => ?_⟩
    obtain ⟨n1, n2, n3⟩ := ih1.1 rfl
    obtain ⟨m, a, b, c, e, f⟩ := ih2.2 rfl hl
    refine ⟨m, a, by rw [b, n3]; rfl, c, fits_less e, fun m' hm' => ?_⟩
    obtain ⟨f1, f2, f3, f4, f5⟩ := free_some hok (less_free hok h2)
    rcases either (sat_iff.1 hm'.1).2.1 hv.2.1 f1 f2 with ht | ht
    · exact absurd (fits_more hm' ht) (n1 m')
    · exact f m' (fits_more hm' ht)
  · intro k d s s1 s2 hd h hok h2 ih1 ih2
    refine ⟨fun _ => ?_, fun h => absurd h (by simp)⟩
    obtain ⟨n1, n2, n3⟩ := ih1.1 rfl
    obtain ⟨o1, o2, o3⟩ := ih2.1 rfl
    obtain ⟨f1, f2, f3, f4, f5⟩ := free_some hok (less_free hok h2)
    refine ⟨fun m hm => ?_, by show s2.sat = _; rw [o2, n2]; rfl, by show s2.model = _; rw [o3, n3]; rfl⟩
    rcases either (sat_iff.1 hm.1).2.1 hv.2.1 f1 f2 with ht | ht
    · exact n1 m (fits_more hm ht)
    · exact o1 m (fits_more hm ht)

/-! ### traces -/
def Step (vars : Int) (C : List (List Int)) (c : List Int) : Prop := Clash C (Pf.turned c) ∧ (∀ m ∈ c, Sp.lit vars m = true) ∧ c.length ≤ vars.toNat
def All (vars : Int) : List (List Int) → List (List Int) → Prop
  | _, [] => True
  | C, c :: t => Step vars C c ∧ All vars (C ++ [c]) t
theorem all_append : ∀ (t1 C t2 : List (List Int)), All vars C (t1 ++ t2) ↔ All vars C t1 ∧ All vars (C ++ t1) t2
  | [], C, t2 => by simp [All]
  | c :: t1, C, t2 => by
    rw [List.cons_append, All, All, all_append t1 (C ++ [c]) t2, and_assoc]
    simp
theorem turned_turned (c : List Int) : Pf.turned (Pf.turned c) = c := by
  unfold Pf.turned; simp [Function.comp_def]
theorem turned_lits {d : List Int} (h : ∀ m ∈ d, Sp.lit vars m = true) : ∀ m ∈ Pf.turned d, Sp.lit vars m = true := by
  intro m hm
  unfold Pf.turned at hm
  obtain ⟨x, hx, rfl⟩ := List.mem_map.1 hm
  exact lit_neg.2 (h x hx)
theorem Fine.step {d : List Int} (hd : Fine vars d) {C : List (List Int)} (hk : Clash C d) : Step vars C (Pf.turned d) := by
  refine ⟨by rw [turned_turned]; exact hk, turned_lits hd.lits, ?_⟩
  have := hd.size
  unfold Pf.turned
  rw [List.length_map]
  omega
/-- A look that has failed has laid clauses that follow, its own the last. -/
theorem look_trace (hc : Sp.check vars cls = 0) (k : Nat) (d : List Int) (s : St) (hd : Fine vars d) (hk : left vars d < k) :
    (fun (k : Nat) (d : List Int) (s : St) (r : Bool × St) => r.1 = true → ∃ t, r.2.trace = s.trace ++ (t ++ [Pf.turned d]) ∧ ∀ C, (∀ c ∈ cls, c ∈ C) → All vars C (t ++ [Pf.turned d])) k d s (look vars cls k d s) := by
  refine look_cases hc (P := (fun (k : Nat) (d : List Int) (s : St) (r : Bool × St) => r.1 = true → ∃ t, r.2.trace = s.trace ++ (t ++ [Pf.turned d]) ∧ ∀ C, (∀ c ∈ cls, c ∈ C) → All vars C (t ++ [Pf.turned d]))) ?_ ?_ ?_ ?_ ?_ ?_ k d s hd hk
  · exact fun k d s _ h => absurd h (by simp)
  · intro k d s hd h h1 _
    refine ⟨[], rfl, fun C hC => ?_⟩
    have hcl := (hd.neat hc).resolve_left h1
    exact ⟨hd.step (clash_mono hC (fun _ h => h) hcl.2), trivial⟩
  · exact fun k d s _ _ _ _ h => absurd h (by simp)
  · exact fun k d s s1 _ _ _ _ _ h => absurd h (by simp)
  · exact fun k d s s1 s2 _ _ _ _ _ _ h => absurd h (by simp)
  · intro k d s s1 s2 hd h hok h2 ih1 ih2 _
    obtain ⟨t1, e1, a1⟩ := ih1 rfl
    obtain ⟨t2, e2, a2⟩ := ih2 rfl
    obtain ⟨f1, f2, f3, f4, f5⟩ := free_some hok (less_free hok h2)
    generalize free vars cls d = v at *
    refine ⟨(t1 ++ [Pf.turned (d ++ [v])]) ++ (t2 ++ [Pf.turned (d ++ [-v])]), ?_, fun C hC => ?_⟩
    · show s2.trace ++ [Pf.turned d] = _
      rw [e2, e1]
      simp [St.tick]
    · rw [all_append, all_append]
      refine ⟨⟨a1 C hC, a2 _ (fun c hc => List.mem_append_left _ (hC c hc))⟩, hd.step ?_, trivial⟩
      have m1 : Pf.turned (d ++ [v]) ∈ C ++ (t1 ++ [Pf.turned (d ++ [v])] ++ (t2 ++ [Pf.turned (d ++ [-v])])) := by simp
      have m2 : Pf.turned (d ++ [-v]) ∈ C ++ (t1 ++ [Pf.turned (d ++ [v])] ++ (t2 ++ [Pf.turned (d ++ [-v])])) := by simp
      generalize C ++ (t1 ++ [Pf.turned (d ++ [v])] ++ (t2 ++ [Pf.turned (d ++ [-v])])) = D at m1 m2
      have kn : Known D d (-v) := by
        refine .unit m1 (by unfold Pf.turned; simp) (fun m hm hne => ?_)
        unfold Pf.turned at hm
        obtain ⟨x, hx, rfl⟩ := List.mem_map.1 hm
        rcases List.mem_append.1 hx with hx | hx
        · rw [Int.neg_neg]; exact .fix hx
        · rw [List.mem_singleton] at hx; subst hx; exact absurd rfl hne
      refine .inr ⟨_, m2, fun m hm => ?_⟩
      unfold Pf.turned at hm
      obtain ⟨x, hx, rfl⟩ := List.mem_map.1 hm
      rw [Int.neg_neg]
      rcases List.mem_append.1 hx with hx | hx
      · exact .fix hx
      · rw [List.mem_singleton] at hx; subst hx; exact kn

/-! ### what solve tells -/
theorem top_left : left vars [] < vars.toNat + 1 := by have := left_le vars []; omega
/-- What solve tells of a right formula. -/
theorem solve_cases (hc : Sp.check vars cls = 0) :
    (solve vars cls = (false, [], [], 120) ∧ looks vars cls = 2001) ∨
    (∃ m, solve vars cls = (true, m, [], 0) ∧ Sp.sat vars cls m = true ∧ (∀ m', Sp.sat vars cls m' = true → Le m m')) ∨
    (∃ t, solve vars cls = (false, [], t ++ [[]], 0) ∧ (∀ m', ¬ Sp.sat vars cls m' = true) ∧ All vars cls (t ++ [[]])) := by
  have h1 := look_models hc (vars.toNat + 1) [] St.zero Fine.nil top_left
  have h2 := look_trace hc (vars.toNat + 1) [] St.zero Fine.nil top_left
  have h3 := looks_le hc (vars.toNat + 1) [] St.zero Fine.nil top_left (Nat.zero_le _)
  unfold solve looks
  rw [if_neg (show ¬ (Sp.check vars cls ≠ 0) by simp [hc]), if_neg (show ¬ (Sp.check vars cls ≠ 0) by simp [hc])]
  unfold ends
  rcases hr : look vars cls (vars.toNat + 1) [] St.zero with ⟨b, s⟩
  rw [hr] at h1 h2 h3
  simp only at h1 h2 h3 ⊢
  by_cases hs : 2000 < s.looks
  · rw [if_pos hs]; exact .inl ⟨rfl, by omega⟩
  · rw [if_neg hs]
    cases b with
    | false =>
      obtain ⟨m, a, b, c, e, f⟩ := h1.2 rfl (by omega)
      refine .inr (.inl ⟨m, by rw [a, b, c]; rfl, e.1, fun m' hm' => f m' ⟨hm', by simp⟩⟩)
    | true =>
      obtain ⟨a, b, c⟩ := h1.1 rfl
      obtain ⟨t, e, f⟩ := h2 rfl
      exact .inr (.inr ⟨t, by rw [b, c, e]; rfl, fun m' hm' => a m' ⟨hm', by simp⟩, f cls (fun _ h => h)⟩)
end Go.Proofs.Ythnbmlpjbhhamaa.Sv
