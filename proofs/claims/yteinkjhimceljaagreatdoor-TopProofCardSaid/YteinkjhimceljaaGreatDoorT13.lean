/- More of what is known: members, growth, more literals. No program in sight. The clauses of layer 14, as plain rows, and what they mean in a model. No program in sight. What follows, and which trace shows it, as the program reckons it. No program in sight. The free variable, and the model that is known when there is none. No program in sight. The closure, step by step, as the reference finds it: the known literals, kept in a row, until none is added. No program in sight. The solver's looks: by recursion, and as the program makes them, with a stack. What a model and a trace are good for. No program in sight. More of what follows: traces and models, growth. No program in sight. -/
import Derived.Test.YteinkjhimceljaaGreatDoorT12
namespace Go.Proofs.YteinkjhimceljaaGreatDoor.Uk
open Un
set_option linter.unusedVariables false
theorem told_length (nv : Nat) (P : Int → Prop) : (told nv P).length ≤ nv := by
 unfold told
 exact Nat.le_trans (List.length_filterMap_le _ _) (by simp)
theorem known_mono {cls cls' : List (List Int)} {fixed fixed' : List Int} (hc : ∀ c ∈ cls, c ∈ cls') (hf : ∀ m ∈ fixed, m ∈ fixed') {n : Int} (h : Known cls fixed n) : Known cls' fixed' n := by
 induction h with
 | fix h => exact .fix (hf _ h)
 | unit h1 h2 _ ih => exact .unit (hc _ h1) h2 ih
theorem clash_mono {cls cls' : List (List Int)} {fixed fixed' : List Int} (hc : ∀ c ∈ cls, c ∈ cls') (hf : ∀ m ∈ fixed, m ∈ fixed') (h : Clash cls fixed) : Clash cls' fixed' := by
 rcases h with ⟨n, h1, h2⟩ | ⟨c, h1, h2⟩
 · exact .inl ⟨n, known_mono hc hf h1, known_mono hc hf h2⟩
 · exact .inr ⟨c, hc c h1, fun m hm => known_mono hc hf (h2 m hm)⟩
theorem prop_ends (vars : Int) (cls : List (List Int)) (fixed : List Int) :
 (Sp.check vars cls ≠ 0 ∧ prop vars cls fixed = ([], Sp.check vars cls)) ∨
 (Sp.check vars cls = 0 ∧ (¬ ∀ m ∈ fixed, Sp.lit vars m = true) ∧ prop vars cls fixed = ([], 100)) ∨
 (Sp.check vars cls = 0 ∧ (∀ m ∈ fixed, Sp.lit vars m = true) ∧ Clash cls fixed ∧ prop vars cls fixed = ([], 110)) ∨
 (Sp.check vars cls = 0 ∧ (∀ m ∈ fixed, Sp.lit vars m = true) ∧ ¬ Clash cls fixed ∧ prop vars cls fixed = (told vars.toNat (Known cls fixed), 0)) := by
 unfold prop
 by_cases h1 : Sp.check vars cls = 0
 · rw [if_neg (by simp [h1])]
   by_cases h2 : ∀ m ∈ fixed, Sp.lit vars m = true
   · rw [if_neg (by simpa using h2)]
     by_cases h3 : Clash cls fixed
     · rw [if_pos h3]; exact .inr (.inr (.inl ⟨h1, h2, h3, rfl⟩))
     · rw [if_neg h3]; exact .inr (.inr (.inr ⟨h1, h2, h3, rfl⟩))
   · rw [if_pos h2]; exact .inr (.inl ⟨h1, h2, rfl⟩)
 · rw [if_pos h1]; exact .inl ⟨h1, rfl⟩
structure Ok (vars : Int) (cls : List (List Int)) (fixed : List Int) : Prop where
 chk : Sp.check vars cls = 0
 lits : ∀ m ∈ fixed, Sp.lit vars m = true
 calm : ¬ Clash cls fixed
theorem ok_iff {vars : Int} {cls : List (List Int)} {fixed : List Int} : (prop vars cls fixed).2 = 0 ↔ Ok vars cls fixed := by
 rcases prop_ends vars cls fixed with ⟨h, e⟩ | ⟨h, h2, e⟩ | ⟨h, h2, h3, e⟩ | ⟨h, h2, h3, e⟩ <;> rw [e]
 · exact ⟨fun k => absurd k h, fun k => absurd k.chk h⟩
 · exact ⟨fun k => absurd k (by simp), fun k => absurd k.lits h2⟩
 · exact ⟨fun k => absurd k (by simp), fun k => absurd h3 k.calm⟩
 · exact ⟨fun _ => ⟨h, h2, h3⟩, fun _ => rfl⟩
theorem Ok.prop {vars : Int} {cls : List (List Int)} {fixed : List Int} (h : Ok vars cls fixed) : prop vars cls fixed = (told vars.toNat (Known cls fixed), 0) := by
 unfold Uk.prop
 rw [if_neg (by simp [h.chk]), if_neg (by simpa using h.lits), if_neg h.calm]
theorem prop_bad {vars : Int} {cls : List (List Int)} {fixed : List Int} (h : (prop vars cls fixed).2 ≠ 0) : (prop vars cls fixed).1 = [] := by
 rcases prop_ends vars cls fixed with ⟨_, e⟩ | ⟨_, _, e⟩ | ⟨_, _, _, e⟩ | ⟨_, _, _, e⟩ <;> rw [e] at h ⊢
 exact absurd rfl h
theorem Ok.vars {vars : Int} {cls : List (List Int)} {fixed : List Int} (h : Ok vars cls fixed) : 0 ≤ vars ∧ vars ≤ 60 := ⟨(Sp.check_ok h.chk).1, (Sp.check_ok h.chk).2.1⟩
theorem Ok.known {vars : Int} {cls : List (List Int)} {fixed : List Int} (h : Ok vars cls fixed) {n : Int} (k : Known cls fixed n) : Sp.lit vars n = true := by
 induction k with
 | fix h1 => exact h.lits _ h1
 | unit h1 h2 _ _ => exact (Sp.check_ok h.chk).2.2 _ h1 _ h2
theorem Ok.small {vars : Int} {cls : List (List Int)} {fixed : List Int} (h : Ok vars cls fixed) : (told vars.toNat (Known cls fixed)).length ≤ 60 := by
 have hv := h.vars
 have := told_length vars.toNat (Known cls fixed)
 omega
theorem prop_small (vars : Int) (cls : List (List Int)) (fixed : List Int) : (prop vars cls fixed).1.length ≤ 60 := by
 by_cases h : (prop vars cls fixed).2 = 0
 · have := (ok_iff.1 h); rw [this.prop]; exact this.small
 · rw [prop_bad h]; simp
theorem lit_neg {vars n : Int} : Sp.lit vars (-n) = true ↔ Sp.lit vars n = true := by
 rw [Sp.lit_iff, Sp.lit_iff]; omega
theorem true_iff {m : List Bool} {n : Int} : Sp.trueIn m n = true ↔ Sp.lit 60 n = true ∧ n.natAbs ≤ m.length ∧ m.getD (n.natAbs - 1) false = decide (0 < n) := by
 unfold Sp.trueIn; simp
theorem true_neg {m : List Bool} {n : Int} (h : Sp.trueIn m n = true) : ¬ Sp.trueIn m (-n) = true := by
 intro k
 obtain ⟨h1, h2, h3⟩ := true_iff.1 h
 obtain ⟨k1, k2, k3⟩ := true_iff.1 k
 rw [Int.natAbs_neg, h3] at k3
 have := (Sp.lit_iff.1 h1).1
 by_cases hp : 0 < n
 · rw [decide_eq_true hp, decide_eq_false (by omega)] at k3; exact absurd k3 (by decide)
 · rw [decide_eq_false hp, decide_eq_true (by omega)] at k3; exact absurd k3 (by decide)
theorem sat_iff {vars : Int} {cls : List (List Int)} {m : List Bool} : Sp.sat vars cls m = true ↔ Sp.right vars cls = true ∧ (m.length : Int) = vars ∧ ∀ c ∈ cls, ∃ n ∈ c, Sp.trueIn m n = true := by
 unfold Sp.sat Sp.holds
 simp [List.all_eq_true, List.any_eq_true]
theorem model_known {vars : Int} {cls : List (List Int)} {m : List Bool} {fixed : List Int} (hs : Sp.sat vars cls m = true) (hf : ∀ n ∈ fixed, Sp.trueIn m n = true) {n : Int} (h : Known cls fixed n) : Sp.trueIn m n = true := by
 obtain ⟨_, _, h3⟩ := sat_iff.1 hs
 induction h with
 | fix h => exact hf _ h
 | @unit c n hc hn ho ih =>
  obtain ⟨x, hx, hx2⟩ := h3 c hc
  by_cases e : x = n
  · exact e ▸ hx2
  · exact absurd (ih x hx e) (true_neg hx2)
theorem model_ok {vars : Int} {cls : List (List Int)} {m : List Bool} {fixed : List Int} (hs : Sp.sat vars cls m = true) (hc : Sp.check vars cls = 0) (hf : ∀ n ∈ fixed, Sp.trueIn m n = true) : Ok vars cls fixed := by
 obtain ⟨_, h2, h3⟩ := sat_iff.1 hs
 refine ⟨hc, fun n hn => ?_, ?_⟩
 · obtain ⟨k1, k2, k3⟩ := true_iff.1 (hf n hn)
   rw [Sp.lit_iff] at k1 ⊢
   omega
 · rintro (⟨n, h, k⟩ | ⟨c, hcl, ha⟩)
   · exact true_neg (model_known hs hf h) (model_known hs hf k)
   · obtain ⟨x, hx, hx2⟩ := h3 c hcl
     exact true_neg hx2 (model_known hs hf (ha x hx))
end Go.Proofs.YteinkjhimceljaaGreatDoor.Uk
namespace Go.Proofs.YteinkjhimceljaaGreatDoor.Ct
set_option linter.unusedVariables false
def pairs : List Int → List (List Int)
 | [] => []
 | a :: l => l.map (fun b => [-a, -b]) ++ pairs l
def never (a : Int) (l : List Int) : List (List Int) := l.map (fun n => [-a, -n])
def good (l : List Int) : Bool := l.all (Sp.lit 60)
def atMost (l : List Int) : List (List Int) × Int := if good l = true then (pairs l, 0) else ([], 100)
def implies (a : Int) (l : List Int) : List Int × Int := if good [a] = true ∧ good l = true then (-a :: l, 0) else ([], 100)
def neverF (a : Int) (l : List Int) : List (List Int) × Int := if good [a] = true ∧ good l = true then (never a l, 0) else ([], 100)
theorem pairs_len : ∀ l : List Int, 2 * (pairs l).length = l.length * (l.length - 1)
 | [] => rfl
 | a :: l => by
  have ih := pairs_len l
  rw [pairs, List.length_append, List.length_map, List.length_cons, Nat.mul_add, ih, Nat.add_sub_cancel]
  cases hn : l.length with
  | zero => rfl
  | succ n =>
   rw [Nat.add_sub_cancel, Nat.add_mul (n + 1) 1 (n + 1), Nat.mul_add (n + 1) n 1]
   omega
theorem pairs_le : ∀ l : List Int, l.length ≤ 1000 → (pairs l).length ≤ 1000000 := by
 intro l hl
 have h := pairs_len l
 have : l.length * (l.length - 1) ≤ 1000 * 1000 := Nat.mul_le_mul hl (by omega)
 omega
end Go.Proofs.YteinkjhimceljaaGreatDoor.Ct
namespace Go.Proofs.YteinkjhimceljaaGreatDoor.Pf
set_option linter.unusedVariables false
def turned (c : List Int) : List Int := c.map (fun n => -n)
noncomputable def follows (vars : Int) (cls : List (List Int)) (c : List Int) : Bool :=
 decide (Sp.check vars cls = 0 ∧ Sp.check vars [c] = 0 ∧ (Uk.prop vars cls (turned c)).2 = 110)
noncomputable def goes (vars : Int) (cls trace : List (List Int)) (i : Nat) : Bool := follows vars (cls ++ trace.take i) (trace.getD i [])
noncomputable def check (vars : Int) (cls trace : List (List Int)) : Int × Bool :=
 match (List.range trace.length).find? (fun i => !goes vars cls trace i) with
 | some i => ((i : Int), false)
 | none => ((trace.length : Int), decide (0 < trace.length) && decide ((trace.getD (trace.length - 1) []).length = 0))
theorem range_split {n i : Nat} (h : i < n) : ∃ r, List.range n = List.range i ++ i :: r := by
 refine ⟨(List.range (n - i - 1)).map (i + 1 + ·), ?_⟩
 have e : n = (i + 1) + (n - i - 1) := by omega
 rw [e, List.range_add, List.range_succ, List.append_assoc]
 have e2 : i + 1 + (n - i - 1) - i - 1 = n - i - 1 := by omega
 rw [e2]; rfl
theorem check_fails {vars : Int} {cls trace : List (List Int)} {i : Nat} (hi : i < trace.length) (hb : ∀ j, j < i → goes vars cls trace j = true) (h : goes vars cls trace i = false) : check vars cls trace = ((i : Int), false) := by
 unfold check
 obtain ⟨r, hr⟩ := range_split hi
 have : (List.range trace.length).find? (fun i => !goes vars cls trace i) = some i := by
  rw [hr, List.find?_append]
  have h1 : (List.range i).find? (fun i => !goes vars cls trace i) = none := by
   rw [List.find?_eq_none]
   intro x hx
   rw [hb x (List.mem_range.1 hx)]; decide
  rw [h1, List.find?_cons, h]; rfl
 rw [this]
theorem check_holds {vars : Int} {cls trace : List (List Int)} (hb : ∀ j, j < trace.length → goes vars cls trace j = true) : check vars cls trace = ((trace.length : Int), decide (0 < trace.length) && decide ((trace.getD (trace.length - 1) []).length = 0)) := by
 unfold check
 have h1 : (List.range trace.length).find? (fun i => !goes vars cls trace i) = none := by
  rw [List.find?_eq_none]
  intro x hx
  rw [hb x (List.mem_range.1 hx)]; decide
 rw [h1]
theorem follows_true {vars : Int} {cls : List (List Int)} {c : List Int} : follows vars cls c = true ↔ Sp.check vars cls = 0 ∧ Sp.check vars [c] = 0 ∧ (Uk.prop vars cls (turned c)).2 = 110 := by
 unfold follows; exact decide_eq_true_iff
end Go.Proofs.YteinkjhimceljaaGreatDoor.Pf
namespace Go.Proofs.YteinkjhimceljaaGreatDoor.Uk
open Un
set_option linter.unusedVariables false
open Classical in
theorem free_some {vars : Int} {cls : List (List Int)} {fixed : List Int} (h : Ok vars cls fixed) (h0 : free vars cls fixed ≠ 0) :
 0 < free vars cls fixed ∧ free vars cls fixed ≤ vars ∧ ¬ Known cls fixed (free vars cls fixed) ∧ ¬ Known cls fixed (-(free vars cls fixed)) ∧ ∀ i : Int, 0 < i → i < free vars cls fixed → Known cls fixed i ∨ Known cls fixed (-i) := by
 have hv := h.vars
 unfold free at h0 ⊢
 rw [if_neg (show ¬ ((prop vars cls fixed).2 ≠ 0) by simp [ok_iff.2 h])] at h0 ⊢
 cases hf : (List.range vars.toNat).find? (fun (i : Nat) => decide (¬ Known cls fixed ((i : Int) + 1) ∧ ¬ Known cls fixed (-((i : Int) + 1)))) with
 | none => rw [hf] at h0; exact absurd rfl h0
 | some i =>
  obtain ⟨h1, as, bs, h2, h3⟩ := List.find?_eq_some_iff_append.1 hf
  obtain ⟨k1, k2⟩ := of_decide_eq_true h1
  have hi : i < vars.toNat := List.mem_range.1 (List.mem_of_find?_eq_some hf)
  refine ⟨by simp only; omega, by simp only; omega, k1, k2, fun j j1 j2 => ?_⟩
  simp only at j2
  have hlen : i = as.length := by
   have hil : as.length < vars.toNat := by
    have := congrArg List.length h2
    simp at this; omega
   have : (List.range vars.toNat)[as.length]? = some i := by rw [h2]; simp
   rw [List.getElem?_range hil] at this
   exact (Option.some.inj this).symm
  have hj : (j - 1).toNat ∈ as := by
   have : (List.range vars.toNat)[(j - 1).toNat]? = some (j - 1).toNat := by rw [List.getElem?_range (by omega)]
   rw [h2, List.getElem?_append_left (by omega)] at this
   exact List.mem_of_getElem? this
  have := h3 _ hj
  have e : (((j - 1).toNat : Nat) : Int) + 1 = j := by omega
  rw [e] at this
  simp only [Bool.not_eq_true', decide_eq_false_iff_not, not_and, Classical.not_not] at this
  by_cases hk : Known cls fixed j
  · exact .inl hk
  · exact .inr (this hk)
open Classical in
theorem free_none {vars : Int} {cls : List (List Int)} {fixed : List Int} (h : Ok vars cls fixed) (h0 : free vars cls fixed = 0) :
 ∀ i : Int, 0 < i → i ≤ vars → Known cls fixed i ∨ Known cls fixed (-i) := by
 have hv := h.vars
 unfold free at h0
 rw [if_neg (show ¬ ((prop vars cls fixed).2 ≠ 0) by simp [ok_iff.2 h])] at h0
 cases hf : (List.range vars.toNat).find? (fun (i : Nat) => decide (¬ Known cls fixed ((i : Int) + 1) ∧ ¬ Known cls fixed (-((i : Int) + 1)))) with
 | some i => rw [hf] at h0; simp only at h0; omega
 | none =>
  intro j j1 j2
  have := List.find?_eq_none.1 hf (j - 1).toNat (List.mem_range.2 (by omega))
  have e : (((j - 1).toNat : Nat) : Int) + 1 = j := by omega
  rw [e] at this
  simp only [decide_eq_true_eq, not_and, Classical.not_not] at this
  by_cases hk : Known cls fixed j
  · exact .inl hk
  · exact .inr (this hk)
theorem told_full : ∀ (nv : Nat) (P : Int → Prop), (∀ i : Int, 0 < i → i ≤ nv → P i ∨ P (-i)) → (told nv P).length = nv ∧ ∀ i : Nat, i < nv → ∃ h : i < (told nv P).length, ((told nv P)[i] = (i : Int) + 1 ∧ P ((i : Int) + 1)) ∨ ((told nv P)[i] = -((i : Int) + 1) ∧ ¬ P ((i : Int) + 1) ∧ P (-((i : Int) + 1)))
 | 0, P, h => ⟨rfl, fun i hi => absurd hi (Nat.not_lt_zero _)⟩
 | nv + 1, P, h => by
  obtain ⟨h1, h2⟩ := told_full nv P (fun i a b => h i a (by omega))
  by_cases hp : P ((nv : Int) + 1)
  · have e : told (nv + 1) P = told nv P ++ [(nv : Int) + 1] := by
     unfold told; rw [List.range_succ, List.filterMap_append]; simp [hp]
    rw [e]
    refine ⟨by simp [h1], fun i hi => ?_⟩
    by_cases hin : i < nv
    · obtain ⟨k1, k2⟩ := h2 i hin
      refine ⟨by simp; omega, ?_⟩
      rw [List.getElem_append_left k1]; exact k2
    · have : i = nv := by omega
      subst this
      refine ⟨by simp; omega, .inl ⟨?_, hp⟩⟩
      rw [List.getElem_append_right (by omega)]; simp
  · have hn : P (-((nv : Int) + 1)) := (h ((nv : Int) + 1) (by omega) (by omega)).resolve_left hp
    have e : told (nv + 1) P = told nv P ++ [-((nv : Int) + 1)] := by
     unfold told; rw [List.range_succ, List.filterMap_append]; simp [hp, hn]
    rw [e]
    refine ⟨by simp [h1], fun i hi => ?_⟩
    by_cases hin : i < nv
    · obtain ⟨k1, k2⟩ := h2 i hin
      refine ⟨by simp; omega, ?_⟩
      rw [List.getElem_append_left k1]; exact k2
    · have : i = nv := by omega
      subst this
      refine ⟨by simp; omega, .inr ⟨?_, hp, hn⟩⟩
      rw [List.getElem_append_right (by omega)]; simp
theorem full_sat {vars : Int} {cls : List (List Int)} {fixed : List Int} (h : Ok vars cls fixed) (h0 : free vars cls fixed = 0) :
 Sp.sat vars cls ((told vars.toNat (Known cls fixed)).map (fun x => decide (x > 0))) = true := by
 have hv := h.vars
 obtain ⟨t1, t2⟩ := told_full vars.toNat (Known cls fixed) (fun i a b => free_none h h0 i a (by omega))
 have hr : Sp.right vars cls = true := Sp.right_iff.2 (Sp.check_ok h.chk)
 have key : ∀ n, Known cls fixed n → Sp.trueIn ((told vars.toNat (Known cls fixed)).map (fun x => decide (x > 0))) n = true := by
  intro n hn
  have hl := Sp.lit_iff.1 (h.known hn)
  obtain ⟨k1, k2⟩ := t2 (n.natAbs - 1) (by omega)
  rw [true_iff, Sp.lit_iff]
  refine ⟨by omega, by simp; omega, ?_⟩
  rw [List.getD_eq_getElem?_getD, List.getElem?_map, List.getElem?_eq_getElem k1]
  simp only [Option.map_some, Option.getD_some]
  by_cases hp : 0 < n
  · have e : ((n.natAbs - 1 : Nat) : Int) + 1 = n := by omega
    rw [e] at k2
    rcases k2 with ⟨a, _⟩ | ⟨_, b, _⟩
    · rw [a]
    · exact absurd hn b
  · have e : ((n.natAbs - 1 : Nat) : Int) + 1 = -n := by omega
    rw [e] at k2
    rcases k2 with ⟨_, b⟩ | ⟨a, _, _⟩
    · exact absurd (.inl ⟨n, hn, b⟩) h.calm
    · rw [a, Int.neg_neg]
 rw [sat_iff]
 refine ⟨hr, by simp [t1]; omega, fun c hc => ?_⟩
 apply Classical.byContradiction
 intro hno
 refine h.calm (.inr ⟨c, hc, fun m hm => ?_⟩)
 have hl := Sp.lit_iff.1 ((Sp.check_ok h.chk).2.2 c hc m hm)
 have hnk : ¬ Known cls fixed m := fun k => hno ⟨m, hm, key m k⟩
 by_cases hp : 0 < m
 · exact (free_none h h0 m hp (by omega)).resolve_left hnk
 · have := free_none h h0 (-m) (by omega) (by omega)
   rw [Int.neg_neg] at this
   exact this.resolve_right hnk
end Go.Proofs.YteinkjhimceljaaGreatDoor.Uk
namespace Go.Proofs.YteinkjhimceljaaGreatDoor.Uk
set_option linter.unusedVariables false
theorem countP_lt {α : Type} {p q : α → Bool} : ∀ {l : List α}, (∀ x ∈ l, p x = true → q x = true) → (∃ x ∈ l, p x = false ∧ q x = true) → l.countP p < l.countP q
 | [], _, h => by obtain ⟨_, h, _⟩ := h; exact absurd h (by simp)
 | a :: l, h, ⟨x, hx, h1, h2⟩ => by
  have hle : l.countP p ≤ l.countP q := List.countP_mono_left (fun y hy => h y (List.mem_cons_of_mem _ hy))
  rcases List.mem_cons.1 hx with e | e
  · subst e
    rw [List.countP_cons_of_neg (by rw [h1]; decide), List.countP_cons_of_pos h2]
    omega
  · have := countP_lt (l := l) (fun y hy => h y (List.mem_cons_of_mem _ hy)) ⟨x, e, h1, h2⟩
    rw [List.countP_cons, List.countP_cons]
    have ha := h a List.mem_cons_self
    cases hpa : p a with
    | true => rw [ha hpa]; simp; omega
    | false => cases q a <;> simp <;> omega
end Go.Proofs.YteinkjhimceljaaGreatDoor.Uk
namespace Go.Proofs.YteinkjhimceljaaGreatDoor.Sv
open Uk
set_option linter.unusedVariables false
structure St where
 looks : Nat
 sat : Bool
 model : List Bool
 trace : List (List Int)
def St.zero : St := ⟨0, false, [], []⟩
def St.tick (s : St) : St := ⟨s.looks + 1, s.sat, s.model, s.trace⟩
def St.lay (s : St) (d : List Int) : St := ⟨s.looks, s.sat, s.model, s.trace ++ [Pf.turned d]⟩
def St.tell (s : St) (l : List Int) : St := ⟨s.looks, true, s.model ++ l.map (fun x => decide (x > 0)), []⟩
noncomputable def look (vars : Int) (cls : List (List Int)) : Nat → List Int → St → Bool × St
 | 0, _, s => (true, s)
 | k + 1, d, s =>
  if 2000 < s.looks + 1 then (false, s.tick) else
  if (prop vars cls d).2 ≠ 0 then (true, s.tick.lay d) else
  if ((prop vars cls d).1.length : Int) = vars then (false, s.tick.tell (prop vars cls d).1) else
  if (look vars cls k (d ++ [free vars cls d]) s.tick).1 = false then look vars cls k (d ++ [free vars cls d]) s.tick else
  if (look vars cls k (d ++ [-(free vars cls d)]) (look vars cls k (d ++ [free vars cls d]) s.tick).2).1 = false then look vars cls k (d ++ [-(free vars cls d)]) (look vars cls k (d ++ [free vars cls d]) s.tick).2 else
  (true, (look vars cls k (d ++ [-(free vars cls d)]) (look vars cls k (d ++ [free vars cls d]) s.tick).2).2.lay d)
noncomputable def mach (vars : Int) (cls : List (List Int)) : Nat → Bool → List Int → List (Int × Int) → St → Option (Bool × St)
 | 0, _, _, _, _ => none
 | k + 1, false, d, stk, s =>
  if 2000 < s.looks + 1 then some (false, s.tick) else
  if (prop vars cls d).2 ≠ 0 then mach vars cls k true d stk s.tick else
  if ((prop vars cls d).1.length : Int) = vars then some (true, s.tick.tell (prop vars cls d).1) else
  mach vars cls k false (d ++ [free vars cls d]) (stk ++ [(free vars cls d, 1)]) s.tick
 | k + 1, true, d, stk, s =>
  if stk.length = 0 then some (true, s.lay d) else
  if (stk.getD (stk.length - 1) (0, 0)).2 = 1 then mach vars cls k false (d.take (d.length - 1) ++ [-(stk.getD (stk.length - 1) (0, 0)).1]) (stk.set (stk.length - 1) ((stk.getD (stk.length - 1) (0, 0)).1, 2)) (s.lay d) else
  mach vars cls k true (d.take (d.length - 1)) (stk.take (stk.length - 1)) (s.lay d)
noncomputable def ends (vars : Int) (cls : List (List Int)) : St := (look vars cls (vars.toNat + 1) [] St.zero).2
noncomputable def solve (vars : Int) (cls : List (List Int)) : Bool × List Bool × List (List Int) × Int :=
 if Sp.check vars cls ≠ 0 then (false, [], [], Sp.check vars cls) else
 if 2000 < (ends vars cls).looks then (false, [], [], 120) else
 ((ends vars cls).sat, (ends vars cls).model, (ends vars cls).trace, 0)
noncomputable def looks (vars : Int) (cls : List (List Int)) : Int :=
 if Sp.check vars cls ≠ 0 then 0 else ((ends vars cls).looks : Int)
def left (vars : Int) (d : List Int) : Nat := (List.range vars.toNat).countP (fun (i : Nat) => !d.contains ((i : Int) + 1) && !d.contains (-((i : Int) + 1)))
theorem left_le (vars : Int) (d : List Int) : left vars d ≤ vars.toNat := by
 have := List.countP_le_length (p := fun (i : Nat) => !d.contains ((i : Int) + 1) && !d.contains (-((i : Int) + 1))) (l := List.range vars.toNat)
 unfold left
 simpa using this
open Classical in
theorem told_lacks : ∀ (nv : Nat) (P : Int → Prop) (i : Int), 0 < i → i ≤ nv → ¬ P i → ¬ P (-i) → (told nv P).length < nv
 | 0, P, i, h0, h1, _, _ => by omega
 | nv + 1, P, i, h0, h1, h2, h3 => by
  have hl := told_length nv P
  unfold told at hl ⊢
  rw [List.range_succ, List.filterMap_append, List.length_append]
  by_cases hi : i = (nv : Int) + 1
  · subst hi
    rw [List.filterMap_cons_none (by rw [if_neg h2, if_neg h3])]
    simp only [List.filterMap_nil, List.length_nil]
    omega
  · have := told_lacks nv P i h0 (by omega) h2 h3
    unfold told at this
    have h9 := List.length_filterMap_le (fun (i : Nat) => if P ((i : Int) + 1) then some ((i : Int) + 1) else if P (-((i : Int) + 1)) then some (-((i : Int) + 1)) else none) [nv]
    simp only [List.length_singleton] at h9
    omega
variable {vars : Int} {cls : List (List Int)}
theorem full_free {d : List Int} (h : Ok vars cls d) (hf : ((prop vars cls d).1.length : Int) = vars) : free vars cls d = 0 := by
 apply Classical.byContradiction
 intro h0
 obtain ⟨a, b, c, e, _⟩ := free_some h h0
 have hv := h.vars
 have := told_lacks vars.toNat (Known cls d) _ a (by omega) c e
 rw [h.prop] at hf
 simp only at hf
 omega
theorem less_free {d : List Int} (h : Ok vars cls d) (hf : ¬ ((prop vars cls d).1.length : Int) = vars) : free vars cls d ≠ 0 := by
 intro h0
 have hv := h.vars
 have := (told_full vars.toNat (Known cls d) (fun i a b => free_none h h0 i a (by omega))).1
 rw [h.prop] at hf
 simp only at hf
 omega
theorem left_add {d : List Int} {v x : Int} (h0 : 0 < v) (h1 : v ≤ vars) (h2 : v ∉ d) (h3 : -v ∉ d) (hx : x = v ∨ x = -v) : left vars (d ++ [x]) < left vars d := by
 unfold left
 apply countP_lt
 · intro i _ hi
   simp only [Bool.and_eq_true, Bool.not_eq_true', List.contains_eq_mem, decide_eq_false_iff_not, List.mem_append, not_or] at hi ⊢
   exact ⟨hi.1.1, hi.2.1⟩
 · refine ⟨(v - 1).toNat, List.mem_range.2 (by omega), ?_, ?_⟩
   · have e : (((v - 1).toNat : Nat) : Int) + 1 = v := by omega
     rw [e]
     rcases hx with rfl | rfl <;> simp
   · have e : (((v - 1).toNat : Nat) : Int) + 1 = v := by omega
     rw [e]
     simp [h2, h3]
structure Fine (vars : Int) (d : List Int) : Prop where
 lits : ∀ m ∈ d, Sp.lit vars m = true
 size : d.length + left vars d ≤ vars.toNat
theorem Fine.nil : Fine vars [] := ⟨by simp, by have := left_le vars []; simpa using this⟩
theorem Fine.add {d : List Int} (hd : Fine vars d) (h : Ok vars cls d) (hf : ¬ ((prop vars cls d).1.length : Int) = vars) {x : Int} (hx : x = free vars cls d ∨ x = -(free vars cls d)) : Fine vars (d ++ [x]) ∧ left vars (d ++ [x]) < left vars d := by
 obtain ⟨a, b, c, e, _⟩ := free_some h (less_free h hf)
 have hl := left_add a b (fun k => c (.fix k)) (fun k => e (.fix k)) hx
 refine ⟨⟨fun m hm => ?_, ?_⟩, hl⟩
 · rcases List.mem_append.1 hm with hm | hm
   · exact hd.lits m hm
   · rw [List.mem_singleton] at hm
     subst hm
     rw [Sp.lit_iff]
     omega
 · have := hd.size
   simp only [List.length_append, List.length_singleton]
   omega
theorem Fine.neat {d : List Int} (hd : Fine vars d) (hc : Sp.check vars cls = 0) : (prop vars cls d).2 = 0 ∨ ((prop vars cls d).2 = 110 ∧ Clash cls d) := by
 rcases prop_ends vars cls d with ⟨h, e⟩ | ⟨h, h2, e⟩ | ⟨h, h2, h3, e⟩ | ⟨h, h2, h3, e⟩ <;> rw [e]
 · exact absurd hc h
 · exact absurd hd.lits h2
 · exact .inr ⟨rfl, h3⟩
 · exact .inl rfl
theorem look_spent {k : Nat} {d : List Int} {s : St} (h : 2000 < s.looks + 1) : look vars cls (k + 1) d s = (false, s.tick) := by
 unfold look; rw [if_pos h]
theorem look_clash {k : Nat} {d : List Int} {s : St} (h : ¬ 2000 < s.looks + 1) (h1 : (prop vars cls d).2 ≠ 0) : look vars cls (k + 1) d s = (true, s.tick.lay d) := by
 unfold look; rw [if_neg h, if_pos h1]
theorem look_full {k : Nat} {d : List Int} {s : St} (h : ¬ 2000 < s.looks + 1) (h1 : (prop vars cls d).2 = 0) (h2 : ((prop vars cls d).1.length : Int) = vars) : look vars cls (k + 1) d s = (false, s.tick.tell (prop vars cls d).1) := by
 unfold look; rw [if_neg h, if_neg (by simp [h1]), if_pos h2]
theorem look_one {k : Nat} {d : List Int} {s : St} (h : ¬ 2000 < s.looks + 1) (h1 : (prop vars cls d).2 = 0) (h2 : ¬ ((prop vars cls d).1.length : Int) = vars) (h3 : (look vars cls k (d ++ [free vars cls d]) s.tick).1 = false) : look vars cls (k + 1) d s = look vars cls k (d ++ [free vars cls d]) s.tick := by
 rw [look, if_neg h, if_neg (by simp [h1]), if_neg h2, if_pos h3]
theorem look_two {k : Nat} {d : List Int} {s : St} (h : ¬ 2000 < s.looks + 1) (h1 : (prop vars cls d).2 = 0) (h2 : ¬ ((prop vars cls d).1.length : Int) = vars) {s1 : St} (h3 : look vars cls k (d ++ [free vars cls d]) s.tick = (true, s1)) (h4 : (look vars cls k (d ++ [-(free vars cls d)]) s1).1 = false) : look vars cls (k + 1) d s = look vars cls k (d ++ [-(free vars cls d)]) s1 := by
 rw [look, if_neg h, if_neg (by simp [h1]), if_neg h2, if_neg (by simp [h3]), if_pos (by rw [h3]; exact h4), h3]
theorem look_lay {k : Nat} {d : List Int} {s : St} (h : ¬ 2000 < s.looks + 1) (h1 : (prop vars cls d).2 = 0) (h2 : ¬ ((prop vars cls d).1.length : Int) = vars) {s1 s2 : St} (h3 : look vars cls k (d ++ [free vars cls d]) s.tick = (true, s1)) (h4 : look vars cls k (d ++ [-(free vars cls d)]) s1 = (true, s2)) : look vars cls (k + 1) d s = (true, s2.lay d) := by
 rw [look, if_neg h, if_neg (by simp [h1]), if_neg h2, if_neg (by simp [h3]), if_neg (by rw [h3]; simp [h4]), h3]
 simp only [h4]
theorem look_cases (hc : Sp.check vars cls = 0) {P : Nat → List Int → St → Bool × St → Prop}
 (spent : ∀ k d s, 2000 < s.looks + 1 → P (k + 1) d s (false, s.tick))
 (clash : ∀ k d s, Fine vars d → s.looks + 1 ≤ 2000 → (prop vars cls d).2 ≠ 0 → P (k + 1) d s (true, s.tick.lay d))
 (full : ∀ k d s, Fine vars d → s.looks + 1 ≤ 2000 → Ok vars cls d → ((prop vars cls d).1.length : Int) = vars → P (k + 1) d s (false, s.tick.tell (prop vars cls d).1))
 (one : ∀ k d s s1, Fine vars d → s.looks + 1 ≤ 2000 → Ok vars cls d → ¬ ((prop vars cls d).1.length : Int) = vars → P k (d ++ [free vars cls d]) s.tick (false, s1) → P (k + 1) d s (false, s1))
 (two : ∀ k d s s1 s2, Fine vars d → s.looks + 1 ≤ 2000 → Ok vars cls d → ¬ ((prop vars cls d).1.length : Int) = vars → P k (d ++ [free vars cls d]) s.tick (true, s1) → P k (d ++ [-(free vars cls d)]) s1 (false, s2) → P (k + 1) d s (false, s2))
 (lay : ∀ k d s s1 s2, Fine vars d → s.looks + 1 ≤ 2000 → Ok vars cls d → ¬ ((prop vars cls d).1.length : Int) = vars → P k (d ++ [free vars cls d]) s.tick (true, s1) → P k (d ++ [-(free vars cls d)]) s1 (true, s2) → P (k + 1) d s (true, s2.lay d)) :
 ∀ (k : Nat) (d : List Int) (s : St), Fine vars d → left vars d < k → P k d s (look vars cls k d s)
 | 0, d, s, hd, hk => absurd hk (Nat.not_lt_zero _)
 | k + 1, d, s, hd, hk => by
  by_cases h : 2000 < s.looks + 1
  · rw [look_spent h]; exact spent k d s h
  · have hle : s.looks + 1 ≤ 2000 := by omega
    by_cases h1 : (prop vars cls d).2 = 0
    · have hok := ok_iff.1 h1
      by_cases h2 : ((prop vars cls d).1.length : Int) = vars
      · rw [look_full h h1 h2]; exact full k d s hd hle hok h2
      · obtain ⟨hd1, hl1⟩ := hd.add hok h2 (.inl rfl)
        obtain ⟨hd2, hl2⟩ := hd.add hok h2 (.inr rfl)
        have ih1 := look_cases hc spent clash full one two lay k _ s.tick hd1 (by omega)
        rcases hr1 : look vars cls k (d ++ [free vars cls d]) s.tick with ⟨b1, s1⟩
        rw [hr1] at ih1
        cases b1 with
        | false => rw [look_one h h1 h2 (by rw [hr1]), hr1]; exact one k d s s1 hd hle hok h2 ih1
        | true =>
         have ih2 := look_cases hc spent clash full one two lay k _ s1 hd2 (by omega)
         rcases hr2 : look vars cls k (d ++ [-(free vars cls d)]) s1 with ⟨b2, s2⟩
         rw [hr2] at ih2
         cases b2 with
         | false => rw [look_two h h1 h2 hr1 (by rw [hr2]), hr2]; exact two k d s s1 s2 hd hle hok h2 ih1 ih2
         | true => rw [look_lay h h1 h2 hr1 hr2]; exact lay k d s s1 s2 hd hle hok h2 ih1 ih2
    · rw [look_clash h h1]; exact clash k d s hd hle h1
theorem mach_spent {k : Nat} {d : List Int} {stk : List (Int × Int)} {s : St} (h : 2000 < s.looks + 1) : mach vars cls (k + 1) false d stk s = some (false, s.tick) := by
 rw [mach, if_pos h]
theorem mach_clash {k : Nat} {d : List Int} {stk : List (Int × Int)} {s : St} (h : ¬ 2000 < s.looks + 1) (h1 : (prop vars cls d).2 ≠ 0) : mach vars cls (k + 1) false d stk s = mach vars cls k true d stk s.tick := by
 rw [mach, if_neg h, if_pos h1]
theorem mach_full {k : Nat} {d : List Int} {stk : List (Int × Int)} {s : St} (h : ¬ 2000 < s.looks + 1) (h1 : (prop vars cls d).2 = 0) (h2 : ((prop vars cls d).1.length : Int) = vars) : mach vars cls (k + 1) false d stk s = some (true, s.tick.tell (prop vars cls d).1) := by
 rw [mach, if_neg h, if_neg (by simp [h1]), if_pos h2]
theorem mach_go {k : Nat} {d : List Int} {stk : List (Int × Int)} {s : St} (h : ¬ 2000 < s.looks + 1) (h1 : (prop vars cls d).2 = 0) (h2 : ¬ ((prop vars cls d).1.length : Int) = vars) : mach vars cls (k + 1) false d stk s = mach vars cls k false (d ++ [free vars cls d]) (stk ++ [(free vars cls d, 1)]) s.tick := by
 rw [mach, if_neg h, if_neg (by simp [h1]), if_neg h2]
theorem mach_end {k : Nat} {d : List Int} {s : St} : mach vars cls (k + 1) true d [] s = some (true, s.lay d) := by
 unfold mach; rfl
theorem mach_turn {k : Nat} {d : List Int} {stk : List (Int × Int)} {s : St} {v x : Int} : mach vars cls (k + 1) true (d ++ [x]) (stk ++ [(v, 1)]) s = mach vars cls k false (d ++ [-v]) (stk ++ [(v, 2)]) (s.lay (d ++ [x])) := by
 rw [mach, if_neg (by simp)]
 simp
theorem mach_back {k : Nat} {d : List Int} {stk : List (Int × Int)} {s : St} {v x : Int} : mach vars cls (k + 1) true (d ++ [x]) (stk ++ [(v, 2)]) s = mach vars cls k true d stk (s.lay (d ++ [x])) := by
 rw [mach, if_neg (by simp)]
 simp
theorem sim (hc : Sp.check vars cls = 0) (k : Nat) (d : List Int) (s : St) (hd : Fine vars d) (hk : left vars d < k) :
 (fun (k : Nat) (d : List Int) (s : St) (r : Bool × St) =>
  (r.1 = true → ∃ n s', r.2 = s'.lay d ∧ ∀ m stk, mach vars cls (n + m) false d stk s = mach vars cls m true d stk s') ∧
  (r.1 = false → ∃ n, ∀ m stk, mach vars cls (n + m) false d stk s = some (decide (r.2.looks ≤ 2000), r.2))) k d s (look vars cls k d s) := by
 refine look_cases hc (P := (fun (k : Nat) (d : List Int) (s : St) (r : Bool × St) => (r.1 = true → ∃ n s', r.2 = s'.lay d ∧ ∀ m stk, mach vars cls (n + m) false d stk s = mach vars cls m true d stk s') ∧ (r.1 = false → ∃ n, ∀ m stk, mach vars cls (n + m) false d stk s = some (decide (r.2.looks ≤ 2000), r.2)))) ?_ ?_ ?_ ?_ ?_ ?_ k d s hd hk
 · intro k d s h
   refine ⟨fun h => absurd h (by simp), fun _ => ⟨1, fun m stk => ?_⟩⟩
   rw [Nat.add_comm, mach_spent h]
   have : ¬ s.tick.looks ≤ 2000 := by unfold St.tick; simp only; omega
   simp [this]
 · intro k d s hd h h1
   refine ⟨fun _ => ⟨1, s.tick, rfl, fun m stk => ?_⟩, fun h => absurd h (by simp)⟩
   rw [Nat.add_comm, mach_clash (by omega) h1]
 · intro k d s hd h hok h2
   refine ⟨fun h => absurd h (by simp), fun _ => ⟨1, fun m stk => ?_⟩⟩
   rw [Nat.add_comm, mach_full (by omega) (ok_iff.2 hok) h2]
   have : (s.tick.tell (prop vars cls d).1).looks ≤ 2000 := by unfold St.tick St.tell; simp only; omega
   simp [this]
 · intro k d s s1 hd h hok h2 ih
   refine ⟨fun h => absurd h (by simp), fun _ => ?_⟩
   obtain ⟨n, hn⟩ := ih.2 rfl
   refine ⟨n + 1, fun m stk => ?_⟩
   have e : n + 1 + m = (n + m) + 1 := by omega
   rw [e, mach_go (by omega) (ok_iff.2 hok) h2, hn]
 · intro k d s s1 s2 hd h hok h2 ih1 ih2
   refine ⟨fun h => absurd h (by simp), fun _ => ?_⟩
   obtain ⟨n1, s1', e1, hn1⟩ := ih1.1 rfl
   obtain ⟨n2, hn2⟩ := ih2.2 rfl
   refine ⟨n1 + n2 + 2, fun m stk => ?_⟩
   have e : n1 + n2 + 2 + m = (n1 + (n2 + m + 1)) + 1 := by omega
   simp only at e1
   rw [e, mach_go (by omega) (ok_iff.2 hok) h2, hn1, mach_turn, ← e1, hn2]
 · intro k d s s1 s2 hd h hok h2 ih1 ih2
   refine ⟨fun _ => ?_, fun h => absurd h (by simp)⟩
   obtain ⟨n1, s1', e1, hn1⟩ := ih1.1 rfl
   obtain ⟨n2, s2', e2, hn2⟩ := ih2.1 rfl
   simp only at e1 e2
   refine ⟨n1 + n2 + 3, s2, rfl, fun m stk => ?_⟩
   have e : n1 + n2 + 3 + m = (n1 + (n2 + (m + 1) + 1)) + 1 := by omega
   rw [e, mach_go (by omega) (ok_iff.2 hok) h2, hn1, mach_turn, ← e1, hn2, mach_back, ← e2]
theorem mach_ends (hc : Sp.check vars cls = 0) : ∃ n, mach vars cls n false [] [] St.zero = some (decide ((ends vars cls).looks ≤ 2000), ends vars cls) := by
 have hk : left vars [] < vars.toNat + 1 := by have := left_le vars []; omega
 have hs := sim hc (vars.toNat + 1) [] St.zero Fine.nil hk
 unfold ends
 rcases hr : look vars cls (vars.toNat + 1) [] St.zero with ⟨b, s⟩
 rw [hr] at hs
 simp only at hs ⊢
 cases b with
 | false =>
  obtain ⟨n, hn⟩ := hs.2 rfl
  exact ⟨n + 0, hn 0 []⟩
 | true =>
  obtain ⟨n, s', e, hn⟩ := hs.1 rfl
  refine ⟨n + 1, ?_⟩
  rw [hn 1 [], mach_end, ← e]
  have : s.looks ≤ 2000 := by
   have := (look_cases hc (P := fun k d s r => r.1 = true → r.2.looks ≤ 2000) (fun k d s _ h => absurd h (by simp)) (fun k d s _ h _ _ => h) (fun k d s _ _ _ _ h => absurd h (by simp)) (fun k d s s1 _ _ _ _ _ h => absurd h (by simp)) (fun k d s s1 s2 _ _ _ _ _ _ h => absurd h (by simp)) (fun k d s s1 s2 _ _ _ _ _ ih _ => ih rfl) (vars.toNat + 1) [] St.zero Fine.nil hk)
   rw [hr] at this
   exact this rfl
  simp [this]
theorem looks_le (hc : Sp.check vars cls = 0) (k : Nat) (d : List Int) (s : St) (hd : Fine vars d) (hk : left vars d < k) (hs : s.looks ≤ 2000) : (look vars cls k d s).2.looks ≤ 2001 ∧ ((look vars cls k d s).1 = true → (look vars cls k d s).2.looks ≤ 2000) := by
 have := look_cases hc (P := fun k d s r => s.looks ≤ 2000 → r.2.looks ≤ 2001 ∧ (r.1 = true → r.2.looks ≤ 2000)) (fun k d s h hs => ⟨by show s.looks + 1 ≤ 2001; omega, fun h => absurd h (by simp)⟩) (fun k d s _ h _ _ => ⟨by show s.looks + 1 ≤ 2001; omega, fun _ => h⟩) (fun k d s _ h _ _ _ => ⟨by show s.looks + 1 ≤ 2001; omega, fun h => absurd h (by simp)⟩) (fun k d s s1 _ h _ _ ih hs => ⟨(ih h).1, fun h => absurd h (by simp)⟩) (fun k d s s1 s2 _ h _ _ ih1 ih2 _ => ⟨(ih2 ((ih1 h).2 rfl)).1, fun h => absurd h (by simp)⟩) (fun k d s s1 s2 _ h _ _ ih1 ih2 _ => ⟨(ih2 ((ih1 h).2 rfl)).1, fun _ => (ih2 ((ih1 h).2 rfl)).2 rfl⟩) k d s hd hk
 exact this hs
def Fits (vars : Int) (cls : List (List Int)) (d : List Int) (m : List Bool) : Prop := Sp.sat vars cls m = true ∧ ∀ n ∈ d, Sp.trueIn m n = true
def Le (m m' : List Bool) : Prop := m' = m ∨ ∃ i, i < m.length ∧ m.getD i false = true ∧ m'.getD i false = false ∧ ∀ j, j < i → m.getD j false = m'.getD j false
theorem true_at {m : List Bool} {i : Nat} (h : Sp.trueIn m ((i : Int) + 1) = true) : m.getD i false = true := by
 have := (Uk.true_iff.1 h).2.2
 have e : ((i : Int) + 1).natAbs - 1 = i := by omega
 rw [e] at this
 rw [this]
 exact decide_eq_true (by omega)
theorem false_at {m : List Bool} {i : Nat} (h : Sp.trueIn m (-((i : Int) + 1)) = true) : m.getD i false = false := by
 have := (Uk.true_iff.1 h).2.2
 have e : (-((i : Int) + 1)).natAbs - 1 = i := by omega
 rw [e] at this
 rw [this]
 exact decide_eq_false (by omega)
theorem either {m : List Bool} (hl : (m.length : Int) = vars) (hv : vars ≤ 60) {v : Int} (h0 : 0 < v) (h1 : v ≤ vars) : Sp.trueIn m v = true ∨ Sp.trueIn m (-v) = true := by
 rw [Uk.true_iff, Uk.true_iff, Sp.lit_iff, Sp.lit_iff]
 cases hb : m.getD (v.natAbs - 1) false with
 | true => exact .inl ⟨by omega, by omega, by simp [h0]⟩
 | false => exact .inr ⟨by omega, by omega, by rw [Int.natAbs_neg, hb]; simp; omega⟩
theorem agree {d : List Int} {m m' : List Bool} (h : Fits vars cls d m) (h' : Fits vars cls d m') {i : Nat} (hk : Known cls d ((i : Int) + 1) ∨ Known cls d (-((i : Int) + 1))) : m.getD i false = m'.getD i false := by
 rcases hk with hk | hk
 · rw [true_at (model_known h.1 h.2 hk), true_at (model_known h'.1 h'.2 hk)]
 · rw [false_at (model_known h.1 h.2 hk), false_at (model_known h'.1 h'.2 hk)]
theorem full_fits {d : List Int} (h : Ok vars cls d) (h0 : free vars cls d = 0) : Fits vars cls d ((told vars.toNat (Known cls d)).map (fun x => decide (x > 0))) := by
 refine ⟨full_sat h h0, fun n hn => ?_⟩
 have hv := h.vars
 obtain ⟨t1, t2⟩ := told_full vars.toNat (Known cls d) (fun i a b => free_none h h0 i a (by omega))
 have hn := Known.fix (cls := cls) hn
 have hl := Sp.lit_iff.1 (h.known hn)
 obtain ⟨k1, k2⟩ := t2 (n.natAbs - 1) (by omega)
 rw [Uk.true_iff, Sp.lit_iff]
 refine ⟨by omega, by simp; omega, ?_⟩
 rw [List.getD_eq_getElem?_getD, List.getElem?_map, List.getElem?_eq_getElem k1]
 simp only [Option.map_some, Option.getD_some]
 by_cases hp : 0 < n
 · have e : ((n.natAbs - 1 : Nat) : Int) + 1 = n := by omega
   rw [e] at k2
   rcases k2 with ⟨a, _⟩ | ⟨_, b, _⟩
   · rw [a]
   · exact absurd hn b
 · have e : ((n.natAbs - 1 : Nat) : Int) + 1 = -n := by omega
   rw [e] at k2
   rcases k2 with ⟨_, b⟩ | ⟨a, _, _⟩
   · exact absurd (.inl ⟨n, hn, b⟩) h.calm
   · rw [a, Int.neg_neg]
theorem full_only {d : List Int} (h : Ok vars cls d) (h0 : free vars cls d = 0) {m m' : List Bool} (hm : Fits vars cls d m) (hm' : Fits vars cls d m') : m' = m := by
 have l1 := (sat_iff.1 hm.1).2.1
 have l2 := (sat_iff.1 hm'.1).2.1
 have hv := h.vars
 refine List.ext_getElem (by omega) (fun i a b => ?_)
 have := agree hm hm' (i := i) (free_none h h0 ((i : Int) + 1) (by omega) (by omega))
 rw [List.getD_eq_getElem?_getD, List.getD_eq_getElem?_getD, List.getElem?_eq_getElem a, List.getElem?_eq_getElem b] at this
 simp only [Option.getD_some] at this
 exact this.symm
theorem fits_less {d : List Int} {x : Int} {m : List Bool} (h : Fits vars cls (d ++ [x]) m) : Fits vars cls d m := ⟨h.1, fun n hn => h.2 n (by simp [hn])⟩
theorem fits_more {d : List Int} {x : Int} {m : List Bool} (h : Fits vars cls d m) (hx : Sp.trueIn m x = true) : Fits vars cls (d ++ [x]) m := ⟨h.1, fun n hn => by
 rcases List.mem_append.1 hn with hn | hn
 · exact h.2 n hn
 · rw [List.mem_singleton] at hn; exact hn ▸ hx⟩
theorem look_models (hc : Sp.check vars cls = 0) (k : Nat) (d : List Int) (s : St) (hd : Fine vars d) (hk : left vars d < k) :
 (fun (k : Nat) (d : List Int) (s : St) (r : Bool × St) =>
  (r.1 = true → (∀ m, ¬ Fits vars cls d m) ∧ r.2.sat = s.sat ∧ r.2.model = s.model) ∧
  (r.1 = false → r.2.looks ≤ 2000 → ∃ m, r.2.sat = true ∧ r.2.model = s.model ++ m ∧ r.2.trace = [] ∧ Fits vars cls d m ∧ ∀ m', Fits vars cls d m' → Le m m')) k d s (look vars cls k d s) := by
 have hv := (Sp.check_ok hc)
 refine look_cases hc (P := (fun (k : Nat) (d : List Int) (s : St) (r : Bool × St) => (r.1 = true → (∀ m, ¬ Fits vars cls d m) ∧ r.2.sat = s.sat ∧ r.2.model = s.model) ∧ (r.1 = false → r.2.looks ≤ 2000 → ∃ m, r.2.sat = true ∧ r.2.model = s.model ++ m ∧ r.2.trace = [] ∧ Fits vars cls d m ∧ ∀ m', Fits vars cls d m' → Le m m'))) ?_ ?_ ?_ ?_ ?_ ?_ k d s hd hk
 · intro k d s h
   refine ⟨fun h => absurd h (by simp), fun _ h1 => ?_⟩
   have : s.looks + 1 ≤ 2000 := h1
   omega
 · intro k d s hd h h1
   exact ⟨fun _ => ⟨fun m hm => h1 (ok_iff.2 (model_ok hm.1 hc hm.2)), rfl, rfl⟩, fun h => absurd h (by simp)⟩
 · intro k d s hd h hok h2
   refine ⟨fun h => absurd h (by simp), fun _ _ => ⟨_, rfl, ?_, rfl, full_fits hok (full_free hok h2), fun m' hm' => .inl (full_only hok (full_free hok h2) (full_fits hok (full_free hok h2)) hm')⟩⟩
   rw [hok.prop]; rfl
 · intro k d s s1 hd h hok h2 ih
   refine ⟨fun h => absurd h (by simp), fun _ hl => ?_⟩
   obtain ⟨m, a, b, c, e, f⟩ := ih.2 rfl hl
   refine ⟨m, a, b, c, fits_less e, fun m' hm' => ?_⟩
   obtain ⟨f1, f2, f3, f4, f5⟩ := free_some hok (less_free hok h2)
   have l1 := (sat_iff.1 hm'.1).2.1
   have l2 := (sat_iff.1 e.1).2.1
   rcases either l1 hv.2.1 f1 f2 with ht | ht
   · exact f m' (fits_more hm' ht)
   · have e1 : (((free vars cls d - 1).toNat : Nat) : Int) + 1 = free vars cls d := by omega
     refine .inr ⟨(free vars cls d - 1).toNat, by omega, true_at (by rw [e1]; exact e.2 _ (by simp)), false_at (by rw [e1]; exact ht), fun j hj => agree (fits_less e) hm' (f5 _ (by omega) (by omega))⟩
 · intro k d s s1 s2 hd h hok h2 ih1 ih2
   refine ⟨fun h => absurd h (by simp), fun _ hl => ?_⟩
   obtain ⟨n1, n2, n3⟩ := ih1.1 rfl
   obtain ⟨m, a, b, c, e, f⟩ := ih2.2 rfl hl
   refine ⟨m, a, by rw [b, n3]; rfl, c, fits_less e, fun m' hm' => ?_⟩
   obtain ⟨f1, f2, f3, f4, f5⟩ := free_some hok (less_free hok h2)
   rcases either (sat_iff.1 hm'.1).2.1 hv.2.1 f1 f2 with ht | ht
   · exact absurd (fits_more hm' ht) (n1 m')
   · exact f m' (fits_more hm' ht)
 · intro k d s s1 s2 hd h hok h2 ih1 ih2
   refine ⟨fun _ => ?_, fun h => absurd h (by simp)⟩
   obtain ⟨n1, n2, n3⟩ := ih1.1 rfl
   obtain ⟨o1, o2, o3⟩ := ih2.1 rfl
   obtain ⟨f1, f2, f3, f4, f5⟩ := free_some hok (less_free hok h2)
   refine ⟨fun m hm => ?_, by show s2.sat = _; rw [o2, n2]; rfl, by show s2.model = _; rw [o3, n3]; rfl⟩
   rcases either (sat_iff.1 hm.1).2.1 hv.2.1 f1 f2 with ht | ht
   · exact n1 m (fits_more hm ht)
   · exact o1 m (fits_more hm ht)
def Step (vars : Int) (C : List (List Int)) (c : List Int) : Prop := Clash C (Pf.turned c) ∧ (∀ m ∈ c, Sp.lit vars m = true) ∧ c.length ≤ vars.toNat
def All (vars : Int) : List (List Int) → List (List Int) → Prop
 | _, [] => True
 | C, c :: t => Step vars C c ∧ All vars (C ++ [c]) t
theorem all_append : ∀ (t1 C t2 : List (List Int)), All vars C (t1 ++ t2) ↔ All vars C t1 ∧ All vars (C ++ t1) t2
 | [], C, t2 => by simp [All]
 | c :: t1, C, t2 => by
  rw [List.cons_append, All, All, all_append t1 (C ++ [c]) t2, and_assoc]
  simp
theorem turned_turned (c : List Int) : Pf.turned (Pf.turned c) = c := by
 unfold Pf.turned; simp [Function.comp_def]
theorem turned_lits {d : List Int} (h : ∀ m ∈ d, Sp.lit vars m = true) : ∀ m ∈ Pf.turned d, Sp.lit vars m = true := by
 intro m hm
 unfold Pf.turned at hm
 obtain ⟨x, hx, rfl⟩ := List.mem_map.1 hm
 exact lit_neg.2 (h x hx)
theorem Fine.step {d : List Int} (hd : Fine vars d) {C : List (List Int)} (hk : Clash C d) : Step vars C (Pf.turned d) := by
 refine ⟨by rw [turned_turned]; exact hk, turned_lits hd.lits, ?_⟩
 have := hd.size
 unfold Pf.turned
 rw [List.length_map]
 omega
theorem look_trace (hc : Sp.check vars cls = 0) (k : Nat) (d : List Int) (s : St) (hd : Fine vars d) (hk : left vars d < k) :
 (fun (k : Nat) (d : List Int) (s : St) (r : Bool × St) => r.1 = true → ∃ t, r.2.trace = s.trace ++ (t ++ [Pf.turned d]) ∧ ∀ C, (∀ c ∈ cls, c ∈ C) → All vars C (t ++ [Pf.turned d])) k d s (look vars cls k d s) := by
 refine look_cases hc (P := (fun (k : Nat) (d : List Int) (s : St) (r : Bool × St) => r.1 = true → ∃ t, r.2.trace = s.trace ++ (t ++ [Pf.turned d]) ∧ ∀ C, (∀ c ∈ cls, c ∈ C) → All vars C (t ++ [Pf.turned d]))) ?_ ?_ ?_ ?_ ?_ ?_ k d s hd hk
 · exact fun k d s _ h => absurd h (by simp)
 · intro k d s hd h h1 _
   refine ⟨[], rfl, fun C hC => ?_⟩
   have hcl := (hd.neat hc).resolve_left h1
   exact ⟨hd.step (clash_mono hC (fun _ h => h) hcl.2), trivial⟩
 · exact fun k d s _ _ _ _ h => absurd h (by simp)
 · exact fun k d s s1 _ _ _ _ _ h => absurd h (by simp)
 · exact fun k d s s1 s2 _ _ _ _ _ _ h => absurd h (by simp)
 · intro k d s s1 s2 hd h hok h2 ih1 ih2 _
   obtain ⟨t1, e1, a1⟩ := ih1 rfl
   obtain ⟨t2, e2, a2⟩ := ih2 rfl
   obtain ⟨f1, f2, f3, f4, f5⟩ := free_some hok (less_free hok h2)
   generalize free vars cls d = v at *
   refine ⟨(t1 ++ [Pf.turned (d ++ [v])]) ++ (t2 ++ [Pf.turned (d ++ [-v])]), ?_, fun C hC => ?_⟩
   · show s2.trace ++ [Pf.turned d] = _
     rw [e2, e1]
     simp [St.tick]
   · rw [all_append, all_append]
     refine ⟨⟨a1 C hC, a2 _ (fun c hc => List.mem_append_left _ (hC c hc))⟩, hd.step ?_, trivial⟩
     have m1 : Pf.turned (d ++ [v]) ∈ C ++ (t1 ++ [Pf.turned (d ++ [v])] ++ (t2 ++ [Pf.turned (d ++ [-v])])) := by simp
     have m2 : Pf.turned (d ++ [-v]) ∈ C ++ (t1 ++ [Pf.turned (d ++ [v])] ++ (t2 ++ [Pf.turned (d ++ [-v])])) := by simp
     generalize C ++ (t1 ++ [Pf.turned (d ++ [v])] ++ (t2 ++ [Pf.turned (d ++ [-v])])) = D at m1 m2
     have kn : Known D d (-v) := by
      refine .unit m1 (by unfold Pf.turned; simp) (fun m hm hne => ?_)
      unfold Pf.turned at hm
      obtain ⟨x, hx, rfl⟩ := List.mem_map.1 hm
      rcases List.mem_append.1 hx with hx | hx
      · rw [Int.neg_neg]; exact .fix hx
      · rw [List.mem_singleton] at hx; subst hx; exact absurd rfl hne
     refine .inr ⟨_, m2, fun m hm => ?_⟩
     unfold Pf.turned at hm
     obtain ⟨x, hx, rfl⟩ := List.mem_map.1 hm
     rw [Int.neg_neg]
     rcases List.mem_append.1 hx with hx | hx
     · exact .fix hx
     · rw [List.mem_singleton] at hx; subst hx; exact kn
theorem top_left : left vars [] < vars.toNat + 1 := by have := left_le vars []; omega
theorem solve_cases (hc : Sp.check vars cls = 0) :
 (solve vars cls = (false, [], [], 120) ∧ looks vars cls = 2001) ∨
 (∃ m, solve vars cls = (true, m, [], 0) ∧ Sp.sat vars cls m = true ∧ (∀ m', Sp.sat vars cls m' = true → Le m m')) ∨
 (∃ t, solve vars cls = (false, [], t ++ [[]], 0) ∧ (∀ m', ¬ Sp.sat vars cls m' = true) ∧ All vars cls (t ++ [[]])) := by
 have h1 := look_models hc (vars.toNat + 1) [] St.zero Fine.nil top_left
 have h2 := look_trace hc (vars.toNat + 1) [] St.zero Fine.nil top_left
 have h3 := looks_le hc (vars.toNat + 1) [] St.zero Fine.nil top_left (Nat.zero_le _)
 unfold solve looks
 rw [if_neg (show ¬ (Sp.check vars cls ≠ 0) by simp [hc]), if_neg (show ¬ (Sp.check vars cls ≠ 0) by simp [hc])]
 unfold ends
 rcases hr : look vars cls (vars.toNat + 1) [] St.zero with ⟨b, s⟩
 rw [hr] at h1 h2 h3
 simp only at h1 h2 h3 ⊢
 by_cases hs : 2000 < s.looks
 · rw [if_pos hs]; exact .inl ⟨rfl, by omega⟩
 · rw [if_neg hs]
   cases b with
   | false =>
    obtain ⟨m, a, b, c, e, f⟩ := h1.2 rfl (by omega)
    refine .inr (.inl ⟨m, by rw [a, b, c]; rfl, e.1, fun m' hm' => f m' ⟨hm', by simp⟩⟩)
   | true =>
    obtain ⟨a, b, c⟩ := h1.1 rfl
    obtain ⟨t, e, f⟩ := h2 rfl
    exact .inr (.inr ⟨t, by rw [b, c, e]; rfl, fun m' hm' => a m' ⟨hm', by simp⟩, f cls (fun _ h => h)⟩)
end Go.Proofs.YteinkjhimceljaaGreatDoor.Sv
namespace Go.Proofs.YteinkjhimceljaaGreatDoor.Pf
open Uk
set_option linter.unusedVariables false
theorem all_at {v : Int} : ∀ (t C : List (List Int)) (i : Nat) (h : i < t.length), Sv.All v C t → Sv.Step v (C ++ t.take i) t[i]
 | c :: t, C, 0, _, h => by
  rw [List.take_zero, List.append_nil]
  exact h.1
 | c :: t, C, i + 1, hi, h => by
  have := all_at t (C ++ [c]) i (by simpa using hi) h.2
  rw [List.append_assoc] at this
  exact this
theorem all_goes {v : Int} {cls tr : List (List Int)} (hc : Sp.check v cls = 0) (hv : v ≤ 30) (hn : cls.length + tr.length ≤ 3000) (h : Sv.All v cls tr) (i : Nat) (hi : i < tr.length) : goes v cls tr i = true := by
 obtain ⟨⟨h0, h1, h2⟩, h3, h4⟩ := Sp.check_iff.1 hc
 have hstep := all_at tr cls i hi h
 have e : tr.getD i [] = tr[i] := by rw [List.getD_eq_getElem?_getD, List.getElem?_eq_getElem hi]; rfl
 unfold goes
 rw [e]
 have hin : ∀ c ∈ tr.take i, (∀ m ∈ c, Sp.lit v m = true) ∧ c.length ≤ v.toNat := by
  intro c hcm
  obtain ⟨j, hj, ej⟩ := List.getElem_of_mem hcm
  have hjt : j < tr.length := by rw [List.length_take] at hj; omega
  have hs := all_at tr cls j hjt h
  have : c = tr[j] := by rw [← ej, List.getElem_take]
  rw [this]
  exact ⟨hs.2.1, hs.2.2⟩
 have hck : Sp.check v (cls ++ tr.take i) = 0 := by
  rw [Sp.check_iff]
  refine ⟨⟨h0, h1, fun c hcm => ?_⟩, by rw [List.length_append, List.length_take]; omega, fun c hcm => ?_⟩
  · rcases List.mem_append.1 hcm with hcm | hcm
    · exact h2 c hcm
    · exact (hin c hcm).1
  · rcases List.mem_append.1 hcm with hcm | hcm
    · exact h4 c hcm
    · have := (hin c hcm).2; omega
 refine follows_true.2 ⟨hck, ?_, ?_⟩
 · rw [Sp.check_iff]
   simp only [List.mem_singleton, forall_eq, List.length_singleton]
   exact ⟨⟨h0, h1, hstep.2.1⟩, by omega, by have := hstep.2.2; omega⟩
 · rcases prop_ends v (cls ++ tr.take i) (turned tr[i]) with ⟨k, _⟩ | ⟨_, k, _⟩ | ⟨_, _, _, k⟩ | ⟨_, _, k, _⟩
   · exact absurd hck k
   · exact absurd (Sv.turned_lits hstep.2.1) k
   · rw [k]
   · exact absurd hstep.1 k
end Go.Proofs.YteinkjhimceljaaGreatDoor.Pf
