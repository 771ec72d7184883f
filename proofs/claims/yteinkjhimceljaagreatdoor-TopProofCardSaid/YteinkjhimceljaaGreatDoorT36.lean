/- What Tidy makes of a clause: its literals by rising variables, each once. No program in sight. -/
import Derived.Test.YteinkjhimceljaaGreatDoorT11
import Derived.Shelf.SlSortCmp.NoneTotal
import Derived.Lib.SlicesCompact
import Derived.Lib.Small
namespace Go.Proofs.YteinkjhimceljaaGreatDoor.Td
open Go.Lib Go.Sort
set_option linter.unusedVariables false
def tidyAt (c : List Int) (i : Nat) : List Int := (if c.contains ((i : Int) + 1) then [(i : Int) + 1] else []) ++ (if c.contains (-((i : Int) + 1)) then [-((i : Int) + 1)] else [])
def tidied (c : List Int) : List Int := (List.range 60).flatMap (tidyAt c)
def tidy (c : List Int) : List Int × Int := if c.all (Sp.lit 60) = true then (tidied c, 0) else ([], 100)
def cf (x y : Int) : Int := if compareInt (x.natAbs : Int) (y.natAbs : Int) ≠ 0 then compareInt (x.natAbs : Int) (y.natAbs : Int) else compareInt y x
def R (x y : Int) : Prop := x.natAbs < y.natAbs ∨ (x.natAbs = y.natAbs ∧ y < x)
instance (x y : Int) : Decidable (R x y) := by unfold R; infer_instance
theorem R_tri (x y : Int) : R x y ∨ x = y ∨ R y x := by unfold R; omega
theorem R_irr (x : Int) : ¬ R x x := by unfold R; omega
theorem R_asymm {x y : Int} (h : R x y) : ¬ R y x := by unfold R at *; omega
theorem R_trans {x y z : Int} (h : R x y) (h' : R y z) : R x z := by unfold R at *; omega
abbrev L := {x : Int // Sp.lit 60 x = true}
instance : Inhabited L := ⟨⟨1, rfl⟩⟩
def cfL (x y : L) : Int := cf x.1 y.1
theorem cmp_lt {x y : Int} (h : x < y) : compareInt x y = -1 := by unfold compareInt; rw [if_pos h]
theorem cmp_gt {x y : Int} (h : y < x) : compareInt x y = 1 := by unfold compareInt; rw [if_neg (by omega), if_pos h]
theorem cmp_eq {x y : Int} (h : x = y) : compareInt x y = 0 := by unfold compareInt; rw [if_neg (by omega), if_neg (by omega)]
theorem lt_cf (x y : L) : ltOf cfL x y = decide (R x.1 y.1) := by
 unfold ltOf cfL cf
 rw [Bool.eq_iff_iff, decide_eq_true_iff, decide_eq_true_iff]
 unfold R
 generalize x.1 = a
 generalize y.1 = b
 rcases Nat.lt_trichotomy a.natAbs b.natAbs with h | h | h
 · rw [cmp_lt (show (a.natAbs : Int) < (b.natAbs : Int) by omega)]
   constructor
   · intro _; omega
   · intro _; simp
 · rw [cmp_eq (show (a.natAbs : Int) = (b.natAbs : Int) by omega)]
   simp only [ne_eq, not_true_eq_false, if_false]
   rcases Int.lt_trichotomy b a with g | g | g
   · rw [cmp_lt g]; constructor
     · intro _; omega
     · intro _; decide
   · rw [cmp_eq g]; constructor
     · intro k; omega
     · intro k; omega
   · rw [cmp_gt g]; constructor
     · intro k; omega
     · intro k; omega
 · rw [cmp_gt (show (b.natAbs : Int) < (a.natAbs : Int) by omega)]
   constructor
   · intro k; simp at k
   · intro k; omega
theorem swo : SWO (ltOf cfL) where
 irrefl x := by rw [lt_cf]; simp [R_irr]
 trans x y z h1 h2 := by rw [lt_cf] at *; simp at *; exact R_trans h1 h2
 ntrans x y z h1 h2 := by
  rw [lt_cf, decide_eq_false_iff_not] at *
  unfold R at *
  omega
theorem tot (x y : L) (h1 : ltOf cfL x y = false) (h2 : ltOf cfL y x = false) : x = y := by
 rw [lt_cf] at *; simp at *
 apply Subtype.ext
 rcases R_tri x.1 y.1 with h | h | h
 · exact absurd h h1
 · exact h
 · exact absurd h h2
theorem same_of : ∀ (a b : List Int), a.Pairwise R → b.Pairwise R → (∀ x, x ∈ a ↔ x ∈ b) → a = b
 | [], [], _, _, _ => rfl
 | [], y :: b, _, _, h => absurd ((h y).2 (by simp)) (by simp)
 | x :: a, [], _, _, h => absurd ((h x).1 (by simp)) (by simp)
 | x :: a, y :: b, ha, hb, h => by
  obtain ⟨a1, a2⟩ := List.pairwise_cons.1 ha
  obtain ⟨b1, b2⟩ := List.pairwise_cons.1 hb
  have e : x = y := by
   apply Classical.byContradiction
   intro hne
   have h1 : x ∈ b := (List.mem_cons.1 ((h x).1 (by simp))).resolve_left hne
   have h2 : y ∈ a := (List.mem_cons.1 ((h y).2 (by simp))).resolve_left (fun e => hne e.symm)
   exact R_asymm (b1 x h1) (a1 y h2)
  subst e
  rw [same_of a b a2 b2 (fun z => ⟨fun hz => ?_, fun hz => ?_⟩)]
  · rcases List.mem_cons.1 ((h z).1 (List.mem_cons_of_mem _ hz)) with e | e
    · subst e; exact absurd (a1 z hz) (R_irr z)
    · exact e
  · rcases List.mem_cons.1 ((h z).2 (List.mem_cons_of_mem _ hz)) with e | e
    · subst e; exact absurd (b1 z hz) (R_irr z)
    · exact e
theorem upto_spec (c : List Int) : ∀ n : Nat, ((List.range n).flatMap (tidyAt c)).Pairwise R ∧ ∀ x, x ∈ (List.range n).flatMap (tidyAt c) ↔ x ∈ c ∧ 1 ≤ x.natAbs ∧ x.natAbs ≤ n
 | 0 => ⟨by simp, fun x => ⟨fun h => absurd h (by simp), fun h => by omega⟩⟩
 | n + 1 => by
  obtain ⟨h1, h2⟩ := upto_spec c n
  rw [List.range_succ, List.flatMap_append]
  simp only [List.flatMap_cons, List.flatMap_nil, List.append_nil]
  have hm : ∀ x, x ∈ tidyAt c n ↔ x ∈ c ∧ x.natAbs = n + 1 := by
   intro x
   unfold tidyAt
   rw [List.mem_append]
   constructor
   · rintro (h | h)
     · split at h
       · rename_i hc; rw [List.mem_singleton] at h; subst h; exact ⟨List.contains_iff_mem.1 hc, by omega⟩
       · exact absurd h (by simp)
     · split at h
       · rename_i hc; rw [List.mem_singleton] at h; subst h; exact ⟨List.contains_iff_mem.1 hc, by omega⟩
       · exact absurd h (by simp)
   · rintro ⟨hc, hx⟩
     rcases (show x = (n : Int) + 1 ∨ x = -((n : Int) + 1) by omega) with e | e
     · left; rw [if_pos (by rw [← e]; exact List.contains_iff_mem.2 hc), e]; simp
     · right; rw [if_pos (by rw [← e]; exact List.contains_iff_mem.2 hc), e]; simp
  refine ⟨List.pairwise_append.2 ⟨h1, ?_, fun x hx y hy => ?_⟩, fun x => ?_⟩
  · unfold tidyAt
    split <;> split <;> simp [R]
    omega
  · have := (h2 x).1 hx
    have := (hm y).1 hy
    left; omega
  · rw [List.mem_append, h2, hm]
    constructor
    · rintro (⟨a, b, d⟩ | ⟨a, b⟩)
      · exact ⟨a, b, by omega⟩
      · exact ⟨a, by omega, by omega⟩
    · rintro ⟨a, b, d⟩
      by_cases e : x.natAbs = n + 1
      · exact .inr ⟨a, e⟩
      · exact .inl ⟨a, b, by omega⟩
theorem compact_spec (d : Array Int) (hs : ∀ i j, i < j → j < d.size → ¬ R d[j]! d[i]!) : ∀ m, m ≤ d.size → (compactUpTo d m).Pairwise R ∧ ∀ x, x ∈ compactUpTo d m ↔ ∃ j, j < m ∧ d[j]! = x
 | 0, _ => ⟨by simp [compactUpTo], fun x => by simp [compactUpTo]⟩
 | m + 1, hm => by
  obtain ⟨h1, h2⟩ := compact_spec d hs m (by omega)
  rw [compactUpTo_succ]
  by_cases hk : keeps d m = true
  · rw [if_pos hk]
    refine ⟨List.pairwise_append.2 ⟨h1, by simp, fun x hx y hy => ?_⟩, fun x => ?_⟩
    · rw [List.mem_singleton] at hy
      subst hy
      obtain ⟨j, hj, rfl⟩ := (h2 x).1 hx
      rcases R_tri d[j]! d[m]! with h | h | h
      · exact h
      · exfalso
        unfold keeps at hk
        rcases of_decide_eq_true hk with h0 | h0
        · omega
        · rcases R_tri d[m]! d[m - 1]! with g | g | g
          · exact hs (m - 1) m (by omega) (by omega) g
          · exact h0 g
          · rw [← h] at g
            by_cases e : j = m - 1
            · subst e; exact R_irr _ g
            · exact hs j (m - 1) (by omega) (by omega) g
      · exact absurd h (hs j m hj (by omega))
    · rw [List.mem_append, h2, List.mem_singleton]
      constructor
      · rintro (⟨j, hj, e⟩ | e)
        · exact ⟨j, by omega, e⟩
        · exact ⟨m, by omega, e.symm⟩
      · rintro ⟨j, hj, e⟩
        by_cases hjm : j = m
        · subst hjm; exact .inr e.symm
        · exact .inl ⟨j, by omega, e⟩
  · rw [if_neg hk, List.append_nil]
    refine ⟨h1, fun x => ?_⟩
    rw [h2]
    constructor
    · rintro ⟨j, hj, e⟩; exact ⟨j, by omega, e⟩
    · rintro ⟨j, hj, e⟩
      by_cases hjm : j = m
      · subst hjm
        unfold keeps at hk
        have : ¬ (j = 0 ∨ d[j]! ≠ d[j - 1]!) := fun h => hk (decide_eq_true h)
        have hj0 : j ≠ 0 := fun h => this (.inl h)
        have hje : d[j]! = d[j - 1]! := Classical.byContradiction fun h => this (.inr h)
        exact ⟨j - 1, by omega, by rw [← hje]; exact e⟩
      · exact ⟨j, by omega, e⟩
theorem sorted_tidied (d : List L) : compact ((d.mergeSort fun x y => !(ltOf cfL) y x).map (fun x => x.1)) = tidied (d.map (fun x => x.1)) := by
 have hp : (d.mergeSort fun x y => !(ltOf cfL) y x).Pairwise (fun x y => (!(ltOf cfL) y x) = true) := by
  apply List.pairwise_mergeSort
  · intro x y z h1 h2
    simp only [Bool.not_eq_true'] at *
    exact swo.ntrans z y x h2 h1
  · intro x y
    rw [lt_cf, lt_cf]
    have := @R_asymm x.1 y.1
    by_cases h : R x.1 y.1
    · simp [this h]
    · simp [h]
 have hm : ∀ x, x ∈ (d.mergeSort fun x y => !(ltOf cfL) y x) ↔ x ∈ d := fun x => List.mem_mergeSort
 generalize (d.mergeSort fun x y => !(ltOf cfL) y x) = s at hp hm
 have hl : (s.map (fun x => x.1)).length = s.length := List.length_map _
 have hs : ∀ i j, i < j → j < (s.map (fun x => x.1)).toArray.size → ¬ R (s.map (fun x => x.1)).toArray[j]! (s.map (fun x => x.1)).toArray[i]! := by
  intro i j hij hj
  have hj2 : j < s.length := by simpa using hj
  have hi2 : i < s.length := by omega
  have := List.pairwise_iff_getElem.1 hp i j hi2 hj2 hij
  rw [lt_cf] at this
  simp [getElem!_pos, hi2, hj2] at this ⊢
  exact this
 obtain ⟨c1, c2⟩ := compact_spec _ hs (s.map (fun x => x.1)).length (by simp)
 obtain ⟨t1, t2⟩ := upto_spec (d.map (fun x => x.1)) 60
 unfold compact tidied
 refine same_of _ _ c1 t1 (fun x => ?_)
 rw [c2, t2]
 constructor
 · rintro ⟨j, hj, e⟩
   have hj2 : j < s.length := by simpa using hj
   simp [getElem!_pos, hj2] at e
   have h9 := Sp.lit_iff.1 (s[j]).2
   have h8 : x ∈ d.map (fun x => x.1) := List.mem_map.2 ⟨s[j], (hm _).1 (List.getElem_mem hj2), e⟩
   rw [e] at h9
   exact ⟨h8, by omega, by omega⟩
 · rintro ⟨hx, _, _⟩
   obtain ⟨y, hy, e⟩ := List.mem_map.1 hx
   obtain ⟨j, hj, e2⟩ := List.getElem_of_mem ((hm y).2 hy)
   refine ⟨j, by simpa using hj, ?_⟩
   simp [getElem!_pos, hj, e2, e]
end Go.Proofs.YteinkjhimceljaaGreatDoor.Td
