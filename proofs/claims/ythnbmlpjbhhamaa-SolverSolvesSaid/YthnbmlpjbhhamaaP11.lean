/- What the references of layer 11 answer: what is known by definition. -/
import Derived.Test.YthnbmlpjbhhamaaP10
import Derived.Test.YthnbmlpjbhhamaaGe
import Derived.Test.YthnbmlpjbhhamaaUr
import Derived.Test.YthnbmlpjbhhamaaUc
namespace Go.Proofs.Ythnbmlpjbhhamaa.J
open Go.RowKit Go.Proofs.YthnbmlpjbhhamaaW.PrintWords
set_option linter.unusedVariables false

theorem neg_wrap {x : Int} (h1 : -60 ≤ x) (h2 : x ≤ 60) : wrap64 (-x) = -x := wrap_neg (by omega) (by omega)

namespace R11
theorem inner (c known : List Int) (hc : c.length ≤ 1000000) (hk : known.length ≤ 1000000) (hw : ∀ m ∈ c, -60 ≤ m ∧ m ≤ 60) (i : Nat) (hi : i < c.length) (R : Int) (hn : Ev (fun k => hoggetref11_unit.l0 k c known ((i + 1 : Nat) : Int)) R) :
    ∀ (d j : Nat) (b : Bool), c.length - j = d → j ≤ c.length → Ev (fun k => hoggetref11_unit.l1 k c known (i : Int) b (j : Int)) (if (b && (c.drop j).all (fun m => m == c[i] || known.contains (-m))) = true then c[i] else R) := by
  intro d
  induction d with
  | zero =>
    intro j b hd hj
    refine next_ev ?_
    simp only [hoggetref11_unit.l1]
    rw [List.drop_eq_nil_of_le (by omega), List.all_nil, Bool.and_true, wrap_succ hi (by omega), rd_at c i hi]
    refine neg_ev (by omega) ?_
    cases b with
    | true => exact pos_ev rfl (pos_ev (by omega) (pos_ev (by omega) (Ev.now _)))
    | false => exact neg_ev (by decide) hn
  | succ d ih =>
    intro j b hd hj
    have hlt : j < c.length := by omega
    have hwj := hw _ (List.getElem_mem hlt)
    refine next_ev ?_
    simp only [hoggetref11_unit.l1]
    rw [rd_at c j hlt, rd_at c i hi, List.drop_eq_getElem_cons hlt, List.all_cons, wrap_succ hlt (by omega), neg_wrap hwj.1 hwj.2]
    refine pos_ev (by omega) ?_
    cases b with
    | false => exact neg_ev (by decide) (ih (j + 1) false (by omega) (by omega))
    | true =>
      refine pos_ev rfl (pos_ev (by omega) (pos_ev (by omega) (pos_ev (by omega) ?_)))
      by_cases e : c[j] = c[i]
      · rw [show (c[j] == c[i]) = true from beq_iff_eq.2 e, Bool.true_or, Bool.true_and]
        exact pos_ev e (ih (j + 1) true (by omega) (by omega))
      · rw [show (c[j] == c[i]) = false from beq_eq_false_iff_ne.2 e, Bool.false_or]
        refine neg_ev e (Ev.bind (has_ev known _ (by omega)) ?_)
        cases h : known.contains (-c[j]) with
        | true => exact ih (j + 1) true (by omega) (by omega)
        | false => exact ih (j + 1) false (by omega) (by omega)
theorem outer (c known : List Int) (hc : c.length ≤ 1000000) (hk : known.length ≤ 1000000) (hw : ∀ m ∈ c, -60 ≤ m ∧ m ≤ 60) :
    ∀ (d i : Nat), c.length - i = d → i ≤ c.length → Ev (fun k => hoggetref11_unit.l0 k c known (i : Int)) (((c.drop i).find? (Uk.alone c known)).getD 0) := by
  intro d
  induction d with
  | zero =>
    intro i hd hi
    refine next_ev ?_
    simp only [hoggetref11_unit.l0]
    rw [List.drop_eq_nil_of_le (by omega)]
    exact neg_ev (by omega) (Ev.now _)
  | succ d ih =>
    intro i hd hi
    have hlt : i < c.length := by omega
    refine next_ev ?_
    simp only [hoggetref11_unit.l0]
    rw [rd_at c i hlt, List.drop_eq_getElem_cons hlt]
    refine pos_ev (by omega) (pos_ev (by omega) ?_)
    refine Ev.bind (has_ev known _ (by omega)) ?_
    have := inner c known hc hk hw i hlt _ (ih (i + 1) (by omega) (by omega)) _ 0 (!known.contains c[i]) rfl (Nat.zero_le _)
    rw [List.drop_zero] at this
    have e : ((c[i] :: c.drop (i + 1)).find? (Uk.alone c known)).getD 0 = if (!known.contains c[i] && c.all (fun m => m == c[i] || known.contains (-m))) = true then c[i] else ((c.drop (i + 1)).find? (Uk.alone c known)).getD 0 := by
      rw [List.find?_cons]
      show (match Uk.alone c known c[i] with | true => some c[i] | false => _).getD 0 = if Uk.alone c known c[i] = true then _ else _
      cases Uk.alone c known c[i] <;> rfl
    rw [e]
    exact this
end R11
theorem unit_ev (c known : List Int) (hc : c.length ≤ 1000000) (hk : known.length ≤ 1000000) (hw : ∀ m ∈ c, -60 ≤ m ∧ m ≤ 60) : Ev (fun k => hoggetref11_unit.f k c known) (Uk.unitOf c known) := R11.outer c known hc hk hw _ 0 rfl (Nat.zero_le _)

/-- A formula that can be looked at. -/
structure Small (cls : List (List Int)) (fixed : List Int) : Prop where
  many : cls.length ≤ 3100
  wide : ∀ c ∈ cls, c.length ≤ 60
  fixd : fixed.length ≤ 1000
def Closed (cls : List (List Int)) (fixed R : List Int) : Prop := Uk.Part cls fixed R ∧ ∀ c ∈ cls, Uk.unitOf c R = 0

namespace Cl11
theorem pass (v : Int) (cls : List (List Int)) (fixed : List Int) (hs : Small cls fixed) (hw : ∀ c ∈ cls, ∀ m ∈ c, -60 ≤ m ∧ m ≤ 60) (L : Nat)
    (ih0 : ∀ known, Uk.Part cls fixed known → Uk.left known < L → ∃ R, Closed cls fixed R ∧ Ev (fun k => hoggetref11_Close.l0 k known true v cls) R) :
    ∀ (d i : Nat) (known : List Int) (more : Bool), cls.length - i = d → i ≤ cls.length → Uk.Part cls fixed known → Uk.left known ≤ L → (more = true → Uk.left known < L) → (more = false → ∀ c ∈ cls.take i, Uk.unitOf c known = 0) →
      ∃ R, Closed cls fixed R ∧ Ev (fun k => hoggetref11_Close.l1 k known more (i : Int) v cls) R := by
  intro d
  induction d with
  | zero =>
    intro i known more hd hi hp hl hm hn
    cases more with
    | true =>
      obtain ⟨R, h1, h2⟩ := ih0 known hp (hm rfl)
      refine ⟨R, h1, next_ev ?_⟩
      simp only [hoggetref11_Close.l1]
      exact neg_ev (by omega) h2
    | false =>
      have hn := hn rfl
      rw [List.take_of_length_le (by omega)] at hn
      refine ⟨known, ⟨hp, hn⟩, next_ev ?_⟩
      simp only [hoggetref11_Close.l1]
      refine neg_ev (by omega) (next_ev ?_)
      simp only [hoggetref11_Close.l0]
      exact neg_ev (by decide) (Ev.now _)
  | succ d ih =>
    intro i known more hd hi hp hl hm hn
    have hlt : i < cls.length := by omega
    have hmem := List.getElem_mem hlt
    have hfew := hp.few
    have hkl : known.length ≤ 1000000 := by have := hs.fixd; omega
    have hu := unit_ev cls[i] known (by have := hs.wide _ hmem; omega) hkl (hw _ hmem)
    by_cases h0 : Uk.unitOf cls[i] known = 0
    · obtain ⟨R, h1, h2⟩ := ih (i + 1) known more (by omega) (by omega) hp hl hm (fun hb c hc => by
        rw [List.take_succ_eq_append_getElem hlt] at hc
        rcases List.mem_append.1 hc with k | k
        · exact hn hb c k
        · obtain rfl := List.mem_singleton.1 k; exact h0)
      refine ⟨R, h1, next_ev ?_⟩
      simp only [hoggetref11_Close.l1]
      rw [rdL_at cls i hlt, wrap_succ hlt (by have := hs.many; omega)]
      exact pos_ev (by omega) (pos_ev (by omega) (Ev.bind hu (pos_ev h0 h2)))
    · obtain ⟨hp2, hl2⟩ := hp.add hw hmem h0
      obtain ⟨R, h1, h2⟩ := ih (i + 1) (known ++ [Uk.unitOf cls[i] known]) true (by omega) (by omega) hp2 (by omega) (fun _ => by omega) (fun hb => absurd hb (by decide))
      refine ⟨R, h1, next_ev ?_⟩
      simp only [hoggetref11_Close.l1]
      rw [rdL_at cls i hlt, wrap_succ hlt (by have := hs.many; omega)]
      exact pos_ev (by omega) (pos_ev (by omega) (Ev.bind hu (neg_ev h0 (pos_ev (by omega) h2))))
theorem rounds (v : Int) (cls : List (List Int)) (fixed : List Int) (hs : Small cls fixed) (hw : ∀ c ∈ cls, ∀ m ∈ c, -60 ≤ m ∧ m ≤ 60) :
    ∀ (L : Nat) (known : List Int), Uk.Part cls fixed known → Uk.left known < L → ∃ R, Closed cls fixed R ∧ Ev (fun k => hoggetref11_Close.l0 k known true v cls) R
  | 0, _, _, h => absurd h (Nat.not_lt_zero _)
  | L + 1, known, hp, hl => by
    obtain ⟨R, h1, h2⟩ := pass v cls fixed hs hw L (rounds v cls fixed hs hw L) _ 0 known false rfl (Nat.zero_le _) hp (by omega) (fun h => absurd h (by decide)) (fun _ c hc => by simp at hc)
    refine ⟨R, h1, next_ev ?_⟩
    simp only [hoggetref11_Close.l0]
    exact pos_ev trivial h2
end Cl11
theorem close_ev (v : Int) (cls : List (List Int)) (fixed : List Int) (hs : Small cls fixed) (hw : ∀ c ∈ cls, ∀ m ∈ c, -60 ≤ m ∧ m ≤ 60) : ∃ R, Closed cls fixed R ∧ Ev (fun k => hoggetref11_Close.f k v cls fixed) R := by
  obtain ⟨R, h1, h2⟩ := Cl11.rounds v cls fixed hs hw _ fixed (Uk.Part.start cls fixed) (Nat.lt_succ_self _)
  refine ⟨R, h1, ?_⟩
  unfold hoggetref11_Close.f
  simp only [own_f fixed (by have := hs.fixd; omega)]
  exact some_ev h2

/-- The clash, as the reference looks for it. -/
def clashB (known : List Int) (cls : List (List Int)) : Bool := known.any (fun m => known.contains (-m)) || cls.any (fun c => c.all (fun m => known.contains (-m)))
namespace X11
variable (v : Int) (cls : List (List Int)) (known : List Int) (hm : cls.length ≤ 3100) (hl : ∀ c ∈ cls, c.length ≤ 60) (hk : known.length ≤ 1000000) (hw : ∀ c ∈ cls, ∀ m ∈ c, -60 ≤ m ∧ m ≤ 60) (hkw : ∀ m ∈ known, -60 ≤ m ∧ m ≤ 60)
include hm hl hk hw in
theorem lits (i : Nat) (hi : i < cls.length) (R : Bool) (hn : Ev (fun k => hoggetref11_Clash.l1 k known ((i + 1 : Nat) : Int) v cls) R) :
    ∀ (d j : Nat) (b : Bool), cls[i].length - j = d → j ≤ cls[i].length → Ev (fun k => hoggetref11_Clash.l2 k known (i : Int) b (j : Int) v cls) ((b && (cls[i].drop j).all (fun m => known.contains (-m))) || R) := by
  intro d
  have hli := hl _ (List.getElem_mem hi)
  induction d with
  | zero =>
    intro j b hd hj
    refine next_ev ?_
    simp only [hoggetref11_Clash.l2]
    rw [rdL_at cls i hi, List.drop_eq_nil_of_le (by omega), List.all_nil, Bool.and_true, wrap_succ hi (by omega)]
    refine pos_ev (by omega) (pos_ev (by omega) (neg_ev (by omega) ?_))
    cases b with
    | true => exact pos_ev rfl (Ev.now _)
    | false => exact neg_ev (by decide) hn
  | succ d ih =>
    intro j b hd hj
    have hlt : j < cls[i].length := by omega
    have hwj := hw _ (List.getElem_mem hi) _ (List.getElem_mem hlt)
    refine next_ev ?_
    simp only [hoggetref11_Clash.l2]
    rw [rdL_at cls i hi, rd_at _ j hlt, List.drop_eq_getElem_cons hlt, List.all_cons, wrap_succ hlt (by omega), neg_wrap hwj.1 hwj.2]
    refine pos_ev (by omega) (pos_ev (by omega) (pos_ev (by omega) ?_))
    cases b with
    | false => exact neg_ev (by decide) (ih (j + 1) false (by omega) (by omega))
    | true =>
      refine pos_ev rfl (pos_ev (by omega) (Ev.bind (has_ev known _ (by omega)) ?_))
      have := ih (j + 1) (known.contains (-cls[i][j])) (by omega) (by omega)
      rw [Bool.true_and]
      exact this
include hm hl hk hw in
theorem rows : ∀ (d i : Nat), cls.length - i = d → i ≤ cls.length → Ev (fun k => hoggetref11_Clash.l1 k known (i : Int) v cls) ((cls.drop i).any (fun c => c.all (fun m => known.contains (-m)))) := by
  intro d
  induction d with
  | zero =>
    intro i hd hi
    refine next_ev ?_
    simp only [hoggetref11_Clash.l1]
    rw [List.drop_eq_nil_of_le (by omega)]
    exact neg_ev (by omega) (Ev.now _)
  | succ d ih =>
    intro i hd hi
    have hlt : i < cls.length := by omega
    refine next_ev ?_
    simp only [hoggetref11_Clash.l1]
    rw [List.drop_eq_getElem_cons hlt, List.any_cons]
    refine pos_ev (by omega) ?_
    have := lits v cls known hm hl hk hw i hlt _ (ih (i + 1) (by omega) (by omega)) _ 0 true rfl (Nat.zero_le _)
    rw [List.drop_zero, Bool.true_and] at this
    exact this
include hm hl hk hw hkw in
theorem pairs : ∀ (d i : Nat), known.length - i = d → i ≤ known.length → Ev (fun k => hoggetref11_Clash.l0 k known (i : Int) v cls) ((known.drop i).any (fun m => known.contains (-m)) || cls.any (fun c => c.all (fun m => known.contains (-m)))) := by
  intro d
  induction d with
  | zero =>
    intro i hd hi
    refine next_ev ?_
    simp only [hoggetref11_Clash.l0]
    rw [List.drop_eq_nil_of_le (by omega), List.any_nil, Bool.false_or]
    exact neg_ev (by omega) (rows v cls known hm hl hk hw _ 0 rfl (Nat.zero_le _))
  | succ d ih =>
    intro i hd hi
    have hlt : i < known.length := by omega
    have hwi := hkw _ (List.getElem_mem hlt)
    refine next_ev ?_
    simp only [hoggetref11_Clash.l0]
    rw [rd_at known i hlt, List.drop_eq_getElem_cons hlt, List.any_cons, wrap_succ hlt (by omega), neg_wrap hwi.1 hwi.2]
    refine pos_ev (by omega) (pos_ev (by omega) (Ev.bind (has_ev known _ (by omega)) ?_))
    cases known.contains (-known[i]) with
    | true => exact pos_ev rfl (Ev.now _)
    | false => exact neg_ev (by decide) (ih (i + 1) (by omega) (by omega))
end X11
theorem clash_ev (v : Int) (cls : List (List Int)) (known : List Int) (hm : cls.length ≤ 3100) (hl : ∀ c ∈ cls, c.length ≤ 60) (hk : known.length ≤ 1000000) (hw : ∀ c ∈ cls, ∀ m ∈ c, -60 ≤ m ∧ m ≤ 60) (hkw : ∀ m ∈ known, -60 ≤ m ∧ m ≤ 60) : Ev (fun k => hoggetref11_Clash.f k v cls known) (clashB known cls) :=
  X11.pairs v cls known hm hl hk hw hkw _ 0 rfl (Nat.zero_le _)
theorem clashB_iff {cls : List (List Int)} {fixed known : List Int} (h : ∀ n, n ∈ known ↔ Uk.Known cls fixed n) : clashB known cls = true ↔ Uk.Clash cls fixed := by
  unfold clashB Uk.Clash
  simp only [Bool.or_eq_true, List.any_eq_true, List.all_eq_true, List.contains_iff_mem]
  constructor
  · rintro (⟨m, h1, h2⟩ | ⟨c, h1, h2⟩)
    · exact .inl ⟨m, (h m).1 h1, (h _).1 h2⟩
    · exact .inr ⟨c, h1, fun m hm => (h _).1 (h2 m hm)⟩
  · rintro (⟨m, h1, h2⟩ | ⟨c, h1, h2⟩)
    · exact .inl ⟨m, (h m).2 h1, (h _).2 h2⟩
    · exact .inr ⟨c, h1, fun m hm => (h _).2 (h2 m hm)⟩

/-! ### tidied, as it is told -/
open Classical in
theorem told_one (nv : Nat) (P : Int → Prop) : Uk.told (nv + 1) P = Uk.told nv P ++ (if P ((nv : Int) + 1) then [(nv : Int) + 1] else if P (-((nv : Int) + 1)) then [-((nv : Int) + 1)] else []) := by
  unfold Uk.told
  rw [List.range_succ, List.filterMap_append]
  congr 1
  by_cases h1 : P ((nv : Int) + 1)
  · simp [h1]
  · by_cases h2 : P (-((nv : Int) + 1)) <;> simp [h1, h2]
open Classical in
theorem told_flat (R : List Int) (P : Int → Prop) (h : ∀ n, n ∈ R ↔ P n) (hc : ∀ n, P n → ¬ P (-n)) : ∀ j, (List.range j).flatMap (tidyAt R) = Uk.told j P
  | 0 => rfl
  | j + 1 => by
    rw [told_one, List.range_succ, List.flatMap_append, told_flat R P h hc j]
    congr 1
    simp only [List.flatMap_cons, List.flatMap_nil, List.append_nil]
    unfold tidyAt
    by_cases h1 : P ((j : Int) + 1)
    · rw [if_pos (List.contains_iff_mem.2 ((h _).2 h1)), if_neg (fun k => hc _ h1 ((h _).1 (List.contains_iff_mem.1 k))), if_pos h1]; rfl
    · rw [if_neg (fun k => h1 ((h _).1 (List.contains_iff_mem.1 k))), if_neg h1, List.nil_append]
      by_cases h2 : P (-((j : Int) + 1))
      · rw [if_pos (List.contains_iff_mem.2 ((h _).2 h2)), if_pos h2]
      · rw [if_neg (fun k => h2 ((h _).1 (List.contains_iff_mem.1 k))), if_neg h2]
theorem told_more (P : Int → Prop) (nv : Nat) (h : ∀ n, P n → n.natAbs ≤ nv) : ∀ d, Uk.told (nv + d) P = Uk.told nv P
  | 0 => rfl
  | d + 1 => by
    rw [show nv + (d + 1) = (nv + d) + 1 from rfl, told_one, if_neg (fun k => by have := h _ k; omega), if_neg (fun k => by have := h _ k; omega), List.append_nil, told_more P nv h d]

namespace P11
theorem lits (v : Int) (cls : List (List Int)) (fixed : List Int) (hc : Sp.check v cls = 0) (hs : Small cls fixed) :
    ∀ (d i : Nat), fixed.length - i = d → i ≤ fixed.length → (∀ m ∈ fixed.take i, Sp.lit v m = true) → Ev (fun k => hoggetref11_Propagate.l0 k fixed (i : Int) v cls) (Uk.prop v cls fixed) := by
  intro d
  obtain ⟨v0, v1, hw0⟩ := Sp.check_ok hc
  have hw : ∀ c ∈ cls, ∀ m ∈ c, -60 ≤ m ∧ m ≤ 60 := fun c h m hm => by have := Sp.lit_iff.1 (hw0 c h m hm); omega
  have h0 : ∀ c ∈ cls, ∀ m ∈ c, m ≠ 0 := fun c h m hm => (Sp.lit_iff.1 (hw0 c h m hm)).1
  have hfx := hs.fixd
  induction d with
  | zero =>
    intro i hd hi ht
    rw [List.take_of_length_le (by omega)] at ht
    refine next_ev ?_
    simp only [hoggetref11_Propagate.l0]
    refine neg_ev (by omega) ?_
    obtain ⟨R, ⟨hp, hu⟩, hR⟩ := close_ev v cls fixed hs hw
    have hmem := hp.all h0 hu
    have hkw : ∀ m ∈ R, Sp.lit v m = true := fun m hm => by
      have := (hmem m).1 hm
      clear hR hp hu
      induction this with
      | fix h => exact ht _ h
      | unit h1 h2 _ _ => exact hw0 _ h1 _ h2
    have hRl : R.length ≤ 1000000 := by have := hp.few; omega
    refine Ev.bind hR (Ev.bind (clash_ev v cls R hs.many hs.wide hRl hw (fun m hm => by have := Sp.lit_iff.1 (hkw m hm); omega)) ?_)
    by_cases hcl : Uk.Clash cls fixed
    · rw [(clashB_iff hmem).2 hcl]
      refine pos_ev rfl ?_
      have : Uk.prop v cls fixed = ([], 110) := by unfold Uk.prop; rw [if_neg (by simp [hc]), if_neg (fun k => k ht), if_pos hcl]
      rw [this]; exact Ev.now _
    · refine neg_ev (fun k => hcl ((clashB_iff hmem).1 k)) ?_
      have hok : Uk.Ok v cls fixed := ⟨hc, ht, hcl⟩
      rw [hok.prop]
      have e : tidy R = (Uk.told v.toNat (Uk.Known cls fixed), 0) := by
        unfold tidy tidied
        rw [if_pos (by rw [List.all_eq_true]; intro m hm; have := Sp.lit_iff.1 (hkw m hm); exact Sp.lit_iff.2 (by omega)), told_flat R _ hmem (fun n a b => hcl (.inl ⟨n, a, b⟩))]
        have := told_more (Uk.Known cls fixed) v.toNat (fun n k => by have := Sp.lit_iff.1 (hok.known k); omega) (60 - v.toNat)
        rw [show v.toNat + (60 - v.toNat) = 60 by omega] at this
        rw [this]
      have ht := tidy10_ev R (by omega)
      rw [e] at ht
      exact Ev.bind ht (Ev.now _)
  | succ d ih =>
    intro i hd hi ht
    have hlt : i < fixed.length := by omega
    refine next_ev ?_
    simp only [hoggetref11_Propagate.l0]
    rw [rd_at fixed i hlt, wrap_succ hlt (by omega)]
    simp only [lit_f v0 v1]
    refine pos_ev (by omega) (pos_ev (by omega) (some_ev ?_))
    cases e : Sp.lit v fixed[i] with
    | true =>
      refine pos_ev rfl (ih (i + 1) (by omega) (by omega) (fun m hm => ?_))
      rw [List.take_succ_eq_append_getElem hlt] at hm
      rcases List.mem_append.1 hm with k | k
      · exact ht m k
      · obtain rfl := List.mem_singleton.1 k; exact e
    | false =>
      have : Uk.prop v cls fixed = ([], 100) := by
        unfold Uk.prop
        rw [if_neg (by simp [hc]), if_pos (fun k => by have := k _ (List.getElem_mem hlt); rw [e] at this; exact absurd this (by decide))]
      rw [this]
      exact neg_ev (by decide) (Ev.now _)
end P11
theorem prop11_ev (v : Int) (cls : List (List Int)) (fixed : List Int) (hs : Small cls fixed) : Ev (fun k => hoggetref11_Propagate.f k v cls fixed) (Uk.prop v cls fixed) := by
  unfold hoggetref11_Propagate.f
  refine Ev.bind (check_ev v cls (fun c hc => by have := hs.wide c hc; omega)) (ite_ev (fun h => ?_) (fun h => ?_))
  · exact P11.lits v cls fixed h hs _ 0 rfl (Nat.zero_le _) (fun m hm => by simp at hm)
  · have : Uk.prop v cls fixed = ([], Sp.check v cls) := by unfold Uk.prop; rw [if_pos h]
    rw [this]; exact Ev.now _

namespace F11
theorem vars (v : Int) (cls : List (List Int)) (fixed : List Int) (hok : Uk.Ok v cls fixed) (stop r : Int) (hst : stop ≤ v + 1) (h : ∀ i : Int, 0 < i → i < stop → Uk.Known cls fixed i ∨ Uk.Known cls fixed (-i)) (he : (stop = v + 1 ∧ r = 0) ∨ (stop ≤ v ∧ r = stop ∧ ¬ Uk.Known cls fixed stop ∧ ¬ Uk.Known cls fixed (-stop))) :
    ∀ (d : Nat) (i : Int), (stop - i).toNat = d → 0 < i → i ≤ stop → Ev (fun k => hoggetref11_Free.l0 k (Uk.told v.toNat (Uk.Known cls fixed)) i v cls) r := by
  have hv := hok.vars
  have hsm := hok.small
  have hno : ∀ x, ¬ Uk.Known cls fixed x → (Uk.told v.toNat (Uk.Known cls fixed)).contains x = false := fun x hx => by simpa using fun k => hx ((hok.mem x).1 k)
  intro d
  induction d with
  | zero =>
    intro i hd hi hle
    obtain rfl : i = stop := by omega
    refine next_ev ?_
    simp only [hoggetref11_Free.l0]
    rcases he with ⟨h1, h2⟩ | ⟨h1, h2, h3, h4⟩
    · rw [h2]; exact neg_ev (by omega) (Ev.now _)
    · have p1 := has_ev (Uk.told v.toNat (Uk.Known cls fixed)) i (by omega)
      have p2 := has_ev (Uk.told v.toNat (Uk.Known cls fixed)) (-i) (by omega)
      rw [hno _ h3] at p1
      rw [hno _ h4] at p2
      rw [wrap_neg (by omega) (by omega), h2]
      exact pos_ev (by omega) (Ev.bind p1 (neg_ev (by decide) (Ev.bind p2 (neg_ev (by decide) (Ev.now _)))))
  | succ d ih =>
    intro i hd hi hle
    refine next_ev ?_
    simp only [hoggetref11_Free.l0]
    have hnx := ih (i + 1) (by omega) (by omega) (by omega)
    have ew : wrap64 (i + 1) = i + 1 := by unfold wrap64; omega
    rw [wrap_neg (by omega) (by omega), ew]
    refine pos_ev (by omega) (Ev.bind (has_ev _ i (by omega)) (ite_ev (fun _ => hnx) (fun hn => ?_)))
    have hk : Uk.Known cls fixed (-i) := (h i hi (by omega)).resolve_left (fun k => hn (List.contains_iff_mem.2 ((hok.mem i).2 k)))
    have p := has_ev (Uk.told v.toNat (Uk.Known cls fixed)) (-i) (by omega)
    rw [List.contains_iff_mem.2 ((hok.mem _).2 hk)] at p
    exact Ev.bind p (pos_ev rfl hnx)
end F11
theorem free11_ev (v : Int) (cls : List (List Int)) (fixed : List Int) (hs : Small cls fixed) : Ev (fun k => hoggetref11_Free.f k v cls fixed) (Uk.free v cls fixed) := by
  unfold hoggetref11_Free.f
  refine Ev.bind (prop11_ev v cls fixed hs) (ite_ev (fun h => ?_) (fun h => ?_))
  · have hok := Uk.ok_iff.1 h
    have hv := hok.vars
    rw [hok.prop]
    by_cases h0 : Uk.free v cls fixed = 0
    · rw [h0]
      exact F11.vars v cls fixed hok (v + 1) 0 (by omega) (fun i a b => Uk.free_none hok h0 i a (by omega)) (.inl ⟨rfl, rfl⟩) _ 1 rfl (by omega) (by omega)
    · obtain ⟨f1, f2, f3, f4, f5⟩ := Uk.free_some hok h0
      exact F11.vars v cls fixed hok _ _ (by omega) f5 (.inr ⟨f2, rfl, f3, f4⟩) _ 1 rfl (by omega) (by omega)
  · have : Uk.free v cls fixed = 0 := by unfold Uk.free; rw [if_pos h]
    rw [this]; exact Ev.now _
end Go.Proofs.Ythnbmlpjbhhamaa.J
