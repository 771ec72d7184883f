/- UnitMore: what the walk computes is true. -/
import Derived.Test.YthnbmlpjbhhamaaPe
import Derived.Test.YthnbmlpjbhhamaaUq
import Derived.Test.YthnbmlpjbhhamaaGh
namespace Go.Proofs.Ythnbmlpjbhhamaa.J
open Go.RowKit Go.Proofs.YthnbmlpjbhhamaaW.PrintWords
set_option linter.unusedVariables false

namespace UM
/-- The end: the literal wasn't known, or just as much is known. -/
theorem last (n : Int) (l m : List Int) (g i : Int) (hl : l.length ≤ 60) (h : n ∈ l → g = 0 ∧ l = m) : Ev (fun k => hoggetlaw11_UnitMore.j2 k n l m g i false) true := by
  refine Ev.step (f := fun k => (hoggetlaw11_follows.f k).bind fun t324 => (if t324 = true then ((hoggetref11_Has.f k l n).bind fun t325 => (if t325 = true then (if g = 0 then ((hoggetref10_Ints.f k l m).bind fun t326 => (some t326)) else (some false)) else (some true))) else (some false))) (fun k => by simp only [hoggetlaw11_UnitMore.j2]; rw [if_neg (by decide)]) ?_
  refine Ev.bind follows11_ev (Ev.congr (fun k => if_pos rfl) ?_)
  refine Ev.bind (has_ev l n (by omega)) ?_
  by_cases hn : n ∈ l
  · obtain ⟨h1, h2⟩ := h hn
    rw [List.contains_iff_mem.2 hn]
    refine Ev.congr (fun k => if_pos rfl) (Ev.congr (fun k => if_pos h1) ?_)
    subst h2
    have := ints_ev l l (by omega)
    rw [decide_eq_true rfl] at this
    exact Ev.bind this (Ev.now true)
  · have : l.contains n = false := by simpa using hn
    rw [this]
    exact Ev.congr (fun k => if_neg (by decide)) (Ev.now true)
theorem walk (n : Int) (l m : List Int) (g : Int) (hl : l.length ≤ 60) (hm : m.length ≤ 60) (h : n ∈ l → g = 0 ∧ l = m) (hg : g = 0 → ∀ x ∈ l, x ∈ m) : ∀ (d i : Nat), l.length - i = d → i ≤ l.length → Ev (fun k => hoggetlaw11_UnitMore.l0 k n l m g (i : Int)) true := by
  intro d
  induction d with
  | zero =>
    intro i hd hi
    exact Ev.step (f := fun k => hoggetlaw11_UnitMore.j2 k n l m g i false) (fun k => by simp only [hoggetlaw11_UnitMore.l0]; rw [if_neg (by omega)]) (last n l m g i hl h)
  | succ d ih =>
    intro i hd hi
    have hlt : i < l.length := by omega
    refine Ev.step (f := fun k => hoggetlaw11_UnitMore.j2 k n l m g i (g == 0)) (fun k => by simp only [hoggetlaw11_UnitMore.l0]; rw [if_pos (by omega)]) ?_
    by_cases h0 : g = 0
    · rw [show (g == 0) = true from beq_iff_eq.2 h0]
      refine Ev.step (f := fun k => (hoggetref11_Has.f k m (rd l i)).bind fun t323 => (if t323 = true then (hoggetlaw11_UnitMore.l0 k n l m g (wrap64 ((i : Int) + 1))) else (some false))) (fun k => by simp only [hoggetlaw11_UnitMore.j2]; rw [if_pos trivial, if_pos (by omega), if_pos (by omega)]) ?_
      rw [rd_at l i hlt]
      have he := has_ev m l[i] (by omega)
      rw [List.contains_iff_mem.2 (hg h0 _ (List.getElem_mem hlt))] at he
      refine Ev.bind he (Ev.congr (fun k => if_pos rfl) ?_)
      rw [wrap_succ hlt (by omega)]
      exact ih (i + 1) (by omega) (by omega)
    · rw [show (g == 0) = false from beq_eq_false_iff_ne.2 h0]
      exact last n l m g i hl h
end UM

theorem UnitMore_ev (v : Int) (cls : List (List Int)) (fixed : List Int) (n : Int) : Ev (fun k => hoggetlaw11_UnitMore.f k v cls fixed n) true := by
  unfold hoggetlaw11_UnitMore.f
  refine Ev.bind (large11_ev v cls fixed) ?_
  have hbig : Ev (fun k => hoggetlaw11_UnitMore.j0 k fixed n true v cls) true := Ev.step (f := fun _ => some true) (fun k => by simp only [hoggetlaw11_UnitMore.j0]; rw [if_pos trivial]) (Ev.now true)
  refine ite_ev (fun _ => hbig) (fun hL => ?_)
  have hb := large11_bounds (by simpa using hL)
  refine ite_ev (fun _ => hbig) (fun h1 => ?_)
  by_cases h2 : n > 60
  · rw [decide_eq_true h2]; exact hbig
  rw [decide_eq_false h2]
  refine Ev.step (f := fun k => ((unit_Propagate.f v cls fixed).bind fun bt305 => (if ([] : List Int).length + fixed.length < 17592186044416 then ((some (([] : List Int) ++ fixed : List Int)).bind fun y309 => (if y309.length < 17592186044416 then ((unit_Propagate.f v cls (y309 ++ [n])).bind fun bt315 => (if bt305.2 = 0 then ((hoggetref11_Has.f k bt305.1 (wrap64 (-n))).bind fun t320 => (if t320 = true then ((hoggetlaw11_follows.f k).bind fun t321 => (if t321 = true then (some (bt315.2 == 110)) else (some false))) else (hoggetlaw11_UnitMore.l0 k n bt305.1 bt315.1 bt315.2 0))) else ((hoggetlaw11_follows.f k).bind fun t319 => (if t319 = true then (some (bt315.2 != 0)) else (some false))))) else (none))) else (none)))) (fun k => by simp only [hoggetlaw11_UnitMore.j0]; rw [if_neg (by decide)]) ?_
  refine Ev.bind (a := Uk.prop v cls fixed) (Ev.now _) ?_
  refine Ev.congr (fun k => if_pos (by simp; omega)) ?_
  refine Ev.bind (a := fixed) (Ev.now _) ?_
  refine Ev.congr (fun k => if_pos (by omega)) ?_
  refine Ev.bind (a := Uk.prop v cls (fixed ++ [n])) (Ev.now _) ?_
  refine ite_ev (fun h0 => ?_) (fun h0 => ?_)
  · have hok := Uk.ok_iff.1 h0
    have hps := Uk.prop_small v cls fixed
    rw [wrap_neg (by omega) (by omega)]
    refine Ev.bind (has_ev _ (-n) (by omega)) ?_
    have hmem : ∀ x, x ∈ (Uk.prop v cls fixed).1 ↔ Uk.Known cls fixed x := fun x => by rw [hok.prop]; exact hok.mem x
    by_cases hk : Uk.Known cls fixed (-n)
    · rw [List.contains_iff_mem.2 ((hmem _).2 hk)]
      refine Ev.congr (fun k => if_pos rfl) (Ev.bind follows11_ev (Ev.congr (fun k => if_pos rfl) ?_))
      rw [Uk.more_turned hok hk]
      exact Ev.now true
    · have : (Uk.prop v cls fixed).1.contains (-n) = false := by simpa using fun h => hk ((hmem _).1 h)
      rw [this]
      refine Ev.congr (fun k => if_neg (by decide)) ?_
      refine UM.walk n _ _ _ hps (Uk.prop_small _ _ _) (fun hn => ?_) (fun hg x hx => ?_) _ 0 rfl (Nat.zero_le _)
      · have e := Uk.more_same hok ((hmem _).1 hn)
        rw [e]; exact ⟨h0, rfl⟩
      · have h2 := Uk.ok_iff.1 hg
        rw [hok.prop] at hx
        rw [h2.prop]
        exact Uk.more_keeps h2 hx
  · refine Ev.bind follows11_ev (Ev.congr (fun k => if_pos rfl) ?_)
    have : (Uk.prop v cls (fixed ++ [n])).2 ≠ 0 := fun h => h0 (Uk.ok_iff.2 (Uk.more_ok (Uk.ok_iff.1 h)))
    rw [show ((Uk.prop v cls (fixed ++ [n])).2 != 0) = true from bne_iff_ne.2 this]
    exact Ev.now true

theorem UnitMore_walk {W : World} (a0 : Int) (A0 : Option Addr) (c0 : Nat) (l0 : List (List Int)) (hr0 : Kd.C (Kd.slice 3 (Kd.int .i64)) W A0 l0.length l0) (hc0 : l0.length ≤ c0) (w0 : (Lit.int .i64 a0).wf = true) (wl0 : ∀ c ∈ l0, ∀ n ∈ c, (Lit.int .i64 n).wf = true)
    (A1 : Option Addr) (c1 : Nat) (l1 : List Int) (hr1 : Kd.C (Kd.int .i64) W A1 l1.length l1) (hc1 : l1.length ≤ c1) (wl1 : ∀ n ∈ l1, (Lit.int .i64 n).wf = true) (a2 : Int) (w2 : (Lit.int .i64 a2).wf = true) :
    Calls Try.prog 5 #[.agg #[.int .i64 a0, .slice A0 l0.length c0], .slice A1 l1.length c1, .int .i64 a2] W fun e w' => e = .returned (.bool true) ∧ Below W.heap.size W w' := by
  obtain ⟨k, hk⟩ := (UnitMore_ev a0 l0 l1 a2).rounds
  exact hoggetlaw11_UnitMore.calls k a0 A0 c0 l0 A1 c1 l1 a2 true W hr0 hc0 hr1 hc1 hk
end Go.Proofs.Ythnbmlpjbhhamaa.J
