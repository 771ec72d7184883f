/- UnitPlain: what the walk computes is true. -/
import Derived.Test.YthnbmlpjbhhamaaP11
import Derived.Test.YthnbmlpjbhhamaaPe
import Derived.Test.YthnbmlpjbhhamaaGk
namespace Go.Proofs.Ythnbmlpjbhhamaa.J
open Go.RowKit Go.Proofs.YthnbmlpjbhhamaaW.PrintWords
set_option linter.unusedVariables false

theorem plain_known (fixed : List Int) (n : Int) : Uk.Known [] fixed n ↔ n ∈ fixed := by
  constructor
  · intro h
    cases h with
    | fix h => exact h
    | unit h _ _ => exact absurd h (by simp)
  · exact .fix
theorem plain_clash (fixed : List Int) : Uk.Clash [] fixed ↔ ∃ n ∈ fixed, -n ∈ fixed := by
  constructor
  · rintro (⟨n, h1, h2⟩ | ⟨c, h, _⟩)
    · exact ⟨n, (plain_known _ _).1 h1, (plain_known _ _).1 h2⟩
    · exact absurd h (by simp)
  · rintro ⟨n, h1, h2⟩
    exact .inl ⟨n, .fix h1, .fix h2⟩
/-- Is a literal there turned round, too? -/
def turnedB (fixed : List Int) (e : Int) (i : Nat) : Bool := decide (e = 0) && (fixed.take i).any (fun x => fixed.contains (-x))
theorem plain_end (v : Int) (fixed : List Int) (hf : fixed.length ≤ 100) :
    Ev (fun k => if (Uk.prop v [] fixed).2 = 0 then ((hoggetlaw11_follows.f k).bind fun t1250 => (if t1250 = true then (if (Td.tidy fixed).2 = 0 then (if turnedB fixed (Td.tidy fixed).2 fixed.length = true then (none) else ((hoggetref10_Ints.f k (Uk.prop v [] fixed).1 (Td.tidy fixed).1).bind fun t1251 => (some t1251))) else (none)) else (none))) else ((hoggetlaw11_follows.f k).bind fun t1252 => (if t1252 = true then (if ((Uk.prop v [] fixed).1.length : Int) = 0 then (if (Uk.prop v [] fixed).2 = 110 then (some (turnedB fixed (Td.tidy fixed).2 fixed.length)) else (some true)) else (none)) else (none)))) true := by
  by_cases h0 : (Uk.prop v [] fixed).2 = 0
  · have hok := Uk.ok_iff.1 h0
    have hv := hok.vars
    have hall : fixed.all (Sp.lit 60) = true := List.all_eq_true.2 (fun n hn => by
      have := Sp.lit_iff.1 (hok.lits n hn)
      exact Sp.lit_iff.2 (by omega))
    have e : Td.tidy fixed = (Td.tidied fixed, 0) := by unfold Td.tidy; rw [hall]; rfl
    rw [e]
    refine pos_ev h0 (Ev.bind follows11_ev (pos_ev rfl (pos_ev rfl ?_)))
    have hc : turnedB fixed 0 fixed.length = false := by
      unfold turnedB
      rw [List.take_length, decide_eq_true rfl, Bool.true_and, List.any_eq_false]
      intro x hx hc
      exact hok.calm ((plain_clash fixed).2 ⟨x, hx, List.contains_iff_mem.1 hc⟩)
    refine neg_ev (by rw [hc]; decide) ?_
    have ht : (Uk.prop v [] fixed).1 = Td.tidied fixed := by
      rw [hok.prop]
      show Uk.told v.toNat (Uk.Known [] fixed) = Td.tidied fixed
      have h1 := told_flat fixed (Uk.Known [] fixed) (fun n => (plain_known fixed n).symm) (fun n h h' => hok.calm (.inl ⟨n, h, h'⟩)) 60
      have h2 := told_more (Uk.Known [] fixed) v.toNat (fun n h => by have := Sp.lit_iff.1 (hok.known h); omega) (60 - v.toNat)
      rw [show v.toNat + (60 - v.toNat) = 60 by omega] at h2
      rw [← h2, ← h1]
      rfl
    rw [ht]
    have hl : (Td.tidied fixed).length ≤ 120 := flat_len fixed 60
    exact Ev.bind (ints_same (Td.tidied fixed) (by omega)) (Ev.now _)
  · refine neg_ev h0 (Ev.bind follows11_ev (pos_ev rfl (pos_ev (by rw [Uk.prop_bad h0]; rfl) (ite_ev (fun h1 => ?_) (fun _ => Ev.now _)))))
    rcases Uk.prop_ends v [] fixed with ⟨_, e⟩ | ⟨_, _, e⟩ | ⟨k1, k2, k3, e⟩ | ⟨_, _, _, e⟩
    · rw [e] at h1
      rcases Uk.check_cases v [] with h | h | h <;> rw [h] at h1 <;> exact absurd h1 (by decide)
    · rw [e] at h1; exact absurd h1 (by decide)
    · have hv := (Sp.check_ok k1)
      have hall : fixed.all (Sp.lit 60) = true := List.all_eq_true.2 (fun n hn => by
        have := Sp.lit_iff.1 (k2 n hn)
        exact Sp.lit_iff.2 (by omega))
      have e2 : Td.tidy fixed = (Td.tidied fixed, 0) := by unfold Td.tidy; rw [hall]; rfl
      rw [e2]
      have hc : turnedB fixed 0 fixed.length = true := by
        unfold turnedB
        rw [List.take_length, decide_eq_true rfl, Bool.true_and, List.any_eq_true]
        obtain ⟨n, a, b⟩ := (plain_clash fixed).1 k3
        exact ⟨n, a, List.contains_iff_mem.2 b⟩
      rw [hc]
      exact Ev.now _
    · rw [e] at h0; exact absurd rfl h0
theorem plain_loop (v : Int) (fixed : List Int) (hf : fixed.length ≤ 100) : ∀ (d i : Nat), fixed.length - i = d → i ≤ fixed.length →
    Ev (fun k => hoggetlaw11_UnitPlain.l0 k fixed (Uk.prop v [] fixed).1 (Uk.prop v [] fixed).2 (Td.tidy fixed).1 (Td.tidy fixed).2 (turnedB fixed (Td.tidy fixed).2 i) (i : Int)) true := by
  intro d
  induction d with
  | zero =>
    intro i hd hi
    have ei : i = fixed.length := by omega
    subst ei
    refine next_ev ?_
    simp only [hoggetlaw11_UnitPlain.l0]
    exact neg_ev (by omega) (plain_end v fixed hf)
  | succ d ih =>
    intro i hd hi
    have hlt : i < fixed.length := by omega
    have hn := ih (i + 1) (by omega) (by omega)
    refine next_ev ?_
    simp only [hoggetlaw11_UnitPlain.l0]
    rw [wrap_succ hlt (by omega)]
    have hstep : turnedB fixed (Td.tidy fixed).2 (i + 1) = (turnedB fixed (Td.tidy fixed).2 i || (decide ((Td.tidy fixed).2 = 0) && fixed.contains (-fixed[i]))) := by
      unfold turnedB
      rw [List.take_succ_eq_append_getElem hlt, List.any_append, Bool.and_or_distrib_left]
      simp
    refine pos_ev (by omega) ?_
    cases hc : turnedB fixed (Td.tidy fixed).2 i with
    | true =>
      rw [hstep, hc, Bool.true_or] at hn
      exact pos_ev rfl hn
    | false =>
      rw [hstep, hc, Bool.false_or] at hn
      refine neg_ev (by decide) ?_
      by_cases h0 : (Td.tidy fixed).2 = 0
      · have hall : fixed.all (Sp.lit 60) = true := by
          unfold Td.tidy at h0
          split at h0
          · rename_i h; exact h
          · exact absurd h0 (by decide)
        have hb := Sp.lit_iff.1 (List.all_eq_true.1 hall _ (List.getElem_mem hlt))
        refine pos_ev h0 (pos_ev (by omega) ?_)
        rw [rd_at fixed i hlt, show wrap64 (-fixed[i]) = -fixed[i] by unfold wrap64; omega]
        rw [decide_eq_true h0, Bool.true_and] at hn
        exact Ev.bind (has_ev fixed _ (by omega)) hn
      · refine neg_ev h0 ?_
        rw [decide_eq_false h0, Bool.false_and] at hn
        exact hn
theorem UnitPlain_ev (v : Int) (fixed : List Int) : Ev (fun k => hoggetlaw11_UnitPlain.f k v fixed) true := by
  unfold hoggetlaw11_UnitPlain.f
  refine ite_ev (fun _ => Ev.now _) (fun hf => ?_)
  refine Ev.bind (a := Uk.prop v [] fixed) (Ev.now _) (Ev.bind (a := Td.tidy fixed) (ev_some (fun _ => by rw [clause_Tidy.f_eq, if_pos (by omega)])) ?_)
  have h := plain_loop v fixed (by omega) _ 0 rfl (Nat.zero_le _)
  have e : turnedB fixed (Td.tidy fixed).2 0 = false := by unfold turnedB; simp
  rw [e] at h
  exact h

theorem UnitPlain_walk {W : World} (a0 : Int) (w0 : (Lit.int .i64 a0).wf = true) (A1 : Option Addr) (c1 : Nat) (l1 : List Int) (hr1 : Kd.C (Kd.int .i64) W A1 l1.length l1) (hc1 : l1.length ≤ c1) (wl1 : ∀ n ∈ l1, (Lit.int .i64 n).wf = true) :
    Calls Try.prog 31 #[.int .i64 a0, .slice A1 l1.length c1] W fun e w' => e = .returned (.bool true) ∧ Below W.heap.size W w' := by
  obtain ⟨k, hk⟩ := (UnitPlain_ev a0 l1).rounds
  exact hoggetlaw11_UnitPlain.calls k a0 A1 c1 l1 true W hr1 hc1 hk
end Go.Proofs.Ythnbmlpjbhhamaa.J
