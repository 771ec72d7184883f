/- UnitModels: what the walk computes is true. -/
import Derived.Test.YthnbmlpjbhhamaaPe
import Derived.Test.YthnbmlpjbhhamaaUq
import Derived.Test.YthnbmlpjbhhamaaGi
namespace Go.Proofs.Ythnbmlpjbhhamaa.J
open Go.RowKit Go.Proofs.YthnbmlpjbhhamaaW.PrintWords
set_option linter.unusedVariables false

namespace UMo
theorem holds_one (n : Int) (m : List Bool) : clause_Holds.f [n] m = some (Sp.trueIn m n) := by
  show some (Sp.holds [n] m) = _
  simp [Sp.holds]
theorem known (m : List Bool) (l : List Int) (hl : l.length ≤ 60) (h : ∀ x ∈ l, Sp.trueIn m x = true) : ∀ (d i : Nat), l.length - i = d → i ≤ l.length → Ev (fun k => hoggetlaw11_UnitModels.l1 k m l (i : Int)) true := by
  intro d
  induction d with
  | zero =>
    intro i hd hi
    refine next_ev ?_
    simp only [hoggetlaw11_UnitModels.l1]
    exact neg_ev (by omega) follows11_end
  | succ d ih =>
    intro i hd hi
    have hlt : i < l.length := by omega
    refine next_ev ?_
    simp only [hoggetlaw11_UnitModels.l1]
    refine pos_ev (by omega) (pos_ev (by omega) ?_)
    rw [rd_at l i hlt]
    simp only [holds_one, h _ (List.getElem_mem hlt)]
    refine some_ev (pos_ev rfl ?_)
    rw [wrap_succ hlt (by omega)]
    exact ih (i + 1) (by omega) (by omega)
theorem fixed (v : Int) (cls : List (List Int)) (fixed : List Int) (m : List Bool) (hfl : fixed.length ≤ 100) (hs : Sp.sat v cls m = true) (hc : Sp.check v cls = 0) :
    ∀ (d i : Nat), fixed.length - i = d → i ≤ fixed.length → (∀ x ∈ fixed.take i, Sp.trueIn m x = true) → Ev (fun k => hoggetlaw11_UnitModels.l0 k fixed m (i : Int) v cls) true := by
  intro d
  induction d with
  | zero =>
    intro i hd hi ht
    refine next_ev ?_
    simp only [hoggetlaw11_UnitModels.l0]
    refine neg_ev (by omega) ?_
    rw [List.take_of_length_le (by omega)] at ht
    have hok := Uk.model_ok hs hc ht
    refine Ev.bind (a := Uk.prop v cls fixed) (Ev.now _) ?_
    rw [hok.prop]
    refine pos_ev rfl ?_
    exact known m _ hok.small (fun x hx => Uk.model_known hs ht ((hok.mem x).1 hx)) _ 0 rfl (Nat.zero_le _)
  | succ d ih =>
    intro i hd hi ht
    have hlt : i < fixed.length := by omega
    refine next_ev ?_
    simp only [hoggetlaw11_UnitModels.l0]
    refine pos_ev (by omega) (pos_ev (by omega) ?_)
    rw [rd_at fixed i hlt]
    simp only [holds_one]
    refine some_ev (ite_ev (fun h => ?_) (fun _ => follows11_end))
    rw [wrap_succ hlt (by omega)]
    refine ih (i + 1) (by omega) (by omega) (fun x hx => ?_)
    rw [List.take_succ_eq_append_getElem hlt] at hx
    rcases List.mem_append.1 hx with h1 | h1
    · exact ht x h1
    · obtain rfl := List.mem_singleton.1 h1; exact h
end UMo

theorem UnitModels_ev (v : Int) (cls : List (List Int)) (fixed : List Int) (m : List Bool) : Ev (fun k => hoggetlaw11_UnitModels.f k v cls fixed m) true := by
  unfold hoggetlaw11_UnitModels.f
  refine Ev.bind (large11_ev v cls fixed) ?_
  have hbig : Ev (fun k => hoggetlaw11_UnitModels.j0 k fixed m true v cls) true := by
    refine next_ev ?_
    simp only [hoggetlaw11_UnitModels.j0]
    exact pos_ev trivial (Ev.now true)
  have hend : Ev (fun k => hoggetlaw11_UnitModels.j1 k fixed m true v cls) true := by
    refine next_ev ?_
    simp only [hoggetlaw11_UnitModels.j1]
    exact pos_ev trivial follows11_end
  refine ite_ev (fun _ => hbig) (fun hL => ?_)
  have hb := large11_bounds (by simpa using hL)
  by_cases h2 : (m.length : Int) > 100
  · rw [decide_eq_true h2]; exact hbig
  rw [decide_eq_false h2]
  refine next_ev ?_
  simp only [hoggetlaw11_UnitModels.j0]
  refine neg_ev (by decide) ?_
  refine Ev.bind (a := Sp.sat v cls m) (Ev.now _) (ite_ev (fun hs => ?_) (fun _ => hend))
  refine Ev.bind (a := Sp.check v cls) (Ev.now _) ?_
  by_cases hc : Sp.check v cls = 0
  · rw [show (Sp.check v cls != 0) = false by rw [hc]; rfl]
    refine next_ev ?_
    simp only [hoggetlaw11_UnitModels.j1]
    refine neg_ev (by decide) ?_
    exact UMo.fixed v cls fixed m hb.1 hs hc _ 0 rfl (Nat.zero_le _) (fun x hx => by simp at hx)
  · rw [show (Sp.check v cls != 0) = true from bne_iff_ne.2 hc]; exact hend

theorem UnitModels_walk {W : World} (a0 : Int) (A0 : Option Addr) (c0 : Nat) (l0 : List (List Int)) (hr0 : Kd.C (Kd.slice 3 (Kd.int .i64)) W A0 l0.length l0) (hc0 : l0.length ≤ c0) (w0 : (Lit.int .i64 a0).wf = true) (wl0 : ∀ c ∈ l0, ∀ n ∈ c, (Lit.int .i64 n).wf = true)
    (A1 : Option Addr) (c1 : Nat) (l1 : List Int) (hr1 : Kd.C (Kd.int .i64) W A1 l1.length l1) (hc1 : l1.length ≤ c1) (wl1 : ∀ n ∈ l1, (Lit.int .i64 n).wf = true) (A2 : Option Addr) (c2 : Nat) (l2 : List Bool) (hr2 : Kd.C Kd.bool W A2 l2.length l2) (hc2 : l2.length ≤ c2) :
    Calls Try.prog 6 #[.agg #[.int .i64 a0, .slice A0 l0.length c0], .slice A1 l1.length c1, .slice A2 l2.length c2] W fun e w' => e = .returned (.bool true) ∧ Below W.heap.size W w' := by
  obtain ⟨k, hk⟩ := (UnitModels_ev a0 l0 l1 l2).rounds
  exact hoggetlaw11_UnitModels.calls k a0 A0 c0 l0 A1 c1 l1 A2 c2 l2 true W hr0 hc0 hr1 hc1 hr2 hc2 hk
end Go.Proofs.Ythnbmlpjbhhamaa.J
