/- What follows, and which trace shows it, as the program reckons it. No program in sight. -/
import Derived.Test.YthnbmlpjbhhamaaUq
namespace Go.Proofs.Ythnbmlpjbhhamaa.Pf
set_option linter.unusedVariables false

def turned (c : List Int) : List Int := c.map (fun n => -n)
/-- P13.1. -/
noncomputable def follows (vars : Int) (cls : List (List Int)) (c : List Int) : Bool :=
  decide (Sp.check vars cls = 0 ∧ Sp.check vars [c] = 0 ∧ (Uk.prop vars cls (turned c)).2 = 110)
/-- Does the trace go on at this place? -/
noncomputable def goes (vars : Int) (cls trace : List (List Int)) (i : Nat) : Bool := follows vars (cls ++ trace.take i) (trace.getD i [])
/-- P13.2. -/
noncomputable def check (vars : Int) (cls trace : List (List Int)) : Int × Bool :=
  match (List.range trace.length).find? (fun i => !goes vars cls trace i) with
  | some i => ((i : Int), false)
  | none => ((trace.length : Int), decide (0 < trace.length) && decide ((trace.getD (trace.length - 1) []).length = 0))
theorem range_split {n i : Nat} (h : i < n) : ∃ r, List.range n = List.range i ++ i :: r := by
  refine ⟨(List.range (n - i - 1)).map (i + 1 + ·), ?_⟩
  have e : n = (i + 1) + (n - i - 1) := by omega
  rw [e, List.range_add, List.range_succ, List.append_assoc]
  have e2 : i + 1 + (n - i - 1) - i - 1 = n - i - 1 := by omega
  rw [e2]; rfl
theorem check_fails {vars : Int} {cls trace : List (List Int)} {i : Nat} (hi : i < trace.length) (hb : ∀ j, j < i → goes vars cls trace j = true) (h : goes vars cls trace i = false) : check vars cls trace = ((i : Int), false) := by
  unfold check
  obtain ⟨r, hr⟩ := range_split hi
  have : (List.range trace.length).find? (fun i => !goes vars cls trace i) = some i := by
    rw [hr, List.find?_append]
    have h1 : (List.range i).find? (fun i => !goes vars cls trace i) = none := by
      rw [List.find?_eq_none]
      intro x hx
      rw [hb x (List.mem_range.1 hx)]; decide
    rw [h1, List.find?_cons, h]; rfl
  rw [this]
theorem check_holds {vars : Int} {cls trace : List (List Int)} (hb : ∀ j, j < trace.length → goes vars cls trace j = true) : check vars cls trace = ((trace.length : Int), decide (0 < trace.length) && decide ((trace.getD (trace.length - 1) []).length = 0)) := by
  unfold check
  have h1 : (List.range trace.length).find? (fun i => !goes vars cls trace i) = none := by
    rw [List.find?_eq_none]
    intro x hx
    rw [hb x (List.mem_range.1 hx)]; decide
  rw [h1]
theorem follows_true {vars : Int} {cls : List (List Int)} {c : List Int} : follows vars cls c = true ↔ Sp.check vars cls = 0 ∧ Sp.check vars [c] = 0 ∧ (Uk.prop vars cls (turned c)).2 = 110 := by
  unfold follows; exact decide_eq_true_iff
end Go.Proofs.Ythnbmlpjbhhamaa.Pf
