/- SolverSolves: what the walk computes is true. -/
import Derived.Test.YthnbmlpjbhhamaaP12
import Derived.Test.YthnbmlpjbhhamaaGI
namespace Go.Proofs.Ythnbmlpjbhhamaa.J
open Go.RowKit Go.Proofs.YthnbmlpjbhhamaaW.PrintWords
set_option linter.unusedVariables false

theorem trace_at {v : Int} : ∀ (t C : List (List Int)) (i : Nat) (h : i < t.length), Sv.All v C t → Sv.Step v (C ++ t.take i) t[i]
  | c :: t, C, 0, _, h => by
    rw [List.take_zero, List.append_nil]
    exact h.1
  | c :: t, C, i + 1, hi, h => by
    have := trace_at t (C ++ [c]) i (by simpa using hi) h.2
    rw [List.append_assoc] at this
    exact this
theorem look_size {vars : Int} {cls : List (List Int)} (hc : Sp.check vars cls = 0) (k : Nat) (d : List Int) (s : Sv.St) (hd : Sv.Fine vars d) (hk : Sv.left vars d < k) :
    (fun (k : Nat) (d : List Int) (s : Sv.St) (r : Bool × Sv.St) => r.2.trace.length + s.looks ≤ s.trace.length + r.2.looks) k d s (Sv.look vars cls k d s) := by
  refine Sv.look_cases hc (P := (fun (k : Nat) (d : List Int) (s : Sv.St) (r : Bool × Sv.St) => r.2.trace.length + s.looks ≤ s.trace.length + r.2.looks)) ?_ ?_ ?_ ?_ ?_ ?_ k d s hd hk
  · intro k d s _; show s.trace.length + s.looks ≤ s.trace.length + (s.looks + 1); omega
  · intro k d s _ _ _; show (s.trace ++ [Pf.turned d]).length + s.looks ≤ s.trace.length + (s.looks + 1); rw [List.length_append, List.length_singleton]; omega
  · intro k d s _ _ _ _; show 0 + s.looks ≤ s.trace.length + (s.looks + 1); omega
  · intro k d s s1 _ _ _ _ h; have h1 : s1.trace.length + (s.looks + 1) ≤ s.trace.length + s1.looks := h; show s1.trace.length + s.looks ≤ s.trace.length + s1.looks; omega
  · intro k d s s1 s2 _ _ _ _ h g; have h1 : s1.trace.length + (s.looks + 1) ≤ s.trace.length + s1.looks := h; have h2 : s2.trace.length + s1.looks ≤ s1.trace.length + s2.looks := g; show s2.trace.length + s.looks ≤ s.trace.length + s2.looks; omega
  · intro k d s s1 s2 _ _ _ _ h g; have h1 : s1.trace.length + (s.looks + 1) ≤ s.trace.length + s1.looks := h; have h2 : s2.trace.length + s1.looks ≤ s1.trace.length + s2.looks := g; show (s2.trace ++ [Pf.turned d]).length + s.looks ≤ s.trace.length + s2.looks; rw [List.length_append, List.length_singleton]; omega
/-- How large an answer is. -/
theorem solve_size {v : Int} {cls : List (List Int)} {b : Bool} {m : List Bool} {t : List (List Int)} {e : Int} (h : Sv.solve v cls = (b, m, t, e)) : m.length ≤ 1000000 ∧ t.length ≤ 1000000 ∧ ∀ c ∈ t, c.length ≤ 1000000000000 := by
  by_cases hc : Sp.check v cls = 0
  · rcases Sv.solve_cases hc with ⟨e1, _⟩ | ⟨m1, e1, hs, _⟩ | ⟨t1, e1, _, hall⟩
    · rw [h] at e1
      injection e1 with _ e1; injection e1 with e2 e1; injection e1 with e3 _
      subst e2 e3
      simp
    · rw [h] at e1
      injection e1 with _ e1; injection e1 with e2 e1; injection e1 with e3 _
      subst e2 e3
      have h1 := (Uk.sat_iff.1 hs).2.1
      have h2 := (Sp.check_ok hc).2.1
      exact ⟨by omega, by simp, by simp⟩
    · have hsz : t.length ≤ 2001 := by
        have h1 : (Sv.ends v cls).trace.length + 0 ≤ 0 + (Sv.ends v cls).looks := look_size hc (v.toNat + 1) [] Sv.St.zero Sv.Fine.nil Sv.top_left
        have h2 := ends_looks hc
        by_cases hl : 2000 < (Sv.ends v cls).looks
        · unfold Sv.solve at h
          rw [if_neg (by simp [hc]), if_pos hl] at h
          injection h with _ h; injection h with _ h; injection h with h3 _
          subst h3; simp
        · unfold Sv.solve at h
          rw [if_neg (by simp [hc]), if_neg hl] at h
          injection h with _ h; injection h with _ h; injection h with h3 _
          subst h3; omega
      rw [h] at e1
      injection e1 with _ e1; injection e1 with e2 e1; injection e1 with e3 _
      subst e2 e3
      refine ⟨by simp, by omega, fun c hcm => ?_⟩
      obtain ⟨i, hi, rfl⟩ := List.getElem_of_mem hcm
      have h1 := (trace_at _ cls i hi hall).2.2
      have h2 := (Sp.check_ok hc).2.1
      omega
  · unfold Sv.solve at h
    rw [if_pos hc] at h
    injection h with _ h; injection h with e2 h; injection h with e3 _
    subst e2 e3
    simp
theorem same_ev (b : Bool) (m : List Bool) (t : List (List Int)) (h1 : m.length ≤ 1000000) (h2 : t.length ≤ 1000000) (h3 : ∀ c ∈ t, c.length ≤ 1000000000000) : Ev (fun k => hoggetref12_Same.f k b m t b m t) true := by
  unfold hoggetref12_Same.f
  exact pos_ev (by simp) (Ev.bind (bools_same m h1) (pos_ev rfl (Ev.bind (clauses_same t h2 h3) (Ev.now _))))
theorem SolverSolves_ev (v : Int) (cls : List (List Int)) : Ev (fun k => hoggetlaw12_SolverSolves.f k v cls) true := by
  unfold hoggetlaw12_SolverSolves.f
  refine Ev.bind (large12_ev v cls 12) (ite_ev (fun _ => Ev.now _) (fun hL => ?_))
  obtain ⟨b1, b2, b3, b4⟩ := large12_bounds (by simpa using hL)
  have hw : ∀ c ∈ cls, c.length ≤ 1000000000000 := fun c hc => by have := b4 c hc; omega
  have hth : Thin cls := fun c hc => by have := b4 c hc; omega
  obtain ⟨b, m, t, e, hs⟩ : ∃ b m t e, Sv.solve v cls = (b, m, t, e) := ⟨_, _, _, _, rfl⟩
  obtain ⟨s1, s2, s3⟩ := solve_size hs
  refine Ev.bind (a := cls) (ownAll_ev cls (by omega) hw) ?_
  refine Ev.bind (a := (b, m, t, e)) (ev_some (fun _ => by rw [solver_Solve.f_eq, hs])) ?_
  refine Ev.bind (a := (b, m, t, e)) (ev_some (fun _ => by rw [hoggetref12_Solve.f_eq v cls hth, hs])) ?_
  refine Ev.bind solves_ev (pos_ev rfl (pos_ev rfl (Ev.bind (same_ev b m t s1 s2 s3) (pos_ev rfl ?_))))
  refine Ev.bind (a := Sv.looks v cls) (ev_some (fun _ => solver_Looks.f_eq v cls)) (Ev.bind (a := Sv.looks v cls) (ev_some (fun _ => hoggetref12_Looks.f_eq v cls hth)) (pos_ev rfl (Ev.bind (clauses_same cls (by omega) hw) (Ev.now _))))

theorem SolverSolves_walk {W : World} (a0 : Int) (A0 : Option Addr) (c0 : Nat) (l0 : List (List Int)) (hr0 : Kd.C (Kd.slice 3 (Kd.int .i64)) W A0 l0.length l0) (hc0 : l0.length ≤ c0) (w0 : (Lit.int .i64 a0).wf = true) (wl0 : ∀ c ∈ l0, ∀ n ∈ c, (Lit.int .i64 n).wf = true) :
    Calls Try.prog 13 #[.agg #[.int .i64 a0, .slice A0 l0.length c0]] W fun e w' => e = .returned (.bool true) ∧ Below W.heap.size W w' := by
  obtain ⟨k, hk⟩ := (SolverSolves_ev a0 l0).rounds
  exact hoggetlaw12_SolverSolves.calls k a0 A0 c0 l0 true W hr0 hc0 hk
end Go.Proofs.Ythnbmlpjbhhamaa.J
