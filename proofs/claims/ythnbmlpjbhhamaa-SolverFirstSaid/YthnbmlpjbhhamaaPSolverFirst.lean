/- SolverFirst: what the walk computes is true. -/
import Derived.Test.YthnbmlpjbhhamaaP12
import Derived.Test.YthnbmlpjbhhamaaPc2
import Derived.Test.YthnbmlpjbhhamaaGs
namespace Go.Proofs.Ythnbmlpjbhhamaa.J
open Go.RowKit Go.Proofs.YthnbmlpjbhhamaaW.PrintWords
set_option linter.unusedVariables false

/-- What the search through all models finds, from some elements on. -/
def Finds12 (v : Int) (cls : List (List Int)) (pre : List Bool) (r : List Bool × Bool) : Prop :=
  (r.2 = true → Sp.sat v cls r.1 = true ∧ (∃ s, r.1 = pre ++ s) ∧ ∀ s, Sp.sat v cls (pre ++ s) = true → Sv.Le r.1 (pre ++ s)) ∧ (r.2 = false → ∀ s, ¬ Sp.sat v cls (pre ++ s) = true)
theorem getD_left (a b : List Bool) {j : Nat} (h : j < a.length) : (a ++ b).getD j false = a.getD j false := by
  rw [List.getD_eq_getElem?_getD, List.getD_eq_getElem?_getD, List.getElem?_append_left h]
theorem sat_len {v : Int} {cls : List (List Int)} {m : List Bool} (h : Sp.sat v cls m = true) : (m.length : Int) = v := (Uk.sat_iff.1 h).2.1
theorem first_ev (v : Int) (hv0 : 0 ≤ v) (hv : v ≤ 60) (cls : List (List Int)) (hc : cls.length ≤ 1000000) (hw : ∀ c ∈ cls, c.length ≤ 1000000000000) :
    ∀ (d : Nat) (pre : List Bool), v.toNat - pre.length = d → pre.length ≤ v.toNat → ∃ r, Ev (fun k => hoggetref12_first.f k v cls pre) r ∧ Finds12 v cls pre r := by
  intro d
  induction d with
  | zero =>
    intro pre hd hp
    refine ⟨(pre, Sp.sat v cls pre), ?_, ?_, ?_⟩
    · refine next_ev ?_
      simp only [hoggetref12_first.f]
      exact pos_ev (by omega) (Ev.bind (sat10_ev v cls pre (by omega) hc hw) (Ev.now _))
    · intro h
      refine ⟨h, ⟨[], by simp⟩, fun s hs => ?_⟩
      have h1 := sat_len hs
      rw [List.length_append] at h1
      have : s = [] := List.eq_nil_of_length_eq_zero (by omega)
      subst this
      left; simp
    · intro h s hs
      have h1 := sat_len hs
      rw [List.length_append] at h1
      have : s = [] := List.eq_nil_of_length_eq_zero (by omega)
      subst this
      rw [List.append_nil] at hs
      have h : Sp.sat v cls pre = false := h
      rw [h] at hs
      exact absurd hs (by decide)
  | succ d ih =>
    intro pre hd hp
    have hlt : pre.length < v.toNat := by omega
    obtain ⟨r1, e1, f1⟩ := ih (pre ++ [true]) (by rw [List.length_append, List.length_singleton]; omega) (by rw [List.length_append, List.length_singleton]; omega)
    obtain ⟨r2, e2, f2⟩ := ih (pre ++ [false]) (by rw [List.length_append, List.length_singleton]; omega) (by rw [List.length_append, List.length_singleton]; omega)
    have hcons : ∀ s, Sp.sat v cls (pre ++ s) = true → ∃ b s', s = b :: s' := by
      intro s hs
      have h1 := sat_len hs
      rw [List.length_append] at h1
      cases s with
      | nil => simp at h1; omega
      | cons b s' => exact ⟨b, s', rfl⟩
    have happ : ∀ (b : Bool) (s' : List Bool), pre ++ b :: s' = (pre ++ [b]) ++ s' := fun b s' => by simp
    cases hb : r1.2 with
    | true =>
      refine ⟨(r1.1, true), ?_, ?_, fun h => absurd h (by simp)⟩
      · refine next_ev ?_
        simp only [hoggetref12_first.f, List.nil_append]
        exact neg_ev (by omega) (pos_ev (by simp; omega) (some_ev (pos_ev (by omega) (Ev.bind e1 (pos_ev hb (Ev.now _))))))
      · intro _
        obtain ⟨g1, ⟨s1, g2⟩, g3⟩ := f1.1 hb
        refine ⟨g1, ⟨true :: s1, by rw [g2]; simp⟩, fun s hs => ?_⟩
        obtain ⟨b, s', rfl⟩ := hcons s hs
        rw [happ] at hs ⊢
        cases b with
        | true => exact g3 s' hs
        | false =>
          right
          have h1 := sat_len g1
          refine ⟨pre.length, (by show pre.length < r1.1.length; omega), ?_, ?_, fun j hj => ?_⟩
          · show r1.1.getD pre.length false = true
            rw [g2]; simp
          · simp
          · show r1.1.getD j false = _
            rw [g2, List.append_assoc, List.append_assoc, getD_left _ _ hj, getD_left _ _ hj]
    | false =>
      refine ⟨(r2.1, r2.2), ?_, ?_, ?_⟩
      · refine next_ev ?_
        simp only [hoggetref12_first.f, List.nil_append]
        exact neg_ev (by omega) (pos_ev (by simp; omega) (some_ev (pos_ev (by omega) (Ev.bind e1 (neg_ev (by rw [hb]; decide) (some_ev (pos_ev (by omega) (Ev.bind e2 (Ev.now _)))))))))
      · intro h
        obtain ⟨g1, ⟨s1, g2⟩, g3⟩ := f2.1 h
        refine ⟨g1, ⟨false :: s1, by rw [g2]; simp⟩, fun s hs => ?_⟩
        obtain ⟨b, s', rfl⟩ := hcons s hs
        rw [happ] at hs ⊢
        cases b with
        | true => exact absurd hs (f1.2 hb s')
        | false => exact g3 s' hs
      · intro h s hs
        obtain ⟨b, s', rfl⟩ := hcons s hs
        rw [happ] at hs
        cases b with
        | true => exact f1.2 hb s' hs
        | false => exact f2.2 h s' hs
theorem SolverFirst_ev (v : Int) (cls : List (List Int)) : Ev (fun k => hoggetlaw12_SolverFirst.f k v cls) true := by
  have hend : ∀ b : Bool, b = true → Ev (fun k => hoggetlaw12_SolverFirst.j0 k b v cls) true := by
    intro b hb
    refine next_ev ?_
    simp only [hoggetlaw12_SolverFirst.j0]
    exact pos_ev hb (Ev.now _)
  unfold hoggetlaw12_SolverFirst.f
  refine Ev.bind (large12_ev v cls 8) (ite_ev (fun _ => hend _ rfl) (fun hL => ?_))
  refine Ev.bind (a := Sp.check v cls) (Ev.now _) ?_
  by_cases hc : Sp.check v cls = 0
  · obtain ⟨⟨h0, h1, h2⟩, h3, h4⟩ := Sp.check_iff.1 hc
    refine next_ev ?_
    simp only [hoggetlaw12_SolverFirst.j0]
    obtain ⟨r, er, fr⟩ := first_ev v h0 h1 cls (by omega) (fun c hcm => by have := h4 c hcm; omega) _ [] rfl (Nat.zero_le _)
    refine neg_ev (by simp [hc]) (Ev.bind (a := Sv.solve v cls) (ev_some (fun _ => solve_f v cls)) (Ev.bind (a := r) ?_ ?_))
    · unfold hoggetref12_First.f
      exact Ev.bind er (Ev.now _)
    · rcases Sv.solve_cases hc with ⟨e, _⟩ | ⟨m, e, hs, hle⟩ | ⟨t, e, hno, _⟩
      · rw [e]
        exact neg_ev (by simp) (Ev.bind solves_ev (pos_ev rfl (Ev.now _)))
      · rw [e]
        have hr : r.2 = true := by
          cases hb : r.2 with
          | true => rfl
          | false => exact absurd hs (by have := fr.2 hb m; rwa [List.nil_append] at this)
        obtain ⟨g1, _, g3⟩ := fr.1 hr
        have hm : m = r.1 := (hle r.1 g1).antisymm (by have := g3 m (by rw [List.nil_append]; exact hs); rwa [List.nil_append] at this)
        have hl := sat_len g1
        refine pos_ev rfl (Ev.bind solves_ev (pos_ev rfl (pos_ev (by rw [hr]; rfl) (pos_ev hr ?_))))
        rw [hm]
        exact Ev.bind (bools_same r.1 (by omega)) (pos_ev rfl (Ev.now _))
      · rw [e]
        have hr : r.2 = false := by
          cases hb : r.2 with
          | false => rfl
          | true => exact absurd (fr.1 hb).1 (hno r.1)
        exact pos_ev rfl (Ev.bind solves_ev (pos_ev rfl (pos_ev (by rw [hr]; rfl) (neg_ev (by rw [hr]; decide) (Ev.now _)))))
  · exact hend _ (by simp [hc])

theorem SolverFirst_walk {W : World} (a0 : Int) (A0 : Option Addr) (c0 : Nat) (l0 : List (List Int)) (hr0 : Kd.C (Kd.slice 3 (Kd.int .i64)) W A0 l0.length l0) (hc0 : l0.length ≤ c0) (w0 : (Lit.int .i64 a0).wf = true) (wl0 : ∀ c ∈ l0, ∀ n ∈ c, (Lit.int .i64 n).wf = true) :
    Calls Try.prog 14 #[.agg #[.int .i64 a0, .slice A0 l0.length c0]] W fun e w' => e = .returned (.bool true) ∧ Below W.heap.size W w' := by
  obtain ⟨k, hk⟩ := (SolverFirst_ev a0 l0).rounds
  exact hoggetlaw12_SolverFirst.calls k a0 A0 c0 l0 true W hr0 hc0 hk
end Go.Proofs.Ythnbmlpjbhhamaa.J
