/- UnitFree: what the walk computes is true. -/
import Derived.Test.YthnbmlpjbhhamaaPe
import Derived.Test.YthnbmlpjbhhamaaUr
import Derived.Test.YthnbmlpjbhhamaaGj
namespace Go.Proofs.Ythnbmlpjbhhamaa.J
open Go.RowKit Go.Proofs.YthnbmlpjbhhamaaW.PrintWords
set_option linter.unusedVariables false

namespace UF
theorem model (v : Int) (cls : List (List Int)) (l : List Int) (hl : l.length ≤ 60) (h : Sp.sat v cls (l.map (fun x => decide (x > 0))) = true) : ∀ (d i : Nat), l.length - i = d → i ≤ l.length → Ev (fun k => hoggetlaw11_UnitFree.l1 k l ((l.take i).map (fun x => decide (x > 0))) (i : Int) v cls) true := by
  intro d
  induction d with
  | zero =>
    intro i hd hi
    refine next_ev ?_
    simp only [hoggetlaw11_UnitFree.l1]
    refine neg_ev (by omega) (Ev.bind follows11_ev (pos_ev rfl ?_))
    rw [List.take_of_length_le (by omega)]
    refine Ev.bind (a := true) ?_ (Ev.now true)
    have : clause_Sat.f v cls (l.map (fun x => decide (x > 0))) = some true := by unfold clause_Sat.f; rw [h]
    exact ev_some (fun _ => this)
  | succ d ih =>
    intro i hd hi
    have hlt : i < l.length := by omega
    refine next_ev ?_
    simp only [hoggetlaw11_UnitFree.l1]
    refine pos_ev (by omega) (pos_ev (by omega) (pos_ev (by simp; omega) ?_))
    rw [rd_at l i hlt, wrap_succ hlt (by omega)]
    have e : (l.take i).map (fun x => decide (x > 0)) ++ [decide (l[i] > 0)] = (l.take (i + 1)).map (fun x => decide (x > 0)) := by
      rw [List.take_succ_eq_append_getElem hlt, List.map_append]; rfl
    rw [e]
    exact ih (i + 1) (by omega) (by omega)
/-- The end of the first loop. -/
theorem last (v : Int) (cls : List (List Int)) (fixed : List Int) (hok : Uk.Ok v cls fixed) (last i : Int) :
    Ev (fun k => hoggetlaw11_UnitFree.j2 k (Uk.told v.toNat (Uk.Known cls fixed)) (Uk.free v cls fixed) last i false v cls) true := by
  have hv := hok.vars
  have hsm := hok.small
  refine next_ev ?_
  simp only [hoggetlaw11_UnitFree.j2]
  refine neg_ev (by decide) ?_
  by_cases h0 : Uk.free v cls fixed = 0
  · refine neg_ev (by omega) ?_
    have := model v cls _ hsm (Uk.full_sat hok h0) _ 0 rfl (Nat.zero_le _)
    exact this
  · obtain ⟨f1, f2, f3, f4, f5⟩ := Uk.free_some hok h0
    generalize Uk.free v cls fixed = fv at h0 f1 f2 f3 f4 f5
    refine pos_ev (by omega) (Ev.bind follows11_ev (pos_ev rfl (pos_ev f2 ?_)))
    rw [wrap_neg (by omega) (by omega)]
    have e1 : (Uk.told v.toNat (Uk.Known cls fixed)).contains fv = false := by simpa using fun h => f3 ((hok.mem fv).1 h)
    have e2 : (Uk.told v.toNat (Uk.Known cls fixed)).contains (-fv) = false := by simpa using fun h => f4 ((hok.mem (-fv)).1 h)
    have p1 := has_ev (Uk.told v.toNat (Uk.Known cls fixed)) fv (by omega)
    have p2 := has_ev (Uk.told v.toNat (Uk.Known cls fixed)) (-fv) (by omega)
    rw [e1] at p1
    rw [e2] at p2
    exact Ev.bind p1 (neg_ev (by decide) (Ev.bind p2 (Ev.now true)))
theorem walk (v : Int) (cls : List (List Int)) (fixed : List Int) (hok : Uk.Ok v cls fixed) (lastv : Int) (hl : lastv ≤ 61) (h : ∀ i : Int, 0 < i → i < lastv → Uk.Known cls fixed i ∨ Uk.Known cls fixed (-i)) :
    ∀ (d : Nat) (i : Int), (lastv - i).toNat = d → 0 < i → Ev (fun k => hoggetlaw11_UnitFree.l0 k (Uk.told v.toNat (Uk.Known cls fixed)) (Uk.free v cls fixed) lastv i v cls) true := by
  intro d
  have hsm := hok.small
  induction d with
  | zero =>
    intro i hd hi
    refine next_ev ?_
    simp only [hoggetlaw11_UnitFree.l0]
    exact neg_ev (by omega) (last v cls fixed hok lastv i)
  | succ d ih =>
    intro i hd hi
    refine next_ev ?_
    simp only [hoggetlaw11_UnitFree.l0]
    refine pos_ev (by omega) ?_
    rw [decide_eq_true (by omega)]
    refine next_ev ?_
    simp only [hoggetlaw11_UnitFree.j2]
    refine pos_ev trivial ?_
    have hi' := ih (i + 1) (by omega) (by omega)
    have ew : wrap64 (i + 1) = i + 1 := by unfold wrap64; omega
    rw [wrap_neg (by omega) (by omega), ew]
    refine Ev.bind (has_ev _ i (by omega)) (ite_ev (fun _ => hi') (fun hn => ?_))
    have hk : Uk.Known cls fixed (-i) := (h i hi (by omega)).resolve_left (fun k => hn (List.contains_iff_mem.2 ((hok.mem i).2 k)))
    have p := has_ev (Uk.told v.toNat (Uk.Known cls fixed)) (-i) (by omega)
    rw [List.contains_iff_mem.2 ((hok.mem _).2 hk)] at p
    exact Ev.bind p (pos_ev rfl hi')
end UF

theorem UnitFree_ev (v : Int) (cls : List (List Int)) (fixed : List Int) : Ev (fun k => hoggetlaw11_UnitFree.f k v cls fixed) true := by
  unfold hoggetlaw11_UnitFree.f
  refine Ev.bind (large11_ev v cls fixed) (ite_ev (fun _ => Ev.now true) (fun hL => ?_))
  refine Ev.bind (a := Uk.prop v cls fixed) (Ev.now _) (Ev.bind (a := Uk.free v cls fixed) (Ev.now _) ?_)
  refine ite_ev (fun h0 => ?_) (fun h0 => ?_)
  · have hok := Uk.ok_iff.1 h0
    have hv := hok.vars
    rw [hok.prop]
    refine ite_ev (fun hf => ?_) (fun hf => ?_)
    · refine next_ev ?_
      simp only [hoggetlaw11_UnitFree.j0]
      have ew : wrap64 (v + 1) = v + 1 := by unfold wrap64; omega
      rw [ew]
      exact UF.walk v cls fixed hok (v + 1) (by omega) (fun i a b => Uk.free_none hok hf i a (by omega)) _ 1 rfl (by omega)
    · refine next_ev ?_
      simp only [hoggetlaw11_UnitFree.j0]
      obtain ⟨f1, f2, f3, f4, f5⟩ := Uk.free_some hok hf
      exact UF.walk v cls fixed hok (Uk.free v cls fixed) (by omega) f5 _ 1 rfl (by omega)
  · have : Uk.free v cls fixed = 0 := by unfold Uk.free; rw [if_pos h0]
    rw [this]
    exact follows11_then rfl

theorem UnitFree_walk {W : World} (a0 : Int) (A0 : Option Addr) (c0 : Nat) (l0 : List (List Int)) (hr0 : Kd.C (Kd.slice 3 (Kd.int .i64)) W A0 l0.length l0) (hc0 : l0.length ≤ c0) (w0 : (Lit.int .i64 a0).wf = true) (wl0 : ∀ c ∈ l0, ∀ n ∈ c, (Lit.int .i64 n).wf = true)
    (A1 : Option Addr) (c1 : Nat) (l1 : List Int) (hr1 : Kd.C (Kd.int .i64) W A1 l1.length l1) (hc1 : l1.length ≤ c1) (wl1 : ∀ n ∈ l1, (Lit.int .i64 n).wf = true) :
    Calls Try.prog 7 #[.agg #[.int .i64 a0, .slice A0 l0.length c0], .slice A1 l1.length c1] W fun e w' => e = .returned (.bool true) ∧ Below W.heap.size W w' := by
  obtain ⟨k, hk⟩ := (UnitFree_ev a0 l0 l1).rounds
  exact hoggetlaw11_UnitFree.calls k a0 A0 c0 l0 A1 c1 l1 true W hr0 hc0 hr1 hc1 hk
end Go.Proofs.Ythnbmlpjbhhamaa.J
