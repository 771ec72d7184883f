/- What the document's functions of chapter 14 answer. -/
import Derived.Test.YthnbmlpjbhhamaaP10
import Derived.Test.YthnbmlpjbhhamaaGz
import Derived.Test.YthnbmlpjbhhamaaCt
namespace Go.Proofs.Ythnbmlpjbhhamaa.J
open Go.RowKit Go.Proofs.YthnbmlpjbhhamaaW.PrintWords
set_option linter.unusedVariables false

theorem all_from (l : List Int) (hl : l.length ≤ 1000000) : ∀ (d i : Nat), l.length - i = d → i ≤ l.length → Ev (fun k => hoggetref14_All.l0 k l (i : Int)) (Ct.good (l.drop i)) := by
  intro d
  induction d with
  | zero =>
    intro i hd hi
    rw [List.drop_eq_nil_of_le (by omega)]
    refine next_ev ?_
    simp only [hoggetref14_All.l0]
    exact neg_ev (by omega) (Ev.now _)
  | succ d ih =>
    intro i hd hi
    have hlt : i < l.length := by omega
    rw [List.drop_eq_getElem_cons hlt]
    show Ev _ (Sp.lit 60 l[i] && Ct.good (l.drop (i + 1)))
    refine next_ev ?_
    simp only [hoggetref14_All.l0]
    refine pos_ev (by omega) (pos_ev (by omega) (Ev.bind (a := Sp.lit 60 l[i]) (ev_some (fun _ => by rw [rd_at l i hlt]; exact lit_f (by decide) (by decide) _)) ?_))
    cases hh : Sp.lit 60 l[i] with
    | true =>
      rw [Bool.true_and, wrap_succ hlt (by omega)]
      exact pos_ev rfl (ih (i + 1) (by omega) (by omega))
    | false =>
      rw [Bool.false_and]
      exact neg_ev (by decide) (Ev.now _)
theorem all14_ev (l : List Int) (hl : l.length ≤ 1000000) : Ev (fun k => hoggetref14_All.f k l) (Ct.good l) := by
  have h := all_from l hl l.length 0 rfl (Nat.zero_le _)
  rw [List.drop_zero] at h
  exact h
theorem pairs_inner (l : List Int) (hl : l.length ≤ 1000) (hx : ∀ n ∈ l, -60 ≤ n ∧ n ≤ 60) (i : Nat) (hi : i < l.length)
    (hout : ∀ acc : List (List Int), acc.length + (Ct.pairs (l.drop (i + 1))).length ≤ 1000000 → Ev (fun k => hoggetref14_Pairs.l0 k l acc ((i + 1 : Nat) : Int)) (acc ++ Ct.pairs (l.drop (i + 1)))) :
    ∀ (d j : Nat) (acc : List (List Int)), l.length - j = d → j ≤ l.length → acc.length + ((l.drop j).length + (Ct.pairs (l.drop (i + 1))).length) ≤ 1000000 →
      Ev (fun k => hoggetref14_Pairs.l1 k l acc (i : Int) (j : Int)) (acc ++ ((l.drop j).map (fun b => [-l[i], -b]) ++ Ct.pairs (l.drop (i + 1)))) := by
  have hbi := hx _ (List.getElem_mem hi)
  intro d
  induction d with
  | zero =>
    intro j acc hd hj hb
    rw [List.drop_eq_nil_of_le (by omega : l.length ≤ j)] at hb ⊢
    refine next_ev ?_
    simp only [hoggetref14_Pairs.l1]
    refine neg_ev (by omega) ?_
    rw [wrap_succ hi (by omega), List.map_nil, List.nil_append]
    exact hout acc (by simpa using hb)
  | succ d ih =>
    intro j acc hd hj hb
    have hlt : j < l.length := by omega
    have hbj := hx _ (List.getElem_mem hlt)
    rw [List.drop_eq_getElem_cons hlt] at hb ⊢
    rw [List.length_cons] at hb
    refine next_ev ?_
    simp only [hoggetref14_Pairs.l1]
    refine pos_ev (by omega) (pos_ev (by omega) (pos_ev (by omega) (pos_ev (by omega) (pos_ev (by omega) ?_))))
    rw [rd_at l i hi, rd_at l j hlt, wrap_neg (by omega) (by omega), wrap_neg (by omega) (by omega), wrap_succ hlt (by omega)]
    have h := ih (j + 1) (acc ++ [[-l[i], -l[j]]]) (by omega) (by omega) (by rw [List.length_append, List.length_singleton]; omega)
    rw [List.map_cons]
    have e : acc ++ ([-l[i], -l[j]] :: (l.drop (j + 1)).map (fun b => [-l[i], -b]) ++ Ct.pairs (l.drop (i + 1))) = (acc ++ [[-l[i], -l[j]]]) ++ ((l.drop (j + 1)).map (fun b => [-l[i], -b]) ++ Ct.pairs (l.drop (i + 1))) := by simp
    rw [e]
    exact h
theorem pairs_outer (l : List Int) (hl : l.length ≤ 1000) (hx : ∀ n ∈ l, -60 ≤ n ∧ n ≤ 60) : ∀ (d i : Nat) (acc : List (List Int)), l.length - i = d → i ≤ l.length → acc.length + (Ct.pairs (l.drop i)).length ≤ 1000000 →
    Ev (fun k => hoggetref14_Pairs.l0 k l acc (i : Int)) (acc ++ Ct.pairs (l.drop i)) := by
  intro d
  induction d with
  | zero =>
    intro i acc hd hi hb
    rw [List.drop_eq_nil_of_le (by omega)]
    refine next_ev ?_
    simp only [hoggetref14_Pairs.l0]
    refine neg_ev (by omega) ?_
    rw [show acc ++ Ct.pairs [] = acc from List.append_nil _]
    exact Ev.now _
  | succ d ih =>
    intro i acc hd hi hb
    have hlt : i < l.length := by omega
    rw [List.drop_eq_getElem_cons hlt, Ct.pairs] at hb ⊢
    rw [List.length_append, List.length_map] at hb
    refine next_ev ?_
    simp only [hoggetref14_Pairs.l0]
    refine pos_ev (by omega) ?_
    rw [wrap_succ hlt (by omega)]
    exact pairs_inner l hl hx i hlt (fun acc h => ih (i + 1) acc (by omega) (by omega) h) _ (i + 1) acc rfl (by omega) hb
theorem pairs14_ev (l : List Int) (hl : l.length ≤ 1000) (hg : Ct.good l = true) : Ev (fun k => hoggetref14_Pairs.f k l) (Ct.pairs l) := by
  have hx : ∀ n ∈ l, -60 ≤ n ∧ n ≤ 60 := fun n hn => by have := Sp.lit_iff.1 (List.all_eq_true.1 hg n hn); omega
  have h := pairs_outer l hl hx l.length 0 [] rfl (Nat.zero_le _) (by rw [List.drop_zero]; have := Ct.pairs_le l hl; simpa using this)
  rw [List.drop_zero, List.nil_append] at h
  exact h
theorem most14_ev (l : List Int) (hl : l.length ≤ 1000) : Ev (fun k => hoggetref14_AtMost.f k l) (Ct.atMost l) := by
  unfold hoggetref14_AtMost.f Ct.atMost
  refine Ev.bind (all14_ev l (by omega)) ?_
  by_cases hg : Ct.good l = true
  · rw [if_pos hg]
    exact pos_ev hg (Ev.bind (pairs14_ev l hl hg) (Ev.now _))
  · rw [if_neg hg]
    exact neg_ev hg (Ev.now _)
theorem exactly14_ev (l : List Int) (hl : l.length ≤ 1000) : Ev (fun k => hoggetref14_Exactly.f k l) (Ct.exactly l) := by
  unfold hoggetref14_Exactly.f Ct.exactly
  refine Ev.bind (all14_ev l (by omega)) ?_
  by_cases hg : Ct.good l = true
  · rw [if_pos hg]
    refine pos_ev hg (Ev.bind (a := l) (ev_some (fun _ => own_f l (by omega))) (some_ev (Ev.bind (pairs14_ev l hl hg) (pos_ev ?_ (Ev.now _)))))
    have := Ct.pairs_le l hl
    rw [List.length_singleton]; omega
  · rw [if_neg hg]
    exact neg_ev hg (Ev.now _)
theorem implies14_ev (a : Int) (l : List Int) (hl : l.length ≤ 1000) : Ev (fun k => hoggetref14_Implies.f k a l) (Ct.implies a l) := by
  unfold hoggetref14_Implies.f Ct.implies
  refine Ev.bind (all14_ev [a] (by simp)) ?_
  by_cases ha : Ct.good [a] = true
  · refine pos_ev ha (Ev.bind (all14_ev l (by omega)) ?_)
    have hb : -60 ≤ a ∧ a ≤ 60 := by have h1 := Sp.lit_iff.1 (List.all_eq_true.1 ha a (by simp)); omega
    by_cases hg : Ct.good l = true
    · have e : (if Ct.good [a] = true ∧ Ct.good l = true then (-a :: l, (0 : Int)) else ([], 100)) = (-a :: l, 0) := if_pos ⟨ha, hg⟩
      rw [e]
      refine pos_ev hg (some_ev (pos_ev (by rw [List.length_singleton]; omega) ?_))
      rw [wrap_neg (by omega) (by omega)]
      exact Ev.now _
    · have e : (if Ct.good [a] = true ∧ Ct.good l = true then (-a :: l, (0 : Int)) else ([], 100)) = ([], 100) := if_neg (fun h => hg h.2)
      rw [e]
      exact neg_ev hg (Ev.now _)
  · have e : (if Ct.good [a] = true ∧ Ct.good l = true then (-a :: l, (0 : Int)) else ([], 100)) = ([], 100) := if_neg (fun h => ha h.1)
    rw [e]
    exact neg_ev ha (Ev.now _)
theorem never_from (a : Int) (ha : -60 ≤ a ∧ a ≤ 60) (l : List Int) (hl : l.length ≤ 1000) (hx : ∀ n ∈ l, -60 ≤ n ∧ n ≤ 60) : ∀ (d i : Nat) (acc : List (List Int)), l.length - i = d → i ≤ l.length → acc.length = i →
    Ev (fun k => hoggetref14_Never.l0 k a l acc (i : Int)) (acc ++ Ct.never a (l.drop i), 0) := by
  intro d
  induction d with
  | zero =>
    intro i acc hd hi hb
    rw [List.drop_eq_nil_of_le (by omega)]
    refine next_ev ?_
    simp only [hoggetref14_Never.l0]
    refine neg_ev (by omega) ?_
    rw [show acc ++ Ct.never a [] = acc from List.append_nil _]
    exact Ev.now _
  | succ d ih =>
    intro i acc hd hi hb
    have hlt : i < l.length := by omega
    have hbi := hx _ (List.getElem_mem hlt)
    rw [List.drop_eq_getElem_cons hlt]
    refine next_ev ?_
    simp only [hoggetref14_Never.l0]
    refine pos_ev (by omega) (pos_ev (by omega) (pos_ev (by omega) ?_))
    rw [rd_at l i hlt, wrap_neg (by omega) (by omega), wrap_neg (by omega) (by omega), wrap_succ hlt (by omega)]
    have h := ih (i + 1) (acc ++ [[-a, -l[i]]]) (by omega) (by omega) (by rw [List.length_append, hb]; rfl)
    have e : acc ++ Ct.never a (l[i] :: l.drop (i + 1)) = (acc ++ [[-a, -l[i]]]) ++ Ct.never a (l.drop (i + 1)) := by unfold Ct.never; rw [List.map_cons, List.append_assoc]; rfl
    rw [e]
    exact h
theorem never14_ev (a : Int) (l : List Int) (hl : l.length ≤ 1000) : Ev (fun k => hoggetref14_Never.f k a l) (Ct.neverF a l) := by
  unfold hoggetref14_Never.f Ct.neverF
  refine Ev.bind (all14_ev [a] (by simp)) ?_
  by_cases ha : Ct.good [a] = true
  · refine pos_ev ha (Ev.bind (all14_ev l (by omega)) ?_)
    have hb : -60 ≤ a ∧ a ≤ 60 := by have h1 := Sp.lit_iff.1 (List.all_eq_true.1 ha a (by simp)); omega
    by_cases hg : Ct.good l = true
    · rw [if_pos ⟨ha, hg⟩, hg]
      refine next_ev ?_
      simp only [hoggetref14_Never.j0]
      refine neg_ev (by decide) ?_
      have hx : ∀ n ∈ l, -60 ≤ n ∧ n ≤ 60 := fun n hn => by have := Sp.lit_iff.1 (List.all_eq_true.1 hg n hn); omega
      have h := never_from a hb l hl hx l.length 0 [] rfl (Nat.zero_le _) rfl
      rw [List.drop_zero, List.nil_append] at h
      exact h
    · rw [if_neg (fun h => hg h.2), show Ct.good l = false by simpa using hg]
      refine next_ev ?_
      simp only [hoggetref14_Never.j0]
      exact pos_ev rfl (Ev.now _)
  · rw [if_neg (fun h => ha h.1)]
    refine neg_ev ha (next_ev ?_)
    simp only [hoggetref14_Never.j0]
    exact pos_ev trivial (Ev.now _)
end Go.Proofs.Ythnbmlpjbhhamaa.J
