/- count.AtMost, walked. -/
import Derived.Test.YteinkjhimceljaaGreatDoorT34
import Derived.Test.YteinkjhimceljaaGreatDoorT37
import Derived.Test.YteinkjhimceljaaGreatDoorT13
import Derived.Test.YteinkjhimceljaaGreatDoorT05
namespace Go.Proofs.YteinkjhimceljaaGreatDoor.J
open Go Go.RowKit Go.Shelf Go.Proofs.YteinkjhimceljaaGreatDoorW.PrintWords Go.Proofs.YteinkjhimceljaaGreatDoorW.PrintLast Go.Proofs.YteinkjhimceljaaGreatDoorW.PrintMore
set_option linter.unusedVariables false
set_option linter.unusedSimpArgs false
theorem tidy_told (l : List Int) (h : l.length ≤ 1000000) : ∃ t, clause_Tidy.f l = some (t, if Ct.good l = true then 0 else 100) := by
 rw [clause_Tidy.f_eq, if_pos (by omega)]
 unfold Td.tidy Ct.good
 by_cases hg : l.all (Sp.lit 60) = true
 · rw [if_pos hg, if_pos hg]; exact ⟨_, rfl⟩
 · rw [if_neg hg, if_neg hg]; exact ⟨_, rfl⟩
theorem check_from (rows : List (List Int)) (hl : rows.length ≤ 1000) (hw : ∀ c ∈ rows, c.length ≤ 1000000) : ∀ (d i : Nat), rows.length - i = d → i ≤ rows.length → Ev (fun k => count_check.l0 k rows (rows.length : Int) (i : Int)) (if (rows.drop i).all Ct.good = true then 0 else 100) := by
 intro d
 induction d with
 | zero =>
  intro i hd hi
  rw [List.drop_eq_nil_of_le (by omega)]
  refine next_ev ?_
  simp only [count_check.l0]
  exact neg_ev (by omega) (Ev.now _)
 | succ d ih =>
  intro i hd hi
  have hlt : i < rows.length := by omega
  rw [List.drop_eq_getElem_cons hlt, List.all_cons]
  refine next_ev ?_
  simp only [count_check.l0]
  obtain ⟨t, ht⟩ := tidy_told rows[i] (hw _ (List.getElem_mem hlt))
  refine pos_ev (by omega) (pos_ev (by omega) (pos_ev (by omega) ?_))
  rw [rdL_at rows i hlt, ht]
  refine some_ev ?_
  cases hg : Ct.good rows[i] with
  | true =>
   rw [Bool.true_and]
   refine pos_ev rfl ?_
   rw [wrap_succ hlt (by omega)]
   exact ih (i + 1) (by omega) (by omega)
  | false =>
   rw [Bool.false_and]
   exact neg_ev (by simp) (Ev.now _)
theorem check_rows_ev (rows : List (List Int)) (hl : rows.length ≤ 1000) (hw : ∀ c ∈ rows, c.length ≤ 1000000) : Ev (fun k => count_check.f k rows) (if rows.all Ct.good = true then 0 else 100) := by
 have h := check_from rows hl hw rows.length 0 rfl (Nat.zero_le _)
 rw [List.drop_zero] at h
 exact h
def laid (pre : List (Int × Int)) : List (List Int) := pre.map (fun p => [wrap64 (-p.1), wrap64 (-p.2)])
theorem laid_pairs (l : List Int) (h : Ct.good l = true) : laid (two l) = Ct.pairs l := by
 have key : ∀ l : List Int, (∀ n ∈ l, -60 ≤ n ∧ n ≤ 60) → laid (two l) = Ct.pairs l := by
  intro l
  induction l with
  | nil => intro _; rfl
  | cons a l ih =>
   intro hb
   have ha := hb a (by simp)
   have e := ih (fun n hn => hb n (List.mem_cons_of_mem _ hn))
   unfold laid at e ⊢
   rw [two, List.map_append, e, Ct.pairs, List.map_map]
   congr 1
   refine List.map_congr_left fun b hbm => ?_
   have hbb := hb b (List.mem_cons_of_mem _ hbm)
   show [wrap64 (-a), wrap64 (-b)] = [-a, -b]
   rw [wrap_neg (by omega) (by omega), wrap_neg (by omega) (by omega)]
 exact key l fun n hn => by have := Sp.lit_iff.1 (List.all_eq_true.1 h n hn); omega
theorem two_len (l : List Int) : (two l).length = (Ct.pairs l).length := by
 induction l with
 | nil => rfl
 | cons a l ih => rw [two, Ct.pairs, List.length_append, List.length_append, List.length_map, List.length_map, ih]
structure OutAt (w : World) (B Bs : Nat) (pre : List (Int × Int)) (W : World) : Prop where
 sz : Bs < W.heap.size
 row : ∃ v, Boxed W B 34 v ∧ Kd.S (Kd.slice 3 (Kd.int .i64)) 56 W w.heap.size (fun k => Bs < k) v (laid pre)
theorem S_turn {α : Type} {d : Kd α} {e : Nat} {W W' : World} {base : Nat} {ok : Nat → Prop} {v : Value} {xs : List α} {row : Option Nat} (hs : Kd.S d e W base ok v xs) (hg : W.grownBy W' row) (hr : ∀ r, row = some r → ∃ o : Obj, W.heap[r]? = some o ∧ o.isCells = false) : Kd.S d e W' base ok v xs :=
 Kd.S_mono (Kd.S_grown (Kd.S_bound hs) hg (fun k hk e => by
  obtain ⟨o, ho, hc⟩ := hr k e.symm
  obtain ⟨q, _, cells, hcl⟩ := hk.2.2.2
  rw [hcl] at ho
  injection ho with ho
  subst ho
  exact absurd hc (by simp [Obj.isCells]))) (fun k hk => hk.1)
theorem outAt_own (w : World) (B Bs B0 : Nat) : OwnFrom B0 (fun pre W => OutAt w B Bs pre W) := by
 rintro pre W W' row ⟨hz, v, hb, hs⟩ hg hr
 refine ⟨Nat.lt_of_lt_of_le hz hg.size, v, hb.kept hg (fun e => ?_), ?_⟩
 · obtain ⟨_, o, ho, hc⟩ := hr B e.symm
   rw [show W.heap[B]? = _ from hb] at ho
   injection ho with ho
   subst ho
   exact absurd hc (by simp [Obj.isCells])
 · exact S_turn hs hg (fun r e => (hr r e).2)
inductive MostIs (l : List Int) : Option (List (List Int) × Int) → Prop
 | told (h : l.length ≤ 1000) : MostIs l (some (Ct.atMost l))
 | none (h : ¬ l.length ≤ 1000) : MostIs l none
theorem MostIs.any (l : List Int) : ∃ r, MostIs l r := by
 by_cases h : l.length ≤ 1000
 · exact ⟨_, .told h⟩
 · exact ⟨_, .none h⟩
noncomputable def count_AtMost.f (l0 : List Int) : Option (List (List Int) × Int) := Classical.choose (MostIs.any l0)
theorem count_AtMost.f_eq (l : List Int) (hl : l.length ≤ 1000) : count_AtMost.f l = some (Ct.atMost l) := by
 have h : MostIs l (count_AtMost.f l) := Classical.choose_spec (MostIs.any l)
 generalize count_AtMost.f l = x at h
 cases h with
 | told _ => rfl
 | none h => exact absurd hl h
theorem count_AtMost.f_some {l : List Int} {r : List (List Int) × Int} (h : count_AtMost.f l = some r) : l.length ≤ 1000 ∧ Ct.atMost l = r := by
 have h1 : MostIs l (count_AtMost.f l) := Classical.choose_spec (MostIs.any l)
 rw [h] at h1
 cases h1 with
 | told hl => exact ⟨hl, rfl⟩
attribute [local go_sem] Oper.semAt_some
set_option maxRecDepth 100000 in
set_option maxHeartbeats 4000000 in
theorem most_walk (A0 : Option Addr) (c0 : Nat) (l0 : List Int) (w : World) (hr0 : Kd.C (Kd.int .i64) w A0 l0.length l0) (hc0 : l0.length ≤ c0) (hl : l0.length ≤ 1000) (hg : Ct.good l0 = true) :
 Calls Tryz.prog 30 #[.slice A0 l0.length c0] w fun e w' => ∃ v0_ : Value, e = .returned (.tuple #[v0_, .int .i64 0]) ∧ Kd.S (Kd.slice 3 (Kd.int .i64)) 56 w' w.heap.size (fun _ => True) v0_ (Ct.pairs l0) ∧ Below w.heap.size w w' := by
 obtain ⟨kc, hkc⟩ := (check_rows_ev [l0] (by simp) (fun c hc => by rw [List.mem_singleton] at hc; subst hc; omega)).rounds
 rw [if_pos (by simp [hg])] at hkc
 have HKC := Aside0.mk hkc
 have HR := Aside0.mk hr0
 have HC := Aside0.mk hc0
 have HG := Aside0.mk hg
 have HLIT := Aside0.mk (C_lit1 hc0 hr0)
 clear hkc hr0 hc0 hg
 refine (callsIn_wide (n := 4)).1 ?_
 refine callsIn_of_wp_marks Tryz.func30 rfl trivial ?_ rfl
 simp only [Tryz.ntmps30, List.size_toArray, List.length_cons, List.length_nil, Nat.reduceAdd, Nat.reduceSub, Array.replicate_succ, Array.replicate_zero, List.push_toArray, List.append_toArray, List.nil_append, List.cons_append]
 gi_wp2_with (first
  | (refine ⟨trivial, ?_⟩; gi_at_call 49; refine (callsIn_wide.2 (count_check.calls kc _ 1 [l0] 0 _ HLIT.out (Nat.le_refl 1) HKC.out)).mono ?_; rintro e w1 ⟨rfl, hb1⟩; have HB1 := Aside0.mk (below_step (below_alloc (Below.refl _ w) _) hb1); clear hb1)
  | (refine ⟨trivial, ?_⟩; gi_at_call 50; refine (pairs_in Fence.wide _ trivial rfl _ _ _ _).mono ?_; rintro e w2 ⟨rfl, rfl⟩))
 have hB0 : Below w.heap.size w ((w1.alloc (.cells #[.slice none 0 0] 34)).alloc (.cells #[.slice A0 l0.length c0] 56)) := (HB1.out.alloc HB1.out.size _).alloc (by have := HB1.out.size; simp; omega) _
 have bS := Boxed.new w1 34 (.slice none 0 0)
 have bN := Boxed.new (w1.alloc (.cells #[.slice none 0 0] 34)) 56 (.slice A0 l0.length c0)
 rw [World.size_alloc] at bN
 have hws := HB1.out.size
 refine wpIn_rangeFunc_ownG rfl (by omega) (gf := 75) (lb := #[.pointer (some ⟨w1.heap.size + 1, 0, none⟩)]) rfl trivial (enters_of Tryz.func75 (by kernel_rfl) rfl)
  (pairs_stops Fence.wide _ trivial rfl (by omega) (w1.heap.size + 1) w.heap.size A0 c0 l0 HC.out hl _ (by simp) (by simp; omega) bN.cell ((nums_of HR.out).below hB0)) Kept2.trans (kept2_b (by simp; omega) (by simp)) (Below.refl _ _) (fun _ => rfl)
  (fun pre W => OutAt w w1.heap.size (w1.heap.size + 1) pre W ∧ Below w.heap.size w W) (fun _ _ _ => False)
  (OwnFrom.and (outAt_own _ _ _ _) (ownFrom_below (Nat.le_refl _) (by simp; omega))) (fun _ _ _ _ _ hs _ _ => hs)
  ⟨⟨by simp, _, bS.alloc _, Kd.S_nil _ _ _ _ _⟩, hB0⟩
  (fun x => { tmps := #[.slice A0 l0.length c0, undef, .slice none 0 0, .int .i64 0, .int .i64 0, .pointer (some ⟨w1.heap.size, 0, none⟩), .int .i64 x.1, .int .i64 x.2, .slice A0 l0.length c0, .slice (some ⟨w.heap.size, 0, none⟩) 1 1, .int .i64 0, .int .i64 0, .bool false, undef, .slice A0 l0.length c0, .func (.func 75) #[] #[.pointer (some ⟨w1.heap.size + 1, 0, none⟩)], .int .i64 x.1, .int .i64 x.2, undef, undef, undef, undef, undef, undef, undef, undef, undef], defers := [] }) ?assign ?body ?done ?stop
 case assign =>
  intro l x W K hK
  gi_wp2
  exact hK
 case body =>
  rintro l pre x W ⟨⟨hz, v, hv, hs⟩, hB⟩ hlt
  obtain ⟨Av, cv, ev⟩ := Kd.S_slice hs
  subst ev
  have hc1 := hv.cell
  have hf1 := hv.frozen
  have HV := Aside0.mk hv
  have HS := Aside0.mk hs
  have HB := Aside0.mk hB
  have HZ := Aside0.mk hz
  have HLN := Aside0.mk (show (laid pre).length ≤ 1000000 from by have h1 := two_len l0; have h2 := Ct.pairs_le l0 hl; unfold laid; rw [List.length_map]; omega)
  clear hv hs hB hz
  gi_wp2_with (gi_at_builtin; refine S_append_in (Kd.slice 3 (Kd.int .i64)) (w0 := W) (W := W.alloc (.cells #[.int .i64 (wrap64 (-x.1)), .int .i64 (wrap64 (-x.2))] 3)) w.heap.size rfl (.tmp 18) (.tmp 24) 34 56 (.slice none 0 0) 24 rfl Tryz.underlying34 info_rows rfl (by decide) (by omega) (.slice Av (laid pre).length cv) (laid pre) [wrap64 (-x.1), wrap64 (-x.2)] [.slice (some ⟨W.heap.size, 0, none⟩) 2 2] (fun k => w1.heap.size + 1 < k) (fun k => some k = (Value.slice (some ⟨W.heap.size, 0, none⟩) 2 2).ownBlock) rfl (by rw [World.size_alloc]; rfl) ?aP ?aK ?aF ?aO ?aB ?aS ?aL ?_; (case aP => exact ⟨_, rfl, Kd.R_tight rfl (R_two HB.out.size _ _)⟩); (case aK => intro k hk; have h1 : k = W.heap.size := (by simpa [Value.ownBlock] using hk); have h2 := HZ.out; exact ⟨by omega, fun e => by have := Kd.S_lt HS.out k e.symm; omega⟩); (case aF => intro k hk; rw [World.size_alloc] at hk; have h2 := HZ.out; omega); (case aO => exact Kd.S_mono (Kd.S_old HS.out (below_alloc (Below.refl _ W) _)) (fun k hk => ⟨hk.1, fun e => by have h1 : k = W.heap.size := (by simpa [Value.ownBlock] using e); have := hk.2; omega⟩)); (case aB => exact (Below.refl _ W).alloc HB.out.size _); (case aS => have := HB.out.size; simp; omega); (case aL => have := HLN.out; omega); intro v1 w2 hs1 hb1 hg1 hat1; obtain ⟨A2, c2, ev⟩ := Kd.S_slice hs1; rw [List.length_append, List.length_singleton] at ev; subst ev; have hv2 := (HV.out.alloc (.cells #[.int .i64 (wrap64 (-x.1)), .int .i64 (wrap64 (-x.2))] 3)).kept hg1 (fun e => by have := (Kd.S_R HS.out).1 _ e.symm; omega); have hc2 := hv2.cell; have hf2 := hv2.frozen; have HV2 := Aside0.mk hv2; have HS1 := Aside0.mk hs1; have HB1' := Aside0.mk hb1; have HG1 := Aside0.mk hg1; clear hv2 hs1 hb1 hg1 hat1)
  have hk2 : Below w.heap.size W (w2.setCell ⟨w1.heap.size, 0, none⟩ (.slice A2 ((laid pre).length + 1) c2)) := HB1'.out.setCell (p := ⟨w1.heap.size, 0, none⟩) hws _
  have hz := HZ.out
  refine ⟨(((KeepsOthers.alloc W _).trans (KeepsOthers.of_grownBy HG1.out (fun j o ej hj => ?_))).trans (KeepsOthers.setCell _ _ _)).from _, ⟨hk2, ?_⟩, ⟨Nat.lt_of_lt_of_le hz hk2.size, _, HV2.out.set _, ?_⟩, HB.out.trans hk2⟩
  · obtain ⟨cells, hc⟩ := Kd.S_typed (Kd.S_alloc HS.out _) j ej
    rw [hc] at hj
    injection hj with hj
    subst hj
    rfl
  · exact (Below.heap_setCell w2 ⟨w1.heap.size, 0, none⟩ _ (w1.heap.size + 1) (by show w1.heap.size + 1 ≠ w1.heap.size; omega)).trans ((HG1.out.block (w1.heap.size + 1) (by rw [World.size_alloc]; omega) (fun e => by have := (Kd.S_R HS.out).1 _ e.symm; omega)).trans (Below.heap_alloc W _ _ hz))
  · rw [show laid (pre ++ [x]) = laid pre ++ [[wrap64 (-x.1), wrap64 (-x.2)]] by unfold laid; rw [List.map_append]; rfl]
    exact Kd.S_far HS1.out (fun k hk => by show k ≠ w1.heap.size; omega) _
 case done =>
  rintro D ys W hD rfl ⟨⟨hz0, v0, hv0, hs0⟩, hB⟩ hK
  have hs1 := S_turn hs0 (grownBy_putObj' W D (.deferred none)) (fun r e => by cases e; exact ⟨_, hK, rfl⟩)
  rw [laid_pairs l0 HG.out] at hs1
  have hc1 := hv0.cell
  have hD1 : w.heap.size ≤ D := by simp at hD; omega
  have HS1 := Aside0.mk hs1
  have HB9 := Aside0.mk hB
  clear hs0 hs1 hB
  gi_wp2
  refine ⟨by simp, .inl ⟨_, _, rfl, run_takeDeferred hK, ?_⟩⟩
  exact ⟨_, results_tmp2 rfl _ _ _, _, rfl, Kd.S_mono HS1.out (fun _ _ => trivial), HB9.out.trans (belowK_b (w := w) (Nat.le_refl _) W D _ _ hD1 hK rfl rfl)⟩
 case stop =>
  rintro D c pre W _ _ h _
  exact h.elim
set_option maxRecDepth 100000 in
set_option maxHeartbeats 4000000 in
theorem count_AtMost.calls (A0 : Option Addr) (c0 : Nat) (l0 : List Int) (r1 : List (List Int)) (r2 : Int) (w : World) (hr0 : Kd.C (Kd.int .i64) w A0 l0.length l0) (hc0 : l0.length ≤ c0) (h : count_AtMost.f l0 = some (r1, r2)) :
 Calls Tryz.prog 30 #[.slice A0 l0.length c0] w fun e w' => ∃ v0_ : Value, e = .returned (.tuple #[v0_, .int .i64 r2]) ∧ Kd.S (Kd.slice 3 (Kd.int .i64)) 56 w' w.heap.size (fun _ => True) v0_ r1 ∧ Below w.heap.size w w' := by
 obtain ⟨hl, h⟩ := count_AtMost.f_some h
 unfold Ct.atMost at h
 by_cases hg : Ct.good l0 = true
 · rw [if_pos hg] at h
   injection h with h1 h2
   subst h1
   subst h2
   exact most_walk A0 c0 l0 w hr0 hc0 hl hg
 · rw [if_neg hg] at h
   injection h with h1 h2
   subst h1
   subst h2
   obtain ⟨kc, hkc⟩ := (check_rows_ev [l0] (by simp) (fun c hc => by rw [List.mem_singleton] at hc; subst hc; omega)).rounds
   rw [if_neg (by simpa using hg)] at hkc
   have HKC := Aside0.mk hkc
   have HLIT := Aside0.mk (C_lit1 hc0 hr0)
   clear hkc hr0 hc0 hg hl
   go_enter Tryz.func30, Tryz.ntmps30
   go_wp2_with (go_at_call 49; refine (count_check.calls kc _ 1 [l0] 100 _ HLIT.out (Nat.le_refl 1) HKC.out).mono ?_; rintro e w1 ⟨rfl, hb1⟩; have HB1 := Aside0.mk (below_step (below_alloc (Below.refl _ w) _) hb1); clear hb1)
   go_ret2
   exact ⟨_, rfl, Kd.S_nil _ _ _ _ _, HB1.out⟩
theorem C_lit2 {w : World} {A1 A2 : Option Addr} {c1 c2 : Nat} {l1 l2 : List Int} (hl1 : l1.length ≤ c1) (h1 : Kd.C (Kd.int .i64) w A1 l1.length l1) (hl2 : l2.length ≤ c2) (h2 : Kd.C (Kd.int .i64) w A2 l2.length l2) :
 Kd.C (Kd.slice 3 (Kd.int .i64)) (w.alloc (.cells #[.slice A1 l1.length c1, .slice A2 l2.length c2] 56)) (some ⟨w.heap.size, 0, none⟩) ([l1, l2] : List (List Int)).length [l1, l2] := by
 refine ⟨rfl, by simp, fun _ => ⟨_, rfl, fun j p hj => ?_⟩⟩
 have hb := heap_alloc_new w (.cells #[.slice A1 l1.length c1, .slice A2 l2.length c2] 56)
 rcases j with _ | _ | j
 · simp only [List.getElem?_cons_zero, Option.some.injEq] at hj
   subst hj
   refine ⟨[.slice A1 l1.length c1], rfl, ⟨A1, c1, rfl, hl1, Kd.C_below h1 (below_alloc (Below.refl _ w) _)⟩, fun i u hu => ?_⟩
   rcases i with _ | i
   · simp only [List.getElem?_cons_zero, Option.some.injEq] at hu
     subst hu
     exact (blk_cell hb 0).trans rfl
   · simp at hu
 · simp only [List.getElem?_cons_succ, List.getElem?_cons_zero, Option.some.injEq, Nat.zero_add] at hj
   subst hj
   refine ⟨[.slice A2 l2.length c2], rfl, ⟨A2, c2, rfl, hl2, Kd.C_below h2 (below_alloc (Below.refl _ w) _)⟩, fun i u hu => ?_⟩
   rcases i with _ | i
   · simp only [List.getElem?_cons_zero, Option.some.injEq] at hu
     subst hu
     exact (blk_cell hb 1).trans rfl
   · simp at hu
 · simp at hj
theorem C_one (w : World) (x : Int) : Kd.C (Kd.int .i64) (w.alloc (.cells #[.int .i64 x] 3)) (some ⟨w.heap.size, 0, none⟩) ([x] : List Int).length [x] := by
 refine ⟨rfl, by simp, fun _ => ⟨_, rfl, fun j p hj => ?_⟩⟩
 rcases j with _ | j
 · simp only [List.getElem?_cons_zero, Option.some.injEq] at hj
   subst hj
   refine ⟨[.int .i64 x], rfl, rfl, fun i u hu => ?_⟩
   rcases i with _ | i
   · simp only [List.getElem?_cons_zero, Option.some.injEq] at hu
     subst hu
     exact (blk_cell (heap_alloc_new w (.cells #[.int .i64 x] 3)) 0).trans rfl
   · simp at hu
 · simp at hj
theorem C_pair {w : World} (a0 : Int) {A1 : Option Addr} {c1 : Nat} {l1 : List Int} (hl1 : l1.length ≤ c1) (h1 : Kd.C (Kd.int .i64) w A1 l1.length l1) :
 Kd.C (Kd.slice 3 (Kd.int .i64)) ((w.alloc (.cells #[.int .i64 a0] 3)).alloc (.cells #[.slice (some ⟨w.heap.size, 0, none⟩) 1 1, .slice A1 l1.length c1] 56)) (some ⟨w.heap.size + 1, 0, none⟩) ([[a0], l1] : List (List Int)).length [[a0], l1] := by
 have h := C_lit2 (c1 := 1) (l1 := [a0]) (Nat.le_refl 1) (C_one w a0) hl1 (Kd.C_below h1 (below_alloc (Below.refl _ w) (.cells #[.int .i64 a0] 3)))
 rw [World.size_alloc] at h
 exact h
theorem below_two (w : World) (o1 o2 : Obj) : Below w.heap.size w ((w.alloc o1).alloc o2) := below_alloc (below_alloc (Below.refl _ w) o1) o2
theorem rows_good (a : Int) (l : List Int) : ([[a], l] : List (List Int)).all Ct.good = true ↔ Ct.good [a] = true ∧ Ct.good l = true := by simp
inductive NeverIs (a : Int) (l : List Int) : Option (List (List Int) × Int) → Prop
 | told (h : l.length ≤ 1000) : NeverIs a l (some (Ct.neverF a l))
 | none (h : ¬ l.length ≤ 1000) : NeverIs a l none
theorem NeverIs.any (a : Int) (l : List Int) : ∃ r, NeverIs a l r := by
 by_cases h : l.length ≤ 1000
 · exact ⟨_, .told h⟩
 · exact ⟨_, .none h⟩
noncomputable def count_Never.f (a0 : Int) (l0 : List Int) : Option (List (List Int) × Int) := Classical.choose (NeverIs.any a0 l0)
theorem count_Never.f_eq (a : Int) (l : List Int) (hl : l.length ≤ 1000) : count_Never.f a l = some (Ct.neverF a l) := by
 have h : NeverIs a l (count_Never.f a l) := Classical.choose_spec (NeverIs.any a l)
 generalize count_Never.f a l = x at h
 cases h with
 | told _ => rfl
 | none h => exact absurd hl h
theorem count_Never.f_some {a : Int} {l : List Int} {r : List (List Int) × Int} (h : count_Never.f a l = some r) : l.length ≤ 1000 ∧ Ct.neverF a l = r := by
 have h1 : NeverIs a l (count_Never.f a l) := Classical.choose_spec (NeverIs.any a l)
 rw [h] at h1
 cases h1 with
 | told hl => exact ⟨hl, rfl⟩
set_option maxRecDepth 100000 in
set_option maxHeartbeats 4000000 in
theorem count_Never.calls (a0 : Int) (A1 : Option Addr) (c1 : Nat) (l1 : List Int) (r1 : List (List Int)) (r2 : Int) (w : World) (hr1 : Kd.C (Kd.int .i64) w A1 l1.length l1) (hc1 : l1.length ≤ c1) (h : count_Never.f a0 l1 = some (r1, r2)) :
 Calls Tryz.prog 35 #[.int .i64 a0, .slice A1 l1.length c1] w fun e w' => ∃ v0_ : Value, e = .returned (.tuple #[v0_, .int .i64 r2]) ∧ Kd.S (Kd.slice 3 (Kd.int .i64)) 56 w' w.heap.size (fun _ => True) v0_ r1 ∧ Below w.heap.size w w' := by
 obtain ⟨hl, h⟩ := count_Never.f_some h
 obtain ⟨kc, hkc⟩ := (check_rows_ev [[a0], l1] (by simp) (fun c hc => by simp only [List.mem_cons, List.not_mem_nil, or_false] at hc; rcases hc with rfl | rfl; exact Nat.succ_le_of_lt (by decide); omega)).rounds
 have HR := Aside0.mk hr1
 have HC := Aside0.mk hc1
 have HLIT := Aside0.mk (C_pair a0 hc1 hr1)
 unfold Ct.neverF at h
 by_cases hg : Ct.good [a0] = true ∧ Ct.good l1 = true
 · rw [if_pos hg] at h
   injection h with h1 h2
   subst h1
   subst h2
   rw [if_pos ((rows_good a0 l1).2 hg)] at hkc
   have HKC := Aside0.mk hkc
   have ha : -60 ≤ a0 ∧ a0 ≤ 60 := by have h1 := Sp.lit_iff.1 (List.all_eq_true.1 hg.1 a0 (by simp)); omega
   have HX := Aside0.mk (show ∀ x ∈ l1, -60 ≤ x ∧ x ≤ 60 from fun x hx => by have h1 := Sp.lit_iff.1 (List.all_eq_true.1 hg.2 x hx); omega)
   have hna : IntKind.i64.wrap (-a0) = -a0 := IntWalk.i64_in _ (by omega)
   clear hkc hr1 hc1 hg
   go_enter Tryz.func35, Tryz.ntmps35
   go_wp2_with (go_at_call 49; refine (count_check.calls kc _ 2 [[a0], l1] 0 _ HLIT.out (Nat.le_refl 2) HKC.out).mono ?_; rintro e w1 ⟨rfl, hb1⟩; have HB1 := Aside0.mk (below_step (below_two w _ _) hb1); clear hb1)
   go_loopg [7, 20] l1.length (fun gg s7 s20 wq => ∃ j : Nat, j ≤ l1.length ∧ l1.length - j ≤ gg ∧ s20 = .int .i64 (j : Int) ∧ Aside0 (Kd.S (Kd.slice 3 (Kd.int .i64)) 56 wq w.heap.size (fun _ => True) s7 (Ct.never a0 (l1.take j))) ∧ Aside0 (Below w.heap.size w wq))
   case atStart => exact ⟨0, Nat.zero_le _, by omega, by go_num, ⟨Kd.S_nil _ _ _ _ _⟩, HB1⟩
   case round =>
    obtain ⟨j, hj, hg, rfl, HS, HB⟩ := hrel
    by_cases hjl : j < l1.length
    · have hjz : (j : Int) < (l1.length : Int) := by omega
      have hxb := HX.out _ (List.getElem_mem hjl)
      obtain ⟨ad, eA, hx⟩ := C_int_at (Kd.C_below HR.out HB.out) j hjl
      subst eA
      have HTK := Aside0.mk (show Ct.never a0 (l1.take (j + 1)) = Ct.never a0 (l1.take j) ++ [[-a0, -l1[j]]] by rw [List.take_succ_eq_append_getElem hjl]; unfold Ct.never; rw [List.map_append]; rfl)
      have HLE := Aside0.mk (show (Ct.never a0 (l1.take j)).length ≤ 1000 by unfold Ct.never; rw [List.length_map, List.length_take]; omega)
      generalize l1[j] = x at hx HTK hxb
      generalize Ct.never a0 (l1.take j) = ts at HTK HLE HS
      have hneg : IntKind.i64.wrap (-x) = -x := IntWalk.i64_in _ (by omega)
      obtain ⟨Av, cv, ev⟩ := Kd.S_slice HS.out
      subst ev
      go_wp2_with (at_builtin; refine Kd.S_append (Kd.slice 3 (Kd.int .i64)) (w0 := w) (W := wr.alloc (.cells #[.int .i64 (-a0), .int .i64 (-x)] 3)) w.heap.size rfl (.tmp 24) (.tmp 30) 34 56 (.slice none 0 0) 24 rfl Tryz.underlying34 info_rows rfl (by decide) (by omega) (.slice Av ts.length cv) ts [-a0, -x] [.slice (some ⟨wr.heap.size, 0, none⟩) 2 2] (fun _ => True) (fun k => some k = (Value.slice (some ⟨wr.heap.size, 0, none⟩) 2 2).ownBlock) rfl (by rw [World.size_alloc]; rfl) ?aP ?aK ?aF ?aO ?aB ?aS ?aL ?_; (case aP => exact ⟨_, rfl, Kd.R_tight rfl (R_two HB.out.size _ _)⟩); (case aK => intro k hk; have h1 : k = wr.heap.size := (by simpa [Value.ownBlock] using hk); exact ⟨trivial, fun e => by have := Kd.S_lt HS.out k e.symm; omega⟩); (case aF => exact fun _ _ => trivial); (case aO => exact Kd.S_mono (Kd.S_old HS.out (below_alloc (Below.refl _ wr) _)) (fun k hk => ⟨hk.1, fun e => by have h1 : k = wr.heap.size := (by simpa [Value.ownBlock] using e); have := hk.2; omega⟩)); (case aB => exact below_alloc HB.out _); (case aS => have := HB.out.size; simp; omega); (case aL => have := HLE.out; omega); intro v1 w2 hs1 hb1 hg1 hat1; have HS1 := Aside0.mk hs1; have HB2 := Aside0.mk hb1; clear hs1 hb1 hg1 hat1)
      go_roundg (l1.length - (j + 1))
      case measure => omega
      case rel => exact ⟨j + 1, by omega, by omega, by go_num, ⟨by rw [HTK.out]; exact HS1.out⟩, HB2⟩
    · have hjz : ¬ (j : Int) < (l1.length : Int) := by omega
      have hs9 := HS.out
      rw [List.take_of_length_le (by omega)] at hs9
      have HS9 := Aside0.mk hs9
      clear hs9
      go_wp2
      go_ret2
      exact ⟨_, rfl, HS9.out, HB.out⟩
 · rw [if_neg hg] at h
   injection h with h1 h2
   subst h1
   subst h2
   rw [if_neg (fun h => hg ((rows_good a0 l1).1 h))] at hkc
   have HKC := Aside0.mk hkc
   clear hkc hr1 hc1 hg hl
   go_enter Tryz.func35, Tryz.ntmps35
   go_wp2_with (go_at_call 49; refine (count_check.calls kc _ 2 [[a0], l1] 100 _ HLIT.out (Nat.le_refl 2) HKC.out).mono ?_; rintro e w1 ⟨rfl, hb1⟩; have HB1 := Aside0.mk (below_step (below_two w _ _) hb1); clear hb1)
   go_ret2
   exact ⟨_, rfl, Kd.S_nil _ _ _ _ _, HB1.out⟩
inductive ImpliesIs (a : Int) (l : List Int) : Option (List Int × Int) → Prop
 | told (h : l.length ≤ 1000) : ImpliesIs a l (some (Ct.implies a l))
 | none (h : ¬ l.length ≤ 1000) : ImpliesIs a l none
theorem ImpliesIs.any (a : Int) (l : List Int) : ∃ r, ImpliesIs a l r := by
 by_cases h : l.length ≤ 1000
 · exact ⟨_, .told h⟩
 · exact ⟨_, .none h⟩
noncomputable def count_Implies.f (a0 : Int) (l0 : List Int) : Option (List Int × Int) := Classical.choose (ImpliesIs.any a0 l0)
theorem count_Implies.f_eq (a : Int) (l : List Int) (hl : l.length ≤ 1000) : count_Implies.f a l = some (Ct.implies a l) := by
 have h : ImpliesIs a l (count_Implies.f a l) := Classical.choose_spec (ImpliesIs.any a l)
 generalize count_Implies.f a l = x at h
 cases h with
 | told _ => rfl
 | none h => exact absurd hl h
theorem count_Implies.f_some {a : Int} {l : List Int} {r : List Int × Int} (h : count_Implies.f a l = some r) : l.length ≤ 1000 ∧ Ct.implies a l = r := by
 have h1 : ImpliesIs a l (count_Implies.f a l) := Classical.choose_spec (ImpliesIs.any a l)
 rw [h] at h1
 cases h1 with
 | told hl => exact ⟨hl, rfl⟩
set_option maxRecDepth 100000 in
set_option maxHeartbeats 4000000 in
theorem count_Implies.calls (a0 : Int) (A1 : Option Addr) (c1 : Nat) (l1 : List Int) (r1 : List Int) (r2 : Int) (w : World) (hr1 : Kd.C (Kd.int .i64) w A1 l1.length l1) (hc1 : l1.length ≤ c1) (h : count_Implies.f a0 l1 = some (r1, r2)) :
 Calls Tryz.prog 34 #[.int .i64 a0, .slice A1 l1.length c1] w fun e w' => ∃ v0_ : Value, e = .returned (.tuple #[v0_, .int .i64 r2]) ∧ Kd.R (Kd.int .i64) 3 w' w.heap.size (fun _ => True) v0_ r1 ∧ Below w.heap.size w w' := by
 obtain ⟨hl, h⟩ := count_Implies.f_some h
 obtain ⟨kc, hkc⟩ := (check_rows_ev [[a0], l1] (by simp) (fun c hc => by simp only [List.mem_cons, List.not_mem_nil, or_false] at hc; rcases hc with rfl | rfl; exact Nat.succ_le_of_lt (by decide); omega)).rounds
 have HR := Aside0.mk hr1
 have HC := Aside0.mk hc1
 have HLIT := Aside0.mk (C_pair a0 hc1 hr1)
 unfold Ct.implies at h
 by_cases hg : Ct.good [a0] = true ∧ Ct.good l1 = true
 · rw [if_pos hg] at h
   injection h with h1 h2
   subst h1
   subst h2
   rw [if_pos ((rows_good a0 l1).2 hg)] at hkc
   have HKC := Aside0.mk hkc
   have ha : -60 ≤ a0 ∧ a0 ≤ 60 := by have h1 := Sp.lit_iff.1 (List.all_eq_true.1 hg.1 a0 (by simp)); omega
   have hna : IntKind.i64.wrap (-a0) = -a0 := IntWalk.i64_in _ (by omega)
   have HL := Aside0.mk hl
   clear hkc hr1 hc1 hg hl
   go_enter Tryz.func34, Tryz.ntmps34
   go_wp2_with (first
    | (go_at_call 49; refine (count_check.calls kc _ 2 [[a0], l1] 0 _ HLIT.out (Nat.le_refl 2) HKC.out).mono ?_; clear HKC; rintro e w1 ⟨rfl, hb1⟩; have HB1 := Aside0.mk (below_step (below_two w _ _) hb1); clear hb1)
    | ((with_reducible refine gate_dst (N := 17) rfl ?_); refine Kd.R_lit (Kd.int .i64) (w0 := w) w.heap.size 3 ?hg (N := 17) ?hd (xs := [-a0]) (inner := [.int .i64 (-a0)]) (ok := fun _ => True) (okp := fun _ => False) ?hr ?hp (fun _ hk => hk.elim) trivial HB1.out HB1.out.size (by simp) ?_; (case hd => rfl); (case hg => rfl); (case hr => first | (go_simp; done) | (go_simp; rfl)); (case hp => exact Reps.one (show Kd.M (Kd.int .i64) _ _ _ (-a0) [.int .i64 (-a0)] from rfl) (Reps.none _ _)); intro v5 w5 hn5 hb5 hg5 hat5; obtain ⟨A5, c5, e5⟩ := Kd.R_slice hn5; have e5 : v5 = .slice A5 1 c5 := e5; subst e5; have HN5 := Aside0.mk hn5; have HB5 := Aside0.mk hb5; clear hn5 hb5 hg5 hat5)
    | (at_builtin; refine Kd.R_append_rows (Kd.int .i64) (w0 := w) w.heap.size rfl (.tmp 17) (.tmp 18) 56 3 (.int .i64 0) 8 rfl Tryz.underlying56 info_int rfl (by decide) (by omega) (.slice A5 1 c5) ([-a0] : List Int) l1 A1 l1.length c1 (fun _ => True) (fun _ => False) rfl rfl HN5.out (Kd.C_below HR.out HB5.out) (fun _ _ h => h) (fun _ h => h.elim) (fun _ _ => trivial) HB5.out HB5.out.size (by have := HL.out; simp only [List.length_singleton]; omega) ?_; intro v6 w6 hn6 hb6 hg6 hat6; have HN6 := Aside0.mk hn6; have HB6 := Aside0.mk hb6; clear hn6 hb6 hg6 hat6))
   go_ret2
   exact ⟨_, rfl, HN6.out, HB6.out⟩
 · rw [if_neg hg] at h
   injection h with h1 h2
   subst h1
   subst h2
   rw [if_neg (fun h => hg ((rows_good a0 l1).1 h))] at hkc
   have HKC := Aside0.mk hkc
   clear hkc hr1 hc1 hg hl
   go_enter Tryz.func34, Tryz.ntmps34
   go_wp2_with (go_at_call 49; refine (count_check.calls kc _ 2 [[a0], l1] 100 _ HLIT.out (Nat.le_refl 2) HKC.out).mono ?_; rintro e w1 ⟨rfl, hb1⟩; have HB1 := Aside0.mk (below_step (below_two w _ _) hb1); clear hb1)
   go_ret2
   exact ⟨_, rfl, Kd.R_nil _ _ _ _ _, HB1.out⟩
end Go.Proofs.YteinkjhimceljaaGreatDoor.J
