/- ClauseMore: it is true. -/
import Derived.Test.YthnbmlpjbhhamaaPc
import Derived.Test.YthnbmlpjbhhamaaHg
import Derived.Test.YthnbmlpjbhhamaaHp
import Derived.Deep.RegionHeld3
namespace Go.Proofs.Ythnbmlpjbhhamaa.J
open Go.RowKit Go.Shelf Go.Proofs.YthnbmlpjbhhamaaW.PrintWords Go.Proofs.YthnbmlpjbhhamaaW.PrintLast Go.Proofs.YthnbmlpjbhhamaaW.PrintMore
set_option linter.unusedVariables false
set_option linter.unusedSimpArgs false

/-- A formula with a clause more, of literals, is satisfied by just the models that satisfy it and in which that one holds. -/
theorem sat_more {v : Int} {cls : List (List Int)} {c : List Int} (m : List Bool) (hc : Sp.check v [c] = 0) : Sp.sat v (cls ++ [c]) m = (Sp.sat v cls m && Sp.holds c m) := by
  obtain ⟨a, b, d⟩ := Sp.check_ok hc
  have hd : ([c] : List (List Int)).all (fun c => c.all (Sp.lit v)) = true := by
    simp only [List.all_eq_true]
    exact fun x hx n hn => d x hx n hn
  unfold Sp.sat Sp.right
  rw [List.all_append, List.all_append, hd, Bool.and_true]
  simp only [List.all_cons, List.all_nil, Bool.and_true, Bool.and_assoc]
theorem hold4_next {w w' W0 W8 : World} {p1 p2 p3 p4 : Addr} {v1 v2 v3 v4 gv : Value} {T : TypeId} {b : Nat} {a0 : Int} {ys : List (List Int)}
    (h : w.cell? p1 = some v1 ∧ w.cell? p2 = some v2 ∧ w.cell? p3 = some v3 ∧ w.cell? p4 = some v4 ∧ Aside0 (Below W0.heap.size W0 w) ∧ Aside0 (GstT T W8 w b a0 gv ys)) (hb : Below w.heap.size w w') :
    w'.cell? p1 = some v1 ∧ w'.cell? p2 = some v2 ∧ w'.cell? p3 = some v3 ∧ w'.cell? p4 = some v4 ∧ Aside0 (Below W0.heap.size W0 w') ∧ Aside0 (GstT T W8 w' b a0 gv ys) := by
  obtain ⟨h1, h2, h3, h4, h6, h7⟩ := h
  exact ⟨pw_cell_below hb h1, pw_cell_below hb h2, pw_cell_below hb h3, pw_cell_below hb h4, ⟨below_step h6.out hb⟩, ⟨h7.out.below hb⟩⟩
theorem C_none {w : World} : Kd.C (Kd.int .i64) w none ([] : List Int).length [] := (Kd.R_reads' (Kd.R_nil (Kd.int .i64) 3 w 0 (fun _ => True))).2.2

theorem holds_nil (A1 : Option Addr) (c1 : Nat) (l1 : List Bool) (w : World) (hr1 : Kd.C Kd.bool w A1 l1.length l1) (hc1 : l1.length ≤ c1) :
    Calls Try.prog 45 #[.slice none 0 0, .slice A1 l1.length c1] w fun e w' => e = .returned (.bool false) ∧ Below w.heap.size w w' :=
  clause_Holds.calls none 0 [] A1 c1 l1 false w C_none (Nat.le_refl _) hr1 hc1 rfl

set_option maxHeartbeats 4000000 in
set_option maxRecDepth 100000 in
theorem ClauseMore_walk {W : World} (a0 : Int) (A0 : Option Addr) (c0 : Nat) (l0 : List (List Int)) (hr0 : Kd.C (Kd.slice 3 (Kd.int .i64)) W A0 l0.length l0) (hc0 : l0.length ≤ c0) (w0 : (Lit.int .i64 a0).wf = true) (wl0 : ∀ c ∈ l0, ∀ n ∈ c, (Lit.int .i64 n).wf = true)
    (A1 : Option Addr) (c1 : Nat) (l1 : List Int) (hr1 : Kd.C (Kd.int .i64) W A1 l1.length l1) (hc1 : l1.length ≤ c1) (wl1 : ∀ n ∈ l1, (Lit.int .i64 n).wf = true)
    (A2 : Option Addr) (c2 : Nat) (l2 : List Bool) (hr2 : Kd.C Kd.bool W A2 l2.length l2) (hc2 : l2.length ≤ c2) :
    Calls Try.prog 23 #[.agg #[.int .i64 a0, .slice A0 l0.length c0], .slice A1 l1.length c1, .slice A2 l2.length c2] W fun e w' => e = .returned (.bool true) ∧ Below W.heap.size W w' := by
  obtain ⟨kL, hkL⟩ := (large10_ev a0 l0).rounds
  have HKL := Aside0.mk hkL
  have HR := Aside0.mk hr0
  have HR1 := Aside0.mk hr1
  have HR2 := Aside0.mk hr2
  have HC := Aside0.mk hc0
  have HC1 := Aside0.mk hc1
  have HC2 := Aside0.mk hc2
  obtain ⟨W0, hW0, hb0, hs0, hw0⟩ := boxed_formula W a0 A0 c0 l0.length
  have HB0 := Aside0.mk hb0
  have HW := Aside0.mk hw0
  have q1 : W0.cell? ⟨W.heap.size, 0, none⟩ = some (.int .i64 a0) := (hw0 W0 (Below.refl _ _)).2.1
  have q2 : W0.cell? ⟨W.heap.size, 1, none⟩ = some (.slice A0 l0.length c0) := (hw0 W0 (Below.refl _ _)).2.2
  obtain ⟨rl, hrl⟩ : ∃ rl, bigB l0 3100 60 = rl := ⟨_, rfl⟩
  rw [hrl] at HKL
  clear hkL hr0 hr1 hr2 hc0 hc1 hc2 hb0 hw0 hs0 w0 wl0 wl1
  cases rl with
  | true =>
    go_enter Try.func23, Try.ntmps23
    go_upto_region 1 with (fail)
    rw [← hW0]
    clear hW0 hrl
    go_wp2_with ((go_at_call 61; refine (hoggetlaw10_large.calls kL a0 _ _ l0 _ _ (Kd.C_below HR.out HB0.out) HC.out HKL.out).mono ?_; clear HKL; rintro e w8 ⟨rfl, hb8⟩; have HB8 := Aside0.mk (below_step HB0.out hb8); have HB08 := Aside0.mk hb8; obtain ⟨_, q81, q82⟩ := HW.out _ HB08.out; clear hb8))
    go_ret
    exact ⟨rfl, HB8.out⟩
  | false =>
    have b1 := big_bounds hrl
    clear hrl
    by_cases hl1 : 60 < (l1.length : Int)
    · go_enter Try.func23, Try.ntmps23
      go_upto_region 1 with (fail)
      rw [← hW0]
      clear hW0 b1
      go_wp2_with ((go_at_call 61; refine (hoggetlaw10_large.calls kL a0 _ _ l0 _ _ (Kd.C_below HR.out HB0.out) HC.out HKL.out).mono ?_; clear HKL; rintro e w8 ⟨rfl, hb8⟩; have HB8 := Aside0.mk (below_step HB0.out hb8); have HB08 := Aside0.mk hb8; obtain ⟨_, q81, q82⟩ := HW.out _ HB08.out; clear hb8))
      go_ret
      exact ⟨rfl, HB8.out⟩
    by_cases hl2 : 200 < (l2.length : Int)
    · go_enter Try.func23, Try.ntmps23
      go_upto_region 1 with (fail)
      rw [← hW0]
      clear hW0 b1
      go_wp2_with ((go_at_call 61; refine (hoggetlaw10_large.calls kL a0 _ _ l0 _ _ (Kd.C_below HR.out HB0.out) HC.out HKL.out).mono ?_; clear HKL; rintro e w8 ⟨rfl, hb8⟩; have HB8 := Aside0.mk (below_step HB0.out hb8); have HB08 := Aside0.mk hb8; obtain ⟨_, q81, q82⟩ := HW.out _ HB08.out; clear hb8))
      go_ret
      exact ⟨rfl, HB8.out⟩
    obtain ⟨kS, hkS⟩ := clauses_ev.rounds
    have HS := Aside0.mk hkS
    obtain ⟨ys, hys⟩ : ∃ ys, l0 ++ [l1] = ys := ⟨_, rfl⟩
    have HYS := Aside0.mk hys
    obtain ⟨co, hco⟩ : ∃ co, Sp.check a0 [l1] = co := ⟨_, rfl⟩
    obtain ⟨sg, hsg⟩ : ∃ sg, Sp.sat a0 ys l2 = sg := ⟨_, rfl⟩
    obtain ⟨sf, hsf⟩ : ∃ sf, Sp.sat a0 l0 l2 = sf := ⟨_, rfl⟩
    obtain ⟨sh, hsh⟩ : ∃ sh, Sp.holds l1 l2 = sh := ⟨_, rfl⟩
    have HCO := Aside0.mk (show clause_Check.f a0 [l1] = some co by unfold clause_Check.f; rw [hco])
    have HSG := Aside0.mk (show clause_Sat.f a0 ys l2 = some sg by unfold clause_Sat.f; rw [hsg])
    have HSF := Aside0.mk (show clause_Sat.f a0 l0 l2 = some sf by unfold clause_Sat.f; rw [hsf])
    have HSH := Aside0.mk (show clause_Holds.f l1 l2 = some sh by unfold clause_Holds.f; rw [hsh])
    have hlaw : co = 0 → sg = (sf && sh) := fun h => by
      subst h
      rw [← hsg, ← hsf, ← hsh, ← hys]
      exact sat_more l2 hco
    have HLN := Aside0.mk (show l0.length ≤ 3100 by omega)
    clear hco hsg hsf hsh hys b1 hkS
    have HLN2 := Aside0.mk (show (0 + l0.length) * 24 ≤ 140737488355328 by have := HLN.out; omega)
    go_enter Try.func23, Try.ntmps23
    go_upto_region 1 with (fail)
    rw [← hW0]
    clear hW0
    go_upto_region 5 with ((go_at_call 61; refine (hoggetlaw10_large.calls kL a0 _ _ l0 _ _ (Kd.C_below HR.out HB0.out) HC.out HKL.out).mono ?_; clear HKL; rintro e w8 ⟨rfl, hb8⟩; have HB8 := Aside0.mk (below_step HB0.out hb8); have HB08 := Aside0.mk hb8; obtain ⟨_, q81, q82⟩ := HW.out _ HB08.out; clear hb8))
    have hG := Aside0.mk (show Gst w8 (w8.alloc (.cells #[.int .i64 a0, .slice none 0 0] 24)) w8.heap.size a0 (.slice none 0 0) [] from ⟨heap_alloc_new w8 _, Kd.N_nil _ _ _ _ _, Nat.le_refl _, below_alloc (Below.refl _ w8) _⟩)
    generalize hb : w8.heap.size = b at hG ⊢
    obtain ⟨W5, hW5⟩ : ∃ W5, W5 = w8.alloc (.cells #[.int .i64 a0, .slice none 0 0] 24) := ⟨_, rfl⟩
    rw [← hW5] at hG ⊢
    clear hW5
    obtain ⟨k0, k1⟩ := hG.out.fld
    have k2 := blk_frozen hG.out.hg 1
    have q91 := pw_cell_below hG.out.hb q81
    have q92 := pw_cell_below hG.out.hb q82
    have HFR := Aside0.mk (shared_rows (Kd.C_below HR.out HB8.out) hG.out.hb)
    go_upto_region 6 with (at_builtin; refine Kd.N_append_rows (Kd.slice 3 (Kd.int .i64)) (w0 := w8) w8.heap.size rfl (.tmp 24) (.tmp 26) 22 25 (.slice none 0 0) 24 rfl Try.underlying22 info_rows rfl (by decide) (by omega) (.slice none 0 0) [] l0 A0 l0.length c0 (fun k => k ≠ b) (fun k => k < w8.heap.size) rfl rfl hG.out.hn HFR.out (shared_ok hG.out) (fresh_ok hG.out) hG.out.hb hG.out.hb.size HLN2.out ?_; intro v1 w1 hn1 hb1 hg1 hat1; rw [List.nil_append] at hn1; obtain ⟨A9, c9, ev⟩ := Kd.N_slice hn1; subst ev; have z1 := blk_frozen (hG.out.kept hg1) 1; have z2 : w1.cell? ⟨b, 1, none⟩ = some (.slice none 0 0) := (blk_cell (hG.out.kept hg1) 1).trans rfl; have HG1 := Aside0.mk (hG.out.put hn1 hb1 hg1); clear hn1 hb1 hg1 hat1)
    obtain ⟨W6, hW6⟩ : ∃ W6, W6 = w1.setCell ⟨b, 1, none⟩ (.slice A9 l0.length c9) := ⟨_, rfl⟩
    rw [← hW6] at HG1 ⊢
    clear hW6 z1 z2 k0 k1 k2 q91 q92 hG HFR
    obtain ⟨k0, k1⟩ := HG1.out.fld
    have k2 := blk_frozen HG1.out.hg 1
    have k3 := HG1.out.lt
    have HC2' := Aside0.mk (Kd.C_below HR1.out HB8.out)
    have HF2 := Aside0.mk (shared_row HC1.out HC2'.out HG1.out.hb)
    have HLN3 := Aside0.mk (show (l0.length + 1) * 24 ≤ 140737488355328 by have := HLN.out; omega)
    have k4 : ∀ o, (W6.alloc o).cell? ⟨b, 1, none⟩ = some (.slice A9 l0.length c9) := fun o => pw_cell_below (below_alloc (Below.refl _ W6) o) k1
    go_upto_region 7 with (at_builtin; refine Kd.N_append (Kd.slice 3 (Kd.int .i64)) (w0 := w8) w8.heap.size rfl (.tmp 30) (.tmp 32) 22 25 (.slice none 0 0) 24 rfl Try.underlying22 info_rows rfl (by decide) (by omega) (.slice A9 l0.length c9) l0 l1 [.slice A1 l1.length c1] (fun k => k ≠ b) (fun k => k < w8.heap.size) rfl rfl HF2.out (shared_ok HG1.out) (fresh_ok HG1.out) HG1.out.hn HG1.out.hb HG1.out.hb.size HLN3.out ?_; intro v1 w11 hn1 hb1 hg1 hat1; rw [HYS.out] at hn1; obtain ⟨A10, c10, ev⟩ := Kd.N_slice hn1; subst ev; have z1 := blk_frozen (HG1.out.kept hg1) 1; have z2 : w11.cell? ⟨b, 1, none⟩ = some (.slice A9 l0.length c9) := (blk_cell (HG1.out.kept hg1) 1).trans rfl; have HG2 := Aside0.mk (HG1.out.put hn1 hb1 hg1); clear hn1 hb1 hg1 hat1)
    obtain ⟨W7, hW7⟩ : ∃ W7, W7 = w11.setCell ⟨b, 1, none⟩ (.slice A10 ys.length c10) := ⟨_, rfl⟩
    rw [← hW7] at HG2 ⊢
    clear hW7 z1 z2 k0 k1 k2 k3 k4 HG1 HF2
    have HB9 := Aside0.mk (below_step HB8.out HG2.out.hb)
    have HB09 := Aside0.mk (below_step HB08.out HG2.out.hb)
    obtain ⟨_, y1, y2⟩ := HW.out _ HB09.out
    go_upto_region 8 with (first | ((with_reducible refine gate_dst (N := 38) rfl ?_); refine Kd.N_lit (Kd.slice 3 (Kd.int .i64)) (w0 := W7) W7.heap.size 25 ?hg (N' := 38) ?hd (xs := [l1]) (inner := [.slice A1 l1.length c1]) (ok := fun _ => True) (okp := fun k => k < w8.heap.size) ?hr ?hp (fun _ _ => trivial) trivial (Below.refl _ _) (Nat.le_refl _) (by simp) ?_; (case hd => rfl); (case hg => rfl); (case hr => first | (go_simp; done) | (go_simp; rfl)); (case hp => exact Reps.one (shared_row HC1.out HC2'.out HG2.out.hb) (Reps.none _ _)); intro v5 w5 hn5 hb5 hg5 hat5; obtain ⟨A5, c5, e5⟩ := Kd.N_slice hn5; have e5 : v5 = .slice A5 1 c5 := e5; subst e5; have HN5 := Aside0.mk (show 1 ≤ c5 ∧ Kd.C (Kd.slice 3 (Kd.int .i64)) w5 A5 [l1].length [l1] from (Kd.N_reads' hn5).2); have HB5 := Aside0.mk (below_step HB9.out hb5); have HB05 := Aside0.mk (below_step HB09.out hb5); have HG5 := Aside0.mk (HG2.out.below hb5); clear hn5 hb5 hg5 hat5) | (go_at_call 44; refine (clause_Check.calls a0 _ _ [l1] co _ HN5.out.2 HN5.out.1 HCO.out).mono ?_; clear HCO; rintro e w6 ⟨rfl, hb6⟩; have HB6 := Aside0.mk (below_step HB5.out hb6); have HB06 := Aside0.mk (below_step HB05.out hb6); have HG6 := Aside0.mk (HG5.out.below hb6); clear hb6))
    clear y1 y2 q81 q82 q1 q2
    have HB11 := below_drew1 HB6.out
    have HG4 := HG6.out.below (below_drew1 (Below.refl _ w6))
    obtain ⟨_, y1, y2⟩ := HW.out _ (below_drew1 HB06.out)
    obtain ⟨y3, y4⟩ := HG4.fld
    have hold0 := And.intro y1 (And.intro y2 (And.intro y3 (And.intro y4 (And.intro (Aside0.mk HB11) (Aside0.mk HG4)))))
    clear HB11 HG4 y1 y2 y3 y4 HB6 HB06 HG6 HG5 HG2
    by_cases hco0 : co = 0
    · have hl9 : sg = (sf && sh) := hlaw hco0
      clear hlaw
      subst hco0
      subst hl9
      cases sf with
      | true =>
          refine start_ (n := 25) (S := (fun w' => w'.cell? ⟨W.heap.size, 0, none⟩ = some (.int .i64 a0) ∧ w'.cell? ⟨W.heap.size, 1, none⟩ = some (.slice A0 l0.length c0) ∧ w'.cell? ⟨b, 0, none⟩ = some (.int .i64 a0) ∧ w'.cell? ⟨b, 1, none⟩ = some (.slice A10 ys.length c10) ∧ Aside0 (Below W.heap.size W w') ∧ Aside0 (GstT 24 w8 w' b a0 (.slice A10 ys.length c10) ys))) (ds := []) #[false, false, false, false, false, false, false, false, false, false, false, false, false, false, false, false, false, false, false, false, false, false, false, false, false] (by kernel_rfl) rfl rfl hold0 (fun hHeld => ?_)
          refine one_ (i := 0) (N := some 42) #[true, false, false, false, false, false, false, false, false, false, false, false, false, false, false, false, false, false, false, false, false, false, false, false, false] rfl rfl (by kernel_rfl) (by decide) (fun K hK => ?_)
          refine goes_ Try.func62 (by kernel_rfl) rfl #[] (by rfl) rfl rfl (by (try simp only [List.map_toArray, List.map_cons, List.map_nil]); first | done | rfl) ?_
          with_reducible refine (hoggetlaw10_clauses.calls kS true _ HS.out).mono ?_
          rintro e w9 ⟨rfl, hb9⟩
          refine ⟨_, rfl, ?_⟩
          refine hK.out _ _ (hold4_next hHeld hb9) (fun hHeld => ?_)
          clear hK K
          refine norm_ (a' := ?_) ?_ ?_
          rotate_left
          · show Act.put _ (some 42) _ = _
            simp only [Act.put, List.setIfInBounds_toArray, List.set_cons_zero, List.set_cons_succ, i64_w, i32_w]
            rfl
          refine pure_ (i := 1) (N := some 43) (v := ?_) (a' := ?_) #[true, true, false, false, false, false, false, false, false, false, false, false, false, false, false, false, false, false, false, false, false, false, false, false, false] rfl rfl (by kernel_rfl) (fun _ _ _ h => h) (Or.inl ⟨by rfl, ?_⟩) ?_ ?_
          rotate_left
          · intro w'
            go_simp
            with_reducible rfl
          rotate_left
          · simp only [Act.put, List.setIfInBounds_toArray, List.set_cons_zero, List.set_cons_succ, i64_w, i32_w]
            rfl
          refine pure_ (i := 2) (N := some 44) (v := ?_) (a' := ?_) #[true, true, true, false, false, false, false, false, false, false, false, false, false, false, false, false, false, false, false, false, false, false, false, false, false] rfl rfl (by kernel_rfl) (fun _ _ _ h => h) (Or.inl ⟨by rfl, ?_⟩) ?_ ?_
          rotate_left
          · intro w'
            go_simp
            with_reducible rfl
          rotate_left
          · simp only [Act.put, List.setIfInBounds_toArray, List.set_cons_zero, List.set_cons_succ, i64_w, i32_w]
            rfl
          refine pure_ (i := 3) (N := some 45) (v := ?_) (a' := ?_) #[true, true, true, true, false, false, false, false, false, false, false, false, false, false, false, false, false, false, false, false, false, false, false, false, false] rfl rfl (by kernel_rfl) (fun _ _ _ h => h) (Or.inl ⟨by rfl, ?_⟩) ?_ ?_
          rotate_left
          · intro w'
            go_simp
            with_reducible rfl
          rotate_left
          · simp only [Act.put, List.setIfInBounds_toArray, List.set_cons_zero, List.set_cons_succ, i64_w, i32_w]
            rfl
          refine pure_ (i := 4) (N := some 46) (v := ?_) (a' := ?_) #[true, true, true, true, true, false, false, false, false, false, false, false, false, false, false, false, false, false, false, false, false, false, false, false, false] rfl rfl (by kernel_rfl) (fun _ _ _ h => h) (Or.inl ⟨by rfl, ?_⟩) ?_ ?_
          rotate_left
          · intro w'
            go_simp
            with_reducible rfl
          rotate_left
          · simp only [Act.put, List.setIfInBounds_toArray, List.set_cons_zero, List.set_cons_succ, i64_w, i32_w]
            rfl
          refine pure_ (i := 6) (N := some 48) (v := ?_) (a' := ?_) #[true, true, true, true, true, false, true, false, false, false, false, false, false, false, false, false, false, false, false, false, false, false, false, false, false] rfl rfl (by kernel_rfl) (fun _ _ _ h => h) (Or.inl ⟨by rfl, ?_⟩) ?_ ?_
          rotate_left
          · intro w'
            go_simp
            with_reducible rfl
          rotate_left
          · simp only [Act.put, List.setIfInBounds_toArray, List.set_cons_zero, List.set_cons_succ, i64_w, i32_w]
            rfl
          refine pure_ (i := 9) (N := some 51) (v := ?_) (a' := ?_) #[true, true, true, true, true, false, true, false, false, true, false, false, false, false, false, false, false, false, false, false, false, false, false, false, false] rfl rfl (by kernel_rfl) (fun _ _ _ h => h) (Or.inl ⟨by rfl, ?_⟩) ?_ ?_
          rotate_left
          · intro w'
            go_simp
            with_reducible rfl
          rotate_left
          · simp only [Act.put, List.setIfInBounds_toArray, List.set_cons_zero, List.set_cons_succ, i64_w, i32_w]
            rfl
          refine take_ (i := 5) (N := some 47) (v := ?_) (a' := ?_) #[true, true, true, true, true, true, true, false, false, true, false, false, false, false, false, false, false, false, false, false, false, false, false, false, false] rfl rfl (by kernel_rfl) (fun _ _ _ h => h) (Or.inl ⟨by rfl, ?_⟩) hHeld ?_ ?_
          rotate_left
          · intro w'
            rintro ⟨s0, s1, s2, s3, s4, s5⟩
            go_simp
            with_reducible rfl
          rotate_left
          · simp only [Act.put, List.setIfInBounds_toArray, List.set_cons_zero, List.set_cons_succ, i64_w, i32_w]
            rfl
          refine take_ (i := 8) (N := some 50) (v := ?_) (a' := ?_) #[true, true, true, true, true, true, true, false, true, true, false, false, false, false, false, false, false, false, false, false, false, false, false, false, false] rfl rfl (by kernel_rfl) (fun _ _ _ h => h) (Or.inl ⟨by rfl, ?_⟩) hHeld ?_ ?_
          rotate_left
          · intro w'
            rintro ⟨s0, s1, s2, s3, s4, s5⟩
            go_simp
            with_reducible rfl
          rotate_left
          · simp only [Act.put, List.setIfInBounds_toArray, List.set_cons_zero, List.set_cons_succ, i64_w, i32_w]
            rfl
          refine one_ (i := 7) (N := some 49) #[true, true, true, true, true, true, true, true, true, true, false, false, false, false, false, false, false, false, false, false, false, false, false, false, false] rfl rfl (by kernel_rfl) (by decide) (fun K hK => ?_)
          refine goes_ Try.func43 (by kernel_rfl) rfl #[.agg #[.int .i64 a0, .slice A10 ys.length c10], .slice A2 l2.length c2] (by rfl) rfl rfl (by (try simp only [List.map_toArray, List.map_cons, List.map_nil]); first | done | rfl) ?_
          with_reducible refine (clause_Sat.calls a0 _ _ ys _ _ l2 _ _ (Kd.N_reads' hHeld.2.2.2.2.2.out.hn).2.2 (Kd.N_reads' hHeld.2.2.2.2.2.out.hn).2.1 (Kd.C_below HR2.out hHeld.2.2.2.2.1.out) HC2.out HSG.out).mono ?_
          rintro e w9 ⟨rfl, hb9⟩
          refine ⟨_, rfl, ?_⟩
          refine hK.out _ _ (hold4_next hHeld hb9) (fun hHeld => ?_)
          clear hK K
          refine norm_ (a' := ?_) ?_ ?_
          rotate_left
          · show Act.put _ (some 49) _ = _
            simp only [Act.put, List.setIfInBounds_toArray, List.set_cons_zero, List.set_cons_succ, i64_w, i32_w]
            rfl
          refine one_ (i := 10) (N := some 52) #[true, true, true, true, true, true, true, true, true, true, true, false, false, false, false, false, false, false, false, false, false, false, false, false, false] rfl rfl (by kernel_rfl) (by decide) (fun K hK => ?_)
          refine goes_ Try.func43 (by kernel_rfl) rfl #[.agg #[.int .i64 a0, .slice A0 l0.length c0], .slice A2 l2.length c2] (by rfl) rfl rfl (by (try simp only [List.map_toArray, List.map_cons, List.map_nil]); first | done | rfl) ?_
          with_reducible refine (clause_Sat.calls a0 _ _ l0 _ _ l2 true _ (Kd.C_below HR.out hHeld.2.2.2.2.1.out) HC.out (Kd.C_below HR2.out hHeld.2.2.2.2.1.out) HC2.out HSF.out).mono ?_
          rintro e w9 ⟨rfl, hb9⟩
          refine ⟨_, rfl, ?_⟩
          refine hK.out _ _ (hold4_next hHeld hb9) (fun hHeld => ?_)
          clear hK K
          refine norm_ (a' := ?_) ?_ ?_
          rotate_left
          · show Act.put _ (some 52) _ = _
            simp only [Act.put, List.setIfInBounds_toArray, List.set_cons_zero, List.set_cons_succ, i64_w, i32_w]
            rfl
          refine pure_ (i := 11) (N := some 53) (v := ?_) (a' := ?_) #[true, true, true, true, true, true, true, true, true, true, true, true, false, false, false, false, false, false, false, false, false, false, false, false, false] rfl rfl (by kernel_rfl) (fun _ _ _ h => h) (Or.inl ⟨by rfl, ?_⟩) ?_ ?_
          rotate_left
          · intro w'
            go_simp
            with_reducible rfl
          rotate_left
          · simp only [Act.put, List.setIfInBounds_toArray, List.set_cons_zero, List.set_cons_succ, i64_w, i32_w]
            rfl
          refine pure_ (i := 12) (N := some 54) (v := ?_) (a' := ?_) #[true, true, true, true, true, true, true, true, true, true, true, true, true, false, false, false, false, false, false, false, false, false, false, false, false] rfl rfl (by kernel_rfl) (fun _ _ _ h => h) (Or.inl ⟨by rfl, ?_⟩) ?_ ?_
          rotate_left
          · intro w'
            go_simp
            with_reducible rfl
          rotate_left
          · simp only [Act.put, List.setIfInBounds_toArray, List.set_cons_zero, List.set_cons_succ, i64_w, i32_w]
            rfl
          refine pure_ (i := 13) (N := some 55) (v := ?_) (a' := ?_) #[true, true, true, true, true, true, true, true, true, true, true, true, true, true, false, false, false, false, false, false, false, false, false, false, false] rfl rfl (by kernel_rfl) (fun _ _ _ h => h) (Or.inl ⟨by rfl, ?_⟩) ?_ ?_
          rotate_left
          · intro w'
            go_simp
            with_reducible rfl
          rotate_left
          · simp only [Act.put, List.setIfInBounds_toArray, List.set_cons_zero, List.set_cons_succ, i64_w, i32_w]
            rfl
          refine one_ (i := 14) (N := some 56) #[true, true, true, true, true, true, true, true, true, true, true, true, true, true, true, false, false, false, false, false, false, false, false, false, false] rfl rfl (by kernel_rfl) (by decide) (fun K hK => ?_)
          refine goes_ Try.func45 (by kernel_rfl) rfl #[.slice A1 l1.length c1, .slice A2 l2.length c2] (by rfl) rfl rfl (by (try simp only [List.map_toArray, List.map_cons, List.map_nil]); first | done | rfl) ?_
          with_reducible refine (clause_Holds.calls _ _ l1 _ _ l2 sh _ (Kd.C_below HR1.out hHeld.2.2.2.2.1.out) HC1.out (Kd.C_below HR2.out hHeld.2.2.2.2.1.out) HC2.out HSH.out).mono ?_
          rintro e w9 ⟨rfl, hb9⟩
          refine ⟨_, rfl, ?_⟩
          refine hK.out _ _ (hold4_next hHeld hb9) (fun hHeld => ?_)
          clear hK K
          refine norm_ (a' := ?_) ?_ ?_
          rotate_left
          · show Act.put _ (some 56) _ = _
            simp only [Act.put, List.setIfInBounds_toArray, List.set_cons_zero, List.set_cons_succ, i64_w, i32_w]
            rfl
          refine pure_ (i := 15) (N := some 57) (v := ?_) (a' := ?_) #[true, true, true, true, true, true, true, true, true, true, true, true, true, true, true, true, false, false, false, false, false, false, false, false, false] rfl rfl (by kernel_rfl) (fun _ _ _ h => h) (Or.inl ⟨by rfl, ?_⟩) ?_ ?_
          rotate_left
          · intro w'
            go_simp
            with_reducible rfl
          rotate_left
          · simp only [Act.put, List.setIfInBounds_toArray, List.set_cons_zero, List.set_cons_succ, i64_w, i32_w]
            rfl
          refine pure_ (i := 16) (N := some 58) (v := ?_) (a' := ?_) #[true, true, true, true, true, true, true, true, true, true, true, true, true, true, true, true, true, false, false, false, false, false, false, false, false] rfl rfl (by kernel_rfl) (fun _ _ _ h => h) (Or.inl ⟨by rfl, ?_⟩) ?_ ?_
          rotate_left
          · intro w'
            go_simp
            with_reducible rfl
          rotate_left
          · simp only [Act.put, List.setIfInBounds_toArray, List.set_cons_zero, List.set_cons_succ, i64_w, i32_w]
            rfl
          refine pure_ (i := 17) (N := some 59) (v := ?_) (a' := ?_) #[true, true, true, true, true, true, true, true, true, true, true, true, true, true, true, true, true, true, false, false, false, false, false, false, false] rfl rfl (by kernel_rfl) (fun _ _ _ h => h) (Or.inl ⟨by rfl, ?_⟩) ?_ ?_
          rotate_left
          · intro w'
            go_simp
            with_reducible rfl
          rotate_left
          · simp only [Act.put, List.setIfInBounds_toArray, List.set_cons_zero, List.set_cons_succ, i64_w, i32_w]
            rfl
          refine pure_ (i := 18) (N := some 60) (v := ?_) (a' := ?_) #[true, true, true, true, true, true, true, true, true, true, true, true, true, true, true, true, true, true, true, false, false, false, false, false, false] rfl rfl (by kernel_rfl) (fun _ _ _ h => h) (Or.inl ⟨by rfl, ?_⟩) ?_ ?_
          rotate_left
          · intro w'
            go_simp
            with_reducible rfl
          rotate_left
          · simp only [Act.put, List.setIfInBounds_toArray, List.set_cons_zero, List.set_cons_succ, i64_w, i32_w]
            rfl
          refine pure_ (i := 19) (N := some 61) (v := ?_) (a' := ?_) #[true, true, true, true, true, true, true, true, true, true, true, true, true, true, true, true, true, true, true, true, false, false, false, false, false] rfl rfl (by kernel_rfl) (fun _ _ _ h => h) (Or.inl ⟨by rfl, ?_⟩) ?_ ?_
          rotate_left
          · intro w'
            go_simp
            with_reducible rfl
          rotate_left
          · simp only [Act.put, List.setIfInBounds_toArray, List.set_cons_zero, List.set_cons_succ, i64_w, i32_w]
            rfl
          refine pure_ (i := 20) (N := some 62) (v := ?_) (a' := ?_) #[true, true, true, true, true, true, true, true, true, true, true, true, true, true, true, true, true, true, true, true, true, false, false, false, false] rfl rfl (by kernel_rfl) (fun _ _ _ h => h) (Or.inl ⟨by rfl, ?_⟩) ?_ ?_
          rotate_left
          · intro w'
            go_simp
            with_reducible rfl
          rotate_left
          · simp only [Act.put, List.setIfInBounds_toArray, List.set_cons_zero, List.set_cons_succ, i64_w, i32_w]
            rfl
          refine one_ (i := 21) (N := some 63) #[true, true, true, true, true, true, true, true, true, true, true, true, true, true, true, true, true, true, true, true, true, true, false, false, false] rfl rfl (by kernel_rfl) (by decide) (fun K hK => ?_)
          refine goes_ Try.func45 (by kernel_rfl) rfl #[.slice none 0 0, .slice A2 l2.length c2] (by rfl) rfl rfl (by (try simp only [List.map_toArray, List.map_cons, List.map_nil]); first | done | rfl) ?_
          with_reducible refine (holds_nil _ _ l2 _ (Kd.C_below HR2.out hHeld.2.2.2.2.1.out) HC2.out).mono ?_
          rintro e w9 ⟨rfl, hb9⟩
          refine ⟨_, rfl, ?_⟩
          refine hK.out _ _ (hold4_next hHeld hb9) (fun hHeld => ?_)
          clear hK K
          refine norm_ (a' := ?_) ?_ ?_
          rotate_left
          · show Act.put _ (some 63) _ = _
            simp only [Act.put, List.setIfInBounds_toArray, List.set_cons_zero, List.set_cons_succ, i64_w, i32_w]
            rfl
          refine pure_ (i := 22) (N := some 64) (v := ?_) (a' := ?_) #[true, true, true, true, true, true, true, true, true, true, true, true, true, true, true, true, true, true, true, true, true, true, true, false, false] rfl rfl (by kernel_rfl) (fun _ _ _ h => h) (Or.inl ⟨by rfl, ?_⟩) ?_ ?_
          rotate_left
          · intro w'
            go_simp
            with_reducible rfl
          rotate_left
          · simp only [Act.put, List.setIfInBounds_toArray, List.set_cons_zero, List.set_cons_succ, i64_w, i32_w]
            rfl
          refine pure_ (i := 23) (N := some 65) (v := ?_) (a' := ?_) #[true, true, true, true, true, true, true, true, true, true, true, true, true, true, true, true, true, true, true, true, true, true, true, true, false] rfl rfl (by kernel_rfl) (fun _ _ _ h => h) (Or.inl ⟨by rfl, ?_⟩) ?_ ?_
          rotate_left
          · intro w'
            go_simp
            with_reducible rfl
          rotate_left
          · simp only [Act.put, List.setIfInBounds_toArray, List.set_cons_zero, List.set_cons_succ, i64_w, i32_w]
            rfl
          refine pure_ (i := 24) (N := some 6) (v := ?_) (a' := ?_) #[true, true, true, true, true, true, true, true, true, true, true, true, true, true, true, true, true, true, true, true, true, true, true, true, true] rfl rfl (by kernel_rfl) (fun _ _ _ h => h) (Or.inl ⟨by rfl, ?_⟩) ?_ ?_
          rotate_left
          · intro w'
            go_simp
            with_reducible rfl
          rotate_left
          · simp only [Act.put, List.setIfInBounds_toArray, List.set_cons_zero, List.set_cons_succ, i64_w, i32_w]
            rfl
          refine done_ (by kernel_rfl) ?_
          go_wp2
          go_ret
          exact ⟨rfl, hHeld.2.2.2.2.1.out⟩
      | false =>
          refine start_ (n := 25) (S := (fun w' => w'.cell? ⟨W.heap.size, 0, none⟩ = some (.int .i64 a0) ∧ w'.cell? ⟨W.heap.size, 1, none⟩ = some (.slice A0 l0.length c0) ∧ w'.cell? ⟨b, 0, none⟩ = some (.int .i64 a0) ∧ w'.cell? ⟨b, 1, none⟩ = some (.slice A10 ys.length c10) ∧ Aside0 (Below W.heap.size W w') ∧ Aside0 (GstT 24 w8 w' b a0 (.slice A10 ys.length c10) ys))) (ds := []) #[false, false, false, false, false, false, false, false, false, false, false, false, false, false, false, false, false, false, false, false, false, false, false, false, false] (by kernel_rfl) rfl rfl hold0 (fun hHeld => ?_)
          refine one_ (i := 0) (N := some 42) #[true, false, false, false, false, false, false, false, false, false, false, false, false, false, false, false, false, false, false, false, false, false, false, false, false] rfl rfl (by kernel_rfl) (by decide) (fun K hK => ?_)
          refine goes_ Try.func62 (by kernel_rfl) rfl #[] (by rfl) rfl rfl (by (try simp only [List.map_toArray, List.map_cons, List.map_nil]); first | done | rfl) ?_
          with_reducible refine (hoggetlaw10_clauses.calls kS true _ HS.out).mono ?_
          rintro e w9 ⟨rfl, hb9⟩
          refine ⟨_, rfl, ?_⟩
          refine hK.out _ _ (hold4_next hHeld hb9) (fun hHeld => ?_)
          clear hK K
          refine norm_ (a' := ?_) ?_ ?_
          rotate_left
          · show Act.put _ (some 42) _ = _
            simp only [Act.put, List.setIfInBounds_toArray, List.set_cons_zero, List.set_cons_succ, i64_w, i32_w]
            rfl
          refine pure_ (i := 1) (N := some 43) (v := ?_) (a' := ?_) #[true, true, false, false, false, false, false, false, false, false, false, false, false, false, false, false, false, false, false, false, false, false, false, false, false] rfl rfl (by kernel_rfl) (fun _ _ _ h => h) (Or.inl ⟨by rfl, ?_⟩) ?_ ?_
          rotate_left
          · intro w'
            go_simp
            with_reducible rfl
          rotate_left
          · simp only [Act.put, List.setIfInBounds_toArray, List.set_cons_zero, List.set_cons_succ, i64_w, i32_w]
            rfl
          refine pure_ (i := 2) (N := some 44) (v := ?_) (a' := ?_) #[true, true, true, false, false, false, false, false, false, false, false, false, false, false, false, false, false, false, false, false, false, false, false, false, false] rfl rfl (by kernel_rfl) (fun _ _ _ h => h) (Or.inl ⟨by rfl, ?_⟩) ?_ ?_
          rotate_left
          · intro w'
            go_simp
            with_reducible rfl
          rotate_left
          · simp only [Act.put, List.setIfInBounds_toArray, List.set_cons_zero, List.set_cons_succ, i64_w, i32_w]
            rfl
          refine pure_ (i := 3) (N := some 45) (v := ?_) (a' := ?_) #[true, true, true, true, false, false, false, false, false, false, false, false, false, false, false, false, false, false, false, false, false, false, false, false, false] rfl rfl (by kernel_rfl) (fun _ _ _ h => h) (Or.inl ⟨by rfl, ?_⟩) ?_ ?_
          rotate_left
          · intro w'
            go_simp
            with_reducible rfl
          rotate_left
          · simp only [Act.put, List.setIfInBounds_toArray, List.set_cons_zero, List.set_cons_succ, i64_w, i32_w]
            rfl
          refine pure_ (i := 4) (N := some 46) (v := ?_) (a' := ?_) #[true, true, true, true, true, false, false, false, false, false, false, false, false, false, false, false, false, false, false, false, false, false, false, false, false] rfl rfl (by kernel_rfl) (fun _ _ _ h => h) (Or.inl ⟨by rfl, ?_⟩) ?_ ?_
          rotate_left
          · intro w'
            go_simp
            with_reducible rfl
          rotate_left
          · simp only [Act.put, List.setIfInBounds_toArray, List.set_cons_zero, List.set_cons_succ, i64_w, i32_w]
            rfl
          refine pure_ (i := 6) (N := some 48) (v := ?_) (a' := ?_) #[true, true, true, true, true, false, true, false, false, false, false, false, false, false, false, false, false, false, false, false, false, false, false, false, false] rfl rfl (by kernel_rfl) (fun _ _ _ h => h) (Or.inl ⟨by rfl, ?_⟩) ?_ ?_
          rotate_left
          · intro w'
            go_simp
            with_reducible rfl
          rotate_left
          · simp only [Act.put, List.setIfInBounds_toArray, List.set_cons_zero, List.set_cons_succ, i64_w, i32_w]
            rfl
          refine pure_ (i := 9) (N := some 51) (v := ?_) (a' := ?_) #[true, true, true, true, true, false, true, false, false, true, false, false, false, false, false, false, false, false, false, false, false, false, false, false, false] rfl rfl (by kernel_rfl) (fun _ _ _ h => h) (Or.inl ⟨by rfl, ?_⟩) ?_ ?_
          rotate_left
          · intro w'
            go_simp
            with_reducible rfl
          rotate_left
          · simp only [Act.put, List.setIfInBounds_toArray, List.set_cons_zero, List.set_cons_succ, i64_w, i32_w]
            rfl
          refine take_ (i := 5) (N := some 47) (v := ?_) (a' := ?_) #[true, true, true, true, true, true, true, false, false, true, false, false, false, false, false, false, false, false, false, false, false, false, false, false, false] rfl rfl (by kernel_rfl) (fun _ _ _ h => h) (Or.inl ⟨by rfl, ?_⟩) hHeld ?_ ?_
          rotate_left
          · intro w'
            rintro ⟨s0, s1, s2, s3, s4, s5⟩
            go_simp
            with_reducible rfl
          rotate_left
          · simp only [Act.put, List.setIfInBounds_toArray, List.set_cons_zero, List.set_cons_succ, i64_w, i32_w]
            rfl
          refine take_ (i := 8) (N := some 50) (v := ?_) (a' := ?_) #[true, true, true, true, true, true, true, false, true, true, false, false, false, false, false, false, false, false, false, false, false, false, false, false, false] rfl rfl (by kernel_rfl) (fun _ _ _ h => h) (Or.inl ⟨by rfl, ?_⟩) hHeld ?_ ?_
          rotate_left
          · intro w'
            rintro ⟨s0, s1, s2, s3, s4, s5⟩
            go_simp
            with_reducible rfl
          rotate_left
          · simp only [Act.put, List.setIfInBounds_toArray, List.set_cons_zero, List.set_cons_succ, i64_w, i32_w]
            rfl
          refine one_ (i := 7) (N := some 49) #[true, true, true, true, true, true, true, true, true, true, false, false, false, false, false, false, false, false, false, false, false, false, false, false, false] rfl rfl (by kernel_rfl) (by decide) (fun K hK => ?_)
          refine goes_ Try.func43 (by kernel_rfl) rfl #[.agg #[.int .i64 a0, .slice A10 ys.length c10], .slice A2 l2.length c2] (by rfl) rfl rfl (by (try simp only [List.map_toArray, List.map_cons, List.map_nil]); first | done | rfl) ?_
          with_reducible refine (clause_Sat.calls a0 _ _ ys _ _ l2 _ _ (Kd.N_reads' hHeld.2.2.2.2.2.out.hn).2.2 (Kd.N_reads' hHeld.2.2.2.2.2.out.hn).2.1 (Kd.C_below HR2.out hHeld.2.2.2.2.1.out) HC2.out HSG.out).mono ?_
          rintro e w9 ⟨rfl, hb9⟩
          refine ⟨_, rfl, ?_⟩
          refine hK.out _ _ (hold4_next hHeld hb9) (fun hHeld => ?_)
          clear hK K
          refine norm_ (a' := ?_) ?_ ?_
          rotate_left
          · show Act.put _ (some 49) _ = _
            simp only [Act.put, List.setIfInBounds_toArray, List.set_cons_zero, List.set_cons_succ, i64_w, i32_w]
            rfl
          refine one_ (i := 10) (N := some 52) #[true, true, true, true, true, true, true, true, true, true, true, false, false, false, false, false, false, false, false, false, false, false, false, false, false] rfl rfl (by kernel_rfl) (by decide) (fun K hK => ?_)
          refine goes_ Try.func43 (by kernel_rfl) rfl #[.agg #[.int .i64 a0, .slice A0 l0.length c0], .slice A2 l2.length c2] (by rfl) rfl rfl (by (try simp only [List.map_toArray, List.map_cons, List.map_nil]); first | done | rfl) ?_
          with_reducible refine (clause_Sat.calls a0 _ _ l0 _ _ l2 false _ (Kd.C_below HR.out hHeld.2.2.2.2.1.out) HC.out (Kd.C_below HR2.out hHeld.2.2.2.2.1.out) HC2.out HSF.out).mono ?_
          rintro e w9 ⟨rfl, hb9⟩
          refine ⟨_, rfl, ?_⟩
          refine hK.out _ _ (hold4_next hHeld hb9) (fun hHeld => ?_)
          clear hK K
          refine norm_ (a' := ?_) ?_ ?_
          rotate_left
          · show Act.put _ (some 52) _ = _
            simp only [Act.put, List.setIfInBounds_toArray, List.set_cons_zero, List.set_cons_succ, i64_w, i32_w]
            rfl
          refine pure_ (i := 11) (N := some 53) (v := ?_) (a' := ?_) #[true, true, true, true, true, true, true, true, true, true, true, true, false, false, false, false, false, false, false, false, false, false, false, false, false] rfl rfl (by kernel_rfl) (fun _ _ _ h => h) (Or.inl ⟨by rfl, ?_⟩) ?_ ?_
          rotate_left
          · intro w'
            go_simp
            with_reducible rfl
          rotate_left
          · simp only [Act.put, List.setIfInBounds_toArray, List.set_cons_zero, List.set_cons_succ, i64_w, i32_w]
            rfl
          refine pure_ (i := 12) (N := some 54) (v := undef) (a' := ?_) #[true, true, true, true, true, true, true, true, true, true, true, true, true, false, false, false, false, false, false, false, false, false, false, false, false] rfl rfl (by kernel_rfl) (fun _ _ _ h => h) (Or.inr ⟨by rfl, rfl⟩) ?_ ?_
          rotate_left
          · simp only [Act.put, List.setIfInBounds_toArray, List.set_cons_zero, List.set_cons_succ, i64_w, i32_w]
            rfl
          refine pure_ (i := 13) (N := some 55) (v := undef) (a' := ?_) #[true, true, true, true, true, true, true, true, true, true, true, true, true, true, false, false, false, false, false, false, false, false, false, false, false] rfl rfl (by kernel_rfl) (fun _ _ _ h => h) (Or.inr ⟨by rfl, rfl⟩) ?_ ?_
          rotate_left
          · simp only [Act.put, List.setIfInBounds_toArray, List.set_cons_zero, List.set_cons_succ, i64_w, i32_w]
            rfl
          refine pure_ (i := 14) (N := some 56) (v := undef) (a' := ?_) #[true, true, true, true, true, true, true, true, true, true, true, true, true, true, true, false, false, false, false, false, false, false, false, false, false] rfl rfl (by kernel_rfl) (fun _ _ _ h => h) (Or.inr ⟨by rfl, rfl⟩) ?_ ?_
          rotate_left
          · simp only [Act.put, List.setIfInBounds_toArray, List.set_cons_zero, List.set_cons_succ, i64_w, i32_w]
            rfl
          refine pure_ (i := 15) (N := some 57) (v := ?_) (a' := ?_) #[true, true, true, true, true, true, true, true, true, true, true, true, true, true, true, true, false, false, false, false, false, false, false, false, false] rfl rfl (by kernel_rfl) (fun _ _ _ h => h) (Or.inl ⟨by rfl, ?_⟩) ?_ ?_
          rotate_left
          · intro w'
            go_simp
            with_reducible rfl
          rotate_left
          · simp only [Act.put, List.setIfInBounds_toArray, List.set_cons_zero, List.set_cons_succ, i64_w, i32_w]
            rfl
          refine pure_ (i := 16) (N := some 58) (v := ?_) (a' := ?_) #[true, true, true, true, true, true, true, true, true, true, true, true, true, true, true, true, true, false, false, false, false, false, false, false, false] rfl rfl (by kernel_rfl) (fun _ _ _ h => h) (Or.inl ⟨by rfl, ?_⟩) ?_ ?_
          rotate_left
          · intro w'
            go_simp
            with_reducible rfl
          rotate_left
          · simp only [Act.put, List.setIfInBounds_toArray, List.set_cons_zero, List.set_cons_succ, i64_w, i32_w]
            rfl
          refine pure_ (i := 17) (N := some 59) (v := ?_) (a' := ?_) #[true, true, true, true, true, true, true, true, true, true, true, true, true, true, true, true, true, true, false, false, false, false, false, false, false] rfl rfl (by kernel_rfl) (fun _ _ _ h => h) (Or.inl ⟨by rfl, ?_⟩) ?_ ?_
          rotate_left
          · intro w'
            go_simp
            with_reducible rfl
          rotate_left
          · simp only [Act.put, List.setIfInBounds_toArray, List.set_cons_zero, List.set_cons_succ, i64_w, i32_w]
            rfl
          refine pure_ (i := 18) (N := some 60) (v := ?_) (a' := ?_) #[true, true, true, true, true, true, true, true, true, true, true, true, true, true, true, true, true, true, true, false, false, false, false, false, false] rfl rfl (by kernel_rfl) (fun _ _ _ h => h) (Or.inl ⟨by rfl, ?_⟩) ?_ ?_
          rotate_left
          · intro w'
            go_simp
            with_reducible rfl
          rotate_left
          · simp only [Act.put, List.setIfInBounds_toArray, List.set_cons_zero, List.set_cons_succ, i64_w, i32_w]
            rfl
          refine pure_ (i := 19) (N := some 61) (v := ?_) (a' := ?_) #[true, true, true, true, true, true, true, true, true, true, true, true, true, true, true, true, true, true, true, true, false, false, false, false, false] rfl rfl (by kernel_rfl) (fun _ _ _ h => h) (Or.inl ⟨by rfl, ?_⟩) ?_ ?_
          rotate_left
          · intro w'
            go_simp
            with_reducible rfl
          rotate_left
          · simp only [Act.put, List.setIfInBounds_toArray, List.set_cons_zero, List.set_cons_succ, i64_w, i32_w]
            rfl
          refine pure_ (i := 20) (N := some 62) (v := ?_) (a' := ?_) #[true, true, true, true, true, true, true, true, true, true, true, true, true, true, true, true, true, true, true, true, true, false, false, false, false] rfl rfl (by kernel_rfl) (fun _ _ _ h => h) (Or.inl ⟨by rfl, ?_⟩) ?_ ?_
          rotate_left
          · intro w'
            go_simp
            with_reducible rfl
          rotate_left
          · simp only [Act.put, List.setIfInBounds_toArray, List.set_cons_zero, List.set_cons_succ, i64_w, i32_w]
            rfl
          refine one_ (i := 21) (N := some 63) #[true, true, true, true, true, true, true, true, true, true, true, true, true, true, true, true, true, true, true, true, true, true, false, false, false] rfl rfl (by kernel_rfl) (by decide) (fun K hK => ?_)
          refine goes_ Try.func45 (by kernel_rfl) rfl #[.slice none 0 0, .slice A2 l2.length c2] (by rfl) rfl rfl (by (try simp only [List.map_toArray, List.map_cons, List.map_nil]); first | done | rfl) ?_
          with_reducible refine (holds_nil _ _ l2 _ (Kd.C_below HR2.out hHeld.2.2.2.2.1.out) HC2.out).mono ?_
          rintro e w9 ⟨rfl, hb9⟩
          refine ⟨_, rfl, ?_⟩
          refine hK.out _ _ (hold4_next hHeld hb9) (fun hHeld => ?_)
          clear hK K
          refine norm_ (a' := ?_) ?_ ?_
          rotate_left
          · show Act.put _ (some 63) _ = _
            simp only [Act.put, List.setIfInBounds_toArray, List.set_cons_zero, List.set_cons_succ, i64_w, i32_w]
            rfl
          refine pure_ (i := 22) (N := some 64) (v := ?_) (a' := ?_) #[true, true, true, true, true, true, true, true, true, true, true, true, true, true, true, true, true, true, true, true, true, true, true, false, false] rfl rfl (by kernel_rfl) (fun _ _ _ h => h) (Or.inl ⟨by rfl, ?_⟩) ?_ ?_
          rotate_left
          · intro w'
            go_simp
            with_reducible rfl
          rotate_left
          · simp only [Act.put, List.setIfInBounds_toArray, List.set_cons_zero, List.set_cons_succ, i64_w, i32_w]
            rfl
          refine pure_ (i := 23) (N := some 65) (v := ?_) (a' := ?_) #[true, true, true, true, true, true, true, true, true, true, true, true, true, true, true, true, true, true, true, true, true, true, true, true, false] rfl rfl (by kernel_rfl) (fun _ _ _ h => h) (Or.inl ⟨by rfl, ?_⟩) ?_ ?_
          rotate_left
          · intro w'
            go_simp
            with_reducible rfl
          rotate_left
          · simp only [Act.put, List.setIfInBounds_toArray, List.set_cons_zero, List.set_cons_succ, i64_w, i32_w]
            rfl
          refine pure_ (i := 24) (N := some 6) (v := ?_) (a' := ?_) #[true, true, true, true, true, true, true, true, true, true, true, true, true, true, true, true, true, true, true, true, true, true, true, true, true] rfl rfl (by kernel_rfl) (fun _ _ _ h => h) (Or.inl ⟨by rfl, ?_⟩) ?_ ?_
          rotate_left
          · intro w'
            go_simp
            with_reducible rfl
          rotate_left
          · simp only [Act.put, List.setIfInBounds_toArray, List.set_cons_zero, List.set_cons_succ, i64_w, i32_w]
            rfl
          refine done_ (by kernel_rfl) ?_
          go_wp2
          go_ret
          exact ⟨rfl, hHeld.2.2.2.2.1.out⟩
    · have hco1 : (co == 0) = false := beq_eq_false_iff_ne.2 hco0
      clear hlaw hco0
      refine start_ (n := 25) (S := (fun w' => w'.cell? ⟨W.heap.size, 0, none⟩ = some (.int .i64 a0) ∧ w'.cell? ⟨W.heap.size, 1, none⟩ = some (.slice A0 l0.length c0) ∧ w'.cell? ⟨b, 0, none⟩ = some (.int .i64 a0) ∧ w'.cell? ⟨b, 1, none⟩ = some (.slice A10 ys.length c10) ∧ Aside0 (Below W.heap.size W w') ∧ Aside0 (GstT 24 w8 w' b a0 (.slice A10 ys.length c10) ys))) (ds := []) #[false, false, false, false, false, false, false, false, false, false, false, false, false, false, false, false, false, false, false, false, false, false, false, false, false] (by kernel_rfl) rfl rfl hold0 (fun hHeld => ?_)
      refine one_ (i := 0) (N := some 42) #[true, false, false, false, false, false, false, false, false, false, false, false, false, false, false, false, false, false, false, false, false, false, false, false, false] rfl rfl (by kernel_rfl) (by decide) (fun K hK => ?_)
      refine goes_ Try.func62 (by kernel_rfl) rfl #[] (by rfl) rfl rfl (by (try simp only [List.map_toArray, List.map_cons, List.map_nil]); first | done | rfl) ?_
      with_reducible refine (hoggetlaw10_clauses.calls kS true _ HS.out).mono ?_
      rintro e w9 ⟨rfl, hb9⟩
      refine ⟨_, rfl, ?_⟩
      refine hK.out _ _ (hold4_next hHeld hb9) (fun hHeld => ?_)
      clear hK K
      refine norm_ (a' := ?_) ?_ ?_
      rotate_left
      · show Act.put _ (some 42) _ = _
        simp only [Act.put, List.setIfInBounds_toArray, List.set_cons_zero, List.set_cons_succ, i64_w, i32_w]
        rfl
      refine pure_ (i := 1) (N := some 43) (v := ?_) (a' := ?_) #[true, true, false, false, false, false, false, false, false, false, false, false, false, false, false, false, false, false, false, false, false, false, false, false, false] rfl rfl (by kernel_rfl) (fun _ _ _ h => h) (Or.inl ⟨by rfl, ?_⟩) ?_ ?_
      rotate_left
      · intro w'
        go_simp
        with_reducible rfl
      rotate_left
      · simp only [Act.put, List.setIfInBounds_toArray, List.set_cons_zero, List.set_cons_succ, i64_w, i32_w]
        rfl
      refine pure_ (i := 2) (N := some 44) (v := ?_) (a' := ?_) #[true, true, true, false, false, false, false, false, false, false, false, false, false, false, false, false, false, false, false, false, false, false, false, false, false] rfl rfl (by kernel_rfl) (fun _ _ _ h => h) (Or.inl ⟨by rfl, ?_⟩) ?_ ?_
      rotate_left
      · intro w'
        go_simp
        with_reducible rfl
      rotate_left
      · simp only [Act.put, List.setIfInBounds_toArray, List.set_cons_zero, List.set_cons_succ, i64_w, i32_w]
        rfl
      refine pure_ (i := 3) (N := some 45) (v := ?_) (a' := ?_) #[true, true, true, true, false, false, false, false, false, false, false, false, false, false, false, false, false, false, false, false, false, false, false, false, false] rfl rfl (by kernel_rfl) (fun _ _ _ h => h) (Or.inl ⟨by rfl, ?_⟩) ?_ ?_
      rotate_left
      · intro w'
        go_simp
        with_reducible rfl
      rotate_left
      · simp only [Act.put, List.setIfInBounds_toArray, List.set_cons_zero, List.set_cons_succ, i64_w, i32_w]
        rfl
      refine pure_ (i := 4) (N := some 46) (v := ?_) (a' := ?_) #[true, true, true, true, true, false, false, false, false, false, false, false, false, false, false, false, false, false, false, false, false, false, false, false, false] rfl rfl (by kernel_rfl) (fun _ _ _ h => h) (Or.inl ⟨by rfl, ?_⟩) ?_ ?_
      rotate_left
      · intro w'
        go_simp
        with_reducible rfl
      rotate_left
      · simp only [Act.put, List.setIfInBounds_toArray, List.set_cons_zero, List.set_cons_succ, i64_w, i32_w]
        rfl
      refine pure_ (i := 5) (N := some 47) (v := undef) (a' := ?_) #[true, true, true, true, true, true, false, false, false, false, false, false, false, false, false, false, false, false, false, false, false, false, false, false, false] rfl rfl (by kernel_rfl) (fun _ _ _ h => h) (Or.inr ⟨by rfl, rfl⟩) ?_ ?_
      rotate_left
      · simp only [Act.put, List.setIfInBounds_toArray, List.set_cons_zero, List.set_cons_succ, i64_w, i32_w]
        rfl
      refine pure_ (i := 6) (N := some 48) (v := undef) (a' := ?_) #[true, true, true, true, true, true, true, false, false, false, false, false, false, false, false, false, false, false, false, false, false, false, false, false, false] rfl rfl (by kernel_rfl) (fun _ _ _ h => h) (Or.inr ⟨by rfl, rfl⟩) ?_ ?_
      rotate_left
      · simp only [Act.put, List.setIfInBounds_toArray, List.set_cons_zero, List.set_cons_succ, i64_w, i32_w]
        rfl
      refine pure_ (i := 7) (N := some 49) (v := undef) (a' := ?_) #[true, true, true, true, true, true, true, true, false, false, false, false, false, false, false, false, false, false, false, false, false, false, false, false, false] rfl rfl (by kernel_rfl) (fun _ _ _ h => h) (Or.inr ⟨by rfl, rfl⟩) ?_ ?_
      rotate_left
      · simp only [Act.put, List.setIfInBounds_toArray, List.set_cons_zero, List.set_cons_succ, i64_w, i32_w]
        rfl
      refine pure_ (i := 8) (N := some 50) (v := undef) (a' := ?_) #[true, true, true, true, true, true, true, true, true, false, false, false, false, false, false, false, false, false, false, false, false, false, false, false, false] rfl rfl (by kernel_rfl) (fun _ _ _ h => h) (Or.inr ⟨by rfl, rfl⟩) ?_ ?_
      rotate_left
      · simp only [Act.put, List.setIfInBounds_toArray, List.set_cons_zero, List.set_cons_succ, i64_w, i32_w]
        rfl
      refine pure_ (i := 9) (N := some 51) (v := undef) (a' := ?_) #[true, true, true, true, true, true, true, true, true, true, false, false, false, false, false, false, false, false, false, false, false, false, false, false, false] rfl rfl (by kernel_rfl) (fun _ _ _ h => h) (Or.inr ⟨by rfl, rfl⟩) ?_ ?_
      rotate_left
      · simp only [Act.put, List.setIfInBounds_toArray, List.set_cons_zero, List.set_cons_succ, i64_w, i32_w]
        rfl
      refine pure_ (i := 10) (N := some 52) (v := undef) (a' := ?_) #[true, true, true, true, true, true, true, true, true, true, true, false, false, false, false, false, false, false, false, false, false, false, false, false, false] rfl rfl (by kernel_rfl) (fun _ _ _ h => h) (Or.inr ⟨by rfl, rfl⟩) ?_ ?_
      rotate_left
      · simp only [Act.put, List.setIfInBounds_toArray, List.set_cons_zero, List.set_cons_succ, i64_w, i32_w]
        rfl
      refine pure_ (i := 11) (N := some 53) (v := undef) (a' := ?_) #[true, true, true, true, true, true, true, true, true, true, true, true, false, false, false, false, false, false, false, false, false, false, false, false, false] rfl rfl (by kernel_rfl) (fun _ _ _ h => h) (Or.inr ⟨by rfl, rfl⟩) ?_ ?_
      rotate_left
      · simp only [Act.put, List.setIfInBounds_toArray, List.set_cons_zero, List.set_cons_succ, i64_w, i32_w]
        rfl
      refine pure_ (i := 12) (N := some 54) (v := undef) (a' := ?_) #[true, true, true, true, true, true, true, true, true, true, true, true, true, false, false, false, false, false, false, false, false, false, false, false, false] rfl rfl (by kernel_rfl) (fun _ _ _ h => h) (Or.inr ⟨by rfl, rfl⟩) ?_ ?_
      rotate_left
      · simp only [Act.put, List.setIfInBounds_toArray, List.set_cons_zero, List.set_cons_succ, i64_w, i32_w]
        rfl
      refine pure_ (i := 13) (N := some 55) (v := undef) (a' := ?_) #[true, true, true, true, true, true, true, true, true, true, true, true, true, true, false, false, false, false, false, false, false, false, false, false, false] rfl rfl (by kernel_rfl) (fun _ _ _ h => h) (Or.inr ⟨by rfl, rfl⟩) ?_ ?_
      rotate_left
      · simp only [Act.put, List.setIfInBounds_toArray, List.set_cons_zero, List.set_cons_succ, i64_w, i32_w]
        rfl
      refine pure_ (i := 14) (N := some 56) (v := undef) (a' := ?_) #[true, true, true, true, true, true, true, true, true, true, true, true, true, true, true, false, false, false, false, false, false, false, false, false, false] rfl rfl (by kernel_rfl) (fun _ _ _ h => h) (Or.inr ⟨by rfl, rfl⟩) ?_ ?_
      rotate_left
      · simp only [Act.put, List.setIfInBounds_toArray, List.set_cons_zero, List.set_cons_succ, i64_w, i32_w]
        rfl
      refine pure_ (i := 15) (N := some 57) (v := undef) (a' := ?_) #[true, true, true, true, true, true, true, true, true, true, true, true, true, true, true, true, false, false, false, false, false, false, false, false, false] rfl rfl (by kernel_rfl) (fun _ _ _ h => h) (Or.inr ⟨by rfl, rfl⟩) ?_ ?_
      rotate_left
      · simp only [Act.put, List.setIfInBounds_toArray, List.set_cons_zero, List.set_cons_succ, i64_w, i32_w]
        rfl
      refine pure_ (i := 16) (N := some 58) (v := undef) (a' := ?_) #[true, true, true, true, true, true, true, true, true, true, true, true, true, true, true, true, true, false, false, false, false, false, false, false, false] rfl rfl (by kernel_rfl) (fun _ _ _ h => h) (Or.inr ⟨by rfl, rfl⟩) ?_ ?_
      rotate_left
      · simp only [Act.put, List.setIfInBounds_toArray, List.set_cons_zero, List.set_cons_succ, i64_w, i32_w]
        rfl
      refine pure_ (i := 17) (N := some 59) (v := ?_) (a' := ?_) #[true, true, true, true, true, true, true, true, true, true, true, true, true, true, true, true, true, true, false, false, false, false, false, false, false] rfl rfl (by kernel_rfl) (fun _ _ _ h => h) (Or.inl ⟨by rfl, ?_⟩) ?_ ?_
      rotate_left
      · intro w'
        go_simp
        with_reducible rfl
      rotate_left
      · simp only [Act.put, List.setIfInBounds_toArray, List.set_cons_zero, List.set_cons_succ, i64_w, i32_w]
        rfl
      refine pure_ (i := 18) (N := some 60) (v := ?_) (a' := ?_) #[true, true, true, true, true, true, true, true, true, true, true, true, true, true, true, true, true, true, true, false, false, false, false, false, false] rfl rfl (by kernel_rfl) (fun _ _ _ h => h) (Or.inl ⟨by rfl, ?_⟩) ?_ ?_
      rotate_left
      · intro w'
        go_simp
        with_reducible rfl
      rotate_left
      · simp only [Act.put, List.setIfInBounds_toArray, List.set_cons_zero, List.set_cons_succ, i64_w, i32_w]
        rfl
      refine pure_ (i := 19) (N := some 61) (v := ?_) (a' := ?_) #[true, true, true, true, true, true, true, true, true, true, true, true, true, true, true, true, true, true, true, true, false, false, false, false, false] rfl rfl (by kernel_rfl) (fun _ _ _ h => h) (Or.inl ⟨by rfl, ?_⟩) ?_ ?_
      rotate_left
      · intro w'
        go_simp
        with_reducible rfl
      rotate_left
      · simp only [Act.put, List.setIfInBounds_toArray, List.set_cons_zero, List.set_cons_succ, i64_w, i32_w]
        rfl
      refine pure_ (i := 20) (N := some 62) (v := ?_) (a' := ?_) #[true, true, true, true, true, true, true, true, true, true, true, true, true, true, true, true, true, true, true, true, true, false, false, false, false] rfl rfl (by kernel_rfl) (fun _ _ _ h => h) (Or.inl ⟨by rfl, ?_⟩) ?_ ?_
      rotate_left
      · intro w'
        go_simp
        with_reducible rfl
      rotate_left
      · simp only [Act.put, List.setIfInBounds_toArray, List.set_cons_zero, List.set_cons_succ, i64_w, i32_w]
        rfl
      refine one_ (i := 21) (N := some 63) #[true, true, true, true, true, true, true, true, true, true, true, true, true, true, true, true, true, true, true, true, true, true, false, false, false] rfl rfl (by kernel_rfl) (by decide) (fun K hK => ?_)
      refine goes_ Try.func45 (by kernel_rfl) rfl #[.slice none 0 0, .slice A2 l2.length c2] (by rfl) rfl rfl (by (try simp only [List.map_toArray, List.map_cons, List.map_nil]); first | done | rfl) ?_
      with_reducible refine (holds_nil _ _ l2 _ (Kd.C_below HR2.out hHeld.2.2.2.2.1.out) HC2.out).mono ?_
      rintro e w9 ⟨rfl, hb9⟩
      refine ⟨_, rfl, ?_⟩
      refine hK.out _ _ (hold4_next hHeld hb9) (fun hHeld => ?_)
      clear hK K
      refine norm_ (a' := ?_) ?_ ?_
      rotate_left
      · show Act.put _ (some 63) _ = _
        simp only [Act.put, List.setIfInBounds_toArray, List.set_cons_zero, List.set_cons_succ, i64_w, i32_w]
        rfl
      refine pure_ (i := 22) (N := some 64) (v := ?_) (a' := ?_) #[true, true, true, true, true, true, true, true, true, true, true, true, true, true, true, true, true, true, true, true, true, true, true, false, false] rfl rfl (by kernel_rfl) (fun _ _ _ h => h) (Or.inl ⟨by rfl, ?_⟩) ?_ ?_
      rotate_left
      · intro w'
        go_simp
        with_reducible rfl
      rotate_left
      · simp only [Act.put, List.setIfInBounds_toArray, List.set_cons_zero, List.set_cons_succ, i64_w, i32_w]
        rfl
      refine pure_ (i := 23) (N := some 65) (v := ?_) (a' := ?_) #[true, true, true, true, true, true, true, true, true, true, true, true, true, true, true, true, true, true, true, true, true, true, true, true, false] rfl rfl (by kernel_rfl) (fun _ _ _ h => h) (Or.inl ⟨by rfl, ?_⟩) ?_ ?_
      rotate_left
      · intro w'
        go_simp
        with_reducible rfl
      rotate_left
      · simp only [Act.put, List.setIfInBounds_toArray, List.set_cons_zero, List.set_cons_succ, i64_w, i32_w]
        rfl
      refine pure_ (i := 24) (N := some 6) (v := ?_) (a' := ?_) #[true, true, true, true, true, true, true, true, true, true, true, true, true, true, true, true, true, true, true, true, true, true, true, true, true] rfl rfl (by kernel_rfl) (fun _ _ _ h => h) (Or.inl ⟨by rfl, ?_⟩) ?_ ?_
      rotate_left
      · intro w'
        go_simp
        with_reducible rfl
      rotate_left
      · simp only [Act.put, List.setIfInBounds_toArray, List.set_cons_zero, List.set_cons_succ, i64_w, i32_w]
        rfl
      refine done_ (by kernel_rfl) ?_
      go_wp2
      go_ret
      exact ⟨rfl, hHeld.2.2.2.2.1.out⟩
end Go.Proofs.Ythnbmlpjbhhamaa.J
