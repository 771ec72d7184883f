/- ProofMore: it is true. -/
import Derived.Test.YthnbmlpjbhhamaaP3
import Derived.Test.YthnbmlpjbhhamaaPt
import Derived.Test.YthnbmlpjbhhamaaHg
namespace Go.Proofs.Ythnbmlpjbhhamaa.J
open Go.RowKit Go.Shelf Go.Proofs.YthnbmlpjbhhamaaW.PrintWords Go.Proofs.YthnbmlpjbhhamaaW.PrintLast Go.Proofs.YthnbmlpjbhhamaaW.PrintMore
set_option linter.unusedVariables false
set_option linter.unusedSimpArgs false

theorem hold_next {w w' W0 W8 : World} {p1 p2 p3 p4 p5 : Addr} {v1 v2 v3 v4 v5 gv : Value} {T : TypeId} {b : Nat} {a0 : Int} {ys : List (List Int)}
    (h : w.cell? p1 = some v1 ∧ w.cell? p2 = some v2 ∧ w.cell? p3 = some v3 ∧ w.cell? p4 = some v4 ∧ w.cell? p5 = some v5 ∧ Aside0 (Below W0.heap.size W0 w) ∧ Aside0 (GstT T W8 w b a0 gv ys)) (hb : Below w.heap.size w w') :
    w'.cell? p1 = some v1 ∧ w'.cell? p2 = some v2 ∧ w'.cell? p3 = some v3 ∧ w'.cell? p4 = some v4 ∧ w'.cell? p5 = some v5 ∧ Aside0 (Below W0.heap.size W0 w') ∧ Aside0 (GstT T W8 w' b a0 gv ys) := by
  obtain ⟨h1, h2, h3, h4, h5, h6, h7⟩ := h
  exact ⟨pw_cell_below hb h1, pw_cell_below hb h2, pw_cell_below hb h3, pw_cell_below hb h4, pw_cell_below hb h5, ⟨below_step h6.out hb⟩, ⟨h7.out.below hb⟩⟩
theorem grown_none {w w' : World} (h : w.grownBy w' none) : Below w.heap.size w w' :=
  ⟨h.os, h.tape, h.output, h.size, fun k hk => h.block k hk (by simp)⟩
set_option maxHeartbeats 4000000 in
set_option maxRecDepth 100000 in
theorem ProofMore_walk {W : World} (a0 : Int) (A0 : Option Addr) (c0 : Nat) (l0 : List (List Int)) (hr0 : Kd.C (Kd.slice 3 (Kd.int .i64)) W A0 l0.length l0) (hc0 : l0.length ≤ c0) (w0 : (Lit.int .i64 a0).wf = true) (wl0 : ∀ c ∈ l0, ∀ n ∈ c, (Lit.int .i64 n).wf = true)
    (A1 : Option Addr) (c1 : Nat) (l1 : List Int) (hr1 : Kd.C (Kd.int .i64) W A1 l1.length l1) (hc1 : l1.length ≤ c1) (wl1 : ∀ n ∈ l1, (Lit.int .i64 n).wf = true)
    (A2 : Option Addr) (c2 : Nat) (l2 : List Int) (hr2 : Kd.C (Kd.int .i64) W A2 l2.length l2) (hc2 : l2.length ≤ c2) (wl2 : ∀ n ∈ l2, (Lit.int .i64 n).wf = true) (a3 : Int) (w3 : (Lit.int .i64 a3).wf = true) :
    Calls Try.prog 10 #[.agg #[.int .i64 a0, .slice A0 l0.length c0], .slice A1 l1.length c1, .slice A2 l2.length c2, .int .i64 a3] W fun e w' => e = .returned (.bool true) ∧ Below W.heap.size W w' := by
  obtain ⟨kL, hkL⟩ := (large13_ev a0 l0 [l1, l2]).rounds
  have HKL := Aside0.mk hkL
  have HR := Aside0.mk hr0
  have HR1 := Aside0.mk hr1
  have HR2 := Aside0.mk hr2
  have HC := Aside0.mk hc0
  have HC1 := Aside0.mk hc1
  have HC2 := Aside0.mk hc2
  obtain ⟨W0, hW0, hb0, hs0, hw0⟩ := boxed_formula W a0 A0 c0 l0.length
  have HB0 := Aside0.mk hb0
  have HW := Aside0.mk hw0
  have q1 : W0.cell? ⟨W.heap.size, 0, none⟩ = some (.int .i64 a0) := (hw0 W0 (Below.refl _ _)).2.1
  have q2 : W0.cell? ⟨W.heap.size, 1, none⟩ = some (.slice A0 l0.length c0) := (hw0 W0 (Below.refl _ _)).2.2
  obtain ⟨rl, hrl⟩ : ∃ rl, large13 l0 [l1, l2] = rl := ⟨_, rfl⟩
  rw [hrl] at HKL
  clear hkL hr0 hr1 hr2 hc0 hc1 hc2 hb0 hw0 hs0 w0 wl0 wl1 wl2 w3
  cases rl with
  | true =>
    go_enter Try.func10, Try.ntmps10
    go_upto_region 1 with (fail)
    rw [← hW0]
    clear hW0 hrl
    go_wp2_with (first | ((with_reducible refine gate_dst (N := 13) rfl ?_); refine Kd.N_lit (Kd.slice 3 (Kd.int .i64)) (w0 := W) W.heap.size 25 ?hg (N' := 13) ?hd (xs := [l1, l2]) (inner := [.slice A1 l1.length c1, .slice A2 l2.length c2]) (ok := fun _ => True) (okp := fun k => k < W.heap.size) ?hr ?hp (fun _ _ => trivial) trivial HB0.out HB0.out.size (by simp) ?_; (case hd => rfl); (case hg => rfl); (case hr => first | (go_simp; done) | (go_simp; rfl)); (case hp => exact Reps.one (shared_row HC1.out HR1.out HB0.out) (Reps.one (shared_row HC2.out HR2.out HB0.out) (Reps.none _ _))); intro v5 w5 hn5 hb5 hg5 hat5; obtain ⟨A5, c5, rfl⟩ := Kd.N_slice hn5; have HN5 := Aside0.mk (Kd.N_reads' hn5).2; have HB5 := Aside0.mk hb5; have HB05 := Aside0.mk (grown_none hg5); clear hn5 hb5 hg5 hat5) | (go_at_call 46; refine (hoggetlaw13_large.calls kL a0 _ _ l0 _ _ [l1, l2] _ _ (Kd.C_below HR.out HB5.out) HC.out HN5.out.2 HN5.out.1 HKL.out).mono ?_; rintro e w7 ⟨rfl, hb7⟩; have HB7 := Aside0.mk (below_step HB5.out hb7); have HB07 := Aside0.mk (below_step HB05.out hb7); obtain ⟨_, q71, q72⟩ := HW.out _ HB07.out; clear hb7))
    go_ret
    exact ⟨rfl, HB7.out⟩
  | false =>
    obtain ⟨b1, b2, b3, b4⟩ := large13_bounds hrl
    clear hrl
    by_cases hn : a3 < 0
    · go_enter Try.func10, Try.ntmps10
      go_upto_region 1 with (fail)
      rw [← hW0]
      clear hW0 b1 b2 b3 b4
      go_wp2_with (first | ((with_reducible refine gate_dst (N := 13) rfl ?_); refine Kd.N_lit (Kd.slice 3 (Kd.int .i64)) (w0 := W) W.heap.size 25 ?hg (N' := 13) ?hd (xs := [l1, l2]) (inner := [.slice A1 l1.length c1, .slice A2 l2.length c2]) (ok := fun _ => True) (okp := fun k => k < W.heap.size) ?hr ?hp (fun _ _ => trivial) trivial HB0.out HB0.out.size (by simp) ?_; (case hd => rfl); (case hg => rfl); (case hr => first | (go_simp; done) | (go_simp; rfl)); (case hp => exact Reps.one (shared_row HC1.out HR1.out HB0.out) (Reps.one (shared_row HC2.out HR2.out HB0.out) (Reps.none _ _))); intro v5 w5 hn5 hb5 hg5 hat5; obtain ⟨A5, c5, rfl⟩ := Kd.N_slice hn5; have HN5 := Aside0.mk (Kd.N_reads' hn5).2; have HB5 := Aside0.mk hb5; have HB05 := Aside0.mk (grown_none hg5); clear hn5 hb5 hg5 hat5) | (go_at_call 46; refine (hoggetlaw13_large.calls kL a0 _ _ l0 _ _ [l1, l2] _ _ (Kd.C_below HR.out HB5.out) HC.out HN5.out.2 HN5.out.1 HKL.out).mono ?_; rintro e w7 ⟨rfl, hb7⟩; have HB7 := Aside0.mk (below_step HB5.out hb7); have HB07 := Aside0.mk (below_step HB05.out hb7); obtain ⟨_, q71, q72⟩ := HW.out _ HB07.out; clear hb7))
      go_ret
      exact ⟨rfl, HB7.out⟩
    by_cases hn2 : (l0.length : Int) ≤ a3
    · go_enter Try.func10, Try.ntmps10
      go_upto_region 1 with (fail)
      rw [← hW0]
      clear hW0 b1 b2 b3 b4
      go_wp2_with (first | ((with_reducible refine gate_dst (N := 13) rfl ?_); refine Kd.N_lit (Kd.slice 3 (Kd.int .i64)) (w0 := W) W.heap.size 25 ?hg (N' := 13) ?hd (xs := [l1, l2]) (inner := [.slice A1 l1.length c1, .slice A2 l2.length c2]) (ok := fun _ => True) (okp := fun k => k < W.heap.size) ?hr ?hp (fun _ _ => trivial) trivial HB0.out HB0.out.size (by simp) ?_; (case hd => rfl); (case hg => rfl); (case hr => first | (go_simp; done) | (go_simp; rfl)); (case hp => exact Reps.one (shared_row HC1.out HR1.out HB0.out) (Reps.one (shared_row HC2.out HR2.out HB0.out) (Reps.none _ _))); intro v5 w5 hn5 hb5 hg5 hat5; obtain ⟨A5, c5, rfl⟩ := Kd.N_slice hn5; have HN5 := Aside0.mk (Kd.N_reads' hn5).2; have HB5 := Aside0.mk hb5; have HB05 := Aside0.mk (grown_none hg5); clear hn5 hb5 hg5 hat5) | (go_at_call 46; refine (hoggetlaw13_large.calls kL a0 _ _ l0 _ _ [l1, l2] _ _ (Kd.C_below HR.out HB5.out) HC.out HN5.out.2 HN5.out.1 HKL.out).mono ?_; rintro e w7 ⟨rfl, hb7⟩; have HB7 := Aside0.mk (below_step HB5.out hb7); have HB07 := Aside0.mk (below_step HB05.out hb7); obtain ⟨_, q71, q72⟩ := HW.out _ HB07.out; clear hb7))
      go_ret
      exact ⟨rfl, HB7.out⟩
    obtain ⟨ck, hck⟩ : ∃ ck, Sp.check a0 l0 = ck := ⟨_, rfl⟩
    have HCK := Aside0.mk (show clause_Check.f a0 l0 = some ck by unfold clause_Check.f; rw [hck])
    by_cases hk0 : ck = 0
    · subst hk0
      obtain ⟨i, rfl⟩ : ∃ i : Nat, a3 = (i : Int) := ⟨a3.toNat, by omega⟩
      have hi : i < l0.length := by omega
      obtain ⟨cg, hcg⟩ : ∃ cg, Sp.check a0 (l0 ++ [l2]) = cg := ⟨_, rfl⟩
      have HCG := Aside0.mk (show clause_Check.f a0 (l0 ++ [l2]) = some cg by unfold clause_Check.f; rw [hcg])
      have HPR := Aside0.mk proves_f
      obtain ⟨r1, hr1⟩ : ∃ r1, Pf.follows a0 l0 l1 = r1 := ⟨_, rfl⟩
      obtain ⟨r2, hr2⟩ : ∃ r2, Pf.follows a0 (l0 ++ [l2]) l1 = r2 := ⟨_, rfl⟩
      have HS0 := Aside0.mk (show proof_Step.f a0 l0 l0[i] = some true by rw [proof_Step.f_eq, Pf.follows_in hck (List.getElem_mem hi)])
      have HS1 := Aside0.mk (show proof_Step.f a0 l0 l1 = some r1 by rw [proof_Step.f_eq, hr1])
      have HS2 := Aside0.mk (show proof_Step.f a0 (l0 ++ [l2]) l1 = some r2 by rw [proof_Step.f_eq, hr2])
      have HIM := Aside0.mk (show cg = 0 → r1 = true → r2 = true from fun h0 h1 => by
        subst h0 h1
        rw [← hr2]
        exact Pf.follows_more (fun c hc => by simp [hc]) hcg hr1)
      have HLN := Aside0.mk b1
      clear hr1 hr2 hck hcg b1 b2 b3 b4
      obtain ⟨ys, hys⟩ : ∃ ys, l0 ++ [l2] = ys := ⟨_, rfl⟩
      rw [hys] at HCG HS2
      have HYS := Aside0.mk hys
      clear hys
      go_enter Try.func10, Try.ntmps10
      go_upto_region 1 with (fail)
      rw [← hW0]
      clear hW0
      go_upto_region 5 with (first | ((with_reducible refine gate_dst (N := 13) rfl ?_); refine Kd.N_lit (Kd.slice 3 (Kd.int .i64)) (w0 := W) W.heap.size 25 ?hg (N' := 13) ?hd (xs := [l1, l2]) (inner := [.slice A1 l1.length c1, .slice A2 l2.length c2]) (ok := fun _ => True) (okp := fun k => k < W.heap.size) ?hr ?hp (fun _ _ => trivial) trivial HB0.out HB0.out.size (by simp) ?_; (case hd => rfl); (case hg => rfl); (case hr => first | (go_simp; done) | (go_simp; rfl)); (case hp => exact Reps.one (shared_row HC1.out HR1.out HB0.out) (Reps.one (shared_row HC2.out HR2.out HB0.out) (Reps.none _ _))); intro v5 w5 hn5 hb5 hg5 hat5; obtain ⟨A5, c5, rfl⟩ := Kd.N_slice hn5; have HN5 := Aside0.mk (Kd.N_reads' hn5).2; have HB5 := Aside0.mk hb5; have HB05 := Aside0.mk (grown_none hg5); clear hn5 hb5 hg5 hat5) | (go_at_call 46; refine (hoggetlaw13_large.calls kL a0 _ _ l0 _ _ [l1, l2] _ _ (Kd.C_below HR.out HB5.out) HC.out HN5.out.2 HN5.out.1 HKL.out).mono ?_; rintro e w7 ⟨rfl, hb7⟩; have HB7 := Aside0.mk (below_step HB5.out hb7); have HB07 := Aside0.mk (below_step HB05.out hb7); obtain ⟨_, q71, q72⟩ := HW.out _ HB07.out; clear hb7) | (go_at_call 44; refine (clause_Check.calls a0 _ _ l0 _ _ (Kd.C_below HR.out HB7.out) HC.out HCK.out).mono ?_; rintro e w8 ⟨rfl, hb8⟩; have HB8 := Aside0.mk (below_step HB7.out hb8); have HB08 := Aside0.mk (below_step HB07.out hb8); obtain ⟨_, q81, q82⟩ := HW.out _ HB08.out; clear hb8))
      have hG := Aside0.mk (show Gst w8 (w8.alloc (.cells #[.int .i64 a0, .slice none 0 0] 24)) w8.heap.size a0 (.slice none 0 0) [] from ⟨heap_alloc_new w8 _, Kd.N_nil _ _ _ _ _, Nat.le_refl _, below_alloc (Below.refl _ w8) _⟩)
      generalize hb : w8.heap.size = b at hG ⊢
      obtain ⟨W5, hW5⟩ : ∃ W5, W5 = w8.alloc (.cells #[.int .i64 a0, .slice none 0 0] 24) := ⟨_, rfl⟩
      rw [← hW5] at hG ⊢
      clear hW5
      obtain ⟨k0, k1⟩ := hG.out.fld
      have k2 := blk_frozen hG.out.hg 1
      have q91 := pw_cell_below hG.out.hb q81
      have q92 := pw_cell_below hG.out.hb q82
      have HFR := Aside0.mk (shared_rows (Kd.C_below HR.out HB8.out) hG.out.hb)
      have HLN2 := Aside0.mk (show (0 + l0.length) * 24 ≤ 140737488355328 by have := HLN.out; omega)
      go_upto_region 6 with (at_builtin; refine Kd.N_append_rows (Kd.slice 3 (Kd.int .i64)) (w0 := w8) w8.heap.size rfl (.tmp 34) (.tmp 36) 22 25 (.slice none 0 0) 24 rfl Try.underlying22 info_rows rfl (by decide) (by omega) (.slice none 0 0) [] l0 A0 l0.length c0 (fun k => k ≠ b) (fun k => k < w8.heap.size) rfl rfl hG.out.hn HFR.out (shared_ok hG.out) (fresh_ok hG.out) hG.out.hb hG.out.hb.size HLN2.out ?_; intro v1 w1 hn1 hb1 hg1 hat1; rw [List.nil_append] at hn1; obtain ⟨A9, c9, ev⟩ := Kd.N_slice hn1; subst ev; have z1 := blk_frozen (hG.out.kept hg1) 1; have z2 : w1.cell? ⟨b, 1, none⟩ = some (.slice none 0 0) := (blk_cell (hG.out.kept hg1) 1).trans rfl; have HG1 := Aside0.mk (hG.out.put hn1 hb1 hg1); clear hn1 hb1 hg1 hat1)
      obtain ⟨W6, hW6⟩ : ∃ W6, W6 = w1.setCell ⟨b, 1, none⟩ (.slice A9 l0.length c9) := ⟨_, rfl⟩
      rw [← hW6] at HG1 ⊢
      clear hW6 z1 z2 k0 k1 k2 q91 q92 hG HFR
      obtain ⟨k0, k1⟩ := HG1.out.fld
      have k2 := blk_frozen HG1.out.hg 1
      have k3 := HG1.out.lt
      have HC2' := Aside0.mk (Kd.C_below HR2.out HB8.out)
      have HF2 := Aside0.mk (shared_row HC2.out HC2'.out HG1.out.hb)
      have HLN3 := Aside0.mk (show (l0.length + 1) * 24 ≤ 140737488355328 by have := HLN.out; omega)
      have k4 : ∀ o, (W6.alloc o).cell? ⟨b, 1, none⟩ = some (.slice A9 l0.length c9) := fun o => pw_cell_below (below_alloc (Below.refl _ W6) o) k1
      go_upto_region 7 with (at_builtin; refine Kd.N_append (Kd.slice 3 (Kd.int .i64)) (w0 := w8) w8.heap.size rfl (.tmp 40) (.tmp 42) 22 25 (.slice none 0 0) 24 rfl Try.underlying22 info_rows rfl (by decide) (by omega) (.slice A9 l0.length c9) l0 l2 [.slice A2 l2.length c2] (fun k => k ≠ b) (fun k => k < w8.heap.size) rfl rfl HF2.out (shared_ok HG1.out) (fresh_ok HG1.out) HG1.out.hn HG1.out.hb HG1.out.hb.size HLN3.out ?_; intro v1 w11 hn1 hb1 hg1 hat1; rw [HYS.out] at hn1; obtain ⟨A10, c10, ev⟩ := Kd.N_slice hn1; subst ev; have z1 := blk_frozen (HG1.out.kept hg1) 1; have z2 : w11.cell? ⟨b, 1, none⟩ = some (.slice A9 l0.length c9) := (blk_cell (HG1.out.kept hg1) 1).trans rfl; have HG2 := Aside0.mk (HG1.out.put hn1 hb1 hg1); clear hn1 hb1 hg1 hat1)
      obtain ⟨W7, hW7⟩ : ∃ W7, W7 = w11.setCell ⟨b, 1, none⟩ (.slice A10 ys.length c10) := ⟨_, rfl⟩
      rw [← hW7] at HG2 ⊢
      clear hW7 z1 z2 k0 k1 k2 k3 k4 HG1 HF2
      obtain ⟨k0, k1⟩ := HG2.out.fld
      have HB9 := Aside0.mk (below_step HB8.out HG2.out.hb)
      have HB09 := Aside0.mk (below_step HB08.out HG2.out.hb)
      have HN9 := Aside0.mk (Kd.N_reads' HG2.out.hn).2
      by_cases hg0 : cg = 0
      · subst hg0
        go_upto_region 9 with (go_at_call 44; refine (clause_Check.calls a0 _ _ ys _ _ HN9.out.2 HN9.out.1 HCG.out).mono ?_; rintro e w12 ⟨rfl, hb12⟩; have HG3 := Aside0.mk (HG2.out.below hb12); have HB10 := Aside0.mk (below_step HB9.out hb12); have HB010 := Aside0.mk (below_step HB09.out hb12); clear hb12 HN9)
        obtain ⟨ad, A8, c8, eA, hx, hl8, hC8⟩ := at_L1 HR.out (i : Int) (by omega) (by omega)
        rw [rdL_at l0 i hi] at hx hl8 hC8
        simp only [Int.toNat_natCast] at hx
        subst eA
        have HL8 := Aside0.mk hl8
        have HC8 := Aside0.mk hC8
        clear hl8 hC8
        generalize l0[i] = ci at hx HL8 HC8 HS0
        have HX := Aside0.mk hx
        clear hx k0 k1 q71 q72 q81 q82
        have HB11 := below_drew1 HB10.out
        have HG4 := HG3.out.below (below_drew1 (Below.refl _ w12))
        obtain ⟨_, y1, y2⟩ := HW.out _ (below_drew1 HB010.out)
        obtain ⟨y3, y4⟩ := HG4.fld
        have hold0 := And.intro y1 (And.intro y2 (And.intro y3 (And.intro y4 (And.intro (pw_cell_below HB11 HX.out) (And.intro (Aside0.mk HB11) (Aside0.mk HG4))))))
        clear HB11 HG4 y1 y2 y3 y4 HB10 HB010 HG3 HX
        obtain ⟨wk, rfl⟩ : ∃ wk, wk = w8 := ⟨_, rfl⟩
        cases r1 with
        | false =>
          refine start_ (n := 22) (S := (fun w' => w'.cell? ⟨W.heap.size, 0, none⟩ = some (.int .i64 a0) ∧ w'.cell? ⟨W.heap.size, 1, none⟩ = some (.slice (some ad) l0.length c0) ∧ w'.cell? ⟨b, 0, none⟩ = some (.int .i64 a0) ∧ w'.cell? ⟨b, 1, none⟩ = some (.slice A10 ys.length c10) ∧ w'.cell? (ad.add i) = some (.slice A8 ci.length c8) ∧ Aside0 (Below W.heap.size W w') ∧ Aside0 (GstT 24 wk w' b a0 (.slice A10 ys.length c10) ys))) (ds := []) #[false, false, false, false, false, false, false, false, false, false, false, false, false, false, false, false, false, false, false, false, false, false] (by kernel_rfl) rfl rfl hold0 (fun hHeld => ?_)
          refine one_ (i := 0) (N := some 49) #[true, false, false, false, false, false, false, false, false, false, false, false, false, false, false, false, false, false, false, false, false, false] rfl rfl (by kernel_rfl) (by decide) (fun K hK => ?_)
          refine goes_ Try.func49 (by kernel_rfl) rfl #[] (by rfl) rfl rfl (by (try simp only [List.map_toArray, List.map_cons, List.map_nil]); first | done | rfl) ?_
          with_reducible refine (hoggetlaw13_proves.calls true _ HPR.out).mono ?_
          rintro e w8 ⟨rfl, hb8⟩
          refine ⟨_, rfl, ?_⟩
          refine hK.out _ _ (hold_next hHeld hb8) (fun hHeld => ?_)
          clear hK K
          refine norm_ (a' := ?_) ?_ ?_
          rotate_left
          · show Act.put _ (some 49) _ = _
            simp only [Act.put, List.setIfInBounds_toArray, List.set_cons_zero, List.set_cons_succ, i64_w, i32_w]
            rfl
          refine pure_ (i := 1) (N := some 50) (v := ?_) (a' := ?_) #[true, true, false, false, false, false, false, false, false, false, false, false, false, false, false, false, false, false, false, false, false, false] rfl rfl (by kernel_rfl) (fun _ _ _ h => h) (Or.inl ⟨by rfl, ?_⟩) ?_ ?_
          rotate_left
          · intro w'
            go_simp
            with_reducible rfl
          rotate_left
          · simp only [Act.put, List.setIfInBounds_toArray, List.set_cons_zero, List.set_cons_succ, i64_w, i32_w]
            rfl
          refine pure_ (i := 3) (N := some 52) (v := ?_) (a' := ?_) #[true, true, false, true, false, false, false, false, false, false, false, false, false, false, false, false, false, false, false, false, false, false] rfl rfl (by kernel_rfl) (fun _ _ _ h => h) (Or.inl ⟨by rfl, ?_⟩) ?_ ?_
          rotate_left
          · intro w'
            go_simp
            with_reducible rfl
          rotate_left
          · simp only [Act.put, List.setIfInBounds_toArray, List.set_cons_zero, List.set_cons_succ, i64_w, i32_w]
            rfl
          refine pure_ (i := 5) (N := some 54) (v := ?_) (a' := ?_) #[true, true, false, true, false, true, false, false, false, false, false, false, false, false, false, false, false, false, false, false, false, false] rfl rfl (by kernel_rfl) (fun _ _ _ h => h) (Or.inl ⟨by rfl, ?_⟩) ?_ ?_
          rotate_left
          · intro w'
            go_simp
            with_reducible rfl
          rotate_left
          · simp only [Act.put, List.setIfInBounds_toArray, List.set_cons_zero, List.set_cons_succ, i64_w, i32_w]
            rfl
          refine take_ (i := 2) (N := some 51) (v := ?_) (a' := ?_) #[true, true, true, true, false, true, false, false, false, false, false, false, false, false, false, false, false, false, false, false, false, false] rfl rfl (by kernel_rfl) (fun _ _ _ h => h) (Or.inl ⟨by rfl, ?_⟩) hHeld ?_ ?_
          rotate_left
          · intro w'
            rintro ⟨s0, s1, s2, s3, s4, s5, s6⟩
            go_simp
            with_reducible rfl
          rotate_left
          · simp only [Act.put, List.setIfInBounds_toArray, List.set_cons_zero, List.set_cons_succ, i64_w, i32_w]
            rfl
          refine take_ (i := 4) (N := some 53) (v := ?_) (a' := ?_) #[true, true, true, true, true, true, false, false, false, false, false, false, false, false, false, false, false, false, false, false, false, false] rfl rfl (by kernel_rfl) (fun _ _ _ h => h) (Or.inl ⟨by rfl, ?_⟩) hHeld ?_ ?_
          rotate_left
          · intro w'
            rintro ⟨s0, s1, s2, s3, s4, s5, s6⟩
            go_simp
            with_reducible rfl
          rotate_left
          · simp only [Act.put, List.setIfInBounds_toArray, List.set_cons_zero, List.set_cons_succ, i64_w, i32_w]
            rfl
          refine pure_ (i := 6) (N := some 55) (v := ?_) (a' := ?_) #[true, true, true, true, true, true, true, false, false, false, false, false, false, false, false, false, false, false, false, false, false, false] rfl rfl (by kernel_rfl) (fun _ _ _ h => h) (Or.inl ⟨by rfl, ?_⟩) ?_ ?_
          rotate_left
          · intro w'
            go_simp
            with_reducible rfl
          rotate_left
          · simp only [Act.put, List.setIfInBounds_toArray, List.set_cons_zero, List.set_cons_succ, i64_w, i32_w]
            rfl
          refine take_ (i := 7) (N := some 56) (v := ?_) (a' := ?_) #[true, true, true, true, true, true, true, true, false, false, false, false, false, false, false, false, false, false, false, false, false, false] rfl rfl (by kernel_rfl) (fun _ _ _ h => h) (Or.inl ⟨by rfl, ?_⟩) hHeld ?_ ?_
          rotate_left
          · intro w'
            rintro ⟨s0, s1, s2, s3, s4, s5, s6⟩
            go_simp
            with_reducible rfl
          rotate_left
          · simp only [Act.put, List.setIfInBounds_toArray, List.set_cons_zero, List.set_cons_succ, i64_w, i32_w]
            rfl
          refine one_ (i := 8) (N := some 57) #[true, true, true, true, true, true, true, true, true, false, false, false, false, false, false, false, false, false, false, false, false, false] rfl rfl (by kernel_rfl) (by decide) (fun K hK => ?_)
          refine goes_ Try.func50 (by kernel_rfl) rfl #[.agg #[.int .i64 a0, .slice (some ad) l0.length c0], .slice A8 ci.length c8] (by rfl) rfl rfl (by (try simp only [List.map_toArray, List.map_cons, List.map_nil]); first | done | rfl) ?_
          with_reducible refine (proof_Step.calls a0 _ _ l0 _ _ ci true _ (Kd.C_below HR.out hHeld.2.2.2.2.2.1.out) HC.out (Kd.C_below HC8.out hHeld.2.2.2.2.2.1.out) HL8.out HS0.out).mono ?_
          rintro e w8 ⟨rfl, hb8⟩
          refine ⟨_, rfl, ?_⟩
          refine hK.out _ _ (hold_next hHeld hb8) (fun hHeld => ?_)
          clear hK K
          refine norm_ (a' := ?_) ?_ ?_
          rotate_left
          · show Act.put _ (some 57) _ = _
            simp only [Act.put, List.setIfInBounds_toArray, List.set_cons_zero, List.set_cons_succ, i64_w, i32_w]
            rfl
          refine pure_ (i := 9) (N := some 58) (v := ?_) (a' := ?_) #[true, true, true, true, true, true, true, true, true, true, false, false, false, false, false, false, false, false, false, false, false, false] rfl rfl (by kernel_rfl) (fun _ _ _ h => h) (Or.inl ⟨by rfl, ?_⟩) ?_ ?_
          rotate_left
          · intro w'
            go_simp
            with_reducible rfl
          rotate_left
          · simp only [Act.put, List.setIfInBounds_toArray, List.set_cons_zero, List.set_cons_succ, i64_w, i32_w]
            rfl
          refine pure_ (i := 10) (N := some 59) (v := ?_) (a' := ?_) #[true, true, true, true, true, true, true, true, true, true, true, false, false, false, false, false, false, false, false, false, false, false] rfl rfl (by kernel_rfl) (fun _ _ _ h => h) (Or.inl ⟨by rfl, ?_⟩) ?_ ?_
          rotate_left
          · intro w'
            go_simp
            with_reducible rfl
          rotate_left
          · simp only [Act.put, List.setIfInBounds_toArray, List.set_cons_zero, List.set_cons_succ, i64_w, i32_w]
            rfl
          refine pure_ (i := 12) (N := some 61) (v := ?_) (a' := ?_) #[true, true, true, true, true, true, true, true, true, true, true, false, true, false, false, false, false, false, false, false, false, false] rfl rfl (by kernel_rfl) (fun _ _ _ h => h) (Or.inl ⟨by rfl, ?_⟩) ?_ ?_
          rotate_left
          · intro w'
            go_simp
            with_reducible rfl
          rotate_left
          · simp only [Act.put, List.setIfInBounds_toArray, List.set_cons_zero, List.set_cons_succ, i64_w, i32_w]
            rfl
          refine take_ (i := 11) (N := some 60) (v := ?_) (a' := ?_) #[true, true, true, true, true, true, true, true, true, true, true, true, true, false, false, false, false, false, false, false, false, false] rfl rfl (by kernel_rfl) (fun _ _ _ h => h) (Or.inl ⟨by rfl, ?_⟩) hHeld ?_ ?_
          rotate_left
          · intro w'
            rintro ⟨s0, s1, s2, s3, s4, s5, s6⟩
            go_simp
            with_reducible rfl
          rotate_left
          · simp only [Act.put, List.setIfInBounds_toArray, List.set_cons_zero, List.set_cons_succ, i64_w, i32_w]
            rfl
          refine one_ (i := 13) (N := some 62) #[true, true, true, true, true, true, true, true, true, true, true, true, true, true, false, false, false, false, false, false, false, false] rfl rfl (by kernel_rfl) (by decide) (fun K hK => ?_)
          refine goes_ Try.func50 (by kernel_rfl) rfl #[.agg #[.int .i64 a0, .slice (some ad) l0.length c0], .slice A1 l1.length c1] (by rfl) rfl rfl (by (try simp only [List.map_toArray, List.map_cons, List.map_nil]); first | done | rfl) ?_
          with_reducible refine (proof_Step.calls a0 _ _ l0 _ _ l1 false _ (Kd.C_below HR.out hHeld.2.2.2.2.2.1.out) HC.out (Kd.C_below HR1.out hHeld.2.2.2.2.2.1.out) HC1.out HS1.out).mono ?_
          rintro e w8 ⟨rfl, hb8⟩
          refine ⟨_, rfl, ?_⟩
          refine hK.out _ _ (hold_next hHeld hb8) (fun hHeld => ?_)
          clear hK K
          refine norm_ (a' := ?_) ?_ ?_
          rotate_left
          · show Act.put _ (some 62) _ = _
            simp only [Act.put, List.setIfInBounds_toArray, List.set_cons_zero, List.set_cons_succ, i64_w, i32_w]
            rfl
          refine pure_ (i := 14) (N := some 63) (v := ?_) (a' := ?_) #[true, true, true, true, true, true, true, true, true, true, true, true, true, true, true, false, false, false, false, false, false, false] rfl rfl (by kernel_rfl) (fun _ _ _ h => h) (Or.inl ⟨by rfl, ?_⟩) ?_ ?_
          rotate_left
          · intro w'
            go_simp
            with_reducible rfl
          rotate_left
          · simp only [Act.put, List.setIfInBounds_toArray, List.set_cons_zero, List.set_cons_succ, i64_w, i32_w]
            rfl
          refine pure_ (i := 15) (N := some 64) (v := ?_) (a' := ?_) #[true, true, true, true, true, true, true, true, true, true, true, true, true, true, true, true, false, false, false, false, false, false] rfl rfl (by kernel_rfl) (fun _ _ _ h => h) (Or.inl ⟨by rfl, ?_⟩) ?_ ?_
          rotate_left
          · intro w'
            go_simp
            with_reducible rfl
          rotate_left
          · simp only [Act.put, List.setIfInBounds_toArray, List.set_cons_zero, List.set_cons_succ, i64_w, i32_w]
            rfl
          refine pure_ (i := 16) (N := some 65) (v := undef) (a' := ?_) #[true, true, true, true, true, true, true, true, true, true, true, true, true, true, true, true, true, false, false, false, false, false] rfl rfl (by kernel_rfl) (fun _ _ _ h => h) (Or.inr ⟨by rfl, rfl⟩) ?_ ?_
          rotate_left
          · simp only [Act.put, List.setIfInBounds_toArray, List.set_cons_zero, List.set_cons_succ, i64_w, i32_w]
            rfl
          refine pure_ (i := 17) (N := some 66) (v := undef) (a' := ?_) #[true, true, true, true, true, true, true, true, true, true, true, true, true, true, true, true, true, true, false, false, false, false] rfl rfl (by kernel_rfl) (fun _ _ _ h => h) (Or.inr ⟨by rfl, rfl⟩) ?_ ?_
          rotate_left
          · simp only [Act.put, List.setIfInBounds_toArray, List.set_cons_zero, List.set_cons_succ, i64_w, i32_w]
            rfl
          refine pure_ (i := 18) (N := some 67) (v := undef) (a' := ?_) #[true, true, true, true, true, true, true, true, true, true, true, true, true, true, true, true, true, true, true, false, false, false] rfl rfl (by kernel_rfl) (fun _ _ _ h => h) (Or.inr ⟨by rfl, rfl⟩) ?_ ?_
          rotate_left
          · simp only [Act.put, List.setIfInBounds_toArray, List.set_cons_zero, List.set_cons_succ, i64_w, i32_w]
            rfl
          refine pure_ (i := 19) (N := some 68) (v := ?_) (a' := ?_) #[true, true, true, true, true, true, true, true, true, true, true, true, true, true, true, true, true, true, true, true, false, false] rfl rfl (by kernel_rfl) (fun _ _ _ h => h) (Or.inl ⟨by rfl, ?_⟩) ?_ ?_
          rotate_left
          · intro w'
            go_simp
            with_reducible rfl
          rotate_left
          · simp only [Act.put, List.setIfInBounds_toArray, List.set_cons_zero, List.set_cons_succ, i64_w, i32_w]
            rfl
          refine pure_ (i := 20) (N := some 69) (v := ?_) (a' := ?_) #[true, true, true, true, true, true, true, true, true, true, true, true, true, true, true, true, true, true, true, true, true, false] rfl rfl (by kernel_rfl) (fun _ _ _ h => h) (Or.inl ⟨by rfl, ?_⟩) ?_ ?_
          rotate_left
          · intro w'
            go_simp
            with_reducible rfl
          rotate_left
          · simp only [Act.put, List.setIfInBounds_toArray, List.set_cons_zero, List.set_cons_succ, i64_w, i32_w]
            rfl
          refine pure_ (i := 21) (N := some 8) (v := ?_) (a' := ?_) #[true, true, true, true, true, true, true, true, true, true, true, true, true, true, true, true, true, true, true, true, true, true] rfl rfl (by kernel_rfl) (fun _ _ _ h => h) (Or.inl ⟨by rfl, ?_⟩) ?_ ?_
          rotate_left
          · intro w'
            go_simp
            with_reducible rfl
          rotate_left
          · simp only [Act.put, List.setIfInBounds_toArray, List.set_cons_zero, List.set_cons_succ, i64_w, i32_w]
            rfl
          refine done_ (by kernel_rfl) ?_
          go_wp2
          go_ret
          exact ⟨rfl, hHeld.2.2.2.2.2.1.out⟩
        | true =>
          obtain rfl := HIM.out trivial rfl
          refine start_ (n := 22) (S := (fun w' => w'.cell? ⟨W.heap.size, 0, none⟩ = some (.int .i64 a0) ∧ w'.cell? ⟨W.heap.size, 1, none⟩ = some (.slice (some ad) l0.length c0) ∧ w'.cell? ⟨b, 0, none⟩ = some (.int .i64 a0) ∧ w'.cell? ⟨b, 1, none⟩ = some (.slice A10 ys.length c10) ∧ w'.cell? (ad.add i) = some (.slice A8 ci.length c8) ∧ Aside0 (Below W.heap.size W w') ∧ Aside0 (GstT 24 wk w' b a0 (.slice A10 ys.length c10) ys))) (ds := []) #[false, false, false, false, false, false, false, false, false, false, false, false, false, false, false, false, false, false, false, false, false, false] (by kernel_rfl) rfl rfl hold0 (fun hHeld => ?_)
          refine one_ (i := 0) (N := some 49) #[true, false, false, false, false, false, false, false, false, false, false, false, false, false, false, false, false, false, false, false, false, false] rfl rfl (by kernel_rfl) (by decide) (fun K hK => ?_)
          refine goes_ Try.func49 (by kernel_rfl) rfl #[] (by rfl) rfl rfl (by (try simp only [List.map_toArray, List.map_cons, List.map_nil]); first | done | rfl) ?_
          with_reducible refine (hoggetlaw13_proves.calls true _ HPR.out).mono ?_
          rintro e w8 ⟨rfl, hb8⟩
          refine ⟨_, rfl, ?_⟩
          refine hK.out _ _ (hold_next hHeld hb8) (fun hHeld => ?_)
          clear hK K
          refine norm_ (a' := ?_) ?_ ?_
          rotate_left
          · show Act.put _ (some 49) _ = _
            simp only [Act.put, List.setIfInBounds_toArray, List.set_cons_zero, List.set_cons_succ, i64_w, i32_w]
            rfl
          refine pure_ (i := 1) (N := some 50) (v := ?_) (a' := ?_) #[true, true, false, false, false, false, false, false, false, false, false, false, false, false, false, false, false, false, false, false, false, false] rfl rfl (by kernel_rfl) (fun _ _ _ h => h) (Or.inl ⟨by rfl, ?_⟩) ?_ ?_
          rotate_left
          · intro w'
            go_simp
            with_reducible rfl
          rotate_left
          · simp only [Act.put, List.setIfInBounds_toArray, List.set_cons_zero, List.set_cons_succ, i64_w, i32_w]
            rfl
          refine pure_ (i := 3) (N := some 52) (v := ?_) (a' := ?_) #[true, true, false, true, false, false, false, false, false, false, false, false, false, false, false, false, false, false, false, false, false, false] rfl rfl (by kernel_rfl) (fun _ _ _ h => h) (Or.inl ⟨by rfl, ?_⟩) ?_ ?_
          rotate_left
          · intro w'
            go_simp
            with_reducible rfl
          rotate_left
          · simp only [Act.put, List.setIfInBounds_toArray, List.set_cons_zero, List.set_cons_succ, i64_w, i32_w]
            rfl
          refine pure_ (i := 5) (N := some 54) (v := ?_) (a' := ?_) #[true, true, false, true, false, true, false, false, false, false, false, false, false, false, false, false, false, false, false, false, false, false] rfl rfl (by kernel_rfl) (fun _ _ _ h => h) (Or.inl ⟨by rfl, ?_⟩) ?_ ?_
          rotate_left
          · intro w'
            go_simp
            with_reducible rfl
          rotate_left
          · simp only [Act.put, List.setIfInBounds_toArray, List.set_cons_zero, List.set_cons_succ, i64_w, i32_w]
            rfl
          refine take_ (i := 2) (N := some 51) (v := ?_) (a' := ?_) #[true, true, true, true, false, true, false, false, false, false, false, false, false, false, false, false, false, false, false, false, false, false] rfl rfl (by kernel_rfl) (fun _ _ _ h => h) (Or.inl ⟨by rfl, ?_⟩) hHeld ?_ ?_
          rotate_left
          · intro w'
            rintro ⟨s0, s1, s2, s3, s4, s5, s6⟩
            go_simp
            with_reducible rfl
          rotate_left
          · simp only [Act.put, List.setIfInBounds_toArray, List.set_cons_zero, List.set_cons_succ, i64_w, i32_w]
            rfl
          refine take_ (i := 4) (N := some 53) (v := ?_) (a' := ?_) #[true, true, true, true, true, true, false, false, false, false, false, false, false, false, false, false, false, false, false, false, false, false] rfl rfl (by kernel_rfl) (fun _ _ _ h => h) (Or.inl ⟨by rfl, ?_⟩) hHeld ?_ ?_
          rotate_left
          · intro w'
            rintro ⟨s0, s1, s2, s3, s4, s5, s6⟩
            go_simp
            with_reducible rfl
          rotate_left
          · simp only [Act.put, List.setIfInBounds_toArray, List.set_cons_zero, List.set_cons_succ, i64_w, i32_w]
            rfl
          refine pure_ (i := 6) (N := some 55) (v := ?_) (a' := ?_) #[true, true, true, true, true, true, true, false, false, false, false, false, false, false, false, false, false, false, false, false, false, false] rfl rfl (by kernel_rfl) (fun _ _ _ h => h) (Or.inl ⟨by rfl, ?_⟩) ?_ ?_
          rotate_left
          · intro w'
            go_simp
            with_reducible rfl
          rotate_left
          · simp only [Act.put, List.setIfInBounds_toArray, List.set_cons_zero, List.set_cons_succ, i64_w, i32_w]
            rfl
          refine take_ (i := 7) (N := some 56) (v := ?_) (a' := ?_) #[true, true, true, true, true, true, true, true, false, false, false, false, false, false, false, false, false, false, false, false, false, false] rfl rfl (by kernel_rfl) (fun _ _ _ h => h) (Or.inl ⟨by rfl, ?_⟩) hHeld ?_ ?_
          rotate_left
          · intro w'
            rintro ⟨s0, s1, s2, s3, s4, s5, s6⟩
            go_simp
            with_reducible rfl
          rotate_left
          · simp only [Act.put, List.setIfInBounds_toArray, List.set_cons_zero, List.set_cons_succ, i64_w, i32_w]
            rfl
          refine one_ (i := 8) (N := some 57) #[true, true, true, true, true, true, true, true, true, false, false, false, false, false, false, false, false, false, false, false, false, false] rfl rfl (by kernel_rfl) (by decide) (fun K hK => ?_)
          refine goes_ Try.func50 (by kernel_rfl) rfl #[.agg #[.int .i64 a0, .slice (some ad) l0.length c0], .slice A8 ci.length c8] (by rfl) rfl rfl (by (try simp only [List.map_toArray, List.map_cons, List.map_nil]); first | done | rfl) ?_
          with_reducible refine (proof_Step.calls a0 _ _ l0 _ _ ci true _ (Kd.C_below HR.out hHeld.2.2.2.2.2.1.out) HC.out (Kd.C_below HC8.out hHeld.2.2.2.2.2.1.out) HL8.out HS0.out).mono ?_
          rintro e w8 ⟨rfl, hb8⟩
          refine ⟨_, rfl, ?_⟩
          refine hK.out _ _ (hold_next hHeld hb8) (fun hHeld => ?_)
          clear hK K
          refine norm_ (a' := ?_) ?_ ?_
          rotate_left
          · show Act.put _ (some 57) _ = _
            simp only [Act.put, List.setIfInBounds_toArray, List.set_cons_zero, List.set_cons_succ, i64_w, i32_w]
            rfl
          refine pure_ (i := 9) (N := some 58) (v := ?_) (a' := ?_) #[true, true, true, true, true, true, true, true, true, true, false, false, false, false, false, false, false, false, false, false, false, false] rfl rfl (by kernel_rfl) (fun _ _ _ h => h) (Or.inl ⟨by rfl, ?_⟩) ?_ ?_
          rotate_left
          · intro w'
            go_simp
            with_reducible rfl
          rotate_left
          · simp only [Act.put, List.setIfInBounds_toArray, List.set_cons_zero, List.set_cons_succ, i64_w, i32_w]
            rfl
          refine pure_ (i := 10) (N := some 59) (v := ?_) (a' := ?_) #[true, true, true, true, true, true, true, true, true, true, true, false, false, false, false, false, false, false, false, false, false, false] rfl rfl (by kernel_rfl) (fun _ _ _ h => h) (Or.inl ⟨by rfl, ?_⟩) ?_ ?_
          rotate_left
          · intro w'
            go_simp
            with_reducible rfl
          rotate_left
          · simp only [Act.put, List.setIfInBounds_toArray, List.set_cons_zero, List.set_cons_succ, i64_w, i32_w]
            rfl
          refine pure_ (i := 12) (N := some 61) (v := ?_) (a' := ?_) #[true, true, true, true, true, true, true, true, true, true, true, false, true, false, false, false, false, false, false, false, false, false] rfl rfl (by kernel_rfl) (fun _ _ _ h => h) (Or.inl ⟨by rfl, ?_⟩) ?_ ?_
          rotate_left
          · intro w'
            go_simp
            with_reducible rfl
          rotate_left
          · simp only [Act.put, List.setIfInBounds_toArray, List.set_cons_zero, List.set_cons_succ, i64_w, i32_w]
            rfl
          refine take_ (i := 11) (N := some 60) (v := ?_) (a' := ?_) #[true, true, true, true, true, true, true, true, true, true, true, true, true, false, false, false, false, false, false, false, false, false] rfl rfl (by kernel_rfl) (fun _ _ _ h => h) (Or.inl ⟨by rfl, ?_⟩) hHeld ?_ ?_
          rotate_left
          · intro w'
            rintro ⟨s0, s1, s2, s3, s4, s5, s6⟩
            go_simp
            with_reducible rfl
          rotate_left
          · simp only [Act.put, List.setIfInBounds_toArray, List.set_cons_zero, List.set_cons_succ, i64_w, i32_w]
            rfl
          refine one_ (i := 13) (N := some 62) #[true, true, true, true, true, true, true, true, true, true, true, true, true, true, false, false, false, false, false, false, false, false] rfl rfl (by kernel_rfl) (by decide) (fun K hK => ?_)
          refine goes_ Try.func50 (by kernel_rfl) rfl #[.agg #[.int .i64 a0, .slice (some ad) l0.length c0], .slice A1 l1.length c1] (by rfl) rfl rfl (by (try simp only [List.map_toArray, List.map_cons, List.map_nil]); first | done | rfl) ?_
          with_reducible refine (proof_Step.calls a0 _ _ l0 _ _ l1 true _ (Kd.C_below HR.out hHeld.2.2.2.2.2.1.out) HC.out (Kd.C_below HR1.out hHeld.2.2.2.2.2.1.out) HC1.out HS1.out).mono ?_
          rintro e w8 ⟨rfl, hb8⟩
          refine ⟨_, rfl, ?_⟩
          refine hK.out _ _ (hold_next hHeld hb8) (fun hHeld => ?_)
          clear hK K
          refine norm_ (a' := ?_) ?_ ?_
          rotate_left
          · show Act.put _ (some 62) _ = _
            simp only [Act.put, List.setIfInBounds_toArray, List.set_cons_zero, List.set_cons_succ, i64_w, i32_w]
            rfl
          refine pure_ (i := 14) (N := some 63) (v := ?_) (a' := ?_) #[true, true, true, true, true, true, true, true, true, true, true, true, true, true, true, false, false, false, false, false, false, false] rfl rfl (by kernel_rfl) (fun _ _ _ h => h) (Or.inl ⟨by rfl, ?_⟩) ?_ ?_
          rotate_left
          · intro w'
            go_simp
            with_reducible rfl
          rotate_left
          · simp only [Act.put, List.setIfInBounds_toArray, List.set_cons_zero, List.set_cons_succ, i64_w, i32_w]
            rfl
          refine pure_ (i := 15) (N := some 64) (v := ?_) (a' := ?_) #[true, true, true, true, true, true, true, true, true, true, true, true, true, true, true, true, false, false, false, false, false, false] rfl rfl (by kernel_rfl) (fun _ _ _ h => h) (Or.inl ⟨by rfl, ?_⟩) ?_ ?_
          rotate_left
          · intro w'
            go_simp
            with_reducible rfl
          rotate_left
          · simp only [Act.put, List.setIfInBounds_toArray, List.set_cons_zero, List.set_cons_succ, i64_w, i32_w]
            rfl
          refine pure_ (i := 17) (N := some 66) (v := ?_) (a' := ?_) #[true, true, true, true, true, true, true, true, true, true, true, true, true, true, true, true, false, true, false, false, false, false] rfl rfl (by kernel_rfl) (fun _ _ _ h => h) (Or.inl ⟨by rfl, ?_⟩) ?_ ?_
          rotate_left
          · intro w'
            go_simp
            with_reducible rfl
          rotate_left
          · simp only [Act.put, List.setIfInBounds_toArray, List.set_cons_zero, List.set_cons_succ, i64_w, i32_w]
            rfl
          refine take_ (i := 16) (N := some 65) (v := ?_) (a' := ?_) #[true, true, true, true, true, true, true, true, true, true, true, true, true, true, true, true, true, true, false, false, false, false] rfl rfl (by kernel_rfl) (fun _ _ _ h => h) (Or.inl ⟨by rfl, ?_⟩) hHeld ?_ ?_
          rotate_left
          · intro w'
            rintro ⟨s0, s1, s2, s3, s4, s5, s6⟩
            go_simp
            with_reducible rfl
          rotate_left
          · simp only [Act.put, List.setIfInBounds_toArray, List.set_cons_zero, List.set_cons_succ, i64_w, i32_w]
            rfl
          refine one_ (i := 18) (N := some 67) #[true, true, true, true, true, true, true, true, true, true, true, true, true, true, true, true, true, true, true, false, false, false] rfl rfl (by kernel_rfl) (by decide) (fun K hK => ?_)
          refine goes_ Try.func50 (by kernel_rfl) rfl #[.agg #[.int .i64 a0, .slice A10 ys.length c10], .slice A1 l1.length c1] (by rfl) rfl rfl (by (try simp only [List.map_toArray, List.map_cons, List.map_nil]); first | done | rfl) ?_
          with_reducible refine (proof_Step.calls a0 _ _ ys _ _ l1 true _ (Kd.N_reads' hHeld.2.2.2.2.2.2.out.hn).2.2 (Kd.N_reads' hHeld.2.2.2.2.2.2.out.hn).2.1 (Kd.C_below HR1.out hHeld.2.2.2.2.2.1.out) HC1.out HS2.out).mono ?_
          rintro e w8 ⟨rfl, hb8⟩
          refine ⟨_, rfl, ?_⟩
          refine hK.out _ _ (hold_next hHeld hb8) (fun hHeld => ?_)
          clear hK K
          refine norm_ (a' := ?_) ?_ ?_
          rotate_left
          · show Act.put _ (some 67) _ = _
            simp only [Act.put, List.setIfInBounds_toArray, List.set_cons_zero, List.set_cons_succ, i64_w, i32_w]
            rfl
          refine pure_ (i := 19) (N := some 68) (v := ?_) (a' := ?_) #[true, true, true, true, true, true, true, true, true, true, true, true, true, true, true, true, true, true, true, true, false, false] rfl rfl (by kernel_rfl) (fun _ _ _ h => h) (Or.inl ⟨by rfl, ?_⟩) ?_ ?_
          rotate_left
          · intro w'
            go_simp
            with_reducible rfl
          rotate_left
          · simp only [Act.put, List.setIfInBounds_toArray, List.set_cons_zero, List.set_cons_succ, i64_w, i32_w]
            rfl
          refine pure_ (i := 20) (N := some 69) (v := ?_) (a' := ?_) #[true, true, true, true, true, true, true, true, true, true, true, true, true, true, true, true, true, true, true, true, true, false] rfl rfl (by kernel_rfl) (fun _ _ _ h => h) (Or.inl ⟨by rfl, ?_⟩) ?_ ?_
          rotate_left
          · intro w'
            go_simp
            with_reducible rfl
          rotate_left
          · simp only [Act.put, List.setIfInBounds_toArray, List.set_cons_zero, List.set_cons_succ, i64_w, i32_w]
            rfl
          refine pure_ (i := 21) (N := some 8) (v := ?_) (a' := ?_) #[true, true, true, true, true, true, true, true, true, true, true, true, true, true, true, true, true, true, true, true, true, true] rfl rfl (by kernel_rfl) (fun _ _ _ h => h) (Or.inl ⟨by rfl, ?_⟩) ?_ ?_
          rotate_left
          · intro w'
            go_simp
            with_reducible rfl
          rotate_left
          · simp only [Act.put, List.setIfInBounds_toArray, List.set_cons_zero, List.set_cons_succ, i64_w, i32_w]
            rfl
          refine done_ (by kernel_rfl) ?_
          go_wp2
          go_ret
          exact ⟨rfl, hHeld.2.2.2.2.2.1.out⟩
      · have hg1 : (cg != 0) = true := bne_iff_ne.2 hg0
        clear hg0
        go_wp2_with (first
          | (go_at_call 44; refine (clause_Check.calls a0 _ _ ys _ _ HN9.out.2 HN9.out.1 HCG.out).mono ?_; rintro e w12 ⟨rfl, hb12⟩; have HB10 := Aside0.mk (below_step HB9.out hb12); clear hb12)
          | (go_at_call 49; refine (hoggetlaw13_proves.calls true _ HPR.out).mono ?_; rintro e w13 ⟨rfl, hb13⟩; have HB11 := Aside0.mk (below_step HB10.out hb13); clear hb13))
        go_ret
        exact ⟨rfl, HB11.out⟩
    · have hk1 : (ck != 0) = true := bne_iff_ne.2 hk0
      clear hck hk0
      go_enter Try.func10, Try.ntmps10
      go_upto_region 1 with (fail)
      rw [← hW0]
      clear hW0 b1 b2 b3 b4
      go_wp2_with (first | ((with_reducible refine gate_dst (N := 13) rfl ?_); refine Kd.N_lit (Kd.slice 3 (Kd.int .i64)) (w0 := W) W.heap.size 25 ?hg (N' := 13) ?hd (xs := [l1, l2]) (inner := [.slice A1 l1.length c1, .slice A2 l2.length c2]) (ok := fun _ => True) (okp := fun k => k < W.heap.size) ?hr ?hp (fun _ _ => trivial) trivial HB0.out HB0.out.size (by simp) ?_; (case hd => rfl); (case hg => rfl); (case hr => first | (go_simp; done) | (go_simp; rfl)); (case hp => exact Reps.one (shared_row HC1.out HR1.out HB0.out) (Reps.one (shared_row HC2.out HR2.out HB0.out) (Reps.none _ _))); intro v5 w5 hn5 hb5 hg5 hat5; obtain ⟨A5, c5, rfl⟩ := Kd.N_slice hn5; have HN5 := Aside0.mk (Kd.N_reads' hn5).2; have HB5 := Aside0.mk hb5; have HB05 := Aside0.mk (grown_none hg5); clear hn5 hb5 hg5 hat5) | (go_at_call 46; refine (hoggetlaw13_large.calls kL a0 _ _ l0 _ _ [l1, l2] _ _ (Kd.C_below HR.out HB5.out) HC.out HN5.out.2 HN5.out.1 HKL.out).mono ?_; rintro e w7 ⟨rfl, hb7⟩; have HB7 := Aside0.mk (below_step HB5.out hb7); have HB07 := Aside0.mk (below_step HB05.out hb7); obtain ⟨_, q71, q72⟩ := HW.out _ HB07.out; clear hb7) | (go_at_call 44; refine (clause_Check.calls a0 _ _ l0 _ _ (Kd.C_below HR.out HB7.out) HC.out HCK.out).mono ?_; rintro e w8 ⟨rfl, hb8⟩; have HB8 := Aside0.mk (below_step HB7.out hb8); have HB08 := Aside0.mk (below_step HB07.out hb8); obtain ⟨_, q81, q82⟩ := HW.out _ HB08.out; clear hb8))
      go_ret
      exact ⟨rfl, HB8.out⟩
end Go.Proofs.Ythnbmlpjbhhamaa.J
