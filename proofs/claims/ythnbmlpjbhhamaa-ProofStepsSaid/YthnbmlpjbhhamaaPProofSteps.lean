/- ProofSteps: it is true. -/
import Derived.Test.YthnbmlpjbhhamaaP13
import Derived.Deep.RegionLaw
namespace Go.Proofs.Ythnbmlpjbhhamaa.J
open Go.RowKit Go.Shelf Go.Proofs.YthnbmlpjbhhamaaW.PrintWords Go.Proofs.YthnbmlpjbhhamaaW.PrintLast Go.Proofs.YthnbmlpjbhhamaaW.PrintMore
set_option linter.unusedVariables false
set_option linter.unusedSimpArgs false

theorem grown_none {w w' : World} (h : w.grownBy w' none) : Below w.heap.size w w' :=
  ⟨h.os, h.tape, h.output, h.size, fun k hk => h.block k hk (by simp)⟩
set_option maxHeartbeats 4000000 in
set_option maxRecDepth 100000 in
theorem ProofSteps_walk {W : World} (a0 : Int) (A0 : Option Addr) (c0 : Nat) (l0 : List (List Int)) (hr0 : Kd.C (Kd.slice 3 (Kd.int .i64)) W A0 l0.length l0) (hc0 : l0.length ≤ c0) (w0 : (Lit.int .i64 a0).wf = true) (wl0 : ∀ c ∈ l0, ∀ n ∈ c, (Lit.int .i64 n).wf = true)
    (A1 : Option Addr) (c1 : Nat) (l1 : List Int) (hr1 : Kd.C (Kd.int .i64) W A1 l1.length l1) (hc1 : l1.length ≤ c1) (wl1 : ∀ n ∈ l1, (Lit.int .i64 n).wf = true) :
    Calls Try.prog 9 #[.agg #[.int .i64 a0, .slice A0 l0.length c0], .slice A1 l1.length c1] W fun e w' => e = .returned (.bool true) ∧ Below W.heap.size W w' := by
  obtain ⟨kL, hkL⟩ := (large13_ev a0 l0 [l1]).rounds
  have HKL := Aside0.mk hkL
  have HR := Aside0.mk hr0
  have HR1 := Aside0.mk hr1
  have HC := Aside0.mk hc0
  have HC1 := Aside0.mk hc1
  obtain ⟨W0, hW0, hb0, hs0, hw0⟩ := boxed_formula W a0 A0 c0 l0.length
  have HB0 := Aside0.mk hb0
  have HW := Aside0.mk hw0
  have q1 : W0.cell? ⟨W.heap.size, 0, none⟩ = some (.int .i64 a0) := (hw0 W0 (Below.refl _ _)).2.1
  have q2 : W0.cell? ⟨W.heap.size, 1, none⟩ = some (.slice A0 l0.length c0) := (hw0 W0 (Below.refl _ _)).2.2
  obtain ⟨rl, hrl⟩ : ∃ rl, large13 l0 [l1] = rl := ⟨_, rfl⟩
  rw [hrl] at HKL
  have hlast : rl = false → ∃ k r, Pf.follows a0 l0 l1 = r ∧ hoggetref13_Step.f k a0 l0 l1 = some r := by
    intro h9
    rw [h9] at hrl
    obtain ⟨b1, b2, b3, b4⟩ := large13_bounds hrl
    obtain ⟨k, hk⟩ := (step13_ev a0 l0 l1 (fun c hc => by have := b2 c hc; omega)).rounds
    exact ⟨k, _, rfl, hk⟩
  clear hkL hr0 hr1 hc0 hc1 hb0 hw0 hs0 w0 wl0 wl1 hrl
  cases rl with
  | true =>
    go_enter Try.func9, Try.ntmps9
    go_upto_region 1 with (fail)
    rw [← hW0]
    clear hW0
    go_wp2_with (first | ((with_reducible refine gate_dst (N := 7) rfl ?_); refine Kd.N_lit (Kd.slice 3 (Kd.int .i64)) (w0 := W) W.heap.size 25 ?hg (N' := 7) ?hd (xs := [l1]) (inner := [.slice A1 l1.length c1]) (ok := fun _ => True) (okp := fun k => k < W.heap.size) ?hr ?hp (fun _ _ => trivial) trivial HB0.out HB0.out.size (by simp) ?_; (case hd => rfl); (case hg => rfl); (case hr => first | (go_simp; done) | (go_simp; rfl)); (case hp => exact Reps.one (shared_row HC1.out HR1.out HB0.out) (Reps.none _ _)); intro v5 w5 hn5 hb5 hg5 hat5; obtain ⟨A5, c5, rfl⟩ := Kd.N_slice hn5; have HN5 := Aside0.mk (Kd.N_reads' hn5).2; have HB5 := Aside0.mk hb5; have HB05 := Aside0.mk (grown_none hg5); clear hn5 hb5 hg5 hat5) | (go_at_call 46; refine (hoggetlaw13_large.calls kL a0 _ _ l0 _ _ [l1] _ _ (Kd.C_below HR.out HB5.out) HC.out HN5.out.2 HN5.out.1 HKL.out).mono ?_; rintro e w7 ⟨rfl, hb7⟩; have HB7 := Aside0.mk (below_step HB5.out hb7); have HB07 := Aside0.mk (below_step HB05.out hb7); clear hb7))
    go_ret
    exact ⟨rfl, HB7.out⟩
  | false =>
    obtain ⟨k, r, hr, hk⟩ := hlast rfl
    have HS := Aside0.mk (show proof_Step.f a0 l0 l1 = some r by rw [proof_Step.f_eq, hr])
    have HK := Aside0.mk hk
    have HPR := Aside0.mk proves_f
    clear hr hk hlast
    have hbb : (r == r) = true := by simp
    go_enter Try.func9, Try.ntmps9
    go_upto_region 1 with (fail)
    rw [← hW0]
    clear hW0
    go_wp2_with (first | ((with_reducible refine gate_dst (N := 7) rfl ?_); refine Kd.N_lit (Kd.slice 3 (Kd.int .i64)) (w0 := W) W.heap.size 25 ?hg (N' := 7) ?hd (xs := [l1]) (inner := [.slice A1 l1.length c1]) (ok := fun _ => True) (okp := fun k => k < W.heap.size) ?hr ?hp (fun _ _ => trivial) trivial HB0.out HB0.out.size (by simp) ?_; (case hd => rfl); (case hg => rfl); (case hr => first | (go_simp; done) | (go_simp; rfl)); (case hp => exact Reps.one (shared_row HC1.out HR1.out HB0.out) (Reps.none _ _)); intro v5 w5 hn5 hb5 hg5 hat5; obtain ⟨A5, c5, rfl⟩ := Kd.N_slice hn5; have HN5 := Aside0.mk (Kd.N_reads' hn5).2; have HB5 := Aside0.mk hb5; have HB05 := Aside0.mk (grown_none hg5); clear hn5 hb5 hg5 hat5) | (go_at_call 46; refine (hoggetlaw13_large.calls kL a0 _ _ l0 _ _ [l1] _ _ (Kd.C_below HR.out HB5.out) HC.out HN5.out.2 HN5.out.1 HKL.out).mono ?_; rintro e w7 ⟨rfl, hb7⟩; have HB7 := Aside0.mk (below_step HB5.out hb7); have HB07 := Aside0.mk (below_step HB05.out hb7); clear hb7))
    have HB8 := Aside0.mk (below_drew1 HB7.out)
    obtain ⟨_, y1, y2⟩ := HW.out _ (below_drew1 HB07.out)
    go_region_with (first
      | (go_at_call 49; refine (hoggetlaw13_proves.calls true _ HPR.out).mono ?_; rintro e w8 ⟨rfl, hb8⟩; have HB9 := Aside0.mk (below_step HB8.out hb8); replace y1 := pw_cell_below hb8 y1; replace y2 := pw_cell_below hb8 y2; clear hb8 HB8)
      | (go_at_call 50; refine (proof_Step.calls a0 _ _ l0 _ _ l1 r _ (Kd.C_below HR.out HB9.out) HC.out (Kd.C_below HR1.out HB9.out) HC1.out HS.out).mono ?_; rintro e w8 ⟨rfl, hb8⟩; replace HB9 := Aside0.mk (below_step HB9.out hb8); replace y1 := pw_cell_below hb8 y1; replace y2 := pw_cell_below hb8 y2; clear hb8)
      | (go_at_call 51; refine (hoggetref13_Step.calls k a0 _ _ l0 _ _ l1 r _ (Kd.C_below HR.out HB9.out) HC.out (Kd.C_below HR1.out HB9.out) HC1.out HK.out).mono ?_; rintro e w8 ⟨rfl, hb8⟩; replace HB9 := Aside0.mk (below_step HB9.out hb8); replace y1 := pw_cell_below hb8 y1; replace y2 := pw_cell_below hb8 y2; clear hb8))
    all_goals (
      go_wp2
      go_ret
      exact ⟨rfl, HB9.out⟩)
end Go.Proofs.Ythnbmlpjbhhamaa.J
