/- solver.Solve and solver.Looks, walked. -/
import Derived.Test.YthnbmlpjbhhamaaHr
namespace Go.Proofs.Ythnbmlpjbhhamaa.J
open Go.RowKit Go.Shelf Go.Proofs.YthnbmlpjbhhamaaW.PrintWords Go.Proofs.YthnbmlpjbhhamaaW.PrintLast Go.Proofs.YthnbmlpjbhhamaaW.PrintMore
set_option linter.unusedVariables false
set_option linter.unusedSimpArgs false

/-- The search as it is made. -/
theorem search_new {w1 : World} {vars : Int} {A : Option Addr} {c : Nat} {cls : List (List Int)} (hr : Kd.C (Kd.slice 3 (Kd.int .i64)) w1 A cls.length cls) (hc : cls.length ≤ c) (hck : Sp.check vars cls = 0) :
    SRun w1 (w1.alloc (.cells #[.int .i64 vars, .slice A cls.length c, .slice none 0 0, .slice none 0 0, .int .i64 0, .bool false, .slice none 0 0, .slice none 0 0] 95)) w1.heap.size vars A c cls false 0 (decide ((Sv.ends vars cls).looks ≤ 2000), Sv.ends vars cls) [] [] Sv.St.zero (.slice none 0 0) (.slice none 0 0) (.slice none 0 0) (.slice none 0 0) :=
  ⟨⟨heap_alloc_new w1 _, Kd.R_nil _ _ _ _ _, Kd.R_nil _ _ _ _ _, Kd.R_nil _ _ _ _ _, Kd.S_nil _ _ _ _ _, Nat.le_refl _, below_alloc (Below.refl _ w1) _, hr, hc⟩,
    ⟨rfl, by simp, by simp, rfl, rfl, Nat.zero_le _⟩, Nat.le_refl _, Sv.mach_ends hck⟩

inductive LooksIs (v : Int) (cls : List (List Int)) : Option Int → Prop
  | mk : LooksIs v cls (some (Sv.looks v cls))
theorem LooksIs.some (v : Int) (cls : List (List Int)) : ∃ r, LooksIs v cls r := ⟨_, .mk⟩
noncomputable def solver_Looks.f (a0_0 : Int) (l0_1 : List (List Int)) : Option (Int) := Classical.choose (LooksIs.some a0_0 l0_1)
theorem solver_Looks.f_eq (v : Int) (cls : List (List Int)) : solver_Looks.f v cls = some (Sv.looks v cls) := by
  have h : LooksIs v cls (solver_Looks.f v cls) := Classical.choose_spec (LooksIs.some v cls)
  generalize solver_Looks.f v cls = x at h
  cases h
  rfl
set_option maxHeartbeats 4000000 in
set_option maxRecDepth 100000 in
theorem solver_Looks.calls (a0_0 : Int) (A0_1 : Option Addr) (c0_1 : Nat) (l0_1 : List (List Int)) (r : Int) (w : World) (hr0_1 : Kd.C (Kd.slice 3 (Kd.int .i64)) w A0_1 l0_1.length l0_1) (hc0_1 : l0_1.length ≤ c0_1) (h : solver_Looks.f a0_0 l0_1 = some r) :
    Calls Try.prog 57 #[.agg #[.int .i64 a0_0, .slice A0_1 l0_1.length c0_1]] w fun e w' => e = .returned (.int .i64 r) ∧ Below w.heap.size w w' := by
  rw [solver_Looks.f_eq] at h
  have h := Option.some.inj h
  obtain ⟨W0, hW0, hb0, hs0, hw0⟩ := boxed_formula w a0_0 A0_1 c0_1 l0_1.length
  have HB0 := Aside0.mk hb0
  have HW := Aside0.mk hw0
  have HR := Aside0.mk hr0_1
  have HC := Aside0.mk hc0_1
  have HCK := Aside0.mk (check_any a0_0 A0_1 c0_1 l0_1 W0 (Kd.C_below hr0_1 hb0))
  unfold Sv.looks at h
  by_cases hk : Sp.check a0_0 l0_1 = 0
  · rw [if_neg (by simp [hk])] at h
    rw [hk] at HCK
    have HCH := Aside0.mk hk
    subst h
    clear hb0 hs0 hw0 hr0_1 hc0_1 hk
    go_enter Try.func57, Try.ntmps57
    go_wp2_with fail
    rw [← hW0]
    clear hW0
    refine HCK.out.mono ?_
    rintro e w1 ⟨rfl, hb1⟩
    obtain ⟨q0, q1, q2⟩ := HW.out w1 hb1
    have HB1 := Aside0.mk q0
    clear hb1 q0
    have HRUN := Aside0.mk (search_new (Kd.C_below HR.out HB1.out) HC.out HCH.out)
    go_wp2_with (go_at_call 96; refine (srun_any HCH.out _ _ HRUN.out).mono ?_; rintro e w2 ⟨rfl, d', stk', dv', kv', mv', tv', hS⟩; have x4 : w2.cell? ⟨w1.heap.size, 4, none⟩ = some (.int .i64 ((Sv.ends a0_0 l0_1).looks : Int)) := (hS.fld 4).trans rfl; have HB2 := Aside0.mk (below_step HB1.out hS.hb); clear hS)
    go_ret
    exact ⟨rfl, HB2.out⟩
  · rw [if_pos hk] at h
    subst h
    have hk1 : (Sp.check a0_0 l0_1 != 0) = true := bne_iff_ne.2 hk
    clear hb0 hs0 hw0 hr0_1 hc0_1 hk
    generalize Sp.check a0_0 l0_1 = y at hk1 HCK
    go_enter Try.func57, Try.ntmps57
    go_wp2_with fail
    rw [← hW0]
    clear hW0
    refine HCK.out.mono ?_
    rintro e w1 ⟨rfl, hb1⟩
    obtain ⟨q0, q1, q2⟩ := HW.out w1 hb1
    have HB1 := Aside0.mk q0
    clear hb1 q0
    go_wp2
    go_ret
    exact ⟨rfl, HB1.out⟩

inductive SolveIs (v : Int) (cls : List (List Int)) : Option (Bool × List Bool × (List (List Int)) × Int) → Prop
  | mk : SolveIs v cls (some (Sv.solve v cls))
theorem SolveIs.some (v : Int) (cls : List (List Int)) : ∃ r, SolveIs v cls r := ⟨_, .mk⟩
noncomputable def solver_Solve.f (a0_0 : Int) (l0_1 : List (List Int)) : Option (Bool × List Bool × (List (List Int)) × Int) := Classical.choose (SolveIs.some a0_0 l0_1)
theorem solver_Solve.f_eq (v : Int) (cls : List (List Int)) : solver_Solve.f v cls = some (Sv.solve v cls) := by
  have h : SolveIs v cls (solver_Solve.f v cls) := Classical.choose_spec (SolveIs.some v cls)
  generalize solver_Solve.f v cls = x at h
  cases h
  rfl
theorem put3 {W : World} {g : Nat} {T : TypeId} {x y z a b c : Value} (h : W.heap[g]? = some (.cells #[x, y, z] T (0, 0))) : (((W.setCell ⟨g, 0, none⟩ a).setCell ⟨g, 1, none⟩ b).setCell ⟨g, 2, none⟩ c).heap[g]? = some (.cells #[a, b, c] T (0, 0)) := by
  have := blk_set (blk_set (blk_set h 0 a) 1 b) 2 c
  simpa using this
theorem below3 {w W : World} {g : Nat} {a b c : Value} (h : Below w.heap.size w W) (hg : w.heap.size ≤ g) : Below w.heap.size w (((W.setCell ⟨g, 0, none⟩ a).setCell ⟨g, 1, none⟩ b).setCell ⟨g, 2, none⟩ c) :=
  ((h.setCell (p := ⟨g, 0, none⟩) hg a).setCell (p := ⟨g, 1, none⟩) hg b).setCell (p := ⟨g, 2, none⟩) hg c
theorem box_two (w : World) (o1 : Obj) (cells : Array Value) (T : TypeId) : ((w.alloc o1).alloc (.cells cells T)).heap[w.heap.size + 1]? = some (.cells cells T (0, 0)) := by
  have h := heap_alloc_new (w.alloc o1) (.cells cells T)
  rw [show (w.alloc o1).heap.size = w.heap.size + 1 by simp] at h
  exact h
set_option maxHeartbeats 4000000 in
set_option maxRecDepth 100000 in
theorem solver_Solve.calls (a0_0 : Int) (A0_1 : Option Addr) (c0_1 : Nat) (l0_1 : List (List Int)) (r1 : Bool) (r2 : List Bool) (r3 : List (List Int)) (r4 : Int) (w : World) (hr0_1 : Kd.C (Kd.slice 3 (Kd.int .i64)) w A0_1 l0_1.length l0_1) (hc0_1 : l0_1.length ≤ c0_1) (h : solver_Solve.f a0_0 l0_1 = some (r1, r2, r3, r4)) :
    Calls Try.prog 53 #[.agg #[.int .i64 a0_0, .slice A0_1 l0_1.length c0_1]] w fun e w' => ∃ v1_ v2_ : Value, e = .returned (.tuple #[.agg #[.bool r1, v1_, v2_], .int .i64 r4]) ∧ Kd.R Kd.bool 4 w' w.heap.size (fun _ => True) v1_ r2 ∧ Kd.S (Kd.slice 3 (Kd.int .i64)) 25 w' w.heap.size (fun _ => True) v2_ r3 ∧ Below w.heap.size w w' := by
  rw [solver_Solve.f_eq] at h
  have h := Option.some.inj h
  have hbw := below_alloc (below_alloc (Below.refl _ w) (.cells #[.int .i64 a0_0, .slice A0_1 l0_1.length c0_1] 24)) (.cells #[.bool false, .slice none 0 0, .slice none 0 0] 51)
  have hz2 := box_two w (.cells #[.int .i64 a0_0, .slice A0_1 l0_1.length c0_1] 24) #[.bool false, .slice none 0 0, .slice none 0 0] 51
  have hz1 : ((w.alloc (.cells #[.int .i64 a0_0, .slice A0_1 l0_1.length c0_1] 24)).alloc (.cells #[.bool false, .slice none 0 0, .slice none 0 0] 51)).heap[w.heap.size]? = some (.cells #[.int .i64 a0_0, .slice A0_1 l0_1.length c0_1] 24 (0, 0)) :=
    ((below_alloc (Below.refl _ (w.alloc (.cells #[.int .i64 a0_0, .slice A0_1 l0_1.length c0_1] 24))) _).block w.heap.size (by simp)).trans (heap_alloc_new w _)
  obtain ⟨W0, hW0⟩ : ∃ W0, W0 = (w.alloc (.cells #[.int .i64 a0_0, .slice A0_1 l0_1.length c0_1] 24)).alloc (.cells #[.bool false, .slice none 0 0, .slice none 0 0] 51) := ⟨_, rfl⟩
  have hsz0 : W0.heap.size = w.heap.size + 2 := by rw [hW0]; simp
  rw [← hW0] at hbw hz1 hz2
  have HB0 := Aside0.mk hbw
  have HZ1 := Aside0.mk hz1
  have HZ2 := Aside0.mk hz2
  have HR := Aside0.mk (Kd.C_below hr0_1 hbw)
  have HC := Aside0.mk hc0_1
  have HSZ := Aside0.mk hsz0
  have HCK := Aside0.mk (check_any a0_0 A0_1 c0_1 l0_1 W0 (Kd.C_below hr0_1 hbw))
  unfold Sv.solve at h
  by_cases hk : Sp.check a0_0 l0_1 = 0
  · rw [if_neg (by simp [hk])] at h
    rw [hk] at HCK
    have HCH := Aside0.mk hk
    clear hbw hz1 hz2 hsz0 hr0_1 hc0_1 hk
    by_cases hl : 2000 < (Sv.ends a0_0 l0_1).looks
    · rw [if_pos hl] at h
      injection h with h1 h
      injection h with h2 h
      injection h with h3 h4
      subst h1 h2 h3 h4
      have hd : decide ((Sv.ends a0_0 l0_1).looks ≤ 2000) = false := decide_eq_false (by omega)
      go_enter Try.func53, Try.ntmps53
      go_wp2_with fail
      rw [← hW0]
      clear hW0
      refine HCK.out.mono ?_
      rintro e w1 ⟨rfl, hb1⟩
      have HZ3 := Aside0.mk ((hb1.block _ (by have := HSZ.out; omega)).trans HZ1.out)
      have HZ4 := Aside0.mk ((hb1.block _ (by have := HSZ.out; omega)).trans HZ2.out)
      have q1 : w1.cell? ⟨w.heap.size, 0, none⟩ = some (.int .i64 a0_0) := (blk_cell HZ3.out 0).trans rfl
      have q2 : w1.cell? ⟨w.heap.size, 1, none⟩ = some (.slice A0_1 l0_1.length c0_1) := (blk_cell HZ3.out 1).trans rfl
      have HRUN := Aside0.mk (search_new (Kd.C_below HR.out hb1) HC.out HCH.out)
      have HB1 := Aside0.mk (below_step HB0.out hb1)
      have hlt : w.heap.size + 1 < w1.heap.size := by have := hb1.size; have := HSZ.out; omega
      clear hb1
      rw [hd] at HRUN
      go_wp2_with (go_at_call 96; refine (srun_any HCH.out _ _ HRUN.out).mono ?_; rintro e w2 ⟨rfl, d', stk', dv', kv', mv', tv', hS⟩; have hZ5 := (hS.hb.block _ hlt).trans HZ4.out; have c0 : w2.cell? ⟨w.heap.size + 1, 0, none⟩ = some (.bool false) := (blk_cell hZ5 0).trans rfl; have c1 : w2.cell? ⟨w.heap.size + 1, 1, none⟩ = some (.slice none 0 0) := (blk_cell hZ5 1).trans rfl; have c2 : w2.cell? ⟨w.heap.size + 1, 2, none⟩ = some (.slice none 0 0) := (blk_cell hZ5 2).trans rfl; have d0 := blk_frozen hZ5 0; have d1 := blk_frozen hZ5 1; have d2 := blk_frozen hZ5 2; have HZ5 := Aside0.mk hZ5; have HB2 := Aside0.mk (below_step HB1.out hS.hb); clear hS hZ5)
      refine bodyPost_ret (results_ct rfl _ _ (w.heap.size + 1) 51 #[.bool false, .slice none 0 0, .slice none 0 0] (0, 0) _ rfl (put3 HZ5.out) Try.underlying51 rfl (by kernel_rfl)) rfl ?_
      exact ⟨_, _, rfl, Kd.R_nil _ _ _ _ _, Kd.S_nil _ _ _ _ _, below3 HB2.out (by omega)⟩
    · rw [if_neg hl] at h
      injection h with h1 h
      injection h with h2 h
      injection h with h3 h4
      subst h1 h2 h3 h4
      have hd : decide ((Sv.ends a0_0 l0_1).looks ≤ 2000) = true := decide_eq_true (by omega)
      go_enter Try.func53, Try.ntmps53
      go_wp2_with fail
      rw [← hW0]
      clear hW0
      refine HCK.out.mono ?_
      rintro e w1 ⟨rfl, hb1⟩
      have HZ3 := Aside0.mk ((hb1.block _ (by have := HSZ.out; omega)).trans HZ1.out)
      have HZ4 := Aside0.mk ((hb1.block _ (by have := HSZ.out; omega)).trans HZ2.out)
      have q1 : w1.cell? ⟨w.heap.size, 0, none⟩ = some (.int .i64 a0_0) := (blk_cell HZ3.out 0).trans rfl
      have q2 : w1.cell? ⟨w.heap.size, 1, none⟩ = some (.slice A0_1 l0_1.length c0_1) := (blk_cell HZ3.out 1).trans rfl
      have HRUN := Aside0.mk (search_new (Kd.C_below HR.out hb1) HC.out HCH.out)
      have HB1 := Aside0.mk (below_step HB0.out hb1)
      have hlt : w.heap.size + 1 < w1.heap.size := by have := hb1.size; have := HSZ.out; omega
      clear hb1
      rw [hd] at HRUN
      go_wp2_with (go_at_call 96; refine (srun_any HCH.out _ _ HRUN.out).mono ?_; rintro e w2 ⟨rfl, d', stk', dv', kv', mv', tv', hS⟩; have hZ5 := (hS.hb.block _ hlt).trans HZ4.out; have x5 : w2.cell? ⟨w1.heap.size, 5, none⟩ = some (.bool (Sv.ends a0_0 l0_1).sat) := (hS.fld 5).trans rfl; have x6 : w2.cell? ⟨w1.heap.size, 6, none⟩ = some mv' := (hS.fld 6).trans rfl; have x7 : w2.cell? ⟨w1.heap.size, 7, none⟩ = some tv' := (hS.fld 7).trans rfl; have c0 : w2.cell? ⟨w.heap.size + 1, 0, none⟩ = some (.bool false) := (blk_cell hZ5 0).trans rfl; have c1 : w2.cell? ⟨w.heap.size + 1, 1, none⟩ = some (.slice none 0 0) := (blk_cell hZ5 1).trans rfl; have c2 : w2.cell? ⟨w.heap.size + 1, 2, none⟩ = some (.slice none 0 0) := (blk_cell hZ5 2).trans rfl; have d0 := blk_frozen hZ5 0; have d1 := blk_frozen hZ5 1; have d2 := blk_frozen hZ5 2; have HZ5 := Aside0.mk hZ5; have HB2 := Aside0.mk (below_step HB1.out hS.hb); have HM := Aside0.mk hS.hm; have HT := Aside0.mk hS.ht; obtain ⟨Am, cm, em⟩ := Kd.R_slice hS.hm; obtain ⟨At, ct, et⟩ := Kd.R_slice (Kd.S_R hS.ht); subst em; subst et; clear hS hZ5)
      refine bodyPost_ret (results_ct rfl _ _ (w.heap.size + 1) 51 #[.bool (Sv.ends a0_0 l0_1).sat, .slice Am (Sv.ends a0_0 l0_1).model.length cm, .slice At (Sv.ends a0_0 l0_1).trace.length ct] (0, 0) _ rfl (put3 HZ5.out) Try.underlying51 rfl (by kernel_rfl)) rfl ?_
      refine ⟨_, _, rfl, ?_, ?_, below3 HB2.out (by omega)⟩
      · have h9 := Kd.R_mono (ok' := fun k => k ≠ w.heap.size + 1) (Kd.R_bound HM.out) (fun k hk => by have := hk.2.1; omega)
        exact Kd.R_mono (Kd.R_lower (Kd.R_far (p := ⟨w.heap.size + 1, 2, none⟩) (Kd.R_far (p := ⟨w.heap.size + 1, 1, none⟩) (Kd.R_far (p := ⟨w.heap.size + 1, 0, none⟩) h9 (fun k hk => hk) _) (fun k hk => hk) _) (fun k hk => hk) _) (by omega)) (fun _ _ => trivial)
      · have h9 := Kd.S_mono (ok' := fun k => k ≠ w.heap.size + 1) (Kd.S_bound HT.out) (fun k hk => by have := hk.2.1; omega)
        exact Kd.S_mono (Kd.S_lower (Kd.S_far (p := ⟨w.heap.size + 1, 2, none⟩) (Kd.S_far (p := ⟨w.heap.size + 1, 1, none⟩) (Kd.S_far (p := ⟨w.heap.size + 1, 0, none⟩) h9 (fun k hk => hk) _) (fun k hk => hk) _) (fun k hk => hk) _) (by omega)) (fun _ _ => trivial)
  · rw [if_pos hk] at h
    injection h with h1 h
    injection h with h2 h
    injection h with h3 h4
    subst h1 h2 h3 h4
    have hk1 : (Sp.check a0_0 l0_1 != 0) = true := bne_iff_ne.2 hk
    clear hbw hz1 hz2 hsz0 hr0_1 hc0_1 hk
    generalize Sp.check a0_0 l0_1 = y at hk1 HCK ⊢
    go_enter Try.func53, Try.ntmps53
    go_wp2_with fail
    rw [← hW0]
    clear hW0
    refine HCK.out.mono ?_
    rintro e w2 ⟨rfl, hb1⟩
    have hZ5 := (hb1.block _ (by have := HSZ.out; omega)).trans HZ2.out
    have c0 : w2.cell? ⟨w.heap.size + 1, 0, none⟩ = some (.bool false) := (blk_cell hZ5 0).trans rfl
    have c1 : w2.cell? ⟨w.heap.size + 1, 1, none⟩ = some (.slice none 0 0) := (blk_cell hZ5 1).trans rfl
    have c2 : w2.cell? ⟨w.heap.size + 1, 2, none⟩ = some (.slice none 0 0) := (blk_cell hZ5 2).trans rfl
    have d0 := blk_frozen hZ5 0
    have d1 := blk_frozen hZ5 1
    have d2 := blk_frozen hZ5 2
    have HZ5 := Aside0.mk hZ5
    have HB2 := Aside0.mk (below_step HB0.out hb1)
    clear hb1 hZ5
    go_wp2
    refine bodyPost_ret (results_ct rfl _ _ (w.heap.size + 1) 51 #[.bool false, .slice none 0 0, .slice none 0 0] (0, 0) _ rfl (put3 HZ5.out) Try.underlying51 rfl (by kernel_rfl)) rfl ?_
    exact ⟨_, _, rfl, Kd.R_nil _ _ _ _ _, Kd.S_nil _ _ _ _ _, below3 HB2.out (by omega)⟩
end Go.Proofs.Ythnbmlpjbhhamaa.J
