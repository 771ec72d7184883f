/- The document's looks (layer 12), walked: their state in memory, a look, Run, Solve, Looks. -/
import Derived.Test.YthnbmlpjbhhamaaGF
import Derived.Test.YthnbmlpjbhhamaaP11
import Derived.Test.YthnbmlpjbhhamaaHl
import Derived.Test.YthnbmlpjbhhamaaSl
namespace Go.Proofs.Ythnbmlpjbhhamaa.J
open Go.RowKit Go.Shelf Go.Proofs.YthnbmlpjbhhamaaW.PrintWords Go.Proofs.YthnbmlpjbhhamaaW.PrintLast Go.Proofs.YthnbmlpjbhhamaaW.PrintMore
set_option linter.unusedVariables false
set_option linter.unusedSimpArgs false

/-- The document's search at block g: what it has come to is s; its trace is kept when a model is told. -/
structure Lst (w0 W : World) (g : Nat) (vars : Int) (A : Option Addr) (c : Nat) (cls : List (List Int)) (s : Sv.St) (mv tv : Value) : Prop where
  hg : W.heap[g]? = some (.cells #[.int .i64 vars, .slice A cls.length c, .int .i64 (s.looks : Int), .bool s.sat, mv, tv] 99 (0, 0))
  hm : Kd.R Kd.bool 4 W w0.heap.size (fun k => k ≠ g) mv s.model
  ht : Kd.S (Kd.slice 3 (Kd.int .i64)) 25 W w0.heap.size (fun k => k ≠ g) tv s.trace
  bg : w0.heap.size ≤ g
  hb : Below w0.heap.size w0 W
  hr : Kd.C (Kd.slice 3 (Kd.int .i64)) w0 A cls.length cls
  hc : cls.length ≤ c
/-- The rows of numbers that lie there are kept. -/
def Held (b0 g : Nat) (W w' : World) : Prop := ∀ v l, Kd.R (Kd.int .i64) 3 W b0 (fun k => k ≠ g) v l → Kd.R (Kd.int .i64) 3 w' b0 (fun k => k ≠ g) v l
theorem Held.refl (b0 g : Nat) (W : World) : Held b0 g W W := fun _ _ h => h
theorem Held.trans {b0 g : Nat} {W w1 w2 : World} (h : Held b0 g W w1) (h' : Held b0 g w1 w2) : Held b0 g W w2 := fun v l hr => h' v l (h v l hr)
theorem Held.below {b0 g : Nat} {W w1 : World} (hb : Below W.heap.size W w1) : Held b0 g W w1 := fun v l hr => Kd.R_below hr hb
theorem Held.set {b0 g j : Nat} {W : World} {u : Value} : Held b0 g W (W.setCell ⟨g, j, none⟩ u) := fun v l hr => Kd.R_far hr (fun k hk => hk) u

section
variable {w0 W w1 : World} {g : Nat} {vars : Int} {A : Option Addr} {c : Nat} {cls : List (List Int)} {s : Sv.St} {mv tv v1 : Value}
theorem Lst.lt (h : Lst w0 W g vars A c cls s mv tv) : g < W.heap.size := (Array.getElem?_eq_some_iff.1 h.hg).1
theorem Lst.below (h : Lst w0 W g vars A c cls s mv tv) (hb : Below W.heap.size W w1) : Lst w0 w1 g vars A c cls s mv tv :=
  ⟨(hb.block g h.lt).trans h.hg, Kd.R_below h.hm hb, Kd.S_below h.ht hb, h.bg, below_then h.hb h.hb.size hb, h.hr, h.hc⟩
theorem Lst.fld (h : Lst w0 W g vars A c cls s mv tv) (j : Nat) : W.cell? ⟨g, j, none⟩ = #[.int .i64 vars, .slice A cls.length c, .int .i64 (s.looks : Int), .bool s.sat, mv, tv][j]? := blk_cell h.hg j
theorem Lst.kept (h : Lst w0 W g vars A c cls s mv tv) {u : Value} (hu : ∀ k, u.ownBlock = some k → k ≠ g) (hgw : W.grownBy w1 u.ownBlock) : w1.heap[g]? = some (.cells #[.int .i64 vars, .slice A cls.length c, .int .i64 (s.looks : Int), .bool s.sat, mv, tv] 99 (0, 0)) :=
  (hgw.block g h.lt (fun e => hu g e.symm rfl)).trans h.hg
theorem Lst.putL (h : Lst w0 W g vars A c cls s mv tv) (n : Nat) :
    Lst w0 (W.setCell ⟨g, 2, none⟩ (.int .i64 (n : Int))) g vars A c cls ⟨n, s.sat, s.model, s.trace⟩ mv tv := by
  refine ⟨?_, Kd.R_far h.hm (fun k hk => hk) _, Kd.S_far h.ht (fun k hk => hk) _, h.bg, h.hb.setCell (p := ⟨g, 2, none⟩) h.bg _, h.hr, h.hc⟩
  have := cells_set h.hg 2 (.int .i64 (n : Int))
  simpa using this
theorem Lst.putS (h : Lst w0 W g vars A c cls s mv tv) :
    Lst w0 (W.setCell ⟨g, 3, none⟩ (.bool true)) g vars A c cls ⟨s.looks, true, s.model, s.trace⟩ mv tv := by
  refine ⟨?_, Kd.R_far h.hm (fun k hk => hk) _, Kd.S_far h.ht (fun k hk => hk) _, h.bg, h.hb.setCell (p := ⟨g, 3, none⟩) h.bg _, h.hr, h.hc⟩
  have := cells_set h.hg 3 (.bool true)
  simpa using this
theorem Lst.putM (h : Lst w0 W g vars A c cls s mv tv) {m : List Bool} (hn : Kd.R Kd.bool 4 w1 w0.heap.size (fun k => k ≠ g) v1 m) (hb : Below w0.heap.size w0 w1) (hgw : W.grownBy w1 mv.ownBlock) :
    Lst w0 (w1.setCell ⟨g, 4, none⟩ v1) g vars A c cls ⟨s.looks, s.sat, m, s.trace⟩ v1 tv := by
  refine ⟨?_, Kd.R_far hn (fun k hk => hk) v1, Kd.S_far (Kd.S_over' h.ht (Kd.R_typed h.hm) (by decide) hgw) (fun k hk => hk) v1, h.bg, hb.setCell (p := ⟨g, 4, none⟩) h.bg v1, h.hr, h.hc⟩
  have := cells_set (h.kept (fun k hk => h.hm.1 k hk) hgw) 4 v1
  simpa using this
theorem Lst.heldM (h : Lst w0 W g vars A c cls s mv tv) (hgw : W.grownBy w1 mv.ownBlock) (j : Nat) (u : Value) : Held w0.heap.size g W (w1.setCell ⟨g, j, none⟩ u) :=
  fun v l hr => Kd.R_far (Kd.R_over hr h.hm (by decide) hgw) (fun k hk => hk) u
theorem Lst.putT (h : Lst w0 W g vars A c cls s mv tv) {t : List (List Int)} (hn : Kd.S (Kd.slice 3 (Kd.int .i64)) 25 w1 w0.heap.size (fun k => k ≠ g) v1 t) (hb : Below w0.heap.size w0 w1) (hgw : W.grownBy w1 tv.ownBlock) :
    Lst w0 (w1.setCell ⟨g, 5, none⟩ v1) g vars A c cls ⟨s.looks, s.sat, s.model, t⟩ mv v1 := by
  have hT := Kd.S_R h.ht
  refine ⟨?_, Kd.R_far (Kd.R_over h.hm hT (by decide) hgw) (fun k hk => hk) v1, Kd.S_far hn (fun k hk => hk) v1, h.bg, hb.setCell (p := ⟨g, 5, none⟩) h.bg v1, h.hr, h.hc⟩
  have := cells_set (h.kept (fun k hk => hT.1 k hk) hgw) 5 v1
  simpa using this
theorem Lst.heldT (h : Lst w0 W g vars A c cls s mv tv) (hgw : W.grownBy w1 tv.ownBlock) (j : Nat) (u : Value) : Held w0.heap.size g W (w1.setCell ⟨g, j, none⟩ u) :=
  fun v l hr => Kd.R_far (Kd.R_over hr (Kd.S_R h.ht) (by decide) hgw) (fun k hk => hk) u
end

/-! ### literals, turned round; one more -/
theorem turned_from (l : List Int) (hx : ∀ x ∈ l, -60 ≤ x ∧ x ≤ 60) (hl : l.length ≤ 1000000) : ∀ (d i : Nat) (acc : List Int), l.length - i = d → i ≤ l.length → acc.length = i → Ev (fun k => hoggetref12_turned.l0 k l acc (i : Int)) (acc ++ Pf.turned (l.drop i)) := by
  intro d
  induction d with
  | zero =>
    intro i acc hd hi ha
    have e : l.drop i = [] := List.drop_eq_nil_of_le (by omega)
    rw [e]
    refine next_ev ?_
    simp only [hoggetref12_turned.l0]
    refine neg_ev (by omega) ?_
    rw [show acc ++ Pf.turned [] = acc from List.append_nil _]
    exact Ev.now _
  | succ d ih =>
    intro i acc hd hi ha
    have hlt : i < l.length := by omega
    have hb := hx _ (List.getElem_mem hlt)
    refine next_ev ?_
    simp only [hoggetref12_turned.l0]
    refine pos_ev (by omega) (pos_ev (by omega) (pos_ev (by omega) ?_))
    have h := ih (i + 1) (acc ++ [-l[i]]) (by omega) (by omega) (by rw [List.length_append, ha]; rfl)
    rw [rd_at l i hlt, wrap_neg (by omega) (by omega), wrap_succ hlt (by omega)]
    rw [List.drop_eq_getElem_cons hlt]
    have e : acc ++ Pf.turned (l[i] :: l.drop (i + 1)) = (acc ++ [-l[i]]) ++ Pf.turned (l.drop (i + 1)) := by unfold Pf.turned; rw [List.map_cons, List.append_assoc]; rfl
    rw [e]
    exact h
theorem turned_ev (l : List Int) (hx : ∀ x ∈ l, -60 ≤ x ∧ x ≤ 60) (hl : l.length ≤ 1000000) : Ev (fun k => hoggetref12_turned.f k l) (Pf.turned l) := by
  have h := turned_from l hx hl l.length 0 [] rfl (Nat.zero_le _) rfl
  rw [List.nil_append, List.drop_zero] at h
  exact h
theorem with_f (l : List Int) (n : Int) (hl : l.length ≤ 1000000) : hoggetref12_with.f l n = some (l ++ [n]) := by
  unfold hoggetref12_with.f
  rw [own_f l (by omega)]
  exact if_pos (by omega)

/-- What a look comes to. -/
def LookP (w0 : World) (g : Nat) (vars : Int) (A : Option Addr) (c : Nat) (cls : List (List Int)) (k : Nat) (d : List Int) (s : Sv.St) (r : Bool × Sv.St) : Prop :=
  ∀ (W : World) (mv tv dv : Value), Lst w0 W g vars A c cls s mv tv → s.sat = false → s.model = [] → s.looks ≤ 2000 → s.trace.length ≤ s.looks → Kd.R (Kd.int .i64) 3 W w0.heap.size (fun k => k ≠ g) dv d →
    Calls Try.prog 125 #[.pointer (some ⟨g, 0, none⟩), dv] W fun e w' => e = .returned (.bool r.1) ∧ ∃ mv' tv' t', Lst w0 w' g vars A c cls ⟨r.2.looks, r.2.sat, r.2.model, t'⟩ mv' tv' ∧ (r.2.sat = false → t' = r.2.trace) ∧
      (r.1 = true → r.2.sat = false ∧ r.2.model = [] ∧ r.2.looks ≤ 2000 ∧ r.2.trace.length + s.looks ≤ s.trace.length + r.2.looks) ∧ Held w0.heap.size g W w'

theorem free_fits {vars : Int} {cls : List (List Int)} (hc : Sp.check vars cls = 0) (d : List Int) : -60 ≤ Uk.free vars cls d ∧ Uk.free vars cls d ≤ 60 := by
  have hv := Sp.check_ok hc
  by_cases h : Uk.free vars cls d = 0
  · omega
  · by_cases hok : (Uk.prop vars cls d).2 = 0
    · have := Uk.free_some (Uk.ok_iff.1 hok) h; omega
    · exfalso; apply h; unfold Uk.free; rw [if_pos hok]
section
variable {w0 : World} {g : Nat} {vars : Int} {A : Option Addr} {c : Nat} {cls : List (List Int)}
set_option maxHeartbeats 4000000 in
set_option maxRecDepth 100000 in
theorem look_spent_walk (k : Nat) (d : List Int) (s : Sv.St) (hsp : 2000 < s.looks + 1) : LookP w0 g vars A c cls (k + 1) d s (false, s.tick) := by
  (intro W mv tv dv hS hsat hmod hlk htr hd; obtain ⟨Ad, cd, ed⟩ := Kd.R_slice hd; subst ed; have e2 : W.cell? ⟨g, 2, none⟩ = some (.int .i64 (s.looks : Int)) := (hS.fld 2).trans rfl; have f2 := blk_frozen hS.hg 2; have hw : IntKind.i64.wrap ((s.looks : Int) + 1) = (s.looks : Int) + 1 := IntWalk.i64_in _ (by omega); have ec : ((s.looks + 1 : Nat) : Int) = (s.looks : Int) + 1 := (by omega); have HS := Aside0.mk hS; have HT := Aside0.mk (show Lst w0 (W.setCell ⟨g, 2, none⟩ (.int .i64 ((s.looks : Int) + 1))) g vars A c cls s.tick mv tv from by have h9 := hS.putL (s.looks + 1); rw [ec] at h9; exact h9); have HD := Aside0.mk (Held.set (j := 2) (u := .int .i64 ((s.looks : Int) + 1)) _ _ hd); have HTR := Aside0.mk htr; have HSAT := Aside0.mk hsat; have HMOD := Aside0.mk hmod; clear hS hd htr hsat hmod)
  have h2000 : (2000 : Int) < (s.looks : Int) + 1 := by omega
  (go_enter Try.func125, Try.ntmps125; go_upto_region 2 with (fail); obtain ⟨W1, hW1⟩ : ∃ W1, W1 = W.setCell ⟨g, 2, none⟩ (.int .i64 ((s.looks : Int) + 1)) := ⟨_, rfl⟩; have HH := Aside0.mk (show Held w0.heap.size g W W1 from by rw [hW1]; exact Held.set); rw [← hW1] at HT HD ⊢; clear hW1; have x2 : W1.cell? ⟨g, 2, none⟩ = some (.int .i64 ((s.looks : Int) + 1)) := (HT.out.fld 2).trans (by show some (Value.int .i64 ((s.looks + 1 : Nat) : Int)) = _; rw [ec]); clear e2 f2)
  go_wp2
  go_ret
  exact ⟨rfl, mv, tv, s.trace, HT.out, fun _ => rfl, fun h => absurd h (by decide), HH.out⟩

set_option maxHeartbeats 4000000 in
set_option maxRecDepth 100000 in
/-- The clause of a look that fails. -/
theorem look_clash_walk (hck : Sp.check vars cls = 0) (k : Nat) (d : List Int) (s : Sv.St) (hf : Sv.Fine vars d) (hle : s.looks + 1 ≤ 2000) (hbad : (Uk.prop vars cls d).2 ≠ 0) : LookP w0 g vars A c cls (k + 1) d s (true, s.tick.lay d) := by
  (intro W mv tv dv hS hsat hmod hlk htr hd; obtain ⟨Ad, cd, ed⟩ := Kd.R_slice hd; subst ed; have e2 : W.cell? ⟨g, 2, none⟩ = some (.int .i64 (s.looks : Int)) := (hS.fld 2).trans rfl; have f2 := blk_frozen hS.hg 2; have hw : IntKind.i64.wrap ((s.looks : Int) + 1) = (s.looks : Int) + 1 := IntWalk.i64_in _ (by omega); have ec : ((s.looks + 1 : Nat) : Int) = (s.looks : Int) + 1 := (by omega); have HS := Aside0.mk hS; have HT := Aside0.mk (show Lst w0 (W.setCell ⟨g, 2, none⟩ (.int .i64 ((s.looks : Int) + 1))) g vars A c cls s.tick mv tv from by have h9 := hS.putL (s.looks + 1); rw [ec] at h9; exact h9); have HD := Aside0.mk (Held.set (j := 2) (u := .int .i64 ((s.looks : Int) + 1)) _ _ hd); have HTR := Aside0.mk htr; have HSAT := Aside0.mk hsat; have HMOD := Aside0.mk hmod; clear hS hd htr hsat hmod)
  have h2000 : ¬ (2000 : Int) < (s.looks : Int) + 1 := by omega
  obtain ⟨⟨v0, v1, _⟩, v2, v3⟩ := Sp.check_iff.1 hck
  have hd60 : d.length ≤ 60 := by have := hf.size; omega
  have hdx : ∀ x ∈ d, -60 ≤ x ∧ x ≤ 60 := fun x hx => by have := Sp.lit_iff.1 (hf.lits x hx); omega
  have hsm : Small cls d := ⟨by omega, fun c hc => by have := v3 c hc; omega, by omega⟩
  obtain ⟨l, pe, hp⟩ : ∃ l pe, Uk.prop vars cls d = (l, pe) := ⟨_, _, rfl⟩
  obtain ⟨kp, hkp⟩ := (prop11_ev vars cls d hsm).rounds
  rw [hp] at hkp hbad
  have HKP := Aside0.mk hkp
  obtain ⟨kt, hkt⟩ := (turned_ev d hdx (by omega)).rounds
  obtain ⟨tc, htc⟩ : ∃ tc, Pf.turned d = tc := ⟨_, rfl⟩
  rw [htc] at hkt
  have HTC := Aside0.mk htc
  have HKT := Aside0.mk hkt
  have HTL := Aside0.mk (show ∀ tr, tr = s.tick.trace → tr.length ≤ 2000 from fun tr e => by rw [e]; show s.trace.length ≤ 2000; have := HTR.out; omega)
  have t1 : (pe == 0) = false := beq_eq_false_iff_ne.2 hbad
  have HLK := Aside0.mk hlk
  have HLE := Aside0.mk hle
  clear htc hkp hkt hbad hp hsm hdx hck v0 v1 v2 v3 hf
  (go_enter Try.func125, Try.ntmps125; go_upto_region 2 with (fail); obtain ⟨W1, hW1⟩ : ∃ W1, W1 = W.setCell ⟨g, 2, none⟩ (.int .i64 ((s.looks : Int) + 1)) := ⟨_, rfl⟩; have HH := Aside0.mk (show Held w0.heap.size g W W1 from by rw [hW1]; exact Held.set); rw [← hW1] at HT HD ⊢; clear hW1; have x2 : W1.cell? ⟨g, 2, none⟩ = some (.int .i64 ((s.looks : Int) + 1)) := (HT.out.fld 2).trans (by show some (Value.int .i64 ((s.looks + 1 : Nat) : Int)) = _; rw [ec]); clear e2 f2)
  (have x0 : W1.cell? ⟨g, 0, none⟩ = some (.int .i64 vars) := (HT.out.fld 0).trans rfl; have x1 : W1.cell? ⟨g, 1, none⟩ = some (.slice A cls.length c) := (HT.out.fld 1).trans rfl; have HDC := Aside0.mk (Kd.R_reads' HD.out).2)
  go_upto_region 16 with ((go_at_call 36; refine (hoggetref11_Propagate.calls kp vars _ _ cls _ _ d l pe _ (Kd.C_below HT.out.hr HT.out.hb) HT.out.hc HDC.out.2 HDC.out.1 HKP.out).mono ?_; clear HKP; rintro e w2 ⟨v, rfl, ho, hb2⟩; obtain ⟨Al, cl, rfl, hc1, hc2⟩ := row_reads ho; have HL2 := Aside0.mk (show Kd.R (Kd.int .i64) 3 w2 w0.heap.size (fun k => k ≠ g) (.slice Al l.length cl) l from Kd.R_mono (Kd.R_lower (Kd.R_bound ho) HT.out.hb.size) (fun k hk => by have h1 := HT.out.lt; have h2 := hk.2.1; omega)); have HS2 := Aside0.mk (HT.out.below hb2); have HD2 := Aside0.mk (Kd.R_below HD.out hb2); have HH2 := Aside0.mk (HH.out.trans (Held.below hb2)); replace x0 := pw_cell_below hb2 x0; replace x1 := pw_cell_below hb2 x1; clear x2 ho hc1 hc2 hb2))
  (obtain ⟨tr, htr⟩ : ∃ tr, tr = (s.tick).trace := ⟨_, rfl⟩; have HTRE := Aside0.mk htr; have HS2t := Aside0.mk (show Kd.S (Kd.slice 3 (Kd.int .i64)) 25 w2 w0.heap.size (fun k => k ≠ g) tv tr from by rw [htr]; exact HS2.out.ht); clear htr; obtain ⟨At, ct, et⟩ := Kd.R_slice (Kd.S_R HS2t.out); subst et; have HSd := Aside0.mk (HS2.out.below (below_drew (Below.refl _ _))); have HTd := Aside0.mk (Kd.S_below HS2t.out (below_drew (Below.refl _ _))); have HDd := Aside0.mk (Kd.R_reads' (Kd.R_below HD2.out (below_drew (Below.refl _ _)))).2; have HHd := Aside0.mk (HH2.out.trans (Held.below (below_drew (Below.refl _ _)))); have b5 : w2.drew.cell? ⟨g, 5, none⟩ = some (.slice At tr.length ct) := (HSd.out.fld 5).trans rfl; obtain ⟨ts, hts⟩ : ∃ ts, ts = tr ++ [tc] := ⟨_, rfl⟩; have HTS := Aside0.mk hts; clear hts)
  replace HTL := Aside0.mk (HTL.out tr HTRE.out)
  clear x0 x1
  go_region_law (first | (refine Kd.S_append_step (Kd.slice 3 (Kd.int .i64)) (w0 := w0) w0.heap.size rfl (.tmp 96) (.tmp 99) 22 25 (.slice none 0 0) 24 rfl Try.underlying22 info_rows rfl (by decide) (by omega) (.slice At tr.length ct) tr tc [.slice Ac tc.length cc] (fun k => k ≠ g) (fun k => some k = (Value.slice Ac tc.length cc).ownBlock) rfl rfl HP.out HOK.out HFR.out HOS.out HS3.out.hb HS3.out.hb.size (by have := HTL.out; omega) ?_; intro v1 w1 hn1 hb1 hg1 hat1; rw [← HTS.out] at hn1; obtain ⟨A9, c9, ev⟩ := Kd.R_slice (Kd.S_R hn1); subst ev; have k1 := HS3.out.kept (u := .slice At tr.length ct) (fun k hk => (Kd.S_R HTd.out).1 k hk) hg1; have z1 := blk_frozen k1 5; have z2 : w1.cell? ⟨g, 5, none⟩ = some (.slice At tr.length ct) := (blk_cell k1 5).trans rfl; have HH4 := Aside0.mk (HH3.out.trans (HS3.out.heldT hg1 5 (.slice A9 ts.length c9))); have HS4 := Aside0.mk (HS3.out.putT hn1 hb1 hg1); clear hn1 hb1 hg1 hat1 k1) | (go_simp; go_wp2_with (go_at_call 136; refine (hoggetref12_turned.calls kt _ _ d tc _ HDd.out.2 HDd.out.1 HKT.out).mono ?_; clear HKT; rintro e w3 ⟨v, rfl, ho, hb3⟩; obtain ⟨Ac, cc, ec⟩ := Kd.R_slice ho; subst ec; have HS3 := Aside0.mk (HSd.out.below hb3); have HH3 := Aside0.mk (HHd.out.trans (Held.below hb3)); have HP := Aside0.mk (show (Kd.slice 3 (Kd.int .i64)).M w3 w0.heap.size (fun k => some k = (Value.slice Ac tc.length cc).ownBlock) tc [.slice Ac tc.length cc] from ⟨_, rfl, Kd.R_tight rfl (Kd.R_lower ho HSd.out.hb.size)⟩); have HOK := Aside0.mk (show ∀ k, some k = (Value.slice Ac tc.length cc).ownBlock → k ≠ g ∧ some k ≠ (Value.slice At tr.length ct).ownBlock from (by intro k hk; have h1 := Kd.R_base ho k hk.symm; have h2 := HSd.out.lt; refine ⟨by omega, fun e => ?_⟩; have h3 := Kd.R_lt (Kd.S_R HTd.out) k e.symm; omega)); have HOS := Aside0.mk (show Kd.S (Kd.slice 3 (Kd.int .i64)) 25 w3 w0.heap.size (fun k => k ≠ g ∧ ¬ (some k = (Value.slice Ac tc.length cc).ownBlock)) (.slice At tr.length ct) tr from Kd.S_mono (Kd.S_old HTd.out hb3) (fun k hk => ⟨hk.1, fun e => by have := Kd.R_base ho k e.symm; omega⟩)); have HFR := Aside0.mk (show ∀ k, w3.heap.size ≤ k → k ≠ g from fun k hk => by have := HS3.out.lt; omega); have a5 := pw_cell_below hb3 b5; have a5a : ∀ o, (w3.alloc o).cell? ⟨g, 5, none⟩ = some (.slice At tr.length ct) := (fun o => pw_cell_below (below_alloc (Below.refl _ w3) o) a5); clear ho hb3)))
  all_goals (
    go_wp2
    go_ret
    refine ⟨rfl, mv, .slice A9 ts.length c9, ts, HS4.out, fun _ => ?_, fun _ => ⟨HSAT.out, HMOD.out, HLE.out, ?_⟩, HH4.out⟩
    · rw [HTS.out, HTRE.out, ← HTC.out]; rfl
    · show (s.trace ++ [Pf.turned d]).length + s.looks ≤ s.trace.length + (s.looks + 1)
      rw [List.length_append, List.length_singleton]; omega)

set_option maxHeartbeats 4000000 in
set_option maxRecDepth 100000 in
/-- A look that is a model's. -/
theorem look_full_walk (hck : Sp.check vars cls = 0) (k : Nat) (d : List Int) (s : Sv.St) (hf : Sv.Fine vars d) (hle : s.looks + 1 ≤ 2000) (hok : Uk.Ok vars cls d) (hfull : ((Uk.prop vars cls d).1.length : Int) = vars) : LookP w0 g vars A c cls (k + 1) d s (false, s.tick.tell (Uk.prop vars cls d).1) := by
  (intro W mv tv dv hS hsat hmod hlk htr hd; obtain ⟨Ad, cd, ed⟩ := Kd.R_slice hd; subst ed; have e2 : W.cell? ⟨g, 2, none⟩ = some (.int .i64 (s.looks : Int)) := (hS.fld 2).trans rfl; have f2 := blk_frozen hS.hg 2; have hw : IntKind.i64.wrap ((s.looks : Int) + 1) = (s.looks : Int) + 1 := IntWalk.i64_in _ (by omega); have ec : ((s.looks + 1 : Nat) : Int) = (s.looks : Int) + 1 := (by omega); have HS := Aside0.mk hS; have HT := Aside0.mk (show Lst w0 (W.setCell ⟨g, 2, none⟩ (.int .i64 ((s.looks : Int) + 1))) g vars A c cls s.tick mv tv from by have h9 := hS.putL (s.looks + 1); rw [ec] at h9; exact h9); have HD := Aside0.mk (Held.set (j := 2) (u := .int .i64 ((s.looks : Int) + 1)) _ _ hd); have HTR := Aside0.mk htr; have HSAT := Aside0.mk hsat; have HMOD := Aside0.mk hmod; clear hS hd htr hsat hmod)
  have h2000 : ¬ (2000 : Int) < (s.looks : Int) + 1 := by omega
  obtain ⟨⟨v0, v1, _⟩, v2, v3⟩ := Sp.check_iff.1 hck
  have hd60 : d.length ≤ 60 := by have := hf.size; omega
  have hsm : Small cls d := ⟨by omega, fun c hc => by have := v3 c hc; omega, by omega⟩
  obtain ⟨l, pe, hp⟩ : ∃ l pe, Uk.prop vars cls d = (l, pe) := ⟨_, _, rfl⟩
  obtain ⟨kp, hkp⟩ := (prop11_ev vars cls d hsm).rounds
  have hpe : pe = 0 := by have h1 := Uk.ok_iff.2 hok; rw [hp] at h1; exact h1
  subst hpe
  rw [hp] at hkp hfull
  rw [hp]
  simp only at hfull
  have HKP := Aside0.mk hkp
  have t2 : ((l.length : Int) == vars) = true := by simp [hfull]
  have HL60 := Aside0.mk (show l.length ≤ 60 by omega)
  have HLK := Aside0.mk hlk
  clear hkp hp hsm hck v0 v1 v2 v3 hf hok hfull
  (go_enter Try.func125, Try.ntmps125; go_upto_region 2 with (fail); obtain ⟨W1, hW1⟩ : ∃ W1, W1 = W.setCell ⟨g, 2, none⟩ (.int .i64 ((s.looks : Int) + 1)) := ⟨_, rfl⟩; have HH := Aside0.mk (show Held w0.heap.size g W W1 from by rw [hW1]; exact Held.set); rw [← hW1] at HT HD ⊢; clear hW1; have x2 : W1.cell? ⟨g, 2, none⟩ = some (.int .i64 ((s.looks : Int) + 1)) := (HT.out.fld 2).trans (by show some (Value.int .i64 ((s.looks + 1 : Nat) : Int)) = _; rw [ec]); clear e2 f2)
  (have x0 : W1.cell? ⟨g, 0, none⟩ = some (.int .i64 vars) := (HT.out.fld 0).trans rfl; have x1 : W1.cell? ⟨g, 1, none⟩ = some (.slice A cls.length c) := (HT.out.fld 1).trans rfl; have HDC := Aside0.mk (Kd.R_reads' HD.out).2)
  go_upto_region 6 with ((go_at_call 36; refine (hoggetref11_Propagate.calls kp vars _ _ cls _ _ d l 0 _ (Kd.C_below HT.out.hr HT.out.hb) HT.out.hc HDC.out.2 HDC.out.1 HKP.out).mono ?_; clear HKP; rintro e w2 ⟨v, rfl, ho, hb2⟩; obtain ⟨Al, cl, rfl, hc1, hc2⟩ := row_reads ho; have HL2 := Aside0.mk (show Kd.R (Kd.int .i64) 3 w2 w0.heap.size (fun k => k ≠ g) (.slice Al l.length cl) l from Kd.R_mono (Kd.R_lower (Kd.R_bound ho) HT.out.hb.size) (fun k hk => by have h1 := HT.out.lt; have h2 := hk.2.1; omega)); have HS2 := Aside0.mk (HT.out.below hb2); have HD2 := Aside0.mk (Kd.R_below HD.out hb2); have HH2 := Aside0.mk (HH.out.trans (Held.below hb2)); replace x0 := pw_cell_below hb2 x0; replace x1 := pw_cell_below hb2 x1; clear x2 ho hc1 hc2 hb2))
  have x3 : w2.cell? ⟨g, 3, none⟩ = some (.bool s.sat) := (HS2.out.fld 3).trans rfl
  have x3f := blk_frozen HS2.out.hg 3
  go_upto_region 7 with (fail)
  obtain ⟨W3, hW3⟩ : ∃ W3, W3 = w2.setCell ⟨g, 3, none⟩ (.bool true) := ⟨_, rfl⟩
  have HS3 := Aside0.mk (show Lst w0 W3 g vars A c cls ⟨s.looks + 1, true, s.model, s.trace⟩ mv tv from by rw [hW3]; exact HS2.out.putS)
  have HL3 := Aside0.mk (show Kd.R (Kd.int .i64) 3 W3 w0.heap.size (fun k => k ≠ g) (.slice Al l.length cl) l from by rw [hW3]; exact Held.set _ _ HL2.out)
  have HH3 := Aside0.mk (show Held w0.heap.size g W W3 from by rw [hW3]; exact HH2.out.trans Held.set)
  rw [← hW3]
  clear hW3 x3 x3f x0 x1 HS2 HL2 HD2 HH2
  go_wp2
  go_loopg [7] l.length (fun gg s7 wq => ∃ (j : Nat) (mv' : Value), j ≤ l.length ∧ l.length - j ≤ gg ∧ s7 = .int .i64 (j : Int) ∧ Aside0 (Kd.R (Kd.int .i64) 3 wq w0.heap.size (fun k => k ≠ g) (.slice Al l.length cl) l) ∧ Aside0 (Lst w0 wq g vars A c cls ⟨s.looks + 1, true, s.model ++ (l.take j).map (fun x => decide (x > 0)), s.trace⟩ mv' tv) ∧ Aside0 (Held w0.heap.size g W wq))
  case atStart => exact ⟨0, mv, Nat.zero_le _, by omega, by go_num, HL3, ⟨by rw [List.take_zero, List.map_nil, List.append_nil]; exact HS3.out⟩, HH3⟩
  case round =>
    clear HS3 HL3 HH3
    obtain ⟨j, mv', hj, hg, rfl, HL, HS1, HH1⟩ := hrel
    by_cases hjl : j < l.length
    · have hjz : (j : Int) < (l.length : Int) := by omega
      have HLd := Aside0.mk (Kd.R_below HL.out (below_drew (Below.refl _ _)))
      have HSd := Aside0.mk (HS1.out.below (below_drew (Below.refl _ _)))
      have HHd := Aside0.mk (HH1.out.trans (Held.below (below_drew (Below.refl _ _))))
      obtain ⟨ad, eA, hx⟩ := C_int_at (Kd.R_reads' HLd.out).2.2 j hjl
      subst eA
      have HTK := Aside0.mk (show s.model ++ (l.take (j + 1)).map (fun x => decide (x > 0)) = (s.model ++ (l.take j).map (fun x => decide (x > 0))) ++ [decide (l[j] > 0)] by rw [List.take_succ_eq_append_getElem hjl, List.map_append, List.append_assoc]; rfl)
      have HLE := Aside0.mk (show (s.model ++ (l.take j).map (fun x => decide (x > 0))).length ≤ 2000 by have h1 := HMOD.out; have h2 := HL60.out; rw [h1, List.length_append, List.length_map, List.length_take, List.length_nil]; omega)
      generalize l[j] = x at hx HTK
      obtain ⟨bx, hbx⟩ : ∃ bx, decide (x > 0) = bx := ⟨_, rfl⟩
      rw [hbx] at HTK
      generalize s.model ++ (l.take j).map (fun x => decide (x > 0)) = ms at HTK HLE HS1 HSd
      have hm9 : Kd.R Kd.bool 4 wr.drew w0.heap.size (fun k => k ≠ g) mv' ms := HSd.out.hm
      obtain ⟨Am, cm, em⟩ := Kd.R_slice hm9
      have HM9 := Aside0.mk hm9
      subst em
      have e4 : wr.drew.cell? ⟨g, 4, none⟩ = some (.slice Am ms.length cm) := (HSd.out.fld 4).trans rfl
      have e4a : ∀ o, (wr.alloc o).cell? ⟨g, 4, none⟩ = some (.slice Am ms.length cm) := fun o => pw_cell_below (below_alloc (Below.refl _ wr) o) ((HS1.out.fld 4).trans rfl)
      obtain ⟨mt, hmt⟩ : ∃ mt, mt = ms ++ [bx] := ⟨_, rfl⟩
      have HMT := Aside0.mk hmt
      have hl60 := HL60.out
      clear hm9 hmt
      go_wp2
      go_region_law (refine Kd.R_append_step Kd.bool (w0 := w0) w0.heap.size rfl (.tmp 57) (.tmp 63) 38 4 (.bool false) 1 rfl Try.underlying38 info_bool rfl (by decide) (by omega) (.slice Am ms.length cm) ms bx [.bool bx] (fun k => k ≠ g) (fun _ => False) rfl rfl rfl (fun _ hk => hk.elim) (fun k hk => by have := HSd.out.lt; omega) HM9.out HSd.out.hb HSd.out.hb.size (by have h1 := HLE.out; omega) ?_; intro v1 w4 hR2 hB2 hg2 hat2; rw [← HMT.out] at hR2; obtain ⟨A9, c9, ev⟩ := Kd.R_slice hR2; subst ev; have HL2 := Aside0.mk (Kd.R_far (p := ⟨g, 4, none⟩) (Kd.R_over HLd.out HM9.out (by decide) hg2) (fun k hk => hk) (.slice A9 mt.length c9)); have k1 := HSd.out.kept (u := .slice Am ms.length cm) (fun k hk => HM9.out.1 k hk) hg2; have z1 := blk_frozen k1 4; have z2 : w4.cell? ⟨g, 4, none⟩ = some (.slice Am ms.length cm) := (blk_cell k1 4).trans rfl; have HH2 := Aside0.mk (HHd.out.trans (HSd.out.heldM hg2 4 (.slice A9 mt.length c9))); have HS2 := Aside0.mk (HSd.out.putM hR2 hB2 hg2); clear hR2 hB2 hg2 hat2 k1)
      all_goals (
        go_wp2
        go_roundg (l.length - (j + 1))
        case measure => omega
        case rel => exact ⟨j + 1, _, by omega, by omega, by go_num, HL2, ⟨by rw [HTK.out, ← HMT.out]; exact HS2.out⟩, HH2⟩)
    · have hjz : ¬ (j : Int) < (l.length : Int) := by omega
      have hS9 := HS1.out
      rw [List.take_of_length_le (by omega)] at hS9
      have HS9 := Aside0.mk hS9
      clear hS9
      go_wp2
      go_ret
      exact ⟨rfl, mv', tv, s.trace, HS9.out, ⟨fun h => absurd h (by simp [Sv.St.tell]), HH1.out⟩⟩

set_option maxHeartbeats 4000000 in
set_option maxRecDepth 100000 in
theorem look_one_walk (hck : Sp.check vars cls = 0) (k : Nat) (d : List Int) (s s1 : Sv.St) (hf : Sv.Fine vars d) (hle : s.looks + 1 ≤ 2000) (hok : Uk.Ok vars cls d) (hless : ¬ ((Uk.prop vars cls d).1.length : Int) = vars)
    (ih1 : LookP w0 g vars A c cls k (d ++ [Uk.free vars cls d]) s.tick (false, s1)) : LookP w0 g vars A c cls (k + 1) d s (false, s1) := by
  (intro W mv tv dv hS hsat hmod hlk htr hd; obtain ⟨Ad, cd, ed⟩ := Kd.R_slice hd; subst ed; have e2 : W.cell? ⟨g, 2, none⟩ = some (.int .i64 (s.looks : Int)) := (hS.fld 2).trans rfl; have f2 := blk_frozen hS.hg 2; have hw : IntKind.i64.wrap ((s.looks : Int) + 1) = (s.looks : Int) + 1 := IntWalk.i64_in _ (by omega); have ec : ((s.looks + 1 : Nat) : Int) = (s.looks : Int) + 1 := (by omega); have HS := Aside0.mk hS; have HT := Aside0.mk (show Lst w0 (W.setCell ⟨g, 2, none⟩ (.int .i64 ((s.looks : Int) + 1))) g vars A c cls s.tick mv tv from by have h9 := hS.putL (s.looks + 1); rw [ec] at h9; exact h9); have HD := Aside0.mk (Held.set (j := 2) (u := .int .i64 ((s.looks : Int) + 1)) _ _ hd); have HTR := Aside0.mk htr; have HSAT := Aside0.mk hsat; have HMOD := Aside0.mk hmod; clear hS hd htr hsat hmod)
  have h2000 : ¬ (2000 : Int) < (s.looks : Int) + 1 := by omega
  (obtain ⟨⟨v0, v1, _⟩, v2, v3⟩ := Sp.check_iff.1 hck; have hd60 : d.length ≤ 60 := (by have := hf.size; omega); have hsm : Small cls d := ⟨by omega, fun c hc => by have := v3 c hc; omega, by omega⟩; obtain ⟨l, pe, hp⟩ : ∃ l pe, Uk.prop vars cls d = (l, pe) := ⟨_, _, rfl⟩; obtain ⟨kp, hkp⟩ := (prop11_ev vars cls d hsm).rounds; have hpe : pe = 0 := (by have h1 := Uk.ok_iff.2 hok; rw [hp] at h1; exact h1); subst hpe; rw [hp] at hkp hless; simp only at hless; have HKP := Aside0.mk hkp; have t2 : ((l.length : Int) == vars) = false := beq_eq_false_iff_ne.2 hless; have hfs := free_fits hck d; obtain ⟨kf, hkf⟩ := (free11_ev vars cls d hsm).rounds; generalize Uk.free vars cls d = fr at *; have HKF := Aside0.mk hkf; have HKW := Aside0.mk (show hoggetref12_with.f d fr = some (d ++ [fr]) from with_f d fr (by omega)); have HKV := Aside0.mk (show hoggetref12_with.f d (-fr) = some (d ++ [-fr]) from with_f d (-fr) (by omega)); have hneg : IntKind.i64.wrap (-fr) = -fr := IntWalk.i64_in _ (by omega); have HLK := Aside0.mk hlk; clear hkp hkf hp hsm hok hless)
  (go_enter Try.func125, Try.ntmps125; go_upto_region 2 with (fail); obtain ⟨W1, hW1⟩ : ∃ W1, W1 = W.setCell ⟨g, 2, none⟩ (.int .i64 ((s.looks : Int) + 1)) := ⟨_, rfl⟩; have HH := Aside0.mk (show Held w0.heap.size g W W1 from by rw [hW1]; exact Held.set); rw [← hW1] at HT HD ⊢; clear hW1; have x2 : W1.cell? ⟨g, 2, none⟩ = some (.int .i64 ((s.looks : Int) + 1)) := (HT.out.fld 2).trans (by show some (Value.int .i64 ((s.looks + 1 : Nat) : Int)) = _; rw [ec]); clear e2 f2)
  (have x0 : W1.cell? ⟨g, 0, none⟩ = some (.int .i64 vars) := (HT.out.fld 0).trans rfl; have x1 : W1.cell? ⟨g, 1, none⟩ = some (.slice A cls.length c) := (HT.out.fld 1).trans rfl; have HDC := Aside0.mk (Kd.R_reads' HD.out).2)
  go_wp2_with (first | (go_at_call 36; refine (hoggetref11_Propagate.calls kp vars _ _ cls _ _ d l 0 _ (Kd.C_below HT.out.hr HT.out.hb) HT.out.hc HDC.out.2 HDC.out.1 HKP.out).mono ?_; clear HKP; rintro e w2 ⟨v, rfl, ho, hb2⟩; obtain ⟨Al, cl, rfl, hc1, hc2⟩ := row_reads ho; have HL2 := Aside0.mk (show Kd.R (Kd.int .i64) 3 w2 w0.heap.size (fun k => k ≠ g) (.slice Al l.length cl) l from Kd.R_mono (Kd.R_lower (Kd.R_bound ho) HT.out.hb.size) (fun k hk => by have h1 := HT.out.lt; have h2 := hk.2.1; omega)); have HS2 := Aside0.mk (HT.out.below hb2); have HD2 := Aside0.mk (Kd.R_below HD.out hb2); have HH2 := Aside0.mk (HH.out.trans (Held.below hb2)); replace x0 := pw_cell_below hb2 x0; replace x1 := pw_cell_below hb2 x1; clear x2 ho hc1 hc2 hb2) | (go_at_call 40; refine (hoggetref11_Free.calls kf vars _ _ cls _ _ d fr _ (Kd.C_below HS2.out.hr HS2.out.hb) HS2.out.hc (Kd.R_reads' HD2.out).2.2 (Kd.R_reads' HD2.out).2.1 HKF.out).mono ?_; clear HKF; rintro e w3 ⟨rfl, hb3⟩; have HS3 := Aside0.mk (HS2.out.below hb3); have HD3 := Aside0.mk (Kd.R_below HD2.out hb3); have HH3 := Aside0.mk (HH2.out.trans (Held.below hb3)); clear hb3) | (go_at_call 135; refine (hoggetref12_with.calls _ _ d fr (d ++ [fr]) _ (Kd.R_reads' HD3.out).2.2 (Kd.R_reads' HD3.out).2.1 HKW.out).mono ?_; clear HKW; rintro e w4 ⟨vw, rfl, ho, hb4⟩; have HS4 := Aside0.mk (HS3.out.below hb4); have HD4 := Aside0.mk (Kd.R_below HD3.out hb4); have HH4 := Aside0.mk (HH3.out.trans (Held.below hb4)); have HE4 := Aside0.mk (show Kd.R (Kd.int .i64) 3 w4 w0.heap.size (fun k => k ≠ g) vw (d ++ [fr]) from Kd.R_mono (Kd.R_lower (Kd.R_bound ho) HS3.out.hb.size) (fun k hk => by have h1 := HS3.out.lt; have h2 := hk.2.1; omega)); clear ho hb4) | (go_at_call 125; refine (ih1 _ mv tv vw HS4.out HSAT.out HMOD.out (by show s.looks + 1 ≤ 2000; omega) (by show s.trace.length ≤ s.looks + 1; have := HTR.out; omega) HE4.out).mono ?_; clear ih1; rintro e w5 ⟨rfl, mv5, tv5, t5, hS5, ht5, hs5, hh5⟩; have HS5 := Aside0.mk hS5; have HT5 := Aside0.mk ht5; have HX5 := Aside0.mk hs5; have HD5 := Aside0.mk (hh5 _ _ HD4.out); have HH5 := Aside0.mk (HH4.out.trans hh5); clear hS5 ht5 hs5 hh5))
  go_ret
  exact ⟨rfl, mv5, tv5, t5, HS5.out, HT5.out, fun h => absurd h (by decide), HH5.out⟩

theorem Lst.as {W : World} {s1 : Sv.St} {mv tv : Value} {t5 : List (List Int)} (h : Lst w0 W g vars A c cls ⟨s1.looks, s1.sat, s1.model, t5⟩ mv tv) (ht : t5 = s1.trace) : Lst w0 W g vars A c cls s1 mv tv := by subst ht; exact h
set_option maxHeartbeats 4000000 in
set_option maxRecDepth 100000 in
theorem look_two_walk (hck : Sp.check vars cls = 0) (k : Nat) (d : List Int) (s s1 s2 : Sv.St) (hf : Sv.Fine vars d) (hle : s.looks + 1 ≤ 2000) (hok : Uk.Ok vars cls d) (hless : ¬ ((Uk.prop vars cls d).1.length : Int) = vars)
    (ih1 : LookP w0 g vars A c cls k (d ++ [Uk.free vars cls d]) s.tick (true, s1)) (ih2 : LookP w0 g vars A c cls k (d ++ [-(Uk.free vars cls d)]) s1 (false, s2)) : LookP w0 g vars A c cls (k + 1) d s (false, s2) := by
  (intro W mv tv dv hS hsat hmod hlk htr hd; obtain ⟨Ad, cd, ed⟩ := Kd.R_slice hd; subst ed; have e2 : W.cell? ⟨g, 2, none⟩ = some (.int .i64 (s.looks : Int)) := (hS.fld 2).trans rfl; have f2 := blk_frozen hS.hg 2; have hw : IntKind.i64.wrap ((s.looks : Int) + 1) = (s.looks : Int) + 1 := IntWalk.i64_in _ (by omega); have ec : ((s.looks + 1 : Nat) : Int) = (s.looks : Int) + 1 := (by omega); have HS := Aside0.mk hS; have HT := Aside0.mk (show Lst w0 (W.setCell ⟨g, 2, none⟩ (.int .i64 ((s.looks : Int) + 1))) g vars A c cls s.tick mv tv from by have h9 := hS.putL (s.looks + 1); rw [ec] at h9; exact h9); have HD := Aside0.mk (Held.set (j := 2) (u := .int .i64 ((s.looks : Int) + 1)) _ _ hd); have HTR := Aside0.mk htr; have HSAT := Aside0.mk hsat; have HMOD := Aside0.mk hmod; clear hS hd htr hsat hmod)
  have h2000 : ¬ (2000 : Int) < (s.looks : Int) + 1 := by omega
  (obtain ⟨⟨v0, v1, _⟩, v2, v3⟩ := Sp.check_iff.1 hck; have hd60 : d.length ≤ 60 := (by have := hf.size; omega); have hsm : Small cls d := ⟨by omega, fun c hc => by have := v3 c hc; omega, by omega⟩; obtain ⟨l, pe, hp⟩ : ∃ l pe, Uk.prop vars cls d = (l, pe) := ⟨_, _, rfl⟩; obtain ⟨kp, hkp⟩ := (prop11_ev vars cls d hsm).rounds; have hpe : pe = 0 := (by have h1 := Uk.ok_iff.2 hok; rw [hp] at h1; exact h1); subst hpe; rw [hp] at hkp hless; simp only at hless; have HKP := Aside0.mk hkp; have t2 : ((l.length : Int) == vars) = false := beq_eq_false_iff_ne.2 hless; have hfs := free_fits hck d; obtain ⟨kf, hkf⟩ := (free11_ev vars cls d hsm).rounds; generalize Uk.free vars cls d = fr at *; have HKF := Aside0.mk hkf; have HKW := Aside0.mk (show hoggetref12_with.f d fr = some (d ++ [fr]) from with_f d fr (by omega)); have HKV := Aside0.mk (show hoggetref12_with.f d (-fr) = some (d ++ [-fr]) from with_f d (-fr) (by omega)); have hneg : IntKind.i64.wrap (-fr) = -fr := IntWalk.i64_in _ (by omega); have HLK := Aside0.mk hlk; clear hkp hkf hp hsm hok hless)
  (go_enter Try.func125, Try.ntmps125; go_upto_region 2 with (fail); obtain ⟨W1, hW1⟩ : ∃ W1, W1 = W.setCell ⟨g, 2, none⟩ (.int .i64 ((s.looks : Int) + 1)) := ⟨_, rfl⟩; have HH := Aside0.mk (show Held w0.heap.size g W W1 from by rw [hW1]; exact Held.set); rw [← hW1] at HT HD ⊢; clear hW1; have x2 : W1.cell? ⟨g, 2, none⟩ = some (.int .i64 ((s.looks : Int) + 1)) := (HT.out.fld 2).trans (by show some (Value.int .i64 ((s.looks + 1 : Nat) : Int)) = _; rw [ec]); clear e2 f2)
  (have x0 : W1.cell? ⟨g, 0, none⟩ = some (.int .i64 vars) := (HT.out.fld 0).trans rfl; have x1 : W1.cell? ⟨g, 1, none⟩ = some (.slice A cls.length c) := (HT.out.fld 1).trans rfl; have HDC := Aside0.mk (Kd.R_reads' HD.out).2)
  go_wp2_with (first | (go_at_call 36; refine (hoggetref11_Propagate.calls kp vars _ _ cls _ _ d l 0 _ (Kd.C_below HT.out.hr HT.out.hb) HT.out.hc HDC.out.2 HDC.out.1 HKP.out).mono ?_; clear HKP; rintro e w2 ⟨v, rfl, ho, hb2⟩; obtain ⟨Al, cl, rfl, hc1, hc2⟩ := row_reads ho; have HL2 := Aside0.mk (show Kd.R (Kd.int .i64) 3 w2 w0.heap.size (fun k => k ≠ g) (.slice Al l.length cl) l from Kd.R_mono (Kd.R_lower (Kd.R_bound ho) HT.out.hb.size) (fun k hk => by have h1 := HT.out.lt; have h2 := hk.2.1; omega)); have HS2 := Aside0.mk (HT.out.below hb2); have HD2 := Aside0.mk (Kd.R_below HD.out hb2); have HH2 := Aside0.mk (HH.out.trans (Held.below hb2)); replace x0 := pw_cell_below hb2 x0; replace x1 := pw_cell_below hb2 x1; clear x2 ho hc1 hc2 hb2) | (go_at_call 40; refine (hoggetref11_Free.calls kf vars _ _ cls _ _ d fr _ (Kd.C_below HS2.out.hr HS2.out.hb) HS2.out.hc (Kd.R_reads' HD2.out).2.2 (Kd.R_reads' HD2.out).2.1 HKF.out).mono ?_; clear HKF; rintro e w3 ⟨rfl, hb3⟩; have HS3 := Aside0.mk (HS2.out.below hb3); have HD3 := Aside0.mk (Kd.R_below HD2.out hb3); have HH3 := Aside0.mk (HH2.out.trans (Held.below hb3)); clear hb3) | (go_at_call 135; refine (hoggetref12_with.calls _ _ d fr (d ++ [fr]) _ (Kd.R_reads' HD3.out).2.2 (Kd.R_reads' HD3.out).2.1 HKW.out).mono ?_; clear HKW; rintro e w4 ⟨vw, rfl, ho, hb4⟩; have HS4 := Aside0.mk (HS3.out.below hb4); have HD4 := Aside0.mk (Kd.R_below HD3.out hb4); have HH4 := Aside0.mk (HH3.out.trans (Held.below hb4)); have HE4 := Aside0.mk (show Kd.R (Kd.int .i64) 3 w4 w0.heap.size (fun k => k ≠ g) vw (d ++ [fr]) from Kd.R_mono (Kd.R_lower (Kd.R_bound ho) HS3.out.hb.size) (fun k hk => by have h1 := HS3.out.lt; have h2 := hk.2.1; omega)); clear ho hb4) | ((go_at_call 125; refine (ih1 _ mv tv vw HS4.out HSAT.out HMOD.out (by show s.looks + 1 ≤ 2000; omega) (by show s.trace.length ≤ s.looks + 1; have := HTR.out; omega) HE4.out).mono ?_; clear ih1; rintro e w5 ⟨rfl, mv5, tv5, t5, hS5, ht5, hs5, hh5⟩; have HS5 := Aside0.mk hS5; have HT5 := Aside0.mk ht5; have HX5 := Aside0.mk hs5; have HD5 := Aside0.mk (hh5 _ _ HD4.out); have HH5 := Aside0.mk (HH4.out.trans hh5); clear hS5 ht5 hs5 hh5); (replace HX5 := Aside0.mk (show s1.sat = false ∧ s1.model = [] ∧ s1.looks ≤ 2000 ∧ s1.trace.length + (s.looks + 1) ≤ s.trace.length + s1.looks from HX5.out (by first | rfl | trivial)); have HS5' := Aside0.mk (Lst.as HS5.out (HT5.out HX5.out.1)); have HLK5 := Aside0.mk (show s1.looks ≤ 2000 from HX5.out.2.2.1); have HTR5 := Aside0.mk (show s1.trace.length ≤ s1.looks from (by have h1 := HX5.out.2.2.2; have h2 := HTR.out; have h3 : s1.trace.length + (s.looks + 1) ≤ s.trace.length + s1.looks := h1; omega)))) | (go_at_call 135; refine (hoggetref12_with.calls _ _ d (-fr) (d ++ [-fr]) _ (Kd.R_reads' HD5.out).2.2 (Kd.R_reads' HD5.out).2.1 HKV.out).mono ?_; clear HKV; rintro e w6 ⟨vx, rfl, ho, hb6⟩; have HS6 := Aside0.mk (HS5'.out.below hb6); have HD6 := Aside0.mk (Kd.R_below HD5.out hb6); have HH6 := Aside0.mk (HH5.out.trans (Held.below hb6)); have HE6 := Aside0.mk (show Kd.R (Kd.int .i64) 3 w6 w0.heap.size (fun k => k ≠ g) vx (d ++ [-fr]) from Kd.R_mono (Kd.R_lower (Kd.R_bound ho) HS5'.out.hb.size) (fun k hk => by have h1 := HS5'.out.lt; have h2 := hk.2.1; omega)); clear ho hb6) | (go_at_call 125; refine (ih2 _ mv5 tv5 vx HS6.out HX5.out.1 HX5.out.2.1 HLK5.out HTR5.out HE6.out).mono ?_; clear ih2; rintro e w7 ⟨rfl, mv7, tv7, t7, hS7, ht7, hs7, hh7⟩; have HS7 := Aside0.mk hS7; have HT7 := Aside0.mk ht7; have HX7 := Aside0.mk hs7; have HD7 := Aside0.mk (hh7 _ _ HD6.out); have HH7 := Aside0.mk (HH6.out.trans hh7); clear hS7 ht7 hs7 hh7))
  go_ret
  exact ⟨rfl, mv7, tv7, t7, HS7.out, HT7.out, fun h => absurd h (by decide), HH7.out⟩
set_option maxHeartbeats 4000000 in
set_option maxRecDepth 100000 in
theorem look_lay_walk (hck : Sp.check vars cls = 0) (k : Nat) (d : List Int) (s s1 s2 : Sv.St) (hf : Sv.Fine vars d) (hle : s.looks + 1 ≤ 2000) (hok : Uk.Ok vars cls d) (hless : ¬ ((Uk.prop vars cls d).1.length : Int) = vars)
    (ih1 : LookP w0 g vars A c cls k (d ++ [Uk.free vars cls d]) s.tick (true, s1)) (ih2 : LookP w0 g vars A c cls k (d ++ [-(Uk.free vars cls d)]) s1 (true, s2)) : LookP w0 g vars A c cls (k + 1) d s (true, s2.lay d) := by
  (intro W mv tv dv hS hsat hmod hlk htr hd; obtain ⟨Ad, cd, ed⟩ := Kd.R_slice hd; subst ed; have e2 : W.cell? ⟨g, 2, none⟩ = some (.int .i64 (s.looks : Int)) := (hS.fld 2).trans rfl; have f2 := blk_frozen hS.hg 2; have hw : IntKind.i64.wrap ((s.looks : Int) + 1) = (s.looks : Int) + 1 := IntWalk.i64_in _ (by omega); have ec : ((s.looks + 1 : Nat) : Int) = (s.looks : Int) + 1 := (by omega); have HS := Aside0.mk hS; have HT := Aside0.mk (show Lst w0 (W.setCell ⟨g, 2, none⟩ (.int .i64 ((s.looks : Int) + 1))) g vars A c cls s.tick mv tv from by have h9 := hS.putL (s.looks + 1); rw [ec] at h9; exact h9); have HD := Aside0.mk (Held.set (j := 2) (u := .int .i64 ((s.looks : Int) + 1)) _ _ hd); have HTR := Aside0.mk htr; have HSAT := Aside0.mk hsat; have HMOD := Aside0.mk hmod; clear hS hd htr hsat hmod)
  have h2000 : ¬ (2000 : Int) < (s.looks : Int) + 1 := by omega
  have hdx : ∀ x ∈ d, -60 ≤ x ∧ x ≤ 60 := fun x hx => by have h1 := Sp.lit_iff.1 (hf.lits x hx); have h2 := (Sp.check_ok hck).2.1; omega
  have hd60' : d.length ≤ 60 := by have h1 := hf.size; have h2 := (Sp.check_ok hck).2.1; omega
  obtain ⟨kt, hkt⟩ := (turned_ev d hdx (by omega)).rounds
  obtain ⟨tc, htc⟩ : ∃ tc, Pf.turned d = tc := ⟨_, rfl⟩
  rw [htc] at hkt
  have HTC := Aside0.mk htc
  have HKT := Aside0.mk hkt
  clear htc hkt hdx hd60'
  (obtain ⟨⟨v0, v1, _⟩, v2, v3⟩ := Sp.check_iff.1 hck; have hd60 : d.length ≤ 60 := (by have := hf.size; omega); have hsm : Small cls d := ⟨by omega, fun c hc => by have := v3 c hc; omega, by omega⟩; obtain ⟨l, pe, hp⟩ : ∃ l pe, Uk.prop vars cls d = (l, pe) := ⟨_, _, rfl⟩; obtain ⟨kp, hkp⟩ := (prop11_ev vars cls d hsm).rounds; have hpe : pe = 0 := (by have h1 := Uk.ok_iff.2 hok; rw [hp] at h1; exact h1); subst hpe; rw [hp] at hkp hless; simp only at hless; have HKP := Aside0.mk hkp; have t2 : ((l.length : Int) == vars) = false := beq_eq_false_iff_ne.2 hless; have hfs := free_fits hck d; obtain ⟨kf, hkf⟩ := (free11_ev vars cls d hsm).rounds; generalize Uk.free vars cls d = fr at *; have HKF := Aside0.mk hkf; have HKW := Aside0.mk (show hoggetref12_with.f d fr = some (d ++ [fr]) from with_f d fr (by omega)); have HKV := Aside0.mk (show hoggetref12_with.f d (-fr) = some (d ++ [-fr]) from with_f d (-fr) (by omega)); have hneg : IntKind.i64.wrap (-fr) = -fr := IntWalk.i64_in _ (by omega); have HLK := Aside0.mk hlk; clear hkp hkf hp hsm hok hless)
  (go_enter Try.func125, Try.ntmps125; go_upto_region 2 with (fail); obtain ⟨W1, hW1⟩ : ∃ W1, W1 = W.setCell ⟨g, 2, none⟩ (.int .i64 ((s.looks : Int) + 1)) := ⟨_, rfl⟩; have HH := Aside0.mk (show Held w0.heap.size g W W1 from by rw [hW1]; exact Held.set); rw [← hW1] at HT HD ⊢; clear hW1; have x2 : W1.cell? ⟨g, 2, none⟩ = some (.int .i64 ((s.looks : Int) + 1)) := (HT.out.fld 2).trans (by show some (Value.int .i64 ((s.looks + 1 : Nat) : Int)) = _; rw [ec]); clear e2 f2)
  (have x0 : W1.cell? ⟨g, 0, none⟩ = some (.int .i64 vars) := (HT.out.fld 0).trans rfl; have x1 : W1.cell? ⟨g, 1, none⟩ = some (.slice A cls.length c) := (HT.out.fld 1).trans rfl; have HDC := Aside0.mk (Kd.R_reads' HD.out).2)
  go_upto_region 16 with (first | (go_at_call 36; refine (hoggetref11_Propagate.calls kp vars _ _ cls _ _ d l 0 _ (Kd.C_below HT.out.hr HT.out.hb) HT.out.hc HDC.out.2 HDC.out.1 HKP.out).mono ?_; clear HKP; rintro e w2 ⟨v, rfl, ho, hb2⟩; obtain ⟨Al, cl, rfl, hc1, hc2⟩ := row_reads ho; have HL2 := Aside0.mk (show Kd.R (Kd.int .i64) 3 w2 w0.heap.size (fun k => k ≠ g) (.slice Al l.length cl) l from Kd.R_mono (Kd.R_lower (Kd.R_bound ho) HT.out.hb.size) (fun k hk => by have h1 := HT.out.lt; have h2 := hk.2.1; omega)); have HS2 := Aside0.mk (HT.out.below hb2); have HD2 := Aside0.mk (Kd.R_below HD.out hb2); have HH2 := Aside0.mk (HH.out.trans (Held.below hb2)); replace x0 := pw_cell_below hb2 x0; replace x1 := pw_cell_below hb2 x1; clear x2 ho hc1 hc2 hb2) | (go_at_call 40; refine (hoggetref11_Free.calls kf vars _ _ cls _ _ d fr _ (Kd.C_below HS2.out.hr HS2.out.hb) HS2.out.hc (Kd.R_reads' HD2.out).2.2 (Kd.R_reads' HD2.out).2.1 HKF.out).mono ?_; clear HKF; rintro e w3 ⟨rfl, hb3⟩; have HS3 := Aside0.mk (HS2.out.below hb3); have HD3 := Aside0.mk (Kd.R_below HD2.out hb3); have HH3 := Aside0.mk (HH2.out.trans (Held.below hb3)); clear hb3) | (go_at_call 135; refine (hoggetref12_with.calls _ _ d fr (d ++ [fr]) _ (Kd.R_reads' HD3.out).2.2 (Kd.R_reads' HD3.out).2.1 HKW.out).mono ?_; clear HKW; rintro e w4 ⟨vw, rfl, ho, hb4⟩; have HS4 := Aside0.mk (HS3.out.below hb4); have HD4 := Aside0.mk (Kd.R_below HD3.out hb4); have HH4 := Aside0.mk (HH3.out.trans (Held.below hb4)); have HE4 := Aside0.mk (show Kd.R (Kd.int .i64) 3 w4 w0.heap.size (fun k => k ≠ g) vw (d ++ [fr]) from Kd.R_mono (Kd.R_lower (Kd.R_bound ho) HS3.out.hb.size) (fun k hk => by have h1 := HS3.out.lt; have h2 := hk.2.1; omega)); clear ho hb4) | ((go_at_call 125; refine (ih1 _ mv tv vw HS4.out HSAT.out HMOD.out (by show s.looks + 1 ≤ 2000; omega) (by show s.trace.length ≤ s.looks + 1; have := HTR.out; omega) HE4.out).mono ?_; clear ih1; rintro e w5 ⟨rfl, mv5, tv5, t5, hS5, ht5, hs5, hh5⟩; have HS5 := Aside0.mk hS5; have HT5 := Aside0.mk ht5; have HX5 := Aside0.mk hs5; have HD5 := Aside0.mk (hh5 _ _ HD4.out); have HH5 := Aside0.mk (HH4.out.trans hh5); clear hS5 ht5 hs5 hh5); (replace HX5 := Aside0.mk (show s1.sat = false ∧ s1.model = [] ∧ s1.looks ≤ 2000 ∧ s1.trace.length + (s.looks + 1) ≤ s.trace.length + s1.looks from HX5.out (by first | rfl | trivial)); have HS5' := Aside0.mk (Lst.as HS5.out (HT5.out HX5.out.1)); have HLK5 := Aside0.mk (show s1.looks ≤ 2000 from HX5.out.2.2.1); have HTR5 := Aside0.mk (show s1.trace.length ≤ s1.looks from (by have h1 := HX5.out.2.2.2; have h2 := HTR.out; have h3 : s1.trace.length + (s.looks + 1) ≤ s.trace.length + s1.looks := h1; omega)))) | (go_at_call 135; refine (hoggetref12_with.calls _ _ d (-fr) (d ++ [-fr]) _ (Kd.R_reads' HD5.out).2.2 (Kd.R_reads' HD5.out).2.1 HKV.out).mono ?_; clear HKV; rintro e w6 ⟨vx, rfl, ho, hb6⟩; have HS6 := Aside0.mk (HS5'.out.below hb6); have HD6 := Aside0.mk (Kd.R_below HD5.out hb6); have HH6 := Aside0.mk (HH5.out.trans (Held.below hb6)); have HE6 := Aside0.mk (show Kd.R (Kd.int .i64) 3 w6 w0.heap.size (fun k => k ≠ g) vx (d ++ [-fr]) from Kd.R_mono (Kd.R_lower (Kd.R_bound ho) HS5'.out.hb.size) (fun k hk => by have h1 := HS5'.out.lt; have h2 := hk.2.1; omega)); clear ho hb6) | (go_at_call 125; refine (ih2 _ mv5 tv5 vx HS6.out HX5.out.1 HX5.out.2.1 HLK5.out HTR5.out HE6.out).mono ?_; clear ih2; rintro e w7 ⟨rfl, mv7, tv7, t7, hS7, ht7, hs7, hh7⟩; have HS7 := Aside0.mk hS7; have HT7 := Aside0.mk ht7; have HX7 := Aside0.mk hs7; have HD7 := Aside0.mk (hh7 _ _ HD6.out); have HH7 := Aside0.mk (HH6.out.trans hh7); clear hS7 ht7 hs7 hh7))
  replace HX7 := Aside0.mk (show s2.sat = false ∧ s2.model = [] ∧ s2.looks ≤ 2000 ∧ s2.trace.length + s1.looks ≤ s1.trace.length + s2.looks from HX7.out (by first | rfl | trivial))
  have HS7' := Aside0.mk (Lst.as HS7.out (HT7.out HX7.out.1))
  have HLEN := Aside0.mk (show s2.trace.length + s1.looks ≤ s1.trace.length + s2.looks from HX7.out.2.2.2)
  have HTL := Aside0.mk (show s2.trace.length ≤ 2000 from by have h1 := HLEN.out; have h2 := HTR5.out; have h3 : s2.looks ≤ 2000 := HX7.out.2.2.1; omega)
  clear x0 x1
  (obtain ⟨tr, htr⟩ : ∃ tr, tr = (s2).trace := ⟨_, rfl⟩; have HTRE := Aside0.mk htr; have HS2t := Aside0.mk (show Kd.S (Kd.slice 3 (Kd.int .i64)) 25 w7 w0.heap.size (fun k => k ≠ g) tv7 tr from by rw [htr]; exact HS7'.out.ht); clear htr; obtain ⟨At, ct, et⟩ := Kd.R_slice (Kd.S_R HS2t.out); subst et; have HSd := Aside0.mk (HS7'.out.below (below_drew (Below.refl _ _))); have HTd := Aside0.mk (Kd.S_below HS2t.out (below_drew (Below.refl _ _))); have HDd := Aside0.mk (Kd.R_reads' (Kd.R_below HD7.out (below_drew (Below.refl _ _)))).2; have HHd := Aside0.mk (HH7.out.trans (Held.below (below_drew (Below.refl _ _)))); have b5 : w7.drew.cell? ⟨g, 5, none⟩ = some (.slice At tr.length ct) := (HSd.out.fld 5).trans rfl; obtain ⟨ts, hts⟩ : ∃ ts, ts = tr ++ [tc] := ⟨_, rfl⟩; have HTS := Aside0.mk hts; clear hts)
  replace HTL := Aside0.mk (show tr.length ≤ 2000 by rw [HTRE.out]; exact HTL.out)
  go_region_law (first | (refine Kd.S_append_step (Kd.slice 3 (Kd.int .i64)) (w0 := w0) w0.heap.size rfl (.tmp 96) (.tmp 99) 22 25 (.slice none 0 0) 24 rfl Try.underlying22 info_rows rfl (by decide) (by omega) (.slice At tr.length ct) tr tc [.slice Ac tc.length cc] (fun k => k ≠ g) (fun k => some k = (Value.slice Ac tc.length cc).ownBlock) rfl rfl HP.out HOK.out HFR.out HOS.out HS3.out.hb HS3.out.hb.size (by have := HTL.out; omega) ?_; intro v1 w1 hn1 hb1 hg1 hat1; rw [← HTS.out] at hn1; obtain ⟨A9, c9, ev⟩ := Kd.R_slice (Kd.S_R hn1); subst ev; have k1 := HS3.out.kept (u := .slice At tr.length ct) (fun k hk => (Kd.S_R HTd.out).1 k hk) hg1; have z1 := blk_frozen k1 5; have z2 : w1.cell? ⟨g, 5, none⟩ = some (.slice At tr.length ct) := (blk_cell k1 5).trans rfl; have HH4 := Aside0.mk (HH3.out.trans (HS3.out.heldT hg1 5 (.slice A9 ts.length c9))); have HS4 := Aside0.mk (HS3.out.putT hn1 hb1 hg1); clear hn1 hb1 hg1 hat1 k1) | (go_simp; go_wp2_with (go_at_call 136; refine (hoggetref12_turned.calls kt _ _ d tc _ HDd.out.2 HDd.out.1 HKT.out).mono ?_; clear HKT; rintro e w3 ⟨v, rfl, ho, hb3⟩; obtain ⟨Ac, cc, ec⟩ := Kd.R_slice ho; subst ec; have HS3 := Aside0.mk (HSd.out.below hb3); have HH3 := Aside0.mk (HHd.out.trans (Held.below hb3)); have HP := Aside0.mk (show (Kd.slice 3 (Kd.int .i64)).M w3 w0.heap.size (fun k => some k = (Value.slice Ac tc.length cc).ownBlock) tc [.slice Ac tc.length cc] from ⟨_, rfl, Kd.R_tight rfl (Kd.R_lower ho HSd.out.hb.size)⟩); have HOK := Aside0.mk (show ∀ k, some k = (Value.slice Ac tc.length cc).ownBlock → k ≠ g ∧ some k ≠ (Value.slice At tr.length ct).ownBlock from (by intro k hk; have h1 := Kd.R_base ho k hk.symm; have h2 := HSd.out.lt; refine ⟨by omega, fun e => ?_⟩; have h3 := Kd.R_lt (Kd.S_R HTd.out) k e.symm; omega)); have HOS := Aside0.mk (show Kd.S (Kd.slice 3 (Kd.int .i64)) 25 w3 w0.heap.size (fun k => k ≠ g ∧ ¬ (some k = (Value.slice Ac tc.length cc).ownBlock)) (.slice At tr.length ct) tr from Kd.S_mono (Kd.S_old HTd.out hb3) (fun k hk => ⟨hk.1, fun e => by have := Kd.R_base ho k e.symm; omega⟩)); have HFR := Aside0.mk (show ∀ k, w3.heap.size ≤ k → k ≠ g from fun k hk => by have := HS3.out.lt; omega); have a5 := pw_cell_below hb3 b5; have a5a : ∀ o, (w3.alloc o).cell? ⟨g, 5, none⟩ = some (.slice At tr.length ct) := (fun o => pw_cell_below (below_alloc (Below.refl _ w3) o) a5); clear ho hb3)))
  all_goals (
    go_wp2
    go_ret
    refine ⟨rfl, mv7, .slice A9 ts.length c9, ts, HS4.out, fun _ => ?_, fun _ => ⟨HX7.out.1, HX7.out.2.1, HX7.out.2.2.1, ?_⟩, HH4.out⟩
    · rw [HTS.out, HTRE.out, ← HTC.out]; rfl
    · show (s2.trace ++ [Pf.turned d]).length + s.looks ≤ s.trace.length + s2.looks
      have h1 := HLEN.out
      have h2 : s1.trace.length + (s.looks + 1) ≤ s.trace.length + s1.looks := HX5.out.2.2.2
      rw [List.length_append, List.length_singleton]; omega)
theorem refLook_any (hck : Sp.check vars cls = 0) (k : Nat) (d : List Int) (s : Sv.St) (hd : Sv.Fine vars d) (hk : Sv.left vars d < k) : LookP w0 g vars A c cls k d s (Sv.look vars cls k d s) :=
  Sv.look_cases hck (P := LookP w0 g vars A c cls) (fun k d s h => look_spent_walk k d s h) (fun k d s h1 h2 h3 => look_clash_walk hck k d s h1 h2 h3) (fun k d s h1 h2 h3 h4 => look_full_walk hck k d s h1 h2 h3 h4)
    (fun k d s s1 h1 h2 h3 h4 h5 => look_one_walk hck k d s s1 h1 h2 h3 h4 h5) (fun k d s s1 s2 h1 h2 h3 h4 h5 h6 => look_two_walk hck k d s s1 s2 h1 h2 h3 h4 h5 h6) (fun k d s s1 s2 h1 h2 h3 h4 h5 h6 => look_lay_walk hck k d s s1 s2 h1 h2 h3 h4 h5 h6) k d s hd hk
end

theorem refsearch_new {w1 : World} {vars : Int} {A : Option Addr} {c : Nat} {cls : List (List Int)} (hr : Kd.C (Kd.slice 3 (Kd.int .i64)) w1 A cls.length cls) (hc : cls.length ≤ c) :
    Lst w1 (w1.alloc (.cells #[.int .i64 vars, .slice A cls.length c, .int .i64 0, .bool false, .slice none 0 0, .slice none 0 0] 99)) w1.heap.size vars A c cls Sv.St.zero (.slice none 0 0) (.slice none 0 0) :=
  ⟨heap_alloc_new w1 _, Kd.R_nil _ _ _ _ _, Kd.S_nil _ _ _ _ _, Nat.le_refl _, below_alloc (Below.refl _ w1) _, hr, hc⟩
/-- What Run comes to. -/
def RunIs (w : World) (v : Int) (A : Option Addr) (c : Nat) (cls : List (List Int)) (w' : World) (g : Nat) : Prop :=
  ∃ (W0 : World) (mv tv : Value) (t : List (List Int)), Below w.heap.size w W0 ∧ Lst W0 w' g v A c cls ⟨(Sv.ends v cls).looks, (Sv.ends v cls).sat, (Sv.ends v cls).model, t⟩ mv tv ∧ ((Sv.ends v cls).sat = false → t = (Sv.ends v cls).trace)
set_option maxHeartbeats 4000000 in
set_option maxRecDepth 100000 in
theorem refRun_any (v : Int) (A : Option Addr) (c : Nat) (cls : List (List Int)) (w : World) (hr : Kd.C (Kd.slice 3 (Kd.int .i64)) w A cls.length cls) (hc : cls.length ≤ c) (hck : Sp.check v cls = 0) :
    Calls Try.prog 97 #[.agg #[.int .i64 v, .slice A cls.length c]] w fun e w' => ∃ g, e = .returned (.pointer (some ⟨g, 0, none⟩)) ∧ RunIs w v A c cls w' g := by
  obtain ⟨W0, hW0, hb0, hs0, hw0⟩ := boxed_formula w v A c cls.length
  have HB0 := Aside0.mk hb0
  have q1 : W0.cell? ⟨w.heap.size, 0, none⟩ = some (.int .i64 v) := (hw0 W0 (Below.refl _ _)).2.1
  have q2 : W0.cell? ⟨w.heap.size, 1, none⟩ = some (.slice A cls.length c) := (hw0 W0 (Below.refl _ _)).2.2
  have HN := Aside0.mk (refsearch_new (vars := v) (Kd.C_below hr hb0) hc)
  have HLK := Aside0.mk (refLook_any (w0 := W0) (g := W0.heap.size) (A := A) (c := c) hck (v.toNat + 1) [] Sv.St.zero Sv.Fine.nil Sv.top_left _ _ _ (.slice none 0 0) HN.out rfl rfl (Nat.zero_le _) (Nat.le_refl _) (Kd.R_nil _ _ _ _ _))
  clear hs0 hw0 hr hc hb0
  go_enter Try.func97, Try.ntmps97
  go_upto_region 1 with (fail)
  rw [← hW0]
  clear hW0
  go_wp2_with (go_at_call 125; refine HLK.out.mono ?_; rintro e w2 ⟨rfl, mv2, tv2, t2, hS, ht, _, _⟩; have HS := Aside0.mk hS; have HT := Aside0.mk ht; clear hS ht)
  go_ret
  exact ⟨_, rfl, W0, mv2, tv2, t2, HB0.out, HS.out, HT.out⟩

def Thin (cls : List (List Int)) : Prop := ∀ c ∈ cls, c.length ≤ 1000000
inductive RefLooksIs (v : Int) (cls : List (List Int)) : Option Int → Prop
  | told (h : Thin cls) : RefLooksIs v cls (some (Sv.looks v cls))
  | none (h : ¬ Thin cls) : RefLooksIs v cls none
theorem RefLooksIs.any (v : Int) (cls : List (List Int)) : ∃ r, RefLooksIs v cls r := by
  by_cases h : Thin cls
  · exact ⟨_, .told h⟩
  · exact ⟨_, .none h⟩
noncomputable def hoggetref12_Looks.f (a0_0 : Int) (l0_1 : List (List Int)) : Option (Int) := Classical.choose (RefLooksIs.any a0_0 l0_1)
theorem hoggetref12_Looks.f_is (v : Int) (cls : List (List Int)) : RefLooksIs v cls (hoggetref12_Looks.f v cls) := Classical.choose_spec (RefLooksIs.any v cls)
theorem hoggetref12_Looks.f_eq (v : Int) (cls : List (List Int)) (ht : Thin cls) : hoggetref12_Looks.f v cls = some (Sv.looks v cls) := by
  have h := hoggetref12_Looks.f_is v cls
  generalize hoggetref12_Looks.f v cls = x at h
  cases h with
  | told _ => rfl
  | none h => exact absurd ht h
theorem hoggetref12_Looks.f_some {v : Int} {cls : List (List Int)} {r : Int} (h : hoggetref12_Looks.f v cls = some r) : Thin cls ∧ Sv.looks v cls = r := by
  have h1 := hoggetref12_Looks.f_is v cls
  rw [h] at h1
  cases h1 with
  | told ht => exact ⟨ht, rfl⟩
theorem ends_looks {v : Int} {cls : List (List Int)} (hck : Sp.check v cls = 0) : (Sv.ends v cls).looks ≤ 2001 := (Sv.looks_le hck (v.toNat + 1) [] Sv.St.zero Sv.Fine.nil Sv.top_left (Nat.zero_le _)).1
theorem ends_told {v : Int} {cls : List (List Int)} (hck : Sp.check v cls = 0) (hl : ¬ 2000 < (Sv.ends v cls).looks) (hs : (Sv.ends v cls).sat = true) : (Sv.ends v cls).trace = [] := by
  have h : Sv.solve v cls = (true, (Sv.ends v cls).model, (Sv.ends v cls).trace, 0) := by unfold Sv.solve; rw [if_neg (by simp [hck]), if_neg hl, hs]
  rcases Sv.solve_ends h with ⟨_, e, _⟩ | ⟨e, _⟩
  · exact e
  · exact absurd e (by decide)
set_option maxHeartbeats 4000000 in
set_option maxRecDepth 100000 in
theorem hoggetref12_Looks.calls (a0_0 : Int) (A0_1 : Option Addr) (c0_1 : Nat) (l0_1 : List (List Int)) (r : Int) (w : World) (hr0_1 : Kd.C (Kd.slice 3 (Kd.int .i64)) w A0_1 l0_1.length l0_1) (hc0_1 : l0_1.length ≤ c0_1) (h : hoggetref12_Looks.f a0_0 l0_1 = some r) :
    Calls Try.prog 58 #[.agg #[.int .i64 a0_0, .slice A0_1 l0_1.length c0_1]] w fun e w' => e = .returned (.int .i64 r) ∧ Below w.heap.size w w' := by
  obtain ⟨hth, h⟩ := hoggetref12_Looks.f_some h
  obtain ⟨kc, hkc⟩ := (check_ev a0_0 l0_1 (fun c hc => by have := hth c hc; omega)).rounds
  obtain ⟨W0, hW0, hb0, hs0, hw0⟩ := boxed_formula w a0_0 A0_1 c0_1 l0_1.length
  have HB0 := Aside0.mk hb0
  have HW := Aside0.mk hw0
  have HR := Aside0.mk (Kd.C_below hr0_1 hb0)
  have HC := Aside0.mk hc0_1
  have q1 : W0.cell? ⟨w.heap.size, 0, none⟩ = some (.int .i64 a0_0) := (hw0 W0 (Below.refl _ _)).2.1
  have q2 : W0.cell? ⟨w.heap.size, 1, none⟩ = some (.slice A0_1 l0_1.length c0_1) := (hw0 W0 (Below.refl _ _)).2.2
  have HKC := Aside0.mk hkc
  unfold Sv.looks at h
  by_cases hk : Sp.check a0_0 l0_1 = 0
  · rw [if_neg (by simp [hk])] at h
    rw [hk] at HKC
    have HCH := Aside0.mk hk
    have hmin := ends_looks hk
    clear hb0 hs0 hw0 hr0_1 hc0_1 hk hkc hth
    go_enter Try.func58, Try.ntmps58
    go_upto_region 1 with (fail)
    rw [← hW0]
    clear hW0
    go_upto_region 3 with (go_at_call 63; refine (hoggetref10_Check.calls kc a0_0 _ _ l0_1 0 _ HR.out HC.out HKC.out).mono ?_; clear HKC; rintro e w1 ⟨rfl, hb1⟩; obtain ⟨_, q3, q4⟩ := HW.out w1 hb1; have HR1 := Aside0.mk (Kd.C_below HR.out hb1); have HB1 := Aside0.mk (below_step HB0.out hb1); clear hb1 q1 q2)
    generalize hn : (Sv.ends a0_0 l0_1).looks = n at hmin h
    have hm1 : min (n : Int) 2001 = (n : Int) := by omega
    have hm2 : ¬ (2001 : Int) < (n : Int) := by omega
    have hm3 : (n : Int) ≤ 2001 := by omega
    subst h
    have HN := Aside0.mk hn
    clear hn
    go_wp2_with (go_at_call 97; refine (refRun_any a0_0 _ _ l0_1 _ HR1.out HC.out HCH.out).mono ?_; rintro e w2 ⟨g, rfl, W9, mv, tv, t, hbw, hS, _⟩; rw [HN.out] at hS; have x2 : w2.cell? ⟨g, 2, none⟩ = some (.int .i64 (n : Int)) := (hS.fld 2).trans rfl; have HB2 := Aside0.mk (below_step HB1.out (below_step hbw hS.hb)); clear hbw hS)
    go_ret
    exact ⟨rfl, HB2.out⟩
  · rw [if_pos hk] at h
    subst h
    have hk1 : (Sp.check a0_0 l0_1 != 0) = true := bne_iff_ne.2 hk
    clear hb0 hs0 hw0 hr0_1 hc0_1 hk hkc hth
    generalize Sp.check a0_0 l0_1 = y at hk1 HKC
    go_enter Try.func58, Try.ntmps58
    go_upto_region 1 with (fail)
    rw [← hW0]
    clear hW0
    go_wp2_with (go_at_call 63; refine (hoggetref10_Check.calls kc a0_0 _ _ l0_1 y _ HR.out HC.out HKC.out).mono ?_; clear HKC; rintro e w1 ⟨rfl, hb1⟩; have HB1 := Aside0.mk (below_step HB0.out hb1); clear hb1 q1 q2)
    go_ret
    exact ⟨rfl, HB1.out⟩

theorem Lst.noT {w0 W : World} {g : Nat} {vars : Int} {A : Option Addr} {c : Nat} {cls : List (List Int)} {s : Sv.St} {mv tv : Value} (h : Lst w0 W g vars A c cls s mv tv) :
    Lst w0 (W.setCell ⟨g, 5, none⟩ (.slice none 0 0)) g vars A c cls ⟨s.looks, s.sat, s.model, []⟩ mv (.slice none 0 0) := by
  refine ⟨?_, Kd.R_far h.hm (fun k hk => hk) _, Kd.S_nil _ _ _ _ _, h.bg, h.hb.setCell (p := ⟨g, 5, none⟩) h.bg _, h.hr, h.hc⟩
  have := cells_set h.hg 5 (.slice none 0 0)
  simpa using this
inductive RefSolveIs (v : Int) (cls : List (List Int)) : Option (Bool × List Bool × (List (List Int)) × Int) → Prop
  | told (h : Thin cls) : RefSolveIs v cls (some (Sv.solve v cls))
  | none (h : ¬ Thin cls) : RefSolveIs v cls none
theorem RefSolveIs.any (v : Int) (cls : List (List Int)) : ∃ r, RefSolveIs v cls r := by
  by_cases h : Thin cls
  · exact ⟨_, .told h⟩
  · exact ⟨_, .none h⟩
noncomputable def hoggetref12_Solve.f (a0_0 : Int) (l0_1 : List (List Int)) : Option (Bool × List Bool × (List (List Int)) × Int) := Classical.choose (RefSolveIs.any a0_0 l0_1)
theorem hoggetref12_Solve.f_is (v : Int) (cls : List (List Int)) : RefSolveIs v cls (hoggetref12_Solve.f v cls) := Classical.choose_spec (RefSolveIs.any v cls)
theorem hoggetref12_Solve.f_eq (v : Int) (cls : List (List Int)) (ht : Thin cls) : hoggetref12_Solve.f v cls = some (Sv.solve v cls) := by
  have h := hoggetref12_Solve.f_is v cls
  generalize hoggetref12_Solve.f v cls = x at h
  cases h with
  | told _ => rfl
  | none h => exact absurd ht h
theorem hoggetref12_Solve.f_some {v : Int} {cls : List (List Int)} {r : Bool × List Bool × (List (List Int)) × Int} (h : hoggetref12_Solve.f v cls = some r) : Thin cls ∧ Sv.solve v cls = r := by
  have h1 := hoggetref12_Solve.f_is v cls
  rw [h] at h1
  cases h1 with
  | told ht => exact ⟨ht, rfl⟩
set_option maxHeartbeats 4000000 in
set_option maxRecDepth 100000 in
theorem hoggetref12_Solve.calls (a0_0 : Int) (A0_1 : Option Addr) (c0_1 : Nat) (l0_1 : List (List Int)) (r1 : Bool) (r2 : List Bool) (r3 : List (List Int)) (r4 : Int) (w : World) (hr0_1 : Kd.C (Kd.slice 3 (Kd.int .i64)) w A0_1 l0_1.length l0_1) (hc0_1 : l0_1.length ≤ c0_1) (h : hoggetref12_Solve.f a0_0 l0_1 = some (r1, r2, r3, r4)) :
    Calls Try.prog 54 #[.agg #[.int .i64 a0_0, .slice A0_1 l0_1.length c0_1]] w fun e w' => ∃ v1_ v2_ : Value, e = .returned (.tuple #[.agg #[.bool r1, v1_, v2_], .int .i64 r4]) ∧ Kd.R Kd.bool 4 w' w.heap.size (fun _ => True) v1_ r2 ∧ Kd.S (Kd.slice 3 (Kd.int .i64)) 25 w' w.heap.size (fun _ => True) v2_ r3 ∧ Below w.heap.size w w' := by
  obtain ⟨hth, h⟩ := hoggetref12_Solve.f_some h
  obtain ⟨kc, hkc⟩ := (check_ev a0_0 l0_1 (fun c hc => by have := hth c hc; omega)).rounds
  have hbw := below_alloc (below_alloc (Below.refl _ w) (.cells #[.int .i64 a0_0, .slice A0_1 l0_1.length c0_1] 24)) (.cells #[.bool false, .slice none 0 0, .slice none 0 0] 51)
  have hz2 := box_two w (.cells #[.int .i64 a0_0, .slice A0_1 l0_1.length c0_1] 24) #[.bool false, .slice none 0 0, .slice none 0 0] 51
  have hz1 : ((w.alloc (.cells #[.int .i64 a0_0, .slice A0_1 l0_1.length c0_1] 24)).alloc (.cells #[.bool false, .slice none 0 0, .slice none 0 0] 51)).heap[w.heap.size]? = some (.cells #[.int .i64 a0_0, .slice A0_1 l0_1.length c0_1] 24 (0, 0)) :=
    ((below_alloc (Below.refl _ (w.alloc (.cells #[.int .i64 a0_0, .slice A0_1 l0_1.length c0_1] 24))) _).block w.heap.size (by simp)).trans (heap_alloc_new w _)
  obtain ⟨W0, hW0⟩ : ∃ W0, W0 = (w.alloc (.cells #[.int .i64 a0_0, .slice A0_1 l0_1.length c0_1] 24)).alloc (.cells #[.bool false, .slice none 0 0, .slice none 0 0] 51) := ⟨_, rfl⟩
  have hsz0 : W0.heap.size = w.heap.size + 2 := by rw [hW0]; simp
  rw [← hW0] at hbw hz1 hz2
  have HB0 := Aside0.mk hbw
  have HZ1 := Aside0.mk hz1
  have HZ2 := Aside0.mk hz2
  have q1 : W0.cell? ⟨w.heap.size, 0, none⟩ = some (.int .i64 a0_0) := (blk_cell hz1 0).trans rfl
  have q2 : W0.cell? ⟨w.heap.size, 1, none⟩ = some (.slice A0_1 l0_1.length c0_1) := (blk_cell hz1 1).trans rfl
  have HR := Aside0.mk (Kd.C_below hr0_1 hbw)
  have HC := Aside0.mk hc0_1
  have HSZ := Aside0.mk hsz0
  have HKC := Aside0.mk hkc
  unfold Sv.solve at h
  by_cases hk : Sp.check a0_0 l0_1 = 0
  · rw [if_neg (by simp [hk])] at h
    rw [hk] at HKC
    have HCH := Aside0.mk hk
    obtain ⟨n, hn⟩ : ∃ n, (Sv.ends a0_0 l0_1).looks = n := ⟨_, rfl⟩
    obtain ⟨sa, hsa⟩ : ∃ sa, (Sv.ends a0_0 l0_1).sat = sa := ⟨_, rfl⟩
    have HN := Aside0.mk hn
    have HSA := Aside0.mk hsa
    by_cases hl : 2000 < n
    · rw [if_pos (by omega)] at h
      injection h with h1 h
      injection h with h2 h
      injection h with h3 h4
      subst h1 h2 h3 h4
      have hl1 : (2000 : Int) < (n : Int) := by omega
      clear hbw hz1 hz2 hsz0 hr0_1 hc0_1 hk hkc hth hn hsa hl
      go_enter Try.func54, Try.ntmps54
      go_upto_region 1 with (fail)
      rw [← hW0]
      clear hW0
      go_upto_region 4 with ((go_at_call 63; refine (hoggetref10_Check.calls kc a0_0 _ _ l0_1 0 _ HR.out HC.out HKC.out).mono ?_; clear HKC; rintro e w1 ⟨rfl, hb1⟩; have HZ3 := Aside0.mk ((hb1.block _ (by have := HSZ.out; omega)).trans HZ1.out); have HZ4 := Aside0.mk ((hb1.block _ (by have := HSZ.out; omega)).trans HZ2.out); have q3 : w1.cell? ⟨w.heap.size, 0, none⟩ = some (.int .i64 a0_0) := (blk_cell HZ3.out 0).trans rfl; have q4 : w1.cell? ⟨w.heap.size, 1, none⟩ = some (.slice A0_1 l0_1.length c0_1) := (blk_cell HZ3.out 1).trans rfl; have HR1 := Aside0.mk (Kd.C_below HR.out hb1); have HB1 := Aside0.mk (below_step HB0.out hb1); have hlt : w.heap.size + 1 < w1.heap.size := (by have h1 := hb1.size; have h2 := HSZ.out; omega); clear hb1 q1 q2))
      go_upto_region 5 with ((go_at_call 97; refine (refRun_any a0_0 _ _ l0_1 _ HR1.out HC.out HCH.out).mono ?_; rintro e w2 ⟨g, rfl, W9, mv, tv, t, hbw, hS, hT⟩; rw [HN.out, HSA.out] at hS; have HT := Aside0.mk hT; have x2 : w2.cell? ⟨g, 2, none⟩ = some (.int .i64 (n : Int)) := (hS.fld 2).trans rfl; have HZ5 := Aside0.mk (((below_step hbw hS.hb).block _ hlt).trans HZ4.out); have HB2 := Aside0.mk (below_step HB1.out (below_step hbw hS.hb)); have hgl : w1.heap.size ≤ g := Nat.le_trans hbw.size hS.bg; have HBW := Aside0.mk hbw; have HS := Aside0.mk hS; clear hbw hS hT q3 q4))
      (have c0 : w2.cell? ⟨w.heap.size + 1, 0, none⟩ = some (.bool false) := (blk_cell HZ5.out 0).trans rfl; have c1 : w2.cell? ⟨w.heap.size + 1, 1, none⟩ = some (.slice none 0 0) := (blk_cell HZ5.out 1).trans rfl; have c2 : w2.cell? ⟨w.heap.size + 1, 2, none⟩ = some (.slice none 0 0) := (blk_cell HZ5.out 2).trans rfl; have d0 := blk_frozen HZ5.out 0; have d1 := blk_frozen HZ5.out 1; have d2 := blk_frozen HZ5.out 2)
      go_wp2
      refine bodyPost_ret (results_ct rfl _ _ (w.heap.size + 1) 51 #[.bool false, .slice none 0 0, .slice none 0 0] (0, 0) _ rfl (put3 HZ5.out) Try.underlying51 rfl (by kernel_rfl)) rfl ?_
      exact ⟨_, _, rfl, Kd.R_nil _ _ _ _ _, Kd.S_nil _ _ _ _ _, below3 HB2.out (by omega)⟩
    · rw [if_neg (by omega), hsa] at h
      injection h with h1 h
      injection h with h2 h
      injection h with h3 h4
      subst h1 h2 h3 h4
      have hl1 : ¬ (2000 : Int) < (n : Int) := by omega
      have hto := ends_told hk (by omega)
      rw [hsa] at hto
      have HTO := Aside0.mk hto
      clear hbw hz1 hz2 hsz0 hr0_1 hc0_1 hk hkc hth hn hl hto
      cases sa with
      | true =>
      have HM0 := Aside0.mk (HTO.out rfl)
      rw [HM0.out]
      go_enter Try.func54, Try.ntmps54
      go_upto_region 1 with (fail)
      rw [← hW0]
      clear hW0 hsa
      go_upto_region 4 with ((go_at_call 63; refine (hoggetref10_Check.calls kc a0_0 _ _ l0_1 0 _ HR.out HC.out HKC.out).mono ?_; clear HKC; rintro e w1 ⟨rfl, hb1⟩; have HZ3 := Aside0.mk ((hb1.block _ (by have := HSZ.out; omega)).trans HZ1.out); have HZ4 := Aside0.mk ((hb1.block _ (by have := HSZ.out; omega)).trans HZ2.out); have q3 : w1.cell? ⟨w.heap.size, 0, none⟩ = some (.int .i64 a0_0) := (blk_cell HZ3.out 0).trans rfl; have q4 : w1.cell? ⟨w.heap.size, 1, none⟩ = some (.slice A0_1 l0_1.length c0_1) := (blk_cell HZ3.out 1).trans rfl; have HR1 := Aside0.mk (Kd.C_below HR.out hb1); have HB1 := Aside0.mk (below_step HB0.out hb1); have hlt : w.heap.size + 1 < w1.heap.size := (by have h1 := hb1.size; have h2 := HSZ.out; omega); clear hb1 q1 q2))
      go_upto_region 5 with ((go_at_call 97; refine (refRun_any a0_0 _ _ l0_1 _ HR1.out HC.out HCH.out).mono ?_; rintro e w2 ⟨g, rfl, W9, mv, tv, t, hbw, hS, hT⟩; rw [HN.out, HSA.out] at hS; have HT := Aside0.mk hT; have x2 : w2.cell? ⟨g, 2, none⟩ = some (.int .i64 (n : Int)) := (hS.fld 2).trans rfl; have HZ5 := Aside0.mk (((below_step hbw hS.hb).block _ hlt).trans HZ4.out); have HB2 := Aside0.mk (below_step HB1.out (below_step hbw hS.hb)); have hgl : w1.heap.size ≤ g := Nat.le_trans hbw.size hS.bg; have HBW := Aside0.mk hbw; have HS := Aside0.mk hS; clear hbw hS hT q3 q4))
      have hW9 : w.heap.size + 1 < W9.heap.size := by have := HBW.out.size; omega
      have x3 : w2.cell? ⟨g, 3, none⟩ = some (.bool true) := (HS.out.fld 3).trans rfl
      have x5 : w2.cell? ⟨g, 5, none⟩ = some tv := (HS.out.fld 5).trans rfl
      have x5f := blk_frozen HS.out.hg 5
      go_upto_region 9 with (fail)
      obtain ⟨W3, hW3⟩ : ∃ W3, W3 = w2.setCell ⟨g, 5, none⟩ (.slice none 0 0) := ⟨_, rfl⟩
      have HS3 := Aside0.mk (show Lst W9 W3 g a0_0 A0_1 c0_1 l0_1 ⟨n, true, (Sv.ends a0_0 l0_1).model, []⟩ mv (.slice none 0 0) from by rw [hW3]; exact HS.out.noT)
      have HZ6 := Aside0.mk (show W3.heap[w.heap.size + 1]? = some (.cells #[.bool false, .slice none 0 0, .slice none 0 0] 51 (0, 0)) from by rw [hW3]; exact (Below.heap_setCell w2 ⟨g, 5, none⟩ (.slice none 0 0) (w.heap.size + 1) (by show w.heap.size + 1 ≠ g; omega)).trans HZ5.out)
      have HB3 := Aside0.mk (show Below w.heap.size w W3 from by rw [hW3]; exact HB2.out.setCell (p := ⟨g, 5, none⟩) (by show w.heap.size ≤ g; omega) _)
      rw [← hW3]
      clear hW3 x3 x5 x5f x2
      have x3 : W3.cell? ⟨g, 3, none⟩ = some (.bool true) := (HS3.out.fld 3).trans rfl
      have x4 : W3.cell? ⟨g, 4, none⟩ = some mv := (HS3.out.fld 4).trans rfl
      have x5 : W3.cell? ⟨g, 5, none⟩ = some (.slice none 0 0) := (HS3.out.fld 5).trans rfl
      have HM := Aside0.mk (show Kd.R Kd.bool 4 W3 W9.heap.size (fun k => k ≠ g) mv (Sv.ends a0_0 l0_1).model from HS3.out.hm)
      obtain ⟨Am, cm, em⟩ := Kd.R_slice HM.out
      subst em
      (have c0 : W3.cell? ⟨w.heap.size + 1, 0, none⟩ = some (.bool false) := (blk_cell HZ6.out 0).trans rfl; have c1 : W3.cell? ⟨w.heap.size + 1, 1, none⟩ = some (.slice none 0 0) := (blk_cell HZ6.out 1).trans rfl; have c2 : W3.cell? ⟨w.heap.size + 1, 2, none⟩ = some (.slice none 0 0) := (blk_cell HZ6.out 2).trans rfl; have d0 := blk_frozen HZ6.out 0; have d1 := blk_frozen HZ6.out 1; have d2 := blk_frozen HZ6.out 2)
      go_wp2
      refine bodyPost_ret (results_ct rfl _ _ (w.heap.size + 1) 51 #[.bool true, .slice Am (Sv.ends a0_0 l0_1).model.length cm, .slice none 0 0] (0, 0) _ rfl (put3 HZ6.out) Try.underlying51 rfl (by kernel_rfl)) rfl ?_
      refine ⟨_, _, rfl, ?_, ?_, below3 HB3.out (by omega)⟩
      · have h9 := Kd.R_mono (ok' := fun k => k ≠ w.heap.size + 1) (Kd.R_bound HM.out) (fun k hk => by have h1 := hk.2.1; have h2 := hW9; omega)
        exact Kd.R_mono (Kd.R_lower (Kd.R_far (p := ⟨w.heap.size + 1, 2, none⟩) (Kd.R_far (p := ⟨w.heap.size + 1, 1, none⟩) (Kd.R_far (p := ⟨w.heap.size + 1, 0, none⟩) h9 (fun k hk => hk) _) (fun k hk => hk) _) (fun k hk => hk) _) (by omega)) (fun _ _ => trivial)
      · exact Kd.S_nil _ _ _ _ _
      | false =>
      go_enter Try.func54, Try.ntmps54
      go_upto_region 1 with (fail)
      rw [← hW0]
      clear hW0
      go_upto_region 4 with ((go_at_call 63; refine (hoggetref10_Check.calls kc a0_0 _ _ l0_1 0 _ HR.out HC.out HKC.out).mono ?_; clear HKC; rintro e w1 ⟨rfl, hb1⟩; have HZ3 := Aside0.mk ((hb1.block _ (by have := HSZ.out; omega)).trans HZ1.out); have HZ4 := Aside0.mk ((hb1.block _ (by have := HSZ.out; omega)).trans HZ2.out); have q3 : w1.cell? ⟨w.heap.size, 0, none⟩ = some (.int .i64 a0_0) := (blk_cell HZ3.out 0).trans rfl; have q4 : w1.cell? ⟨w.heap.size, 1, none⟩ = some (.slice A0_1 l0_1.length c0_1) := (blk_cell HZ3.out 1).trans rfl; have HR1 := Aside0.mk (Kd.C_below HR.out hb1); have HB1 := Aside0.mk (below_step HB0.out hb1); have hlt : w.heap.size + 1 < w1.heap.size := (by have h1 := hb1.size; have h2 := HSZ.out; omega); clear hb1 q1 q2))
      go_upto_region 5 with ((go_at_call 97; refine (refRun_any a0_0 _ _ l0_1 _ HR1.out HC.out HCH.out).mono ?_; rintro e w2 ⟨g, rfl, W9, mv, tv, t, hbw, hS, hT⟩; rw [HN.out, HSA.out] at hS; have HT := Aside0.mk hT; have x2 : w2.cell? ⟨g, 2, none⟩ = some (.int .i64 (n : Int)) := (hS.fld 2).trans rfl; have HZ5 := Aside0.mk (((below_step hbw hS.hb).block _ hlt).trans HZ4.out); have HB2 := Aside0.mk (below_step HB1.out (below_step hbw hS.hb)); have hgl : w1.heap.size ≤ g := Nat.le_trans hbw.size hS.bg; have HBW := Aside0.mk hbw; have HS := Aside0.mk hS; clear hbw hS hT q3 q4))
      have hW9 : w.heap.size + 1 < W9.heap.size := by have := HBW.out.size; omega
      have x3 : w2.cell? ⟨g, 3, none⟩ = some (.bool false) := (HS.out.fld 3).trans rfl
      have x4 : w2.cell? ⟨g, 4, none⟩ = some mv := (HS.out.fld 4).trans rfl
      have x5 : w2.cell? ⟨g, 5, none⟩ = some tv := (HS.out.fld 5).trans rfl
      have HM := Aside0.mk (show Kd.R Kd.bool 4 w2 W9.heap.size (fun k => k ≠ g) mv (Sv.ends a0_0 l0_1).model from HS.out.hm)
      have ht9 := HT.out hsa
      have HTR := Aside0.mk (show Kd.S (Kd.slice 3 (Kd.int .i64)) 25 w2 W9.heap.size (fun k => k ≠ g) tv (Sv.ends a0_0 l0_1).trace from by rw [← ht9]; exact HS.out.ht)
      have HB3 := HB2
      clear ht9 hsa
      obtain ⟨Am, cm, em⟩ := Kd.R_slice HM.out
      obtain ⟨At, ct, et⟩ := Kd.R_slice (Kd.S_R HTR.out)
      subst em
      subst et
      (have c0 : w2.cell? ⟨w.heap.size + 1, 0, none⟩ = some (.bool false) := (blk_cell HZ5.out 0).trans rfl; have c1 : w2.cell? ⟨w.heap.size + 1, 1, none⟩ = some (.slice none 0 0) := (blk_cell HZ5.out 1).trans rfl; have c2 : w2.cell? ⟨w.heap.size + 1, 2, none⟩ = some (.slice none 0 0) := (blk_cell HZ5.out 2).trans rfl; have d0 := blk_frozen HZ5.out 0; have d1 := blk_frozen HZ5.out 1; have d2 := blk_frozen HZ5.out 2)
      go_wp2
      refine bodyPost_ret (results_ct rfl _ _ (w.heap.size + 1) 51 #[.bool false, .slice Am (Sv.ends a0_0 l0_1).model.length cm, .slice At (Sv.ends a0_0 l0_1).trace.length ct] (0, 0) _ rfl (put3 HZ5.out) Try.underlying51 rfl (by kernel_rfl)) rfl ?_
      refine ⟨_, _, rfl, ?_, ?_, below3 HB3.out (by omega)⟩
      · have h9 := Kd.R_mono (ok' := fun k => k ≠ w.heap.size + 1) (Kd.R_bound HM.out) (fun k hk => by have h1 := hk.2.1; have h2 := hW9; omega)
        exact Kd.R_mono (Kd.R_lower (Kd.R_far (p := ⟨w.heap.size + 1, 2, none⟩) (Kd.R_far (p := ⟨w.heap.size + 1, 1, none⟩) (Kd.R_far (p := ⟨w.heap.size + 1, 0, none⟩) h9 (fun k hk => hk) _) (fun k hk => hk) _) (fun k hk => hk) _) (by omega)) (fun _ _ => trivial)
      · have h9 := Kd.S_mono (ok' := fun k => k ≠ w.heap.size + 1) (Kd.S_bound HTR.out) (fun k hk => by have h1 := hk.2.1; have h2 := hW9; omega)
        exact Kd.S_mono (Kd.S_lower (Kd.S_far (p := ⟨w.heap.size + 1, 2, none⟩) (Kd.S_far (p := ⟨w.heap.size + 1, 1, none⟩) (Kd.S_far (p := ⟨w.heap.size + 1, 0, none⟩) h9 (fun k hk => hk) _) (fun k hk => hk) _) (fun k hk => hk) _) (by omega)) (fun _ _ => trivial)
  · rw [if_pos hk] at h
    injection h with h1 h
    injection h with h2 h
    injection h with h3 h4
    subst h1 h2 h3 h4
    have hk1 : (Sp.check a0_0 l0_1 != 0) = true := bne_iff_ne.2 hk
    clear hbw hz1 hz2 hsz0 hr0_1 hc0_1 hk hkc hth
    generalize Sp.check a0_0 l0_1 = y at hk1 HKC ⊢
    go_enter Try.func54, Try.ntmps54
    go_upto_region 1 with (fail)
    rw [← hW0]
    clear hW0
    go_upto_region 2 with ((go_at_call 63; refine (hoggetref10_Check.calls kc a0_0 _ _ l0_1 y _ HR.out HC.out HKC.out).mono ?_; clear HKC; rintro e w1 ⟨rfl, hb1⟩; have HZ3 := Aside0.mk ((hb1.block _ (by have := HSZ.out; omega)).trans HZ1.out); have HZ4 := Aside0.mk ((hb1.block _ (by have := HSZ.out; omega)).trans HZ2.out); have q3 : w1.cell? ⟨w.heap.size, 0, none⟩ = some (.int .i64 a0_0) := (blk_cell HZ3.out 0).trans rfl; have q4 : w1.cell? ⟨w.heap.size, 1, none⟩ = some (.slice A0_1 l0_1.length c0_1) := (blk_cell HZ3.out 1).trans rfl; have HR1 := Aside0.mk (Kd.C_below HR.out hb1); have HB1 := Aside0.mk (below_step HB0.out hb1); have hlt : w.heap.size + 1 < w1.heap.size := (by have h1 := hb1.size; have h2 := HSZ.out; omega); clear hb1 q1 q2))
    (have c0 : w1.cell? ⟨w.heap.size + 1, 0, none⟩ = some (.bool false) := (blk_cell HZ4.out 0).trans rfl; have c1 : w1.cell? ⟨w.heap.size + 1, 1, none⟩ = some (.slice none 0 0) := (blk_cell HZ4.out 1).trans rfl; have c2 : w1.cell? ⟨w.heap.size + 1, 2, none⟩ = some (.slice none 0 0) := (blk_cell HZ4.out 2).trans rfl; have d0 := blk_frozen HZ4.out 0; have d1 := blk_frozen HZ4.out 1; have d2 := blk_frozen HZ4.out 2)
    go_wp2
    refine bodyPost_ret (results_ct rfl _ _ (w.heap.size + 1) 51 #[.bool false, .slice none 0 0, .slice none 0 0] (0, 0) _ rfl (put3 HZ4.out) Try.underlying51 rfl (by kernel_rfl)) rfl ?_
    exact ⟨_, _, rfl, Kd.R_nil _ _ _ _ _, Kd.S_nil _ _ _ _ _, below3 HB1.out (by omega)⟩
end Go.Proofs.Ythnbmlpjbhhamaa.J
