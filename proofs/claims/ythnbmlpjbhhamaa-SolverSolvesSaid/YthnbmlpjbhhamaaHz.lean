/- solver.search.known, where a look is a model's. -/
import Derived.Test.YthnbmlpjbhhamaaHy
namespace Go.Proofs.Ythnbmlpjbhhamaa.J
open Go.RowKit Go.Shelf Go.Proofs.YthnbmlpjbhhamaaW.PrintWords Go.Proofs.YthnbmlpjbhhamaaW.PrintLast Go.Proofs.YthnbmlpjbhhamaaW.PrintMore
set_option linter.unusedVariables false
set_option linter.unusedSimpArgs false

set_option maxHeartbeats 8000000 in
set_option maxRecDepth 100000 in
/-- A look that is a model's. -/
theorem known_yes {w0 W : World} {g : Nat} {vars : Int} {A : Option Addr} {c : Nat} {cls : List (List Int)} {d : List Int} {stk : List (Int × Int)} {s : Sv.St} {dv kv mv tv : Value}
    (h : Sst w0 W g vars A c cls d stk s dv kv mv tv) (l : List Int) (fr : Int) (hp : Uk.prop vars cls d = (l, 0)) (hf : Uk.free vars cls d = fr) (hyes : (l.length : Int) = vars) (hm : s.model.length ≤ 1000) (hl : l.length ≤ 1000) :
    Calls Try.prog 123 #[.pointer (some ⟨g, 0, none⟩)] W fun e w' => e = .returned (.tuple #[.int .i64 fr, .bool true]) ∧ ∃ mv' tv', Sst w0 w' g vars A c cls d stk (s.tell l) dv kv mv' tv' := by
  have HS := Aside0.mk h
  obtain ⟨Ad, cd, ed⟩ := Kd.R_slice h.hd
  have HC := Aside0.mk (Kd.R_reads' (ed ▸ h.hd)).2
  have e0 : W.cell? ⟨g, 0, none⟩ = some (.int .i64 vars) := (h.fld 0).trans rfl
  have e1 : W.cell? ⟨g, 1, none⟩ = some (.slice A cls.length c) := (h.fld 1).trans rfl
  have e2 : W.cell? ⟨g, 2, none⟩ = some dv := (h.fld 2).trans rfl
  have HP := Aside0.mk (show unit_Propagate.f vars cls d = some (l, 0) by unfold unit_Propagate.f; rw [hp])
  have HF := Aside0.mk (show unit_Free.f vars cls d = some fr by unfold unit_Free.f; rw [hf])
  have HM := Aside0.mk hm
  subst ed
  have t2 : ((l.length : Int) == vars) = true := by simp [hyes]
  clear h hp hf hyes hm
  have HSd := Aside0.mk (HS.out.below (below_drew (Below.refl _ _)))
  have HCd := Aside0.mk (Kd.C_drew HC.out.2)
  have b0 := pw_cell_below (below_drew (Below.refl _ W)) e0
  have b1 := pw_cell_below (below_drew (Below.refl _ W)) e1
  have b2 := pw_cell_below (below_drew (Below.refl _ W)) e2
  go_enter Try.func123, Try.ntmps123
  go_wp2
  go_region_with (go_at_call 35; refine (unit_Propagate.calls vars _ _ cls _ _ d l 0 _ (Kd.C_below HSd.out.hr HSd.out.hb) HS.out.hc HCd.out HC.out.1 HP.out).mono ?_; rintro e w1 ⟨v, rfl, ho, hb1⟩; obtain ⟨Al, cl, rfl, hc1, hc2⟩ := row_reads ho; have HS1 := Aside0.mk (HSd.out.below hb1); have HC1 := Aside0.mk (Kd.C_below HCd.out hb1); have HL1 := Aside0.mk (show Kd.R (Kd.int .i64) 3 w1 w0.heap.size (fun k => k ≠ g) (.slice Al l.length cl) l from Kd.R_mono (Kd.R_lower (Kd.R_bound ho) HSd.out.hb.size) (fun k hk => by have h1 := HSd.out.lt; have h2 := hk.2.1; omega)); have a0 := pw_cell_below hb1 b0; have a1 := pw_cell_below hb1 b1; have a2 := pw_cell_below hb1 b2; clear ho hb1 hc1 hc2 HP)
  all_goals (
    go_wp2
    go_loopg [34] l.length (fun gg s34 wq => ∃ (j : Nat) (mv' : Value), j ≤ l.length ∧ l.length - j ≤ gg ∧ s34 = .int .i64 (j : Int) ∧ Aside0 (Kd.R (Kd.int .i64) 3 wq w0.heap.size (fun k => k ≠ g) (.slice Al l.length cl) l) ∧ Aside0 (Sst w0 wq g vars A c cls d stk ⟨s.looks, s.sat, s.model ++ (l.take j).map (fun x => decide (x > 0)), s.trace⟩ (.slice Ad d.length cd) kv mv' tv))
    case atStart => exact ⟨0, mv, Nat.zero_le _, by omega, by go_num, HL1, ⟨by rw [List.take_zero, List.map_nil, List.append_nil]; exact HS1.out⟩⟩
    case round =>
      clear HS1 HC1 a0 a1 a2
      obtain ⟨j, mv', hj, hg, rfl, HL, HS1⟩ := hrel
      by_cases hjl : j < l.length
      · have hjz : (j : Int) < (l.length : Int) := by omega
        obtain ⟨ad, eA, hx⟩ := C_int_at (Kd.R_reads' HL.out).2.2 j hjl
        subst eA
        have HTK := Aside0.mk (show s.model ++ (l.take (j + 1)).map (fun x => decide (x > 0)) = (s.model ++ (l.take j).map (fun x => decide (x > 0))) ++ [decide (l[j] > 0)] by rw [List.take_succ_eq_append_getElem hjl, List.map_append, List.append_assoc]; rfl)
        have HLE := Aside0.mk (show (s.model ++ (l.take j).map (fun x => decide (x > 0))).length ≤ 2000 by have := HM.out; rw [List.length_append, List.length_map, List.length_take]; omega)
        generalize l[j] = x at hx HTK
        obtain ⟨bx, hbx⟩ : ∃ bx, decide (x > 0) = bx := ⟨_, rfl⟩
        rw [hbx] at HTK
        generalize s.model ++ (l.take j).map (fun x => decide (x > 0)) = ms at HTK HLE HS1
        have e6 : wr.cell? ⟨g, 6, none⟩ = some mv' := (HS1.out.fld 6).trans rfl
        have f6 := blk_frozen HS1.out.hg 6
        have e6a : ∀ o, (wr.alloc o).cell? ⟨g, 6, none⟩ = some mv' := fun o => pw_cell_below (below_alloc (Below.refl _ wr) o) e6
        have hm9 : Kd.R Kd.bool 4 wr w0.heap.size (fun k => k ≠ g) mv' ms := HS1.out.hm
        obtain ⟨Am, cm, em⟩ := Kd.R_slice hm9
        have HM9 := Aside0.mk hm9
        subst em
        obtain ⟨mt, hmt⟩ : ∃ mt, mt = ms ++ [bx] := ⟨_, rfl⟩
        have HMT := Aside0.mk hmt
        clear hm9 hmt
        go_wp2_with (at_builtin; refine Kd.R_append Kd.bool (w0 := w0) w0.heap.size rfl (.tmp 43) (.tmp 46) 38 4 (.bool false) 1 rfl Try.underlying38 info_bool rfl (by decide) (by omega) (.slice Am ms.length cm) ms bx [.bool bx] (fun k => k ≠ g) (fun _ => False) rfl rfl ?aP (fun _ hk => hk.elim) ?aF ?aO ?aB ?aS ?aL ?_; (case aP => exact rfl); (case aB => exact HS1.out.hb); (case aF => exact (fun k hk => by have := HS1.out.lt; omega)); (case aO => exact HM9.out); (case aS => exact HS1.out.hb.size); (case aL => have h1 := HLE.out; omega); intro v1 w4 hR2 hB2 hg2 hat2; rw [← HMT.out] at hR2; obtain ⟨A9, c9, ev⟩ := Kd.R_slice hR2; subst ev; have HL2 := Aside0.mk (Kd.R_far (p := ⟨g, 6, none⟩) (Kd.R_over HL.out HM9.out (by decide) hg2) (fun k hk => hk) (.slice A9 mt.length c9)); have k1 := HS1.out.kept (u := .slice Am ms.length cm) (fun k hk => HM9.out.1 k hk) hg2; have z1 := blk_frozen k1 6; have z2 : w4.cell? ⟨g, 6, none⟩ = some (.slice Am ms.length cm) := (blk_cell k1 6).trans rfl; have HS2 := Aside0.mk (HS1.out.putM hR2 hB2 hg2); clear hR2 hB2 hg2 hat2 k1)
        go_roundg (l.length - (j + 1))
        case measure => omega
        case rel => exact ⟨j + 1, _, by omega, by omega, by go_num, HL2, ⟨by rw [HTK.out, ← HMT.out]; exact HS2.out⟩⟩
      · have hjz : ¬ (j : Int) < (l.length : Int) := by omega
        have hS9 := HS1.out
        rw [List.take_of_length_le (by omega)] at hS9
        have HS9 := Aside0.mk hS9
        have x5 : wr.cell? ⟨g, 5, none⟩ = some (.bool s.sat) := (hS9.fld 5).trans rfl
        have x5f := blk_frozen hS9.hg 5
        have hT := hS9.putS
        have x7 : (wr.setCell ⟨g, 5, none⟩ (.bool true)).cell? ⟨g, 7, none⟩ = some tv := (hT.fld 7).trans rfl
        have x7f := blk_frozen hT.hg 7
        have HT9 := Aside0.mk hT.noT
        clear hS9 hT
        go_wp2
        obtain ⟨W10, hW10⟩ : ∃ W10, W10 = (wr.setCell ⟨g, 5, none⟩ (.bool true)).setCell ⟨g, 7, none⟩ (.slice none 0 0) := ⟨_, rfl⟩
        rw [← hW10] at HT9 ⊢
        clear hW10
        have HT10 := Aside0.mk (HT9.out.below (below_drew (Below.refl _ _)))
        have HD10 := Aside0.mk (Kd.R_reads' HT10.out.hd).2
        have y0 : W10.drew.cell? ⟨g, 0, none⟩ = some (.int .i64 vars) := (HT10.out.fld 0).trans rfl
        have y1 : W10.drew.cell? ⟨g, 1, none⟩ = some (.slice A cls.length c) := (HT10.out.fld 1).trans rfl
        have y2 : W10.drew.cell? ⟨g, 2, none⟩ = some (.slice Ad d.length cd) := (HT10.out.fld 2).trans rfl
        clear x5 x5f x7 x7f
        go_region_with (go_at_call 39; refine (unit_Free.calls vars _ _ cls _ _ d fr _ (Kd.C_below HT10.out.hr HT10.out.hb) HS.out.hc HD10.out.2 HD10.out.1 HF.out).mono ?_; rintro e w2 ⟨rfl, hb2⟩; have HS2 := Aside0.mk (HT10.out.below hb2); clear hb2 HF)
        all_goals (
          go_wp2
          go_ret2
          exact ⟨rfl, _, _, HS2.out⟩))

/-! ### the last frame of the stack -/

section
variable {W : World} {base gk n ck T : Nat} {ok : Nat → Prop} {stk3 : List (Int × Int)} {p : Int × Int}
theorem frame_split (h : Kd.R (Kd.pair (Kd.int .i64) (Kd.int .i64)) T W base ok (.slice (some ⟨gk, 0, none⟩) (n + 1) ck) (stk3 ++ [p])) (hl : stk3.length = n) :
    ∃ inner0 : List Value, inner0.length = n * 2 ∧ W.ownsRow base T 2 (.slice (some ⟨gk, 0, none⟩) (n + 1) ck) (n + 1) (inner0 ++ [.int .i64 p.1, .int .i64 p.2]) ∧
      Reps ((Kd.pair (Kd.int .i64) (Kd.int .i64)).M W base (fun k => ok k ∧ some k ≠ (Value.slice (some ⟨gk, 0, none⟩) (n + 1) ck).ownBlock)) 2 stk3 inner0 := by
  obtain ⟨h0, inner, ho, hr⟩ := h
  have hlen : inner.length = (n + 1) * 2 := by have := hr.1; rw [List.length_append, List.length_singleton, hl] at this; exact this
  obtain ⟨c0, c1, e, e0, e1⟩ := hr.2 n p (by rw [List.getElem?_append_right (by omega), hl, Nat.sub_self]; rfl)
  have e0 : c0 = [.int .i64 p.1] := e0
  have e1 : c1 = [.int .i64 p.2] := e1
  have hz : (Kd.pair (Kd.int .i64) (Kd.int .i64)).sz = 2 := rfl
  rw [hz] at e
  rw [e0, e1, List.take_of_length_le (by rw [List.length_drop]; omega)] at e
  have hi : inner = inner.take (n * 2) ++ [.int .i64 p.1, .int .i64 p.2] := by
    have := (List.take_append_drop (n * 2) inner).symm
    rw [e] at this
    exact this
  refine ⟨inner.take (n * 2), by rw [List.length_take]; omega, ?_, ?_, ?_⟩
  · rw [← hi]
    rw [List.length_append, List.length_singleton, hl] at ho
    exact ho
  · rw [List.length_take, hl, hlen]; omega
  · intro j q hj
    have hjn : j < n := by have := (List.getElem?_eq_some_iff.1 hj).1; omega
    have := hr.2 j q (by rw [List.getElem?_append_left (by omega)]; exact hj)
    rw [hz] at this
    rw [List.drop_take, List.take_take]
    rw [show min 2 (n * 2 - j * 2) = 2 by omega]
    exact this
theorem frame_cells (h : Kd.R (Kd.pair (Kd.int .i64) (Kd.int .i64)) T W base ok (.slice (some ⟨gk, 0, none⟩) (n + 1) ck) (stk3 ++ [p])) (hl : stk3.length = n) :
    W.cell? ⟨gk, n * 2, none⟩ = some (.int .i64 p.1) ∧ W.cell? ⟨gk, n * 2 + 1, none⟩ = some (.int .i64 p.2) ∧ W.frozen? ⟨gk, n * 2 + 1, none⟩ = false := by
  obtain ⟨inner0, h1, ⟨_, ⟨e2, _⟩ | ⟨g', cap', cur, e2, e3, e4, e5, e6, e7, e8⟩⟩, _⟩ := frame_split h hl
  · exact absurd e2 (by simp)
  · injection e2 with e21 e22 e23
    injection e21 with e21
    injection e21 with e21
    subst e21
    have key : ∀ j, j < (n + 1) * 2 → cur[j]? = (inner0 ++ [.int .i64 p.1, .int .i64 p.2])[j]? := by
      intro j hj
      rw [← e8, List.getElem?_take, if_pos hj, Array.getElem?_toList]
    refine ⟨?_, ?_, blk_frozen e4 _⟩
    · rw [blk_cell e4, key _ (by omega), List.getElem?_append_right (by omega), h1, Nat.sub_self]; rfl
    · rw [blk_cell e4, key _ (by omega), List.getElem?_append_right (by omega), h1, show n * 2 + 1 - n * 2 = 1 by omega]; rfl
theorem frame_put (h : Kd.R (Kd.pair (Kd.int .i64) (Kd.int .i64)) T W base ok (.slice (some ⟨gk, 0, none⟩) (n + 1) ck) (stk3 ++ [p])) (hl : stk3.length = n) (m : Int) :
    Kd.R (Kd.pair (Kd.int .i64) (Kd.int .i64)) T (W.setCell ⟨gk, n * 2 + 1, none⟩ (.int .i64 m)) base ok (.slice (some ⟨gk, 0, none⟩) (n + 1) ck) (stk3 ++ [(p.1, m)]) ∧ W.grownBy (W.setCell ⟨gk, n * 2 + 1, none⟩ (.int .i64 m)) (some gk) := by
  have h0 := h.1
  obtain ⟨inner0, h1, ho, hr⟩ := frame_split h hl
  have hs := ho.stored (n * 2 + 1) (.int .i64 m)
  have e : (inner0 ++ [Value.int .i64 p.1, Value.int .i64 p.2]).set (n * 2 + 1) (Value.int .i64 m) = inner0 ++ [Value.int .i64 p.1, Value.int .i64 m] := by
    rw [List.set_append_right _ _ (by omega), h1, show n * 2 + 1 - n * 2 = 1 by omega]; rfl
  rw [e] at hs
  refine ⟨⟨h0, inner0 ++ [Value.int .i64 p.1, Value.int .i64 m], ?_, ?_⟩, hs.2⟩
  · rw [List.length_append, List.length_singleton, hl]; exact hs.1
  · refine Reps.snoc (hr.imp_ (fun q c hq => hq)) ?_ rfl
    exact ⟨[Value.int .i64 p.1], [Value.int .i64 m], rfl, rfl, rfl⟩
end
/-- The stack's last frame is written. -/
theorem Sst.frame {w0 W : World} {g : Nat} {vars : Int} {A : Option Addr} {c : Nat} {cls : List (List Int)} {d : List Int} {s : Sv.St} {dv mv tv : Value} {gk n ck : Nat} {stk3 : List (Int × Int)} {p : Int × Int}
    (h : Sst w0 W g vars A c cls d (stk3 ++ [p]) s dv (.slice (some ⟨gk, 0, none⟩) (n + 1) ck) mv tv) (hl : stk3.length = n) (m : Int) :
    Sst w0 (W.setCell ⟨gk, n * 2 + 1, none⟩ (.int .i64 m)) g vars A c cls d (stk3 ++ [(p.1, m)]) s dv (.slice (some ⟨gk, 0, none⟩) (n + 1) ck) mv tv := by
  obtain ⟨hk, hgw⟩ := frame_put h.hk hl m
  have hgw' : W.grownBy (W.setCell ⟨gk, n * 2 + 1, none⟩ (.int .i64 m)) (Value.slice (some ⟨gk, 0, none⟩) (n + 1) ck).ownBlock := hgw
  have hb : w0.heap.size ≤ gk := Kd.R_base h.hk gk rfl
  refine ⟨h.kept (u := .slice (some ⟨gk, 0, none⟩) (n + 1) ck) (fun k hk => h.hk.1 k hk) hgw', Kd.R_over h.hd h.hk (by decide) hgw', hk, Kd.R_over h.hm h.hk (by decide) hgw', Kd.S_over' h.ht (Kd.R_typed h.hk) (by decide) hgw', h.bg, h.hb.setCell (p := ⟨gk, n * 2 + 1, none⟩) hb _, h.hr, h.hc⟩
end Go.Proofs.Ythnbmlpjbhhamaa.J
