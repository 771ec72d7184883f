/- The solver's state in memory; lay and known, walked. -/
import Derived.Test.YthnbmlpjbhhamaaHv
import Derived.Test.YthnbmlpjbhhamaaSv
import Derived.Test.YthnbmlpjbhhamaaHg
import Derived.Deep.RegionLaw
import Derived.IntWalk
namespace Go.Proofs.Ythnbmlpjbhhamaa.J
open Go.RowKit Go.Shelf Go.Proofs.YthnbmlpjbhhamaaW.PrintWords Go.Proofs.YthnbmlpjbhhamaaW.PrintLast Go.Proofs.YthnbmlpjbhhamaaW.PrintMore
set_option linter.unusedVariables false
set_option linter.unusedSimpArgs false

/-- The search at block g. -/
structure Sst (w0 W : World) (g : Nat) (vars : Int) (A : Option Addr) (c : Nat) (cls : List (List Int)) (d : List Int) (stk : List (Int × Int)) (s : Sv.St) (dv kv mv tv : Value) : Prop where
  hg : W.heap[g]? = some (.cells #[.int .i64 vars, .slice A cls.length c, dv, kv, .int .i64 (s.looks : Int), .bool s.sat, mv, tv] 95 (0, 0))
  hd : Kd.R (Kd.int .i64) 3 W w0.heap.size (fun k => k ≠ g) dv d
  hk : Kd.R (Kd.pair (Kd.int .i64) (Kd.int .i64)) 114 W w0.heap.size (fun k => k ≠ g) kv stk
  hm : Kd.R Kd.bool 4 W w0.heap.size (fun k => k ≠ g) mv s.model
  ht : Kd.S (Kd.slice 3 (Kd.int .i64)) 25 W w0.heap.size (fun k => k ≠ g ∧ some k ≠ dv.ownBlock) tv s.trace
  bg : w0.heap.size ≤ g
  hb : Below w0.heap.size w0 W
  hr : Kd.C (Kd.slice 3 (Kd.int .i64)) w0 A cls.length cls
  hc : cls.length ≤ c

section
variable {w0 W w1 : World} {g : Nat} {vars : Int} {A : Option Addr} {c : Nat} {cls : List (List Int)} {d : List Int} {stk : List (Int × Int)} {s : Sv.St} {dv kv mv tv v1 : Value}
theorem Sst.lt (h : Sst w0 W g vars A c cls d stk s dv kv mv tv) : g < W.heap.size := (Array.getElem?_eq_some_iff.1 h.hg).1
theorem Sst.below (h : Sst w0 W g vars A c cls d stk s dv kv mv tv) (hb : Below W.heap.size W w1) : Sst w0 w1 g vars A c cls d stk s dv kv mv tv :=
  ⟨(hb.block g h.lt).trans h.hg, Kd.R_below h.hd hb, Kd.R_below h.hk hb, Kd.R_below h.hm hb, Kd.S_below h.ht hb, h.bg, below_then h.hb h.hb.size hb, h.hr, h.hc⟩
theorem Sst.fld (h : Sst w0 W g vars A c cls d stk s dv kv mv tv) (j : Nat) : W.cell? ⟨g, j, none⟩ = #[.int .i64 vars, .slice A cls.length c, dv, kv, .int .i64 (s.looks : Int), .bool s.sat, mv, tv][j]? := blk_cell h.hg j
theorem Sst.kept (h : Sst w0 W g vars A c cls d stk s dv kv mv tv) {u : Value} (hu : ∀ k, u.ownBlock = some k → k ≠ g) (hgw : W.grownBy w1 u.ownBlock) : w1.heap[g]? = some (.cells #[.int .i64 vars, .slice A cls.length c, dv, kv, .int .i64 (s.looks : Int), .bool s.sat, mv, tv] 95 (0, 0)) :=
  (hgw.block g h.lt (fun e => hu g e.symm rfl)).trans h.hg
/-- A field of the search is stored. -/
theorem cells_set {W : World} {g : Nat} {cells : Array Value} {T : TypeId} (h : W.heap[g]? = some (.cells cells T (0, 0))) (j : Nat) (u : Value) : (W.setCell ⟨g, j, none⟩ u).heap[g]? = some (.cells (cells.setIfInBounds j u) T (0, 0)) := blk_set h j u
/-- The decided literals, behind an append. -/
theorem Sst.putD (h : Sst w0 W g vars A c cls d stk s dv kv mv tv) {d' : List Int} (hn : Kd.R (Kd.int .i64) 3 w1 w0.heap.size (fun k => k ≠ g) v1 d') (hb : Below w0.heap.size w0 w1) (hgw : W.grownBy w1 dv.ownBlock) (hat : v1.ownBlock = dv.ownBlock ∨ ∃ b, v1.ownBlock = some b ∧ W.heap.size ≤ b) :
    Sst w0 (w1.setCell ⟨g, 2, none⟩ v1) g vars A c cls d' stk s v1 kv mv tv := by
  refine ⟨?_, Kd.R_far hn (fun k hk => hk) v1, Kd.R_far (Kd.R_over h.hk h.hd (by decide) hgw) (fun k hk => hk) v1, Kd.R_far (Kd.R_over h.hm h.hd (by decide) hgw) (fun k hk => hk) v1, Kd.S_far (Kd.S_after h.ht hgw hat) (fun k hk => hk.1) v1, h.bg, hb.setCell (p := ⟨g, 2, none⟩) h.bg v1, h.hr, h.hc⟩
  have := cells_set (h.kept (fun k hk => h.hd.1 k hk) hgw) 2 v1
  simpa using this
/-- The decided literals, cut. -/
theorem Sst.cutD (h : Sst w0 W g vars A c cls d stk s dv kv mv tv) {d' : List Int} (hn : Kd.R (Kd.int .i64) 3 W w0.heap.size (fun k => k ≠ g) v1 d') (he : v1.ownBlock = dv.ownBlock) :
    Sst w0 (W.setCell ⟨g, 2, none⟩ v1) g vars A c cls d' stk s v1 kv mv tv := by
  refine ⟨?_, Kd.R_far hn (fun k hk => hk) v1, Kd.R_far h.hk (fun k hk => hk) v1, Kd.R_far h.hm (fun k hk => hk) v1, Kd.S_far (by rw [he]; exact h.ht) (fun k hk => hk.1) v1, h.bg, h.hb.setCell (p := ⟨g, 2, none⟩) h.bg v1, h.hr, h.hc⟩
  have := cells_set h.hg 2 v1
  simpa using this
/-- The stack, behind an append. -/
theorem Sst.putK (h : Sst w0 W g vars A c cls d stk s dv kv mv tv) {stk' : List (Int × Int)} (hn : Kd.R (Kd.pair (Kd.int .i64) (Kd.int .i64)) 114 w1 w0.heap.size (fun k => k ≠ g) v1 stk') (hb : Below w0.heap.size w0 w1) (hgw : W.grownBy w1 kv.ownBlock) :
    Sst w0 (w1.setCell ⟨g, 3, none⟩ v1) g vars A c cls d stk' s dv v1 mv tv := by
  refine ⟨?_, Kd.R_far (Kd.R_over h.hd h.hk (by decide) hgw) (fun k hk => hk) v1, Kd.R_far hn (fun k hk => hk) v1, Kd.R_far (Kd.R_over h.hm h.hk (by decide) hgw) (fun k hk => hk) v1, Kd.S_far (Kd.S_over' h.ht (Kd.R_typed h.hk) (by decide) hgw) (fun k hk => hk.1) v1, h.bg, hb.setCell (p := ⟨g, 3, none⟩) h.bg v1, h.hr, h.hc⟩
  have := cells_set (h.kept (fun k hk => h.hk.1 k hk) hgw) 3 v1
  simpa using this
theorem Sst.cutK (h : Sst w0 W g vars A c cls d stk s dv kv mv tv) {stk' : List (Int × Int)} (hn : Kd.R (Kd.pair (Kd.int .i64) (Kd.int .i64)) 114 W w0.heap.size (fun k => k ≠ g) v1 stk') :
    Sst w0 (W.setCell ⟨g, 3, none⟩ v1) g vars A c cls d stk' s dv v1 mv tv := by
  refine ⟨?_, Kd.R_far h.hd (fun k hk => hk) v1, Kd.R_far hn (fun k hk => hk) v1, Kd.R_far h.hm (fun k hk => hk) v1, Kd.S_far h.ht (fun k hk => hk.1) v1, h.bg, h.hb.setCell (p := ⟨g, 3, none⟩) h.bg v1, h.hr, h.hc⟩
  have := cells_set h.hg 3 v1
  simpa using this
/-- The looks are counted. -/
theorem Sst.putL (h : Sst w0 W g vars A c cls d stk s dv kv mv tv) (n : Nat) :
    Sst w0 (W.setCell ⟨g, 4, none⟩ (.int .i64 (n : Int))) g vars A c cls d stk ⟨n, s.sat, s.model, s.trace⟩ dv kv mv tv := by
  refine ⟨?_, Kd.R_far h.hd (fun k hk => hk) _, Kd.R_far h.hk (fun k hk => hk) _, Kd.R_far h.hm (fun k hk => hk) _, Kd.S_far h.ht (fun k hk => hk.1) _, h.bg, h.hb.setCell (p := ⟨g, 4, none⟩) h.bg _, h.hr, h.hc⟩
  have := cells_set h.hg 4 (.int .i64 (n : Int))
  simpa using this
/-- The model, behind an append. -/
theorem Sst.putM (h : Sst w0 W g vars A c cls d stk s dv kv mv tv) {m : List Bool} (hn : Kd.R Kd.bool 4 w1 w0.heap.size (fun k => k ≠ g) v1 m) (hb : Below w0.heap.size w0 w1) (hgw : W.grownBy w1 mv.ownBlock) :
    Sst w0 (w1.setCell ⟨g, 6, none⟩ v1) g vars A c cls d stk ⟨s.looks, s.sat, m, s.trace⟩ dv kv v1 tv := by
  refine ⟨?_, Kd.R_far (Kd.R_over h.hd h.hm (by decide) hgw) (fun k hk => hk) v1, Kd.R_far (Kd.R_over h.hk h.hm (by decide) hgw) (fun k hk => hk) v1, Kd.R_far hn (fun k hk => hk) v1, Kd.S_far (Kd.S_over' h.ht (Kd.R_typed h.hm) (by decide) hgw) (fun k hk => hk.1) v1, h.bg, hb.setCell (p := ⟨g, 6, none⟩) h.bg v1, h.hr, h.hc⟩
  have := cells_set (h.kept (fun k hk => h.hm.1 k hk) hgw) 6 v1
  simpa using this
/-- The trace, behind an append. -/
theorem Sst.putT (h : Sst w0 W g vars A c cls d stk s dv kv mv tv) {t : List (List Int)} (hn : Kd.S (Kd.slice 3 (Kd.int .i64)) 25 w1 w0.heap.size (fun k => k ≠ g ∧ some k ≠ dv.ownBlock) v1 t) (hb : Below w0.heap.size w0 w1) (hgw : W.grownBy w1 tv.ownBlock) :
    Sst w0 (w1.setCell ⟨g, 7, none⟩ v1) g vars A c cls d stk ⟨s.looks, s.sat, s.model, t⟩ dv kv mv v1 := by
  have hT := Kd.S_R h.ht
  refine ⟨?_, Kd.R_far (Kd.R_over h.hd hT (by decide) hgw) (fun k hk => hk) v1, Kd.R_far (Kd.R_over h.hk hT (by decide) hgw) (fun k hk => hk) v1, Kd.R_far (Kd.R_over h.hm hT (by decide) hgw) (fun k hk => hk) v1, Kd.S_far hn (fun k hk => hk.1) v1, h.bg, hb.setCell (p := ⟨g, 7, none⟩) h.bg v1, h.hr, h.hc⟩
  have := cells_set (h.kept (fun k hk => (hT.1 k hk).1) hgw) 7 v1
  simpa using this
/-- It is satisfied; the trace goes. -/
theorem Sst.putS (h : Sst w0 W g vars A c cls d stk s dv kv mv tv) :
    Sst w0 (W.setCell ⟨g, 5, none⟩ (.bool true)) g vars A c cls d stk ⟨s.looks, true, s.model, s.trace⟩ dv kv mv tv := by
  refine ⟨?_, Kd.R_far h.hd (fun k hk => hk) _, Kd.R_far h.hk (fun k hk => hk) _, Kd.R_far h.hm (fun k hk => hk) _, Kd.S_far h.ht (fun k hk => hk.1) _, h.bg, h.hb.setCell (p := ⟨g, 5, none⟩) h.bg _, h.hr, h.hc⟩
  have := cells_set h.hg 5 (.bool true)
  simpa using this
theorem Sst.noT (h : Sst w0 W g vars A c cls d stk s dv kv mv tv) :
    Sst w0 (W.setCell ⟨g, 7, none⟩ (.slice none 0 0)) g vars A c cls d stk ⟨s.looks, s.sat, s.model, []⟩ dv kv mv (.slice none 0 0) := by
  refine ⟨?_, Kd.R_far h.hd (fun k hk => hk) _, Kd.R_far h.hk (fun k hk => hk) _, Kd.R_far h.hm (fun k hk => hk) _, Kd.S_nil _ _ _ _ _, h.bg, h.hb.setCell (p := ⟨g, 7, none⟩) h.bg _, h.hr, h.hc⟩
  have := cells_set h.hg 7 (.slice none 0 0)
  simpa using this
end

/-! ### lay -/
set_option maxHeartbeats 4000000 in
set_option maxRecDepth 100000 in
theorem lay_any {w0 W : World} {g : Nat} {vars : Int} {A : Option Addr} {c : Nat} {cls : List (List Int)} {d : List Int} {stk : List (Int × Int)} {s : Sv.St} {dv kv mv tv : Value}
    (h : Sst w0 W g vars A c cls d stk s dv kv mv tv) (hl : d.length ≤ 100000) (hx : ∀ x ∈ d, -60 ≤ x ∧ x ≤ 60) (ht : s.trace.length ≤ 100000) :
    Calls Try.prog 124 #[.pointer (some ⟨g, 0, none⟩)] W fun e w' => e = .returned (.tuple #[]) ∧ ∃ tv', Sst w0 w' g vars A c cls d stk (s.lay d) dv kv mv tv' := by
  have HS := Aside0.mk h
  have HX := Aside0.mk hx
  have HTL := Aside0.mk ht
  have q2 := h.fld 2
  obtain ⟨Ad, cd, ed⟩ := Kd.R_slice h.hd
  have HC := Aside0.mk (Kd.R_reads' (ed ▸ h.hd)).2
  subst ed
  have e2 : W.cell? ⟨g, 2, none⟩ = some (.slice Ad d.length cd) := q2
  clear h hx ht q2
  go_enter Try.func124, Try.ntmps124
  go_wp2
  go_loopg [2, 10] d.length (fun gg s2 s10 wq => ∃ j : Nat, j ≤ d.length ∧ d.length - j ≤ gg ∧ s10 = .int .i64 (j : Int) ∧ Aside0 (Kd.R (Kd.int .i64) 3 wq W.heap.size (fun _ => True) s2 (Pf.turned (d.take j))) ∧ Aside0 (Below W.heap.size W wq))
  case atStart => exact ⟨0, Nat.zero_le _, by omega, by go_num, ⟨Kd.R_nil _ _ _ _ _⟩, ⟨Below.refl _ _⟩⟩
  case round =>
    obtain ⟨j, hj, hg, rfl, HT, HB⟩ := hrel
    by_cases hjl : j < d.length
    · have hjz : (j : Int) < (d.length : Int) := by omega
      have hxb := HX.out _ (List.getElem_mem hjl)
      obtain ⟨ad, eA, hx⟩ := C_int_at (Kd.C_below HC.out.2 HB.out) j hjl
      subst eA
      have HTK := Aside0.mk (show Pf.turned (d.take (j + 1)) = Pf.turned (d.take j) ++ [-d[j]] by rw [List.take_succ_eq_append_getElem hjl]; unfold Pf.turned; rw [List.map_append]; rfl)
      have HLE := Aside0.mk (show (Pf.turned (d.take j)).length = j by unfold Pf.turned; rw [List.length_map, List.length_take]; omega)
      generalize d[j] = x at hx HTK hxb
      have hneg : IntKind.i64.wrap (-x) = -x := IntWalk.i64_in _ (by omega)
      go_wp2_with (at_builtin; refine Kd.R_append (Kd.int .i64) (w0 := W) W.heap.size rfl (.tmp 14) (.tmp 17) 25 3 (.int .i64 0) 8 rfl Try.underlying25 info_int rfl (by decide) (by omega) u2 (Pf.turned (d.take j)) (-x) [.int .i64 (-x)] (fun _ => True) (fun _ => False) rfl rfl ?aP (fun _ hk => hk.elim) ?aF ?aO ?aB ?aS ?aL ?_; (case aP => exact rfl); (case aB => exact HB.out); (case aF => exact (fun _ _ => trivial)); (case aO => exact HT.out); (case aS => exact HB.out.size); (case aL => have h1 := HLE.out; omega); intro v1 w4 hR2 hB2 hg2 hat2; have HT2 := Aside0.mk hR2; have HB2 := Aside0.mk hB2; clear hR2 hB2 hg2 hat2)
      go_roundg (d.length - (j + 1))
      case measure => omega
      case rel => exact ⟨j + 1, by omega, by omega, by go_num, ⟨by rw [HTK.out]; exact HT2.out⟩, HB2⟩
    · have hjz : ¬ (j : Int) < (d.length : Int) := by omega
      have hT9 := HT.out
      rw [List.take_of_length_le (by omega)] at hT9
      have HW := Aside0.mk (HS.out.below HB.out)
      obtain ⟨tc, htc⟩ : ∃ tc, tc = Pf.turned d := ⟨_, rfl⟩
      rw [← htc] at hT9
      have HTC := Aside0.mk htc
      obtain ⟨Ac, cc, ec⟩ := Kd.R_slice hT9
      subst ec
      have e7 : wr.cell? ⟨g, 7, none⟩ = some tv := (HW.out.fld 7).trans rfl
      have f7 := blk_frozen HW.out.hg 7
      have e7a : ∀ o, (wr.alloc o).cell? ⟨g, 7, none⟩ = some tv := fun o => pw_cell_below (below_alloc (Below.refl _ wr) o) e7
      obtain ⟨At, ct, et⟩ := Kd.R_slice (Kd.S_R HW.out.ht)
      subst et
      have HCL := Aside0.mk hT9
      have HP := Aside0.mk (show (Kd.slice 3 (Kd.int .i64)).M wr w0.heap.size (fun k => some k = (Value.slice Ac tc.length cc).ownBlock) tc [.slice Ac tc.length cc] from ⟨_, rfl, Kd.R_tight rfl (Kd.R_lower hT9 HS.out.hb.size)⟩)
      have HOK := Aside0.mk (show ∀ k, some k = (Value.slice Ac tc.length cc).ownBlock → (k ≠ g ∧ some k ≠ (Value.slice Ad d.length cd).ownBlock) ∧ some k ≠ (Value.slice At s.trace.length ct).ownBlock by
        intro k hk
        have h1 := Kd.R_base hT9 k hk.symm
        have h2 := HS.out.lt
        refine ⟨⟨by omega, fun e => ?_⟩, fun e => ?_⟩
        · have := Kd.R_lt HS.out.hd k e.symm; omega
        · have := Kd.R_lt (Kd.S_R HS.out.ht) k e.symm; omega)
      have HOS := Aside0.mk (show Kd.S (Kd.slice 3 (Kd.int .i64)) 25 wr w0.heap.size (fun k => (k ≠ g ∧ some k ≠ (Value.slice Ad d.length cd).ownBlock) ∧ ¬ (some k = (Value.slice Ac tc.length cc).ownBlock)) (.slice At s.trace.length ct) s.trace from Kd.S_mono (Kd.S_old HS.out.ht HB.out) (fun k hk => ⟨hk.1, fun e => by have := Kd.R_base hT9 k e.symm; omega⟩))
      have HFR := Aside0.mk (show ∀ k, wr.heap.size ≤ k → k ≠ g ∧ some k ≠ (Value.slice Ad d.length cd).ownBlock by
        intro k hk
        have h2 := HW.out.lt
        refine ⟨by omega, fun e => ?_⟩
        have := Kd.R_lt HW.out.hd k e.symm; omega)
      obtain ⟨ts, hts⟩ : ∃ ts, ts = s.trace ++ [tc] := ⟨_, rfl⟩
      have HTS := Aside0.mk hts
      clear hT9 htc HT hts
      go_wp2_with (at_builtin; refine Kd.S_append (Kd.slice 3 (Kd.int .i64)) (w0 := w0) w0.heap.size rfl (.tmp 25) (.tmp 27) 22 25 (.slice none 0 0) 24 rfl Try.underlying22 info_rows rfl (by decide) (by omega) (.slice At s.trace.length ct) s.trace tc [.slice Ac tc.length cc] (fun k => k ≠ g ∧ some k ≠ (Value.slice Ad d.length cd).ownBlock) (fun k => some k = (Value.slice Ac tc.length cc).ownBlock) rfl rfl HP.out HOK.out HFR.out HOS.out HW.out.hb HW.out.hb.size (by have := HTL.out; omega) ?_; intro v1 w1 hn1 hb1 hg1 hat1; rw [← HTS.out] at hn1; obtain ⟨A9, c9, ev⟩ := Kd.R_slice (Kd.S_R hn1); subst ev; have k1 := HW.out.kept (u := .slice At s.trace.length ct) (fun k hk => ((Kd.S_R HW.out.ht).1 k hk).1) hg1; have z1 := blk_frozen k1 7; have z2 : w1.cell? ⟨g, 7, none⟩ = some (.slice At s.trace.length ct) := (blk_cell k1 7).trans rfl; have HG1 := Aside0.mk (HW.out.putT hn1 hb1 hg1); clear hn1 hb1 hg1 hat1 k1)
      go_end0
      refine ⟨rfl, .slice A9 ts.length c9, ?_⟩
      have e9 : s.lay d = ⟨s.looks, s.sat, s.model, ts⟩ := by rw [HTS.out, HTC.out]; rfl
      rw [e9]
      exact HG1.out
theorem info_bool : (Try.prog.info? 4).map (fun i => (i.zero, i.size, i.bytes)) = some (some (.bool false), 1, 1) := by kernel_rfl
/-! ### known -/
set_option maxHeartbeats 4000000 in
set_option maxRecDepth 100000 in
/-- A look that is no model's. -/
theorem known_no {w0 W : World} {g : Nat} {vars : Int} {A : Option Addr} {c : Nat} {cls : List (List Int)} {d : List Int} {stk : List (Int × Int)} {s : Sv.St} {dv kv mv tv : Value}
    (h : Sst w0 W g vars A c cls d stk s dv kv mv tv) (l : List Int) (pe fr : Int) (hp : Uk.prop vars cls d = (l, pe)) (hf : Uk.free vars cls d = fr) (b : Bool) (hb : (pe == 0) = b) (hno : pe = 0 → ¬ (l.length : Int) = vars) :
    Calls Try.prog 123 #[.pointer (some ⟨g, 0, none⟩)] W fun e w' => e = .returned (.tuple #[.int .i64 fr, .bool b]) ∧ Sst w0 w' g vars A c cls d stk s dv kv mv tv := by
  have HS := Aside0.mk h
  obtain ⟨Ad, cd, ed⟩ := Kd.R_slice h.hd
  have HC := Aside0.mk (Kd.R_reads' (ed ▸ h.hd)).2
  have e0 : W.cell? ⟨g, 0, none⟩ = some (.int .i64 vars) := (h.fld 0).trans rfl
  have e1 : W.cell? ⟨g, 1, none⟩ = some (.slice A cls.length c) := (h.fld 1).trans rfl
  have e2 : W.cell? ⟨g, 2, none⟩ = some dv := (h.fld 2).trans rfl
  have HP := Aside0.mk (show unit_Propagate.f vars cls d = some (l, pe) by unfold unit_Propagate.f; rw [hp])
  have HF := Aside0.mk (show unit_Free.f vars cls d = some fr by unfold unit_Free.f; rw [hf])
  subst ed
  clear h hp hf
  have main : (b = true → ((l.length : Int) == vars) = false) := by
    intro h9
    subst h9
    exact beq_eq_false_iff_ne.2 (hno (by simpa using hb))
  clear hno
  have HSd := Aside0.mk (HS.out.below (below_drew (Below.refl _ _)))
  have HCd := Aside0.mk (Kd.C_drew HC.out.2)
  have b0 := pw_cell_below (below_drew (Below.refl _ W)) e0
  have b1 := pw_cell_below (below_drew (Below.refl _ W)) e1
  have b2 := pw_cell_below (below_drew (Below.refl _ W)) e2
  cases b
  all_goals (
    try have t2 := main rfl
    clear main
    go_enter Try.func123, Try.ntmps123
    go_wp2
    go_region_with (go_at_call 35; refine (unit_Propagate.calls vars _ _ cls _ _ d l pe _ (Kd.C_below HSd.out.hr HSd.out.hb) HS.out.hc HCd.out HC.out.1 HP.out).mono ?_; rintro e w1 ⟨v, rfl, ho, hb1⟩; obtain ⟨Al, cl, rfl, hc1, hc2⟩ := row_reads ho; have HS1 := Aside0.mk (HSd.out.below hb1); have HC1 := Aside0.mk (Kd.C_below HCd.out hb1); have a0 := pw_cell_below hb1 b0; have a1 := pw_cell_below hb1 b1; have a2 := pw_cell_below hb1 b2; clear ho hb1 hc1 hc2 HP))
  all_goals (
    go_wp2
    have HS1d := Aside0.mk (HS1.out.below (below_drew (Below.refl _ _)))
    have HC1d := Aside0.mk (Kd.C_drew HC1.out)
    replace a0 := pw_cell_below (below_drew (Below.refl _ _)) a0
    replace a1 := pw_cell_below (below_drew (Below.refl _ _)) a1
    replace a2 := pw_cell_below (below_drew (Below.refl _ _)) a2
    go_region_with (go_at_call 39; refine (unit_Free.calls vars _ _ cls _ _ d fr _ (Kd.C_below HS1d.out.hr HS1d.out.hb) HS.out.hc HC1d.out HC.out.1 HF.out).mono ?_; rintro e w2 ⟨rfl, hb2⟩; have HS2 := Aside0.mk (HS1d.out.below hb2); clear hb2 HF)
    all_goals (
      go_wp2
      go_ret2
      exact ⟨rfl, HS2.out⟩))
end Go.Proofs.Ythnbmlpjbhhamaa.J
