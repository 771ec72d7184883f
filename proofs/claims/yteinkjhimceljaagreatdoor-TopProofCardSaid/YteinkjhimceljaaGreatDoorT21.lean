/- slices.Clone at rows of bounds, at rows of such rows and at manifests; a store into a row whose elements share; edges.own. edges.counts, edges.Needs, edges.Rule, walked; slices.IndexFunc at rules. -/
import Derived.Test.YteinkjhimceljaaGreatDoorT18
import Derived.Deep.RegionHeld3
import Derived.WalkSpells
import Derived.Lib.LazyBuf
namespace Go.Proofs.YteinkjhimceljaaGreatDoor.J
open Go Go.RowKit Go.Shelf Go.Proofs.YteinkjhimceljaaGreatDoorW.PrintWords Go.Proofs.YteinkjhimceljaaGreatDoorW.PrintLast Go.Proofs.YteinkjhimceljaaGreatDoorW.PrintMore
set_option linter.unusedVariables false
set_option linter.unusedSimpArgs false
theorem heap_ver : Kd.Heap k23 := Kd.heap_iso _ (Kd.heap_pair (Kd.heap_int _) (Kd.heap_pair (Kd.heap_int _) (Kd.heap_pair (Kd.heap_int _) Kd.heap_string)))
theorem heap_bound : Kd.Heap k112 := Kd.heap_iso _ (Kd.heap_pair (Kd.heap_int _) heap_ver)
theorem heap_range : Kd.Heap k73 := Kd.heap_iso _ (Kd.heap_slice _ (Kd.heap_slice _ heap_bound))
theorem heap_dep : Kd.Heap k75 := Kd.heap_iso _ (Kd.heap_pair (Kd.heap_int _) (Kd.heap_pair Kd.heap_string heap_range))
theorem heap_rule : Kd.Heap k78 := Kd.heap_iso _ (Kd.heap_pair Kd.heap_string heap_range)
theorem heap_man : Kd.Heap k27 := Kd.heap_iso _ (Kd.heap_pair Kd.heap_string (Kd.heap_pair heap_ver (Kd.heap_pair (Kd.heap_slice _ heap_dep) (Kd.heap_slice _ heap_rule))))
theorem eqnil_bounds (w : World) (n c : Nat) (a : Option Addr) : (binOp .eql 109 (.slice a n c) (.slice none 0 0)).run Tryz.prog w = .ok (.bool a.isNone) w := run_eql_slice_nil w _ _ a n c Tryz.underlying109
theorem info_bounds : (Tryz.prog.info? 112).map (fun i => (i.zero, i.size, i.bytes)) = some (some (.agg #[.int .i64 0, .int .i64 0, .int .i64 0, .int .i64 0, .string ⟨#[]⟩]), (k112).sz, 48) := by kernel_rfl
set_option maxHeartbeats 1000000 in
set_option maxRecDepth 100000 in
theorem clone_bounds (l : List S112) (A : Option Addr) (c : Nat) (w : World) (okp : Nat → Prop) (hf : Kd.F (k112) w okp A l.length l) (hlt : ∀ k, okp k → k < w.heap.size) (hl : l.length ≤ 1000000) :
 Calls Tryz.prog 80 #[.slice A l.length c] w fun e w' => ∃ v, e = .returned v ∧ Kd.N (k112) 112 w' w.heap.size (fun k => okp k ∨ w.heap.size ≤ k) v l ∧ Below w.heap.size w w' := by
 have hr := Kd.F_now hf
 cases A with
 | none =>
  have e : l = [] := by
   cases l with
   | nil => rfl
   | cons x t => obtain ⟨ad, he, _⟩ := hr.2.2 (by simp); exact absurd he (by simp)
  subst e
  have hn0 := fun W' n' c' a' => eqnil_bounds W' n' c' a'
  go_enter Tryz.func80, Tryz.ntmps80
  go_wp2
  go_ret
  exact ⟨_, rfl, Kd.N_nil _ _ _ _ _, Below.refl _ _⟩
 | some ad =>
  have HR := Aside0.mk hf
  have HLT := Aside0.mk hlt
  have HLN := Aside0.mk hl
  clear hr hl hf hlt
  have hn0 := fun W' n' c' a' => eqnil_bounds W' n' c' a'
  go_enter Tryz.func80, Tryz.ntmps80
  go_wp2_with (first
   | ((with_reducible refine gate_dst (N := 5) rfl ?_); refine Kd.N_lit (k112) (w0 := w) w.heap.size 112 ?hg (N' := 5) ?hd (xs := []) (inner := []) (ok := fun k => okp k ∨ w.heap.size ≤ k) (okp := fun _ => False) ?hr ?hp (fun _ hk => hk.elim) (.inr (Nat.le_refl _)) (Below.refl _ _) (Nat.le_refl _) (by simp) ?_; (case hd => rfl); (case hg => rfl); (case hr => first | (go_simp; done) | (go_simp; rfl)); (case hp => exact Reps.none _ _); intro v5 w5 hn5 hb5 hg5 hat5; obtain ⟨A5, c5, rfl⟩ := Kd.N_slice hn5; have HN5 := Aside0.mk hn5; have HB5 := Aside0.mk hb5; clear hn5 hb5 hg5 hat5)
   | (at_builtin; refine Kd.N_append_rows (k112) (w0 := w) w.heap.size rfl (.tmp 5) (.tmp 6) 109 112 (.agg #[.int .i64 0, .int .i64 0, .int .i64 0, .int .i64 0, .string ⟨#[]⟩]) 48 rfl Tryz.underlying109 info_bounds rfl (by decide) (by omega) (.slice A5 0 c5) [] l (some ad) l.length c (fun k => okp k ∨ w.heap.size ≤ k) okp rfl rfl HN5.out (Kd.F_below HR.out HB5.out) (fun k hk => ⟨.inl hk, fun e => by have := Kd.N_base HN5.out k e.symm; have := HLT.out k hk; omega⟩) (fun k hk => .inr (Nat.le_trans HB5.out.size hk)) HB5.out HB5.out.size (by have := HLN.out; simp only [List.length_nil]; omega) ?_; intro v6 w6 hn6 hb6 hg6 hat6; rw [List.nil_append] at hn6; have HN6 := Aside0.mk hn6; have HB6 := Aside0.mk hb6; clear hn6 hb6 hg6 hat6))
  go_ret
  exact ⟨_, rfl, HN6.out, HB6.out⟩
theorem eqnil_alts (w : World) (n c : Nat) (a : Option Addr) : (binOp .eql 71 (.slice a n c) (.slice none 0 0)).run Tryz.prog w = .ok (.bool a.isNone) w := run_eql_slice_nil w _ _ a n c Tryz.underlying71
theorem info_alts : (Tryz.prog.info? 109).map (fun i => (i.zero, i.size, i.bytes)) = some (some (.slice none 0 0), (Kd.slice 112 k112).sz, 24) := by kernel_rfl
set_option maxHeartbeats 1000000 in
set_option maxRecDepth 100000 in
theorem clone_alts (l : List (List S112)) (A : Option Addr) (c : Nat) (w : World) (okp : Nat → Prop) (hf : Kd.F (Kd.slice 112 k112) w okp A l.length l) (hlt : ∀ k, okp k → k < w.heap.size) (hl : l.length ≤ 1000000) :
 Calls Tryz.prog 79 #[.slice A l.length c] w fun e w' => ∃ v, e = .returned v ∧ Kd.N (Kd.slice 112 k112) 109 w' w.heap.size (fun k => okp k ∨ w.heap.size ≤ k) v l ∧ Below w.heap.size w w' := by
 have hr := Kd.F_now hf
 cases A with
 | none =>
  have e : l = [] := by
   cases l with
   | nil => rfl
   | cons x t => obtain ⟨ad, he, _⟩ := hr.2.2 (by simp); exact absurd he (by simp)
  subst e
  have hn0 := fun W' n' c' a' => eqnil_alts W' n' c' a'
  go_enter Tryz.func79, Tryz.ntmps79
  go_wp2
  go_ret
  exact ⟨_, rfl, Kd.N_nil _ _ _ _ _, Below.refl _ _⟩
 | some ad =>
  have HR := Aside0.mk hf
  have HLT := Aside0.mk hlt
  have HLN := Aside0.mk hl
  clear hr hl hf hlt
  have hn0 := fun W' n' c' a' => eqnil_alts W' n' c' a'
  go_enter Tryz.func79, Tryz.ntmps79
  go_wp2_with (first
   | ((with_reducible refine gate_dst (N := 5) rfl ?_); refine Kd.N_lit (Kd.slice 112 k112) (w0 := w) w.heap.size 109 ?hg (N' := 5) ?hd (xs := []) (inner := []) (ok := fun k => okp k ∨ w.heap.size ≤ k) (okp := fun _ => False) ?hr ?hp (fun _ hk => hk.elim) (.inr (Nat.le_refl _)) (Below.refl _ _) (Nat.le_refl _) (by simp) ?_; (case hd => rfl); (case hg => rfl); (case hr => first | (go_simp; done) | (go_simp; rfl)); (case hp => exact Reps.none _ _); intro v5 w5 hn5 hb5 hg5 hat5; obtain ⟨A5, c5, rfl⟩ := Kd.N_slice hn5; have HN5 := Aside0.mk hn5; have HB5 := Aside0.mk hb5; clear hn5 hb5 hg5 hat5)
   | (at_builtin; refine Kd.N_append_rows (Kd.slice 112 k112) (w0 := w) w.heap.size rfl (.tmp 5) (.tmp 6) 71 109 (.slice none 0 0) 24 rfl Tryz.underlying71 info_alts rfl (by decide) (by omega) (.slice A5 0 c5) [] l (some ad) l.length c (fun k => okp k ∨ w.heap.size ≤ k) okp rfl rfl HN5.out (Kd.F_below HR.out HB5.out) (fun k hk => ⟨.inl hk, fun e => by have := Kd.N_base HN5.out k e.symm; have := HLT.out k hk; omega⟩) (fun k hk => .inr (Nat.le_trans HB5.out.size hk)) HB5.out HB5.out.size (by have := HLN.out; simp only [List.length_nil]; omega) ?_; intro v6 w6 hn6 hb6 hg6 hat6; rw [List.nil_append] at hn6; have HN6 := Aside0.mk hn6; have HB6 := Aside0.mk hb6; clear hn6 hb6 hg6 hat6))
  go_ret
  exact ⟨_, rfl, HN6.out, HB6.out⟩
theorem eqnil_mans (w : World) (n c : Nat) (a : Option Addr) : (binOp .eql 28 (.slice a n c) (.slice none 0 0)).run Tryz.prog w = .ok (.bool a.isNone) w := run_eql_slice_nil w _ _ a n c Tryz.underlying28
theorem info_mans : (Tryz.prog.info? 27).map (fun i => (i.zero, i.size, i.bytes)) = some (some (.agg #[.string ⟨#[]⟩, .int .i64 0, .int .i64 0, .int .i64 0, .string ⟨#[]⟩, .slice none 0 0, .slice none 0 0]), (k27).sz, 104) := by kernel_rfl
theorem N_seg {α : Type} {d : Kd α} {e base g n cap : Nat} {ok okp : Nat → Prop} {W : World} {xs : List α} (h : Kd.N d e W base ok (.slice (some ⟨g, 0, none⟩) n cap) xs) (i : Nat) (hi : i < n) {x' : α} {seg : List Value} (hl : seg.length = d.sz) (hM : Kd.FK d W okp x' seg) (hokp : ∀ k, okp k → ok k ∧ k ≠ g) :
 Kd.N d e (W.setCells g (i * d.sz) seg) base ok (.slice (some ⟨g, 0, none⟩) n cap) (xs.set i x') ∧ W.grownBy (W.setCells g (i * d.sz) seg) (some g) := by
 obtain ⟨hown, rows, hlr, hR, hf⟩ := h
 obtain ⟨c, hcl, _, hcc, _⟩ := Kd.R_elem hR [] (i : Int) (by omega) (by omega)
 have e2 : c.take 0 ++ seg ++ c.drop (0 + seg.length) = seg := by
  have : c.drop (0 + seg.length) = [] := List.drop_eq_nil_of_le (by rw [hcl]; show d.sz ≤ _; omega)
  rw [this]; simp
 have h2 := Kd.R_seg (d := Kd.raw d.sz) (Kd.raw_any hR) (i : Int) (by omega) (by omega) (j := 0) (seg := seg) hcl hcc (by show 0 + seg.length ≤ d.sz; omega) (x' := seg) (okp := fun _ => False) (by rw [e2]; exact Kd.FK_raw hM) (fun _ hk => hk.elim)
 exact ⟨Kd.N_written (i := (i : Int)) hown hlr hf h2.1 h2.2 hM hokp, h2.2⟩
theorem N_cell1 {α : Type} {d : Kd α} {e base g n cap : Nat} {ok : Nat → Prop} {W : World} {xs : List α} (h : Kd.N d e W base ok (.slice (some ⟨g, 0, none⟩) n cap) xs) (hs : d.sz = 1) (z : α) (j : Nat) (hj : j < n) :
 ∃ u, W.cell? ⟨g, j, none⟩ = some u ∧ W.frozen? ⟨g, j, none⟩ = false := by
 obtain ⟨cc, hcl, _, hcc, hfr⟩ := Kd.N_elem h z (j : Int) (by omega) (by omega)
 obtain ⟨u, hu⟩ : ∃ u, cc[0]? = some u := ⟨_, List.getElem?_eq_getElem (by rw [hcl, hs]; decide)⟩
 have h1 := hcc 0 _ hu
 have h2 := hfr 0
 rw [hs] at h1 h2
 exact ⟨u, by simpa using h1, by simpa using h2⟩
abbrev RangeF (W : World) (okp : Nat → Prop) (A : Option Addr) (c : Nat) (l : List (List S112)) : Prop := l.length ≤ c ∧ Kd.F (Kd.slice 112 k112) W okp A l.length l
theorem results_c1 {P : Program} {fn : Func} {p : Tmp} {ty : TypeId} (h : fn.results = #[.cell p ty]) (tmps : Array Value) (w : World) (g : Nat) (t : TypeId) (cs : Array Value) (fr : Nat × Nat) (d : TypeDesc)
 (hp : tmps.getD p undef = .pointer (some ⟨g, 0, none⟩)) (hg : w.heap[g]? = some (.cells cs t fr))
 (hu : P.underlying ty = some d) (hd : (match d with | .struct _ | .array _ _ => true | _ => false) = true) (hi : (P.info? ty).map (·.size) = some cs.size) :
 (results fn tmps).run P w = .ok (.agg cs) w := by
 have hp' : tmps[p]?.getD undef = .pointer (some ⟨g, 0, none⟩) := by simpa using hp
 simp [results, h, hp', asAddr, run_loadVar_row w g t ty cs fr d hg hu hd hi]
set_option maxRecDepth 100000 in
set_option maxHeartbeats 4000000 in
theorem own_walk (A : Option Addr) (c : Nat) (l : List (List S112)) (hl : ROk l) (w : World) (okp : Nat → Prop) (hlp : ∀ k, okp k → k < w.heap.size) (hr : RangeF w okp A c l) :
 Calls Tryz.prog 54 #[.agg #[.slice A l.length c]] w fun e w' => ∃ A' c', e = .returned (.agg #[.slice A' l.length c']) ∧ RangeF w' (fun k => okp k ∨ w.heap.size + 2 ≤ k) A' c' l ∧ Below w.heap.size w w' := by
 have HLP := Aside0.mk hlp
 have hlen := hl.len
 have HL := Aside0.mk hl
 have BX := Aside0.mk (blk_alloc (blk_new w (.cells #[.slice A l.length c] 73)) (.cells #[.slice none 0 0] 73))
 have BR := Aside0.mk (blk_new (w.alloc (.cells #[.slice A l.length c] 73)) (.cells #[.slice none 0 0] 73))
 have HB := Aside0.mk (below_alloc (below_alloc (Below.refl w.heap.size w) (.cells #[.slice A l.length c] 73)) (.cells #[.slice none 0 0] 73))
 have HC := Aside0.mk (clone_alts l A c _ okp (Kd.F_below hr.2 HB.out) (fun k hk => by have := hlp k hk; simp only [World.size_alloc]; omega) (by omega))
 rw [World.size_alloc] at BR
 clear hr hl hlp
 go_enter Tryz.func54, Tryz.ntmps54
 go_wp2_with (go_at_call 79; refine HC.out.mono ?_; rintro e w1 ⟨v, rfl, hn1, hb1⟩; simp only [World.size_alloc] at hn1; obtain ⟨A1, c1, rfl⟩ := Kd.N_slice hn1; have x0 := blk_at (blk_below BX.out hb1) 0 (v := .slice A l.length c) rfl; have z0 := blk_frozen (blk_below BX.out hb1) 0; have BX1 := Aside0.mk (blk_set (blk_below BX.out hb1) 0 (.slice A1 l.length c1)); have BR1 := Aside0.mk (blk_far (p := ⟨w.heap.size, 0, none⟩) (blk_below BR.out hb1) (by show w.heap.size + 1 ≠ w.heap.size; omega) (.slice A1 l.length c1)); have HB1 := Aside0.mk ((below_step HB.out hb1).setCell (p := ⟨w.heap.size, 0, none⟩) (Nat.le_refl _) (.slice A1 l.length c1)); have HN1 := Aside0.mk (Kd.N_far (p := ⟨w.heap.size, 0, none⟩) (Kd.N_mono hn1 (ok' := fun k => okp k ∨ w.heap.size + 2 ≤ k) (fun k hk => hk)) (fun k hk => by show k ≠ w.heap.size; rcases hk with hk | hk; (have := HLP.out k hk; omega); omega) (.slice A1 l.length c1)); clear HC hn1 hb1 BX BR HB)
 go_loopg [12] (l.length + 1) (fun gg s12 wq => ∃ j : Nat, j ≤ l.length ∧ l.length - j < gg ∧ s12 = .int .i64 (j : Int) ∧ Aside0 (wq.heap[w.heap.size]? = some (.cells #[.slice A1 l.length c1] 73 (0, 0))) ∧ Aside0 (wq.heap[w.heap.size + 1]? = some (.cells #[.slice none 0 0] 73 (0, 0))) ∧ Aside0 (Below w.heap.size w wq) ∧ Aside0 (Kd.N (Kd.slice 112 k112) 109 wq (w.heap.size + 2) (fun k => okp k ∨ w.heap.size + 2 ≤ k) (.slice A1 l.length c1) l))
 case atStart => exact ⟨0, Nat.zero_le _, by omega, rfl, BX1, BR1, HB1, HN1⟩
 case round =>
  clear BX1 BR1 HB1 HN1 x0 z0
  obtain ⟨j, hj1, hjg, rfl, BX, BR, HB, HN⟩ := hrel
  by_cases hlt : j < l.length
  · obtain ⟨g, cap, e9, hg1, hg2, _⟩ := Kd.N_form HN.out (by omega)
    injection e9 with e91 _ e92
    subst e91
    subst e92
    obtain ⟨cc, hcl, hFK, hcc, hfr⟩ := Kd.N_elem HN.out [] (j : Int) (by omega) (by omega)
    have ja : (j : Int) < (l.length : Int) := by omega
    have hxl := (HL.out.each _ (List.getElem_mem hlt)).1
    rw [show l.getD (j : Int).toNat [] = l[j] by simp [hlt]] at hFK
    have HSET := Aside0.mk (show l.set j l[j] = l from List.set_getElem_self hlt)
    generalize l[j] = x at hFK hxl HSET
    obtain ⟨A0, c0, rfl, l0, hF⟩ := Kd.FK_slice_open hFK
    have z0 : wr.cell? ⟨g, j, none⟩ = some (.slice A0 x.length c0) := by simpa [Kd.slice] using hcc 0 _ rfl
    have HF := Aside0.mk (Kd.F_bound hF)
    have HG1 := Aside0.mk hg1
    have HG2 := Aside0.mk hg2
    have HGN := Aside0.mk (show g ≠ w.heap.size by omega)
    clear hFK hF hcc hfr hcl l0 hg1 hg2
    go_upto_region 5 with (fail)
    have q0 := blk_at BX.out 0 (v := .slice (some ⟨g, 0, none⟩) l.length c1) rfl
    have HS := Aside0.mk (fun W (h : Below wr.heap.size wr W) => (pw_cell_below h q0 : W.cell? ⟨w.heap.size, 0, none⟩ = some (.slice (some ⟨g, 0, none⟩) l.length c1)))
    have HK0 := Aside0.mk (below_drew (Below.refl wr.heap.size wr))
    have HC := Aside0.mk (fun W (h : Below wr.heap.size wr W) => clone_bounds x A0 c0 W _ (Kd.F_below HF.out h) (fun k hk => Nat.lt_of_lt_of_le hk.2 h.size) (by omega))
    have HZ := Aside0.mk (fun W (h : Below wr.heap.size wr W) => N_cell1 (Kd.N_below HN.out h) rfl [] j hlt)
    clear q0 z0
    go_region_held3 (fun W => W.cell? ⟨w.heap.size, 0, none⟩ = some (.slice (some ⟨g, 0, none⟩) l.length c1)) (first | (with_reducible exact (World.cell?_setCell_far _ ⟨g, j, none⟩ ⟨w.heap.size, 0, none⟩ _ HGN.out).trans (HS.out _ HK1.out)) | (with_reducible exact HS.out _ HK1.out) | (with_reducible exact HS.out _ HK0.out))
     ((go_at_call 80; refine (HC.out _ HK0.out).mono ?_; rintro e w6 ⟨v6, rfl, hn6, hb6⟩; obtain ⟨A6, c6, rfl⟩ := Kd.N_slice hn6; have HK1 := Aside0.mk (below_step HK0.out hb6); have HN6 := Aside0.mk hn6; obtain ⟨u, z1, z2⟩ := HZ.out _ HK1.out; clear HC hn6 hb6 HZ))
    have hn7 := N_seg (Kd.N_below HN.out HK1.out) j (by omega) (seg := [.slice A6 x.length c6]) rfl (Kd.FK_slice_mk (Kd.N_reads' HN6.out).2.1 (Kd.N_F HN6.out)) (fun k hk => by
     have h1 := HG1.out
     have h2 := HG2.out
     have h3 := HB.out.size
     rcases hk with ⟨⟨hk1, hk2⟩, _⟩ | hk
     · exact ⟨hk1, hk2⟩
     · simp only [World.size_drew] at hk
       exact ⟨.inr (by omega), by omega⟩)
    rw [HSET.out, show j * (Kd.slice 112 k112).sz = j from Nat.mul_one j] at hn7
    have HN7 := Aside0.mk hn7.1
    have BX7 := Aside0.mk (blk_far (p := ⟨g, j, none⟩) (blk_below BX.out HK1.out) (by show w.heap.size ≠ g; have := HG1.out; omega) (.slice A6 x.length c6))
    have BR7 := Aside0.mk (blk_far (p := ⟨g, j, none⟩) (blk_below BR.out HK1.out) (by show w.heap.size + 1 ≠ g; have := HG1.out; omega) (.slice A6 x.length c6))
    have HB7 := Aside0.mk ((below_step HB.out HK1.out).setCell (p := ⟨g, j, none⟩) (by show w.heap.size ≤ g; have := HG1.out; omega) (.slice A6 x.length c6))
    clear hn7 z1 z2
    go_wp2
    go_roundg (l.length - (j + 1) + 1)
    case measure => omega
    case rel => exact ⟨j + 1, by omega, by omega, by go_num, BX7, BR7, HB7, HN7⟩
  · have x0 := blk_at BX.out 0 (v := .slice A1 l.length c1) rfl
    have x1 := blk_at BR.out 0 (v := .slice none 0 0) rfl
    have z1 := blk_frozen BR.out 0
    go_wp2
    have BR8 := blk_set BR.out 0 (.slice A1 l.length c1)
    refine bodyPost_ret (results_c1 rfl _ _ (w.heap.size + 1) 73 #[.slice A1 l.length c1] (0, 0) _ rfl BR8 Tryz.underlying73 rfl (by kernel_rfl)) rfl ?_
    have hn8' := (Kd.N_far (p := ⟨w.heap.size + 1, 0, none⟩) HN.out (fun k hk => by show k ≠ w.heap.size + 1; rcases hk with hk | hk; (have := HLP.out k hk; omega); omega) (.slice A1 l.length c1))
    exact ⟨_, _, rfl, ⟨(Kd.N_reads' hn8').2.1, Kd.N_F hn8'⟩, HB.out.setCell (p := ⟨w.heap.size + 1, 0, none⟩) (Nat.le_succ _) _⟩
theorem rule_F {W : World} {ok : Nat → Prop} {r : S78} {cs : List Value} (h : Kd.FK k78 W ok r cs) : ∃ A1 c1, cs = [.string r.f0, .slice A1 r.f1.f0.length c1] ∧ RangeF W ok A1 c1 r.f1.f0 := by
 obtain ⟨A1, c1, rfl, l1, g1⟩ := k78_open (Kd.FK_now h)
 refine ⟨A1, c1, rfl, l1, fun W' hW => ?_⟩
 obtain ⟨A', c', e, _, g'⟩ := k78_open (h W' hW)
 simp only [List.cons.injEq, Value.slice.injEq, and_true, true_and] at e
 rw [e.1]
 exact g'
theorem dep_F {W : World} {ok : Nat → Prop} {d : S75} {cs : List Value} (h : Kd.FK k75 W ok d cs) : ∃ A2 c2, cs = [.int .i64 d.f0, .string d.f1, .slice A2 d.f2.f0.length c2] ∧ RangeF W ok A2 c2 d.f2.f0 := by
 obtain ⟨A1, c1, rfl, l1, g1⟩ := k75_open (Kd.FK_now h)
 refine ⟨A1, c1, rfl, l1, fun W' hW => ?_⟩
 obtain ⟨A', c', e, _, g'⟩ := k75_open (h W' hW)
 simp only [List.cons.injEq, Value.slice.injEq, and_true, true_and] at e
 rw [e.1]
 exact g'
theorem dep_FK {W : World} {ok : Nat → Prop} {d : S75} {A2 : Option Addr} {c2 : Nat} (h : RangeF W ok A2 c2 d.f2.f0) : Kd.FK k75 W ok d [.int .i64 d.f0, .string d.f1, .slice A2 d.f2.f0.length c2] := fun W' hW => k75_mk W' d h.1 (h.2 W' hW)
theorem RangeF.below {w W : World} {ok : Nat → Prop} {A : Option Addr} {c : Nat} {l : List (List S112)} (h : RangeF w ok A c l) (hb : Below w.heap.size w W) : RangeF W ok A c l := ⟨h.1, Kd.F_below h.2 hb⟩
theorem RangeF.mono {w : World} {ok ok' : Nat → Prop} {A : Option Addr} {c : Nat} {l : List (List S112)} (h : RangeF w ok A c l) (hk : ∀ k, ok k → ok' k) : RangeF w ok' A c l := ⟨h.1, Kd.F_mono h.2 hk⟩
theorem RangeF.far {w : World} {ok : Nat → Prop} {A : Option Addr} {c : Nat} {l : List (List S112)} (h : RangeF w ok A c l) {p : Addr} (hp : ∀ k, ok k → k ≠ p.block) (u : Value) : RangeF (w.setCell p u) ok A c l := ⟨h.1, Kd.F_step h.2 (fun k hk _ => Below.heap_setCell w p u k (hp k hk))⟩
theorem addr_at (a : Addr) (n m : Nat) : a.add (n + (m + 1)) = ⟨(a.add n).block, (a.add n).off + (m + 1), none⟩ := by
 unfold Addr.add
 rw [if_neg (by omega)]
 split
 · rename_i h; subst h; simp
 · simp [Nat.add_assoc]
theorem rule_atF {w W : World} {ok : Nat → Prop} {A : Option Addr} {xs : List S78} (h : Kd.F k78 w ok A xs.length xs) (hb : Below w.heap.size w W) (j : Nat) (hj : j < xs.length) : ∃ ad A1 c1, A = some ad ∧ W.cell? (ad.add (j * 2)) = some (.string xs[j].f0) ∧ W.cell? ⟨(ad.add (j * 2)).block, (ad.add (j * 2)).off + 1, none⟩ = some (.slice A1 xs[j].f1.f0.length c1) ∧ RangeF w ok A1 c1 xs[j].f1.f0 := by
 obtain ⟨ad, cs, e, _, hF, hc, _⟩ := Kd.F_get h xs[j] (j : Int) (by omega) (by omega)
 obtain ⟨A1, c1, rfl, hr⟩ := rule_F hF
 have e2 : xs.getD (j : Int).toNat xs[j] = xs[j] := by simp [hj]
 rw [e2] at hc hr
 have h0 : w.cell? (ad.add (j * 2)) = some (.string xs[j].f0) := hc 0 _ rfl
 have h1 : w.cell? (ad.add (j * 2 + 1)) = some (.slice A1 xs[j].f1.f0.length c1) := hc 1 _ rfl
 rw [addr_at] at h1
 exact ⟨ad, A1, c1, e, pw_cell_below hb h0, pw_cell_below hb h1, hr⟩
theorem counts_walk (d : S75) (A2 : Option Addr) (c2 : Nat) (root : Bool) (w : World) :
 Calls Tryz.prog 51 #[.agg #[.int .i64 d.f0, .string d.f1, .slice A2 d.f2.f0.length c2], .bool root] w fun e w' => e = .returned (.bool (countsB d root)) ∧ Below w.heap.size w w' := by
 by_cases h2 : d.f0 = 2
 · cases root with
   | false =>
    have HE := Aside0.mk (show countsB d false = false by unfold countsB; rw [if_pos h2])
    go_enter Tryz.func51, Tryz.ntmps51
    go_wp2
    go_ret
    exact ⟨by rw [HE.out]; rfl, below_alloc (Below.refl _ _) _⟩
   | true =>
    have HE := Aside0.mk (show countsB d true = true by unfold countsB; rw [if_pos h2])
    go_enter Tryz.func51, Tryz.ntmps51
    go_wp2
    go_ret
    exact ⟨by rw [HE.out]; rfl, below_alloc (Below.refl _ _) _⟩
 · by_cases h1 : d.f0 = 1
   · have HE := Aside0.mk (show countsB d root = true by unfold countsB; rw [if_neg h2, h1]; rfl)
     go_enter Tryz.func51, Tryz.ntmps51
     go_wp2
     go_ret
     exact ⟨by rw [HE.out]; rfl, below_alloc (Below.refl _ _) _⟩
   · by_cases h3 : d.f0 = 3
     · have HE := Aside0.mk (show countsB d root = true by unfold countsB; rw [if_neg h2, h3]; rfl)
       go_enter Tryz.func51, Tryz.ntmps51
       go_wp2
       go_ret
       exact ⟨by rw [HE.out]; rfl, below_alloc (Below.refl _ _) _⟩
     · by_cases h4 : d.f0 = 4
       · have HE := Aside0.mk (show countsB d root = true by unfold countsB; rw [if_neg h2, h4]; rfl)
         go_enter Tryz.func51, Tryz.ntmps51
         go_wp2
         go_ret
         exact ⟨by rw [HE.out]; rfl, below_alloc (Below.refl _ _) _⟩
       · have HE := Aside0.mk (show countsB d root = false by unfold countsB; rw [if_neg h2, decide_eq_false h1, decide_eq_false h3, decide_eq_false h4]; rfl)
         go_enter Tryz.func51, Tryz.ntmps51
         go_wp2
         go_ret
         exact ⟨by rw [HE.out]; rfl, below_alloc (Below.refl _ _) _⟩
theorem needs_walk (d : S75) (A2 : Option Addr) (c2 : Nat) (w : World) :
 Calls Tryz.prog 33 #[.agg #[.int .i64 d.f0, .string d.f1, .slice A2 d.f2.f0.length c2]] w fun e w' => e = .returned (.bool (needsB d)) ∧ Below w.heap.size w w' := by
 by_cases h : d.f0 = 3
 · have HE := Aside0.mk (show needsB d = false from decide_eq_false (by omega))
   go_enter Tryz.func33, Tryz.ntmps33
   go_wp2
   go_ret
   exact ⟨by rw [HE.out, h]; rfl, below_alloc (Below.refl _ _) _⟩
 · have HE := Aside0.mk (show needsB d = true from decide_eq_true h)
   have e1 : (d.f0 != 3) = true := bne_iff_ne.mpr h
   go_enter Tryz.func33, Tryz.ntmps33
   go_wp2
   go_ret
   exact ⟨by rw [HE.out]; rfl, below_alloc (Below.refl _ _) _⟩
def FoundAt {α : Type} (p : α → Bool) (l : List α) (v : Int) : Prop := (v = -1 ∧ ∀ j (hj : j < l.length), p l[j] = false) ∨ ∃ k, ∃ hk : k < l.length, v = (k : Int) ∧ p l[k] = true ∧ ∀ j (hj : j < k), p (l[j]'(Nat.lt_trans hj hk)) = false
theorem find_at {α : Type} {p : α → Bool} : ∀ {l : List α} {k : Nat} (hk : k < l.length), p l[k] = true → (∀ j (hj : j < k), p (l[j]'(Nat.lt_trans hj hk)) = false) → l.find? p = some l[k]
 | x :: t, 0, _, h, _ => by rw [List.find?_cons, show p x = true from h]; rfl
 | x :: t, k + 1, hk, h, hn => by
  have h0 : p x = false := hn 0 (Nat.succ_pos k)
  rw [List.find?_cons, h0]
  exact find_at (l := t) (k := k) (by simpa using hk) (by simpa using h) (fun j hj => by simpa using hn (j + 1) (by omega))
theorem find_no {α : Type} {p : α → Bool} {l : List α} (h : ∀ j (hj : j < l.length), p l[j] = false) : l.find? p = none := by
 rw [List.find?_eq_none]
 intro x hx
 obtain ⟨j, hj, rfl⟩ := List.mem_iff_getElem.1 hx
 simp [h j hj]
def nameB (n s : ByteArray) : Bool := s.toList == n.toList
theorem rule1_walk (r : S78) (A1 : Option Addr) (c1 : Nat) (b : Nat) (n : ByteArray) (w : World) (hb : w.cell? ⟨b, 0, none⟩ = some (.string n)) :
 Calls Tryz.prog 82 #[.agg #[.string r.f0, .slice A1 r.f1.f0.length c1], .pointer (some ⟨b, 0, none⟩)] w fun e w' => e = .returned (.bool (nameB n r.f0)) ∧ Below w.heap.size w w' := by
 have hb' : (w.alloc (.cells #[.string r.f0, .slice A1 r.f1.f0.length c1] 78)).cell? ⟨b, 0, none⟩ = some (.string n) := pw_cell_below (below_alloc (Below.refl _ _) _) hb
 go_enter Tryz.func82, Tryz.ntmps82
 go_wp2
 go_ret
 exact ⟨rfl, below_alloc (Below.refl _ _) _⟩
theorem enters_rule1 : ∀ args w, (callFunc 82 args).run Tryz.prog w = .ok (.enter 82 args) w := enters_of Tryz.func82 (by kernel_rfl) rfl
set_option maxHeartbeats 2000000 in
theorem indexFunc_rule (b : Nat) (n : ByteArray) (l : List S78) (A : Option Addr) (c : Nat) (w : World) (hl : l.length ≤ 100000)
 (hr : Kd.C k78 w A l.length l) (hb : w.cell? ⟨b, 0, none⟩ = some (.string n)) :
 Calls Tryz.prog 81 #[.slice A l.length c, .func (.func 82) #[] #[.pointer (some ⟨b, 0, none⟩)]] w fun e w' => ∃ v, e = .returned (.int .i64 v) ∧ FoundAt (fun r => nameB n r.f0) l v ∧ Below w.heap.size w w' := by
 have HR := Aside0.mk hr
 have HC := Aside0.mk hb
 have eg := enters_rule1
 clear hr hb
 go_enter Tryz.func81, Tryz.ntmps81
 go_wp2
 go_loopg [5, 8] (l.length + 1) (fun gg _ s8 wr => ∃ kk : Nat, kk ≤ l.length ∧ l.length - kk < gg ∧ s8 = .int .i64 kk ∧ Aside0 (Below w.heap.size w wr) ∧ Aside0 (∀ j (hj : j < l.length), j < kk → nameB n l[j].f0 = false))
 case atStart => exact ⟨0, Nat.zero_le _, by omega, rfl, ⟨Below.refl _ w⟩, ⟨fun j hj h => absurd h (Nat.not_lt_zero _)⟩⟩
 case round =>
  obtain ⟨kk, hkk, hg, rfl, HB, AM⟩ := hrel
  by_cases hlt : kk < l.length
  · have hltz : (kk : Int) < (l.length : Int) := by omega
    obtain ⟨ad, A1, c1, rfl, m0, m1, hrc⟩ := rule_at HR.out HB.out kk hlt
    have HW := Aside0.mk (fun W (h : Below w.heap.size w W) => rule1_walk l[kk] A1 c1 b n W (pw_cell_below h HC.out))
    clear hrc
    cases hq : nameB n l[kk].f0 with
    | true =>
     rw [hq] at HW
     have HQ := Aside0.mk hq
     clear hq
     generalize l[kk] = y at m0 m1 HW
     go_wp2_with (go_at_call 82; refine (HW.out _ HB.out).mono ?_; rintro e w' ⟨rfl, hb0⟩; have hb' := below_step HB.out hb0; clear hb0)
     go_ret
     exact ⟨_, rfl, .inr ⟨kk, hlt, rfl, HQ.out, fun j hj => AM.out j (Nat.lt_trans hj hlt) hj⟩, hb'⟩
    | false =>
     rw [hq] at HW
     have HQ := Aside0.mk (show ∀ j (hj : j < l.length), j < kk + 1 → nameB n l[j].f0 = false from fun j hj h => by
      by_cases e : j = kk
      · subst e; exact hq
      · exact AM.out j hj (by omega))
     clear hq
     generalize l[kk] = y at m0 m1 HW
     go_wp2_with (go_at_call 82; refine (HW.out _ HB.out).mono ?_; rintro e w' ⟨rfl, hb0⟩; have hb' := below_step HB.out hb0; clear hb0)
     go_roundg (l.length - (kk + 1) + 1)
     case measure => omega
     case rel => exact ⟨kk + 1, by omega, by omega, by go_num, ⟨hb'⟩, HQ⟩
  · have hltz : ¬ (kk : Int) < (l.length : Int) := by omega
    go_wp2
    go_ret
    exact ⟨_, rfl, .inl ⟨rfl, fun j hj => AM.out j hj (by omega)⟩, HB.out⟩
theorem rule_some {l : List S78} {n : ByteArray} {k : Nat} (hk : k < l.length) (hp : nameB n l[k].f0 = true) (hn : ∀ j (hj : j < k), nameB n (l[j]'(Nat.lt_trans hj hk)).f0 = false) : ruleOf l n = some l[k].f1 := by
 unfold ruleOf
 rw [show (fun r : S78 => r.f0.toList == n.toList) = (fun r => nameB n r.f0) from rfl, find_at (p := fun r : S78 => nameB n r.f0) hk hp hn]
 rfl
def RuleV (W : World) (okp : Nat → Prop) (rules : List S78) (n : ByteArray) (e : Ending) : Prop :=
 match ruleOf rules n with
 | some r => ∃ A' c', e = .returned (.tuple #[.agg #[.slice A' r.f0.length c'], .bool true]) ∧ RangeF W okp A' c' r.f0
 | none => e = .returned (.tuple #[.agg #[.slice none 0 0], .bool false])
set_option maxHeartbeats 4000000 in
theorem rule_walk (A : Option Addr) (c : Nat) (l : List S78) (n : ByteArray) (hl : l.length ≤ 1000) (hu : ∀ r ∈ l, UOk r) (w : World) (okp : Nat → Prop) (hlp : ∀ k, okp k → k < w.heap.size) (hr : Kd.F k78 w okp A l.length l) :
 Calls Tryz.prog 55 #[.slice A l.length c, .string n] w fun e w' => RuleV w' (fun k => okp k ∨ w.heap.size + 2 ≤ k) l n e ∧ Below w.heap.size w w' := by
 have HR := Aside0.mk hr
 have HU := Aside0.mk hu
 have HLP := Aside0.mk hlp
 have BX := Aside0.mk (blk_new (w.alloc (.cells #[.string n] 9)) (.cells #[.slice none 0 0] 73))
 have HB := Aside0.mk (below_alloc (below_alloc (Below.refl w.heap.size w) (.cells #[.string n] 9)) (.cells #[.slice none 0 0] 73))
 have HC := Aside0.mk (indexFunc_rule w.heap.size n l A c ((w.alloc (.cells #[.string n] 9)).alloc (.cells #[.slice none 0 0] 73)) (by omega) (Kd.F_now (Kd.F_below hr HB.out)) (blk_at (blk_alloc (blk_new w _) _) 0 (v := .string n) rfl))
 rw [World.size_alloc] at BX
 clear hr hu hlp
 by_cases hno : ∀ j (hj : j < l.length), nameB n l[j].f0 = false
 · have HE := Aside0.mk (show ruleOf l n = none by unfold ruleOf; rw [show (fun r : S78 => r.f0.toList == n.toList) = (fun r => nameB n r.f0) from rfl, find_no (p := fun r : S78 => nameB n r.f0) hno]; rfl)
   have HNO := Aside0.mk hno
   clear hno
   go_enter Tryz.func55, Tryz.ntmps55
   go_wp2_with (go_at_call 81; refine HC.out.mono ?_; rintro e w1 ⟨v, rfl, hv, hb1⟩; obtain rfl : v = -1 := hv.elim (fun h => h.1) (fun ⟨k, hk, _, h, _⟩ => absurd h (by show ¬ nameB n l[k].f0 = true; rw [HNO.out k hk]; exact Bool.false_ne_true)); have BX1 := Aside0.mk (blk_below BX.out hb1); have HB1 := Aside0.mk (below_step HB.out hb1); have x1 := blk_at BX1.out 0 (v := .slice none 0 0) rfl; have z1 := blk_frozen BX1.out 0; clear HC hb1 BX HB)
   have BX2 := blk_set BX1.out 0 (.slice none 0 0)
   refine bodyPost_ret (results_ct rfl _ _ (w.heap.size + 1) 73 #[.slice none 0 0] (0, 0) _ rfl BX2 Tryz.underlying73 rfl (by kernel_rfl)) rfl ?_
   exact ⟨by unfold RuleV; rw [HE.out]; rfl, HB1.out.setCell (p := ⟨w.heap.size + 1, 0, none⟩) (Nat.le_succ _) _⟩
 · have HNO := Aside0.mk hno
   clear hno
   go_enter Tryz.func55, Tryz.ntmps55
   go_wp2_with (first
    | (go_at_call 81; refine HC.out.mono ?_; rintro e w1 ⟨v, rfl, hv, hb1⟩; (obtain ⟨k, hk, rfl, hp, hn⟩ : ∃ k, ∃ hk : k < l.length, v = (k : Int) ∧ nameB n l[k].f0 = true ∧ ∀ j (hj : j < k), nameB n (l[j]'(Nat.lt_trans hj hk)).f0 = false := hv.resolve_left (fun h => HNO.out h.2); have HE := Aside0.mk (rule_some hk hp hn); have BX1 := Aside0.mk (blk_below BX.out hb1); have HB1 := Aside0.mk (below_step HB.out hb1); obtain ⟨ad, A1, c1, rfl, m0, m1, hrc⟩ := rule_atF HR.out HB1.out k hk; have HRC := Aside0.mk (hrc.below HB1.out); have hku : (k : Int) < (l.length : Int) := (by omega); have hko : UOk l[k] := HU.out _ (List.getElem_mem hk); have HO := Aside0.mk (own_walk A1 c1 l[k].f1.f0 hko.range w1 okp (fun k hk => Nat.lt_of_lt_of_le (HLP.out k hk) HB1.out.size) HRC.out); have x1 := blk_at BX1.out 0 (v := .slice none 0 0) rfl; have z1 := blk_frozen BX1.out 0; clear HC hb1 BX HB hv hp hn hrc hko HRC; generalize l[k].f1 = r at m1 HO HE; generalize l[k].f0 = rn at m0))
    | (go_at_call 54; refine HO.out.mono ?_; rintro e w2 ⟨A2, c2, rfl, hr2, hb2⟩; have BX2 := Aside0.mk (blk_below BX1.out hb2); have HB2 := Aside0.mk (below_step HB1.out hb2); have HSZ := Aside0.mk (show w.heap.size ≤ w1.heap.size from HB1.out.size); have HR2 := Aside0.mk hr2; have x2 := blk_at BX2.out 0 (v := .slice none 0 0) rfl; have z2 := blk_frozen BX2.out 0; clear HO hr2 hb2 x1 z1 BX1 HB1))
   have BX3 := blk_set BX2.out 0 (.slice A2 r.f0.length c2)
   refine bodyPost_ret (results_ct rfl _ _ (w.heap.size + 1) 73 #[.slice A2 r.f0.length c2] (0, 0) _ rfl BX3 Tryz.underlying73 rfl (by kernel_rfl)) rfl ?_
   refine ⟨?_, HB2.out.setCell (p := ⟨w.heap.size + 1, 0, none⟩) (Nat.le_succ _) _⟩
   unfold RuleV
   rw [HE.out]
   refine ⟨_, _, rfl, (HR2.out.mono (fun k hk => ?_)).far (p := ⟨w.heap.size + 1, 0, none⟩) (fun k hk => ?_) _⟩
   · have := HSZ.out
     rcases hk with hk | hk
     · exact .inl hk
     · exact .inr (by omega)
   · show k ≠ w.heap.size + 1
     rcases hk with hk | hk
     · have := HLP.out k hk; omega
     · omega
end Go.Proofs.YteinkjhimceljaaGreatDoor.J
