/- slices.IndexFunc and slices.DeleteFunc at manifests, with the predicate of flat.lay. -/
import Derived.Test.YteinkjhimceljaaGreatDoorT22
import Derived.Laws.CopyRow
namespace Go.Proofs.YteinkjhimceljaaGreatDoor.J
open Go Go.RowKit Go.Shelf Go.Proofs.YteinkjhimceljaaGreatDoorW.PrintWords Go.Proofs.YteinkjhimceljaaGreatDoorW.PrintLast Go.Proofs.YteinkjhimceljaaGreatDoorW.PrintMore
set_option linter.unusedVariables false
set_option linter.unusedSimpArgs false
theorem lay1_walk (m : S27) (A5 : Option Addr) (c5 : Nat) (A6 : Option Addr) (c6 : Nat) (b : Nat) (n : ByteArray) (w : World) (hb : w.cell? ⟨b, 0, none⟩ = some (.string n)) :
 Calls Tryz.prog 27 #[.agg #[.string m.f0, .int .i64 m.f1.f0, .int .i64 m.f1.f1, .int .i64 m.f1.f2, .string m.f1.f3, .slice A5 m.f2.length c5, .slice A6 m.f3.length c6], .pointer (some ⟨b, 0, none⟩)] w fun e w' => e = .returned (.bool (!nameB n m.f0)) ∧ Below w.heap.size w w' := by
 have hb' : (w.alloc (.cells #[.string m.f0, .int .i64 m.f1.f0, .int .i64 m.f1.f1, .int .i64 m.f1.f2, .string m.f1.f3, .slice A5 m.f2.length c5, .slice A6 m.f3.length c6] 27)).cell? ⟨b, 0, none⟩ = some (.string n) := pw_cell_below (below_alloc (Below.refl _ _) _) hb
 go_enter Tryz.func27, Tryz.ntmps27
 go_wp2
 go_ret
 exact ⟨rfl, below_alloc (Below.refl _ _) _⟩
theorem enters_lay1 : ∀ args w, (callFunc 27 args).run Tryz.prog w = .ok (.enter 27 args) w := enters_of Tryz.func27 (by kernel_rfl) rfl
set_option maxHeartbeats 2000000 in
theorem indexFunc_man (b : Nat) (n : ByteArray) (l : List S27) (A : Option Addr) (c : Nat) (w : World) (hl : l.length ≤ 100000)
 (hr : Kd.C k27 w A l.length l) (hb : w.cell? ⟨b, 0, none⟩ = some (.string n)) :
 Calls Tryz.prog 48 #[.slice A l.length c, .func (.func 27) #[] #[.pointer (some ⟨b, 0, none⟩)]] w fun e w' => ∃ v, e = .returned (.int .i64 v) ∧ FoundAt (fun m => !nameB n m.f0) l v ∧ Below w.heap.size w w' := by
 have HR := Aside0.mk hr
 have HC := Aside0.mk hb
 have eg := enters_lay1
 clear hr hb
 go_enter Tryz.func48, Tryz.ntmps48
 go_wp2
 go_loopg [5, 8] (l.length + 1) (fun gg _ s8 wr => ∃ kk : Nat, kk ≤ l.length ∧ l.length - kk < gg ∧ s8 = .int .i64 kk ∧ Aside0 (Below w.heap.size w wr) ∧ Aside0 (∀ j (hj : j < l.length), j < kk → (!nameB n l[j].f0) = false))
 case atStart => exact ⟨0, Nat.zero_le _, by omega, rfl, ⟨Below.refl _ w⟩, ⟨fun j hj h => absurd h (Nat.not_lt_zero _)⟩⟩
 case round =>
  obtain ⟨kk, hkk, hg, rfl, HB, AM⟩ := hrel
  by_cases hlt : kk < l.length
  · have hltz : (kk : Int) < (l.length : Int) := by omega
    obtain ⟨ad, A5, c5, A6, c6, rfl, ⟨m0, m1, m2, m3, m4, m5, m6⟩, hmc⟩ := man_at HR.out HB.out kk hlt
    have HW := Aside0.mk (fun W (h : Below w.heap.size w W) => lay1_walk l[kk] A5 c5 A6 c6 b n W (pw_cell_below h HC.out))
    clear hmc
    cases hq : (!nameB n l[kk].f0) with
    | true =>
     rw [hq] at HW
     have HQ := Aside0.mk hq
     clear hq
     generalize l[kk] = y at m0 m1 m2 m3 m4 m5 m6 HW
     go_wp2_with (go_at_call 27; refine (HW.out _ HB.out).mono ?_; rintro e w' ⟨rfl, hb0⟩; have hb' := below_step HB.out hb0; clear hb0)
     go_ret
     exact ⟨_, rfl, .inr ⟨kk, hlt, rfl, HQ.out, fun j hj => AM.out j (Nat.lt_trans hj hlt) hj⟩, hb'⟩
    | false =>
     rw [hq] at HW
     have HQ := Aside0.mk (show ∀ j (hj : j < l.length), j < kk + 1 → (!nameB n l[j].f0) = false from fun j hj h => by
      by_cases e : j = kk
      · subst e; exact hq
      · exact AM.out j hj (by omega))
     clear hq
     generalize l[kk] = y at m0 m1 m2 m3 m4 m5 m6 HW
     go_wp2_with (go_at_call 27; refine (HW.out _ HB.out).mono ?_; rintro e w' ⟨rfl, hb0⟩; have hb' := below_step HB.out hb0; clear hb0)
     go_roundg (l.length - (kk + 1) + 1)
     case measure => omega
     case rel => exact ⟨kk + 1, by omega, by omega, by go_num, ⟨hb'⟩, HQ⟩
  · have hltz : ¬ (kk : Int) < (l.length : Int) := by omega
    go_wp2
    go_ret
    exact ⟨_, rfl, .inl ⟨rfl, fun j hj => AM.out j hj (by omega)⟩, HB.out⟩
theorem zeros_one {z : Array Value} (hz : 0 < z.size) (h : ∀ i, i < z.size → (z[i]!).oneCell' = true) (n : Nat) : ∀ v ∈ (Builtin.zeroCells z n).toList, v.oneCell' = true := by
 intro v hv
 unfold Builtin.zeroCells at hv
 rw [Array.toList_map] at hv
 obtain ⟨i, _, rfl⟩ := List.mem_map.1 hv
 exact h _ (Nat.mod_lt _ hz)
theorem clear_run {P : Program} (w : World) (t e ty : TypeId) (z : Value) (ht : P.underlying t = some (.slice e)) (hv : ∀ w, (zeroValue e).run P w = .ok z w) (hz : 0 < z.cells.size) (h1 : ∀ i, i < z.cells.size → (z.cells[i]!).oneCell' = true)
 (g o n c : Nat) (cur : Array Value) (t' : TypeId) (hg : w.heap[g]? = some (.cells cur t' (0, 0))) (hn : 0 < n) (hl : o + n * z.cells.size ≤ cur.size) :
 (Builtin.clear_ #[t] ty #[.slice (some ⟨g, o, none⟩) n c]).run P w = .ok (.tuple #[]) (w.setRow g (cur.toList.take o ++ (Builtin.zeroCells z.cells n).toList ++ cur.toList.drop (o + n * z.cells.size)).toArray) := by
 have hzl : (Builtin.zeroCells z.cells n).toList.length = n * z.cells.size := by simp [Builtin.zeroCells]
 have hst := run_storeCells_at (P := P) g o t' (Builtin.zeroCells z.cells n).toList 0 cur w hg (by rw [hzl]; omega) (zeros_one hz h1 n)
 rw [Nat.add_zero, hzl] at hst
 obtain ⟨m, rfl⟩ : ∃ m, n = m + 1 := ⟨n - 1, by omega⟩
 simp [Builtin.clear_, run_underlying ht, hv, hst]
theorem N_cut {α : Type} {d : Kd α} {e base g n cap i : Nat} {ok : Nat → Prop} {W : World} {xs : List α} (h : Kd.N d e W base ok (.slice (some ⟨g, 0, none⟩) n cap) xs) (hi : i ≤ n) (vs : List Value) (hl : ∀ cur : Array Value, cur.size = cap * d.sz → i * d.sz + vs.length ≤ cur.size) :
 ∃ cur, W.heap[g]? = some (.cells cur e (0, 0)) ∧ cur.size = cap * d.sz ∧
  Kd.N d e (W.setRow g (cur.toList.take (i * d.sz) ++ vs ++ cur.toList.drop (i * d.sz + vs.length)).toArray) base ok (.slice (some ⟨g, 0, none⟩) i cap) (xs.take i) ∧ W.grownBy (W.setRow g (cur.toList.take (i * d.sz) ++ vs ++ cur.toList.drop (i * d.sz + vs.length)).toArray) (some g) := by
 have hn := (Kd.N_reads' h).1
 obtain ⟨h0, rows, hlr, ⟨_, inner, ⟨hil, hcase⟩, hreps⟩, hf⟩ := h
 rcases hcase with ⟨hc, _⟩ | ⟨g', cap', cur, hv, hbg, hg, hnc, hcm, hcs, htk⟩
 · cases hc
 injection hv with hv1 hv2 hv3
 injection hv1 with hv1
 injection hv1 with hv1
 subst hv1 hv3
 replace hcs : cur.size = cap * d.sz := hcs
 replace htk : cur.toList.take (rows.length * d.sz) = inner := htk
 replace hil : inner.length = rows.length * d.sz := hil
 have hlen := hl cur hcs
 have hgr : W.grownBy (W.setRow g (cur.toList.take (i * d.sz) ++ vs ++ cur.toList.drop (i * d.sz + vs.length)).toArray) (some g) := by
  refine ⟨rfl, rfl, rfl, ?_, fun k hk hne => ?_⟩
  · unfold World.setRow; simp
  · unfold World.setRow
    rw [Array.getElem?_modify, if_neg (fun e => hne (by rw [e]))]
 have hlt : (rows.take i).length = i := by rw [List.length_take]; omega
 have hin : i * d.sz ≤ n * d.sz := Nat.mul_le_mul_right _ hi
 have hcr : i * d.sz ≤ cur.size := by omega
 have htk2 : (cur.toList.take (i * d.sz) ++ vs ++ cur.toList.drop (i * d.sz + vs.length)).take (i * d.sz) = inner.take (i * d.sz) := by
  rw [List.append_assoc, List.take_append_of_le_length (by rw [List.length_take, Array.length_toList]; omega), List.take_take, Nat.min_self, ← htk, List.take_take, Nat.min_eq_left (show i * d.sz ≤ rows.length * d.sz by rw [hlr, ← hn]; exact hin)]
 have hpl : (inner.take (i * d.sz)).length = i * d.sz := by rw [List.length_take, hil]; have : i * d.sz ≤ rows.length * d.sz := (by rw [hlr, ← hn]; exact hin); omega
 refine ⟨cur, hg, hcs, ⟨fun k hk => h0 k hk, rows.take i, by rw [List.length_take, List.length_take, hlr], ⟨fun k hk => hk.symm, inner.take (i * d.sz), ⟨by rw [hlt]; exact hpl, .inr ⟨g, cap, _, by rw [hlt], hbg, setRow_heap W g cur _ e _ hg, by omega, hcm, ?_, by rw [hlt]; exact htk2⟩⟩, ?_⟩, fun j x c hx hc => ?_⟩, hgr⟩
 · show (cur.toList.take (i * d.sz) ++ vs ++ cur.toList.drop (i * d.sz + vs.length)).toArray.size = cap * d.sz
   rw [List.size_toArray, List.length_append, List.length_append, List.length_take, List.length_drop, Array.length_toList]
   omega
 · refine ⟨by rw [hlt]; exact hpl, fun j c hj => ?_⟩
   rw [List.getElem?_take] at hj
   split at hj
   · rename_i hji
     have h2 := hreps.2 j c hj
     rw [List.drop_take, List.take_take]
     have e : min d.sz (i * d.sz - j * d.sz) = d.sz := by
      have : (j + 1) * d.sz ≤ i * d.sz := Nat.mul_le_mul_right _ hji
      rw [Nat.add_mul, Nat.one_mul] at this
      omega
     rw [show (Kd.raw d.sz).sz = d.sz from rfl, e]
     exact h2
   · cases hj
 · rw [List.getElem?_take] at hx hc
   split at hx
   · rename_i hji
     rw [if_pos hji] at hc
     refine Kd.FK_mono (Kd.FK_step (hf j x c hx hc) (fun k hk hlt => hgr.block k hlt ?_)) (fun k hk => ?_)
     · intro he; exact hk.2 he
     · exact hk
   · cases hx
theorem zero_man (w : World) : (zeroValue 27).run Tryz.prog w = .ok (.agg #[.string ⟨#[]⟩, .int .i64 0, .int .i64 0, .int .i64 0, .string ⟨#[]⟩, .slice none 0 0, .slice none 0 0]) w := by kernel_rfl
theorem info_man : (Tryz.prog.info? 27).map (·.size) = some 7 := by kernel_rfl
theorem man_store {ops : Array Oper} {rest : List Oper} {o : Oper} {a : Act} {Q : Exit → Act → World → Prop} {w0 W : World} {base g n cap e : Nat} {ok okp : Nat → Prop} {ys : List S27} {x : S27} {B5 : Option Addr} {d5 : Nat} {B6 : Option Addr} {d6 : Nat} (hN : o.dst = none) (hgd : o.guard = none) (p v : Operand) (ho : o.op = .store 27 p v)
 (i : Nat) (haddr : a.eval p = .pointer (some ⟨g, i * 7, none⟩)) (hv : a.eval v = .agg #[.string x.f0, .int .i64 x.f1.f0, .int .i64 x.f1.f1, .int .i64 x.f1.f2, .string x.f1.f3, .slice B5 x.f2.length d5, .slice B6 x.f3.length d6]) (HO : Kd.N k27 e W base ok (.slice (some ⟨g, 0, none⟩) n cap) ys) (hi : i < n) (hM : ManF W okp B5 d5 B6 d6 x) (hokp : ∀ k, okp k → ok k ∧ k ≠ g) (HB : Below base w0 W)
 (h : ∀ w1, Kd.N k27 e w1 base ok (.slice (some ⟨g, 0, none⟩) n cap) (ys.set i x) → Below base w0 w1 → W.grownBy w1 (some g) → wpList Tryz.prog ops Q rest a w1) : wpList Tryz.prog ops Q (o :: rest) a W := by
 have hn := (Kd.N_reads' HO).1
 obtain ⟨cc, hcl, _, hcc, _⟩ := Kd.N_elem HO x (i : Int) (by omega) (by omega)
 refine Kd.N_store k27 (w0 := w0) base hN hgd 27 p v ho e (g := g) (n := n) (cap := cap) (o' := i * 7) (i : Int) 0 ys x (.agg #[.string x.f0, .int .i64 x.f1.f0, .int .i64 x.f1.f1, .int .i64 x.f1.f2, .string x.f1.f3, .slice B5 x.f2.length d5, .slice B6 x.f3.length d6]) [.string x.f0, .int .i64 x.f1.f0, .int .i64 x.f1.f1, .int .i64 x.f1.f2, .string x.f1.f3, .slice B5 x.f2.length d5, .slice B6 x.f3.length d6] cc ok okp haddr rfl hv rfl info_man (by simp [Value.oneCell']) HO (by omega) (by omega) hcl hcc (Nat.le_refl _) ?_ hokp HB h
 have e2 : cc.take 0 ++ [.string x.f0, .int .i64 x.f1.f0, .int .i64 x.f1.f1, .int .i64 x.f1.f2, .string x.f1.f3, .slice B5 x.f2.length d5, .slice B6 x.f3.length d6] ++ cc.drop (0 + 7) = [.string x.f0, .int .i64 x.f1.f0, .int .i64 x.f1.f1, .int .i64 x.f1.f2, .string x.f1.f3, .slice B5 x.f2.length d5, .slice B6 x.f3.length d6] := by
  rw [show cc.drop (0 + 7) = [] from List.drop_eq_nil_of_le (by rw [hcl]; decide)]
  simp
 have hFK := man_FK hM
 rw [← e2] at hFK
 exact hFK
def DelRel {α : Type} (q : α → Bool) (xs ys : List α) (n i j : Nat) : Prop := ys.length = n ∧ ys.take i = (xs.take j).filter q ∧ (∀ k, j ≤ k → ys[k]? = xs[k]?) ∧ i < j
theorem del_start {α : Type} {q : α → Bool} {xs : List α} {n k : Nat} (hn : n = xs.length) (hk : k < xs.length) (hq : q xs[k] = false) (h : ∀ j (hj : j < k), q (xs[j]'(Nat.lt_trans hj hk)) = true) : DelRel q xs xs n k (k + 1) := by
 refine ⟨hn.symm, ?_, fun _ _ => rfl, Nat.lt_succ_self _⟩
 rw [List.take_succ_eq_append_getElem hk, List.filter_append, List.filter_cons, hq]
 simp only [Bool.false_eq_true, if_false, List.filter_nil, List.append_nil]
 rw [List.filter_eq_self.2]
 intro a ha
 obtain ⟨j, hj, rfl⟩ := List.mem_iff_getElem.1 ha
 rw [List.length_take] at hj
 rw [List.getElem_take]
 exact h j (by omega)
theorem del_keep {α : Type} {q : α → Bool} {xs ys : List α} {n i j : Nat} {m : α} (h : DelRel q xs ys n i j) (hj : j < n) (hm : ys[j]? = some m) (hq : q m = true) : DelRel q xs (ys.set i m) n (i + 1) (j + 1) := by
 obtain ⟨h1, h2, h3, h4⟩ := h
 have hx : xs[j]? = some m := by rw [← h3 j (Nat.le_refl _)]; exact hm
 obtain ⟨hjx, hx2⟩ := List.getElem?_eq_some_iff.1 hx
 refine ⟨by rw [List.length_set, h1], ?_, fun k hk => ?_, by omega⟩
 · rw [List.take_succ_eq_append_getElem hjx, List.filter_append, hx2, List.filter_cons, hq, ← h2]
   rw [List.take_succ_eq_append_getElem (by rw [List.length_set]; omega), List.getElem_set_self, List.take_set_of_le (Nat.le_refl _)]
   simp
 · rw [List.getElem?_set_ne (by omega), h3 k (by omega)]
theorem del_drop {α : Type} {q : α → Bool} {xs ys : List α} {n i j : Nat} {m : α} (h : DelRel q xs ys n i j) (hj : j < n) (hm : ys[j]? = some m) (hq : q m = false) : DelRel q xs ys n i (j + 1) := by
 obtain ⟨h1, h2, h3, h4⟩ := h
 have hx : xs[j]? = some m := by rw [← h3 j (Nat.le_refl _)]; exact hm
 obtain ⟨hjx, hx2⟩ := List.getElem?_eq_some_iff.1 hx
 refine ⟨h1, ?_, fun k hk => h3 k (by omega), by omega⟩
 rw [List.take_succ_eq_append_getElem hjx, List.filter_append, hx2, List.filter_cons, hq, ← h2]
 simp
set_option maxRecDepth 100000 in
set_option maxHeartbeats 8000000 in
theorem delete_walk (b : Nat) (nm : ByteArray) (g n cap base : Nat) (xs : List S27) (ok : Nat → Prop) (hb : b < base) (hx : n ≤ 1000) (w : World) (hr : Kd.N k27 27 w base ok (.slice (some ⟨g, 0, none⟩) n cap) xs) (hc : w.cell? ⟨b, 0, none⟩ = some (.string nm)) :
 Calls Tryz.prog 25 #[.slice (some ⟨g, 0, none⟩) n cap, .func (.func 27) #[] #[.pointer (some ⟨b, 0, none⟩)]] w fun e w' => ∃ m, e = .returned (.slice (some ⟨g, 0, none⟩) m cap) ∧ Kd.N k27 27 w' base ok (.slice (some ⟨g, 0, none⟩) m cap) (xs.filter (fun m => nameB nm m.f0)) ∧ Below base w w' := by
 have HR := Aside0.mk hr
 have hnl := (Kd.N_reads' hr).1
 have HBB := Aside0.mk hb
 have HBS := Aside0.mk (show base ≤ w.heap.size from Nat.le_trans (Kd.N_base hr g rfl) (Nat.le_of_lt (Kd.N_lt hr g rfl)))
 have HCB := Aside0.mk (fun W (h : Below base w W) => (h.cell (p := ⟨b, 0, none⟩) hb).trans hc)
 have HIX := Aside0.mk (indexFunc_man b nm xs (some ⟨g, 0, none⟩) cap w (by omega) (Kd.N_reads' hr).2.2 hc)
 rw [← hnl] at HIX
 have HNL := Aside0.mk hnl
 have eg := enters_lay1
 clear hr hb hc hnl
 by_cases hno : ∀ j (hj : j < xs.length), (!nameB nm xs[j].f0) = false
 · have HNO := Aside0.mk hno
   clear hno
   go_enter Tryz.func25, Tryz.ntmps25
   go_wp2_with (go_at_call 48; refine HIX.out.mono ?_; rintro e w1 ⟨v, rfl, hv, hb1⟩; obtain rfl : v = -1 := hv.elim (fun h => h.1) (fun ⟨k, hk, _, h, _⟩ => absurd h (by show ¬ (!nameB nm xs[k].f0) = true; rw [HNO.out k hk]; exact Bool.false_ne_true)); have HB1 := Aside0.mk hb1; clear HIX hb1 hv)
   go_ret
   refine ⟨n, rfl, ?_, HB1.out.mono HBS.out⟩
   rw [List.filter_eq_self.2 (fun m hm => by
    obtain ⟨j, hj, rfl⟩ := List.mem_iff_getElem.1 hm
    simpa using HNO.out j hj)]
   exact Kd.N_below HR.out HB1.out
 · have HNO := Aside0.mk hno
   clear hno
   go_enter Tryz.func25, Tryz.ntmps25
   go_wp2_with (go_at_call 48; refine HIX.out.mono ?_; rintro e w1 ⟨v, rfl, hv, hb1⟩; obtain ⟨k, hk, rfl, hp, hn⟩ := hv.resolve_left (fun h => HNO.out h.2); have HB1 := Aside0.mk hb1; have HD := Aside0.mk (del_start (q := fun m => nameB nm m.f0) HNL.out hk (by simpa using hp) (fun j hj => by simpa using hn j hj)); have hkn : k < n := (by have := HNL.out; omega); clear HIX hb1 hp hn hk)
   go_loopg [5, 6] (n + 1) (fun gg s5 s6 wq => ∃ (i j : Nat) (ys : List S27), j ≤ n ∧ n - j < gg ∧ s5 = .int .i64 (i : Int) ∧ s6 = .int .i64 (j : Int) ∧ Aside0 (DelRel (fun m => nameB nm m.f0) xs ys n i j) ∧ Aside0 (Below base w wq) ∧ Aside0 (Kd.N k27 27 wq base ok (.slice (some ⟨g, 0, none⟩) n cap) ys))
   case atStart => exact ⟨k, k + 1, xs, by omega, by omega, rfl, by go_num, HD, ⟨HB1.out.mono HBS.out⟩, ⟨Kd.N_below HR.out HB1.out⟩⟩
   case round =>
    clear HD HB1
    obtain ⟨i, j, ys, hj1, hjg, rfl, rfl, HD, HB, HN⟩ := hrel
    have hij : i < j := HD.out.2.2.2
    by_cases hlt : j < n
    · have ja : (j : Int) < (n : Int) := by omega
      have hil : (i : Int) < (n : Int) := by omega
      obtain ⟨B5, d5, B6, d6, ⟨m0, m1, m2, m3, m4, m5, m6⟩, _, hmf⟩ := man_atN HN.out j hlt (by have := HD.out.1; omega)
      have hyj : ys[j]? = some (ys[j]'(by have := HD.out.1; omega)) := by simp
      generalize ys[j]'(by have := HD.out.1; omega) = m at m0 m1 m2 m3 m4 m5 m6 hmf hyj
      have HMF := Aside0.mk hmf
      have HIN := Aside0.mk (show i < n by omega)
      have HW := Aside0.mk (fun W (h : Below base w W) => lay1_walk m B5 d5 B6 d6 b nm W (HCB.out W h))
      have HBW := Aside0.mk (show base ≤ wr.heap.size from Nat.le_trans (Kd.N_base HN.out g rfl) (Nat.le_of_lt (Kd.N_lt HN.out g rfl)))
      have HBA := Aside0.mk (HB.out.trans ((below_alloc (Below.refl wr.heap.size wr) (.cells #[.string m.f0, .int .i64 m.f1.f0, .int .i64 m.f1.f1, .int .i64 m.f1.f2, .string m.f1.f3, .slice B5 m.f2.length d5, .slice B6 m.f3.length d6] 27)).mono HBW.out))
      clear hmf
      cases hq : nameB nm m.f0 with
      | false =>
       rw [hq] at HW
       have HD2 := Aside0.mk (del_drop HD.out hlt hyj hq)
       clear hq hyj
       go_wp2_with (go_at_call 27; refine (HW.out _ HBA.out).mono ?_; rintro e w6 ⟨rfl, hb6⟩; have HK6 := Aside0.mk (below_step (below_alloc (Below.refl wr.heap.size wr) (.cells #[.string m.f0, .int .i64 m.f1.f0, .int .i64 m.f1.f1, .int .i64 m.f1.f2, .string m.f1.f3, .slice B5 m.f2.length d5, .slice B6 m.f3.length d6] 27)) hb6); clear hb6)
       go_roundg (n - (j + 1) + 1)
       case measure => omega
       case rel => exact ⟨i, j + 1, ys, by omega, by omega, rfl, by go_num, HD2, ⟨HB.out.trans (HK6.out.mono HBW.out)⟩, ⟨Kd.N_below HN.out HK6.out⟩⟩
      | true =>
       rw [hq] at HW
       have HD2 := Aside0.mk (del_keep HD.out hlt hyj hq)
       clear hq hyj
       go_wp2_with (first
        | (go_at_call 27; refine (HW.out _ HBA.out).mono ?_; rintro e w6 ⟨rfl, hb6⟩; have HK6 := Aside0.mk (below_step (below_alloc (Below.refl wr.heap.size wr) (.cells #[.string m.f0, .int .i64 m.f1.f0, .int .i64 m.f1.f1, .int .i64 m.f1.f2, .string m.f1.f3, .slice B5 m.f2.length d5, .slice B6 m.f3.length d6] 27)) hb6); have BD6 := blk_below (blk_new wr (.cells #[.string m.f0, .int .i64 m.f1.f0, .int .i64 m.f1.f1, .int .i64 m.f1.f2, .string m.f1.f3, .slice B5 m.f2.length d5, .slice B6 m.f3.length d6] 27)) hb6; have y0 := blk_at BD6 0 (v := .string m.f0) rfl; have y1 := blk_at BD6 1 (v := .int .i64 m.f1.f0) rfl; have y2 := blk_at BD6 2 (v := .int .i64 m.f1.f1) rfl; have y3 := blk_at BD6 3 (v := .int .i64 m.f1.f2) rfl; have y4 := blk_at BD6 4 (v := .string m.f1.f3) rfl; have y5 := blk_at BD6 5 (v := .slice B5 m.f2.length d5) rfl; have y6 := blk_at BD6 6 (v := .slice B6 m.f3.length d6) rfl; clear hb6 BD6)
        | ((with_reducible refine gate_store (t := 27) (p := 33) rfl ?_); refine man_store (w0 := w) (base := base) (e := 27) (n := n) (cap := cap) (x := m) (B5 := B5) (d5 := d5) (B6 := B6) (d6 := d6) (ok := ok) (ys := ys) rfl rfl (.tmp 33) (.tmp 32) rfl i rfl rfl (Kd.N_below HN.out HK6.out) HIN.out (HMF.out.below HK6.out) (fun k hk => hk) (HB.out.trans (HK6.out.mono HBW.out)) ?_; intro w7 hn7 hb7 hg7; have HN7 := Aside0.mk hn7; have HB7 := Aside0.mk hb7; clear hn7 hb7 hg7 y0 y1 y2 y3 y4 y5 y6))
       go_roundg (n - (j + 1) + 1)
       case measure => omega
       case rel => exact ⟨i + 1, j + 1, _, by omega, by omega, by go_num, by go_num, HD2, HB7, HN7⟩
    · obtain rfl : j = n := by omega
      have hi0 : (0 : Int) ≤ (i : Int) := by omega
      have hil : (i : Int) ≤ (j : Int) := by omega
      have hcp := (Kd.N_reads' HN.out).2.1
      have hci : ¬ cap = i := by omega
      have hjc : i ≤ cap := by omega
      have hzl : (Builtin.zeroCells (#[.string ⟨#[]⟩, .int .i64 0, .int .i64 0, .int .i64 0, .string ⟨#[]⟩, .slice none 0 0, .slice none 0 0] : Array Value) (j - i)).toList.length = (j - i) * 7 := by simp [Builtin.zeroCells]
      obtain ⟨cur, hcg, hcs, hcut, hgr⟩ := N_cut HN.out (Nat.le_of_lt hij) (Builtin.zeroCells (#[.string ⟨#[]⟩, .int .i64 0, .int .i64 0, .int .i64 0, .string ⟨#[]⟩, .slice none 0 0, .slice none 0 0] : Array Value) (j - i)).toList (fun cur h => by rw [hzl, h]; show i * 7 + _ ≤ cap * 7; omega)
      have hcl := clear_run (P := Tryz.prog) wr 28 27 0 (.agg #[.string ⟨#[]⟩, .int .i64 0, .int .i64 0, .int .i64 0, .string ⟨#[]⟩, .slice none 0 0, .slice none 0 0]) Tryz.underlying28 zero_man (by decide) (by decide) g (i * 7) (j - i) (cap - i) cur 27 hcg (by omega) (by rw [hcs]; show i * 7 + (j - i) * 7 ≤ cap * 7; omega)
      rw [hzl] at hcut hgr
      have HB9 := Aside0.mk (pw_below_grown HB.out (some g) (Nat.le_trans (Kd.N_base HN.out g rfl) (Nat.le_of_lt (Kd.N_lt HN.out g rfl))) hgr (fun k hk => by injection hk with hk; rw [← hk]; exact Kd.N_base HN.out g rfl))
      have HN9 := Aside0.mk hcut
      have HDT := Aside0.mk HD.out.2.1
      clear hcut hgr hzl hcg hcs hcp
      obtain ⟨W9, hW9⟩ : ∃ W9, wr.setRow g (cur.toList.take (i * 7) ++ (Builtin.zeroCells (#[.string ⟨#[]⟩, .int .i64 0, .int .i64 0, .int .i64 0, .string ⟨#[]⟩, .slice none 0 0, .slice none 0 0] : Array Value) (j - i)).toList ++ cur.toList.drop (i * 7 + (j - i) * 7)).toArray = W9 := ⟨_, rfl⟩
      replace HN9 : Aside0 (Kd.N k27 27 W9 base ok (.slice (some ⟨g, 0, none⟩) i cap) (ys.take i)) := by rw [← hW9]; exact HN9
      replace HB9 : Aside0 (Below base w W9) := by rw [← hW9]; exact HB9
      replace hcl : (Builtin.clear_ #[28] 0 #[.slice (some ⟨g, i * 7, none⟩) (j - i) (cap - i)]).run Tryz.prog wr = .ok (.tuple #[]) W9 := by rw [← hW9]; exact hcl
      clear hW9
      go_wp2
      go_ret
      refine ⟨i, rfl, ?_, HB9.out⟩
      have hxl : j = xs.length := HNL.out
      rw [HDT.out, hxl, List.take_length] at HN9
      exact HN9.out
end Go.Proofs.YteinkjhimceljaaGreatDoor.J
