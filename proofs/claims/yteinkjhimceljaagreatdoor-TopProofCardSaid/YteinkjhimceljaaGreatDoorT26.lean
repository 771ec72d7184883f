/- edges.Of, walked. -/
import Derived.Test.YteinkjhimceljaaGreatDoorT21
import Derived.Test.YteinkjhimceljaaGreatDoorT25
namespace Go.Proofs.YteinkjhimceljaaGreatDoor.J
open Go Go.RowKit Go.Shelf Go.Proofs.YteinkjhimceljaaGreatDoorW.PrintWords Go.Proofs.YteinkjhimceljaaGreatDoorW.PrintLast Go.Proofs.YteinkjhimceljaaGreatDoorW.PrintMore
set_option linter.unusedVariables false
set_option linter.unusedSimpArgs false
structure ByOk (l : List S75) (b : By) : Prop where
 nd : b.names.Nodup
 mem : ∀ s, s ∈ b.names ↔ (b.by_ s).isSome = true
 has : ∀ s d, b.by_ s = some d → d ∈ l ∧ d.f1 = s
theorem by_step {root : Bool} {l l' : List S75} {b : By} {d : S75} (h : ByOk l b) (hl : ∀ x ∈ l, x ∈ l') (hd : d ∈ l') : ByOk l' (byStep root b d) := by
 unfold byStep
 split
 · refine ⟨?_, fun s => ?_, fun s e he => ?_⟩
   · show (if (b.by_ d.f1).isSome = true then b.names else b.names ++ [d.f1]).Nodup
     split
     · exact h.nd
     · rename_i hn
       rw [List.nodup_append]
       refine ⟨h.nd, by simp, fun x hx y hy => ?_⟩
       simp only [List.mem_singleton] at hy
       subst hy
       intro e
       subst e
       exact hn ((h.mem _).1 hx)
   · show s ∈ (if (b.by_ d.f1).isSome = true then b.names else b.names ++ [d.f1]) ↔ (setD b.by_ d.f1 d s).isSome = true
     unfold setD
     by_cases e : s = d.f1
     · subst e
       rw [if_pos rfl]
       split
       · rename_i hn; simpa using (h.mem _).2 hn
       · simp
     · rw [if_neg e]
       split
       · exact h.mem s
       · simp only [List.mem_append, List.mem_singleton, e, or_false]; exact h.mem s
   · change setD b.by_ d.f1 d s = some e at he
     unfold setD at he
     split at he
     · rename_i e2
       injection he with he
       subst he
       exact ⟨hd, e2.symm⟩
     · exact ⟨hl _ (h.has s e he).1, (h.has s e he).2⟩
 · exact ⟨h.nd, h.mem, fun s e he => ⟨hl _ (h.has s e he).1, (h.has s e he).2⟩⟩
theorem by_take (root : Bool) (l : List S75) : ∀ j, j ≤ l.length → ByOk l (byAll root (l.take j))
 | 0, _ => ⟨by simp [byAll], fun s => by simp [byAll], fun s d h => by simp [byAll] at h⟩
 | j + 1, h => by
  rw [List.take_succ_eq_append_getElem h]
  unfold byAll
  rw [List.foldl_append]
  exact by_step (by_take root l j (by omega)) (fun x hx => hx) (List.getElem_mem h)
theorem by_succ (root : Bool) (l : List S75) (j : Nat) (h : j < l.length) : byAll root (l.take (j + 1)) = byStep root (byAll root (l.take j)) l[j] := by
 rw [List.take_succ_eq_append_getElem h]
 unfold byAll
 rw [List.foldl_append]
 rfl
def DepV (W : World) (okp : Nat → Prop) : Option S75 → Option Value → Prop
 | none, none => True
 | some d, some v => ∃ A2 c2, v = .agg #[.int .i64 d.f0, .string d.f1, .slice A2 d.f2.f0.length c2] ∧ RangeF W okp A2 c2 d.f2.f0
 | _, _ => False
theorem dep_atF {w W : World} {ok : Nat → Prop} {A : Option Addr} {xs : List S75} (h : Kd.F k75 w ok A xs.length xs) (hb : Below w.heap.size w W) (j : Nat) (hj : j < xs.length) : ∃ ad A2 c2, A = some ad ∧ W.cell? (ad.add (j * 3)) = some (.int .i64 xs[j].f0) ∧ W.cell? ⟨(ad.add (j * 3)).block, (ad.add (j * 3)).off + 1, none⟩ = some (.string xs[j].f1) ∧ W.cell? ⟨(ad.add (j * 3)).block, (ad.add (j * 3)).off + 2, none⟩ = some (.slice A2 xs[j].f2.f0.length c2) ∧ RangeF w ok A2 c2 xs[j].f2.f0 := by
 obtain ⟨ad, cs, e, _, hF, hc, _⟩ := Kd.F_get h xs[j] (j : Int) (by omega) (by omega)
 obtain ⟨A1, c1, rfl, hr⟩ := dep_F hF
 have e2 : xs.getD (j : Int).toNat xs[j] = xs[j] := by simp [hj]
 rw [e2] at hc hr
 have h0 : w.cell? (ad.add (j * 3)) = some (.int .i64 xs[j].f0) := hc 0 _ rfl
 have h1 : w.cell? (ad.add (j * 3 + 1)) = some (.string xs[j].f1) := hc 1 _ rfl
 have h2 : w.cell? (ad.add (j * 3 + 2)) = some (.slice A1 xs[j].f2.f0.length c1) := hc 2 _ rfl
 rw [addr_at] at h1 h2
 exact ⟨ad, A1, c1, e, pw_cell_below hb h0, pw_cell_below hb h1, pw_cell_below hb h2, hr⟩
theorem zero_dep (w : World) : (zeroValue 75).run Tryz.prog w = .ok (.agg #[.int .i64 0, .string ⟨#[]⟩, .slice none 0 0]) w := by kernel_rfl
theorem info_dep : (Tryz.prog.info? 75).map (fun i => (i.zero, i.size, i.bytes)) = some (some (.agg #[.int .i64 0, .string ⟨#[]⟩, .slice none 0 0]), k75.sz, 48) := by kernel_rfl
theorem made_after (w : World) (o : Obj) : MapIs ((w.alloc o).alloc (.map #[] 0)) (w.heap.size + 1) 0 (fun _ => none) := by
 have h := MapIs.made (w.alloc o)
 rwa [World.size_alloc] at h
theorem depV_some {W : World} {okp : Nat → Prop} : ∀ {a : Option S75} {b : Option Value}, DepV W okp a b → a.isSome = b.isSome
 | none, none, _ => rfl
 | some _, some _, _ => rfl
 | none, some _, h => h.elim
 | some _, none, h => h.elim
theorem ok_later {okp : Nat → Prop} {a b : Nat} (h : a ≤ b) : ∀ k, (okp k ∨ b + 2 ≤ k) → (okp k ∨ a ≤ k) := fun k hk => hk.imp_right (fun h2 => by omega)
theorem ne_later {okp : Nat → Prop} {a b : Nat} (h1 : ∀ k, okp k → k < a) (h : a ≤ b) : ∀ k, (okp k ∨ b + 2 ≤ k) → k ≠ a := fun k hk => hk.elim (fun h2 => Nat.ne_of_lt (h1 k h2)) (fun h2 => by omega)
theorem fk_edge {W : World} {ok okE : Nat → Prop} {x d : S75} {r : S73} {A : Option Addr} {c : Nat} (hx : x = { d with f2 := r }) (h : RangeF W ok A c r.f0) (hk : ∀ k, ok k → okE k) : Kd.FK k75 W okE x [.int .i64 d.f0, .string d.f1, .slice A r.f0.length c] := by
 rw [hx]
 exact dep_FK (d := { d with f2 := r }) (h.mono hk)
theorem step_not {root : Bool} {b : By} {d : S75} (h : takesB root b d = false) : byStep root b d = b := by unfold byStep; rw [h, if_neg (by decide)]
theorem step_by {root : Bool} {b : By} {d : S75} (h : takesB root b d = true) : (byStep root b d).by_ = setD b.by_ d.f1 d := by unfold byStep; rw [h, if_pos rfl]
theorem depV_set {W : World} {okp : Nat → Prop} {G : ByteArray → Option S75} {F : ByteArray → Option Value} (h : ∀ s, DepV W okp (G s) (F s)) {s : ByteArray} {d : S75} {v : Value} (hv : DepV W okp (some d) (some v)) : ∀ t, DepV W okp (setD G s d t) (setF F s v t) := by
 intro t
 unfold setD setF
 split
 · exact hv
 · exact h t
theorem sortN_mem {l : List ByteArray} {s : ByteArray} (h : s ∈ sortN l) : s ∈ l := by
 unfold sortN at h
 obtain ⟨x, hx, rfl⟩ := List.mem_map.1 h
 rw [List.mem_mergeSort] at hx
 obtain ⟨y, hy, rfl⟩ := List.mem_map.1 hx
 exact hy
theorem sortN_len (l : List ByteArray) : (sortN l).length = l.length := by unfold sortN; rw [List.length_map, List.length_mergeSort, List.length_map]
theorem C_str_at {w : World} {A : Option Addr} {n : Nat} {l : List ByteArray} (h : Kd.C Kd.string w A n l) (k : Nat) (hk : k < l.length) : ∃ ad, A = some ad ∧ w.cell? (ad.add k) = some (.string l[k]) := by
 obtain ⟨ad, c, e, _, hK, hc⟩ := Kd.C_get h default (k : Int) (by omega) (by rw [← h.1]; omega)
 refine ⟨ad, e, ?_⟩
 have := hc 0 (.string l[k]) (by rw [hK]; simp [hk])
 simpa [Kd.string, Kd.scalar] using this
theorem names_len {l : List S75} (root : Bool) : (byAll root l).names.length ≤ l.length := by
 have h : ∀ j, j ≤ l.length → (byAll root (l.take j)).names.length ≤ j := by
  intro j
  induction j with
  | zero => intro _; simp [byAll]
  | succ j ih =>
   intro hj
   rw [by_succ root l j (by omega)]
   have := ih (by omega)
   unfold byStep
   split
   · show (if _ then _ else _ : List ByteArray).length ≤ _
     split
     · omega
     · rw [List.length_append]; simp; omega
   · omega
 simpa using h l.length (Nat.le_refl _)
set_option maxRecDepth 100000 in
set_option maxHeartbeats 16000000 in
theorem of_walk (m : S27) (A5 : Option Addr) (c5 : Nat) (A6 : Option Addr) (c6 : Nat) (A : Option Addr) (c : Nat) (rules : List S78) (root : Bool) (hd : ∀ d ∈ m.f2, DOk d) (hdl : m.f2.length ≤ 1000) (hl : rules.length ≤ 1000) (hu : ∀ r ∈ rules, UOk r)
 (w : World) (okp : Nat → Prop) (hlp : ∀ k, okp k → k < w.heap.size) (hm : Kd.F k75 w okp A5 m.f2.length m.f2) (hr : Kd.F k78 w okp A rules.length rules) :
 Calls Tryz.prog 31 #[.agg #[.string m.f0, .int .i64 m.f1.f0, .int .i64 m.f1.f1, .int .i64 m.f1.f2, .string m.f1.f3, .slice A5 m.f2.length c5, .slice A6 m.f3.length c6], .slice A rules.length c, .bool root] w
  fun e w' => ∃ v, e = .returned v ∧ Kd.N k75 75 w' w.heap.size (fun k => okp k ∨ w.heap.size ≤ k) v (edgesL root m rules) ∧ Below w.heap.size w w' := by
 have HD := Aside0.mk hd
 have HU := Aside0.mk hu
 have HLP := Aside0.mk hlp
 have HM := Aside0.mk hm
 have HR := Aside0.mk hr
 have HL := Aside0.mk hl
 clear hd hu hlp hm hr hl
 have hmm := @run_makeMap Tryz.prog
 go_enter Tryz.func31, Tryz.ntmps31
 go_wp2
 go_loopg [22] (m.f2.length + 1) (fun gg s22 wq => ∃ (j : Nat) (FV : ByteArray → Option Value), j ≤ m.f2.length ∧ m.f2.length - j < gg ∧ s22 = .int .i64 (j : Int) ∧ Aside0 (Below w.heap.size w wq) ∧ Aside0 (MapIs wq (w.heap.size + 1) j FV) ∧ Aside0 (∀ s, DepV w okp ((byAll root (m.f2.take j)).by_ s) (FV s)))
 case atStart => exact ⟨0, fun _ => none, Nat.zero_le _, by omega, rfl, ⟨below_alloc (below_alloc (Below.refl _ _) _) _⟩, ⟨made_after w _⟩, ⟨fun s => trivial⟩⟩
 case round =>
  obtain ⟨j, FV, hj1, hjg, rfl, HB, HMP, HFV⟩ := hrel
  by_cases hlt : j < m.f2.length
  · obtain ⟨ad, A2, c2, rfl, m0, m1, m2, hrc⟩ := dep_atF HM.out HB.out j hlt
    have ja : (j : Int) < (m.f2.length : Int) := by omega
    have HST := Aside0.mk (by_succ root m.f2 j hlt)
    have hdo : DOk m.f2[j] := HD.out _ (List.getElem_mem hlt)
    have HSZ := Aside0.mk (show m.f2[j].f1.size ≤ 1000000000 from Nat.le_trans hdo.name (by decide))
    generalize hde : m.f2[j] = d at m0 m1 m2 hrc HST HSZ
    clear hde hdo
    have HRC := Aside0.mk hrc
    clear hrc
    generalize hst : byAll root (m.f2.take j) = st at HST HFV
    clear hst
    have HJ := Aside0.mk (show j ≤ 1000000000 by omega)
    have hfv := HFV.out d.f1
    cases hby : st.by_ d.f1 with
    | none =>
     cases hF : FV d.f1 with
     | some v => rw [hby, hF] at hfv; exact hfv.elim
     | none =>
      clear hfv
      have HFN := Aside0.mk hF
      cases hcb : countsB d root with
      | false =>
       have HTK := Aside0.mk (step_not (show takesB root st d = false by unfold takesB; rw [hcb]; rfl))
       have HCB := Aside0.mk hcb
       clear hcb hF hby
       go_wp2_with (first | (at_lookup; refine map_look_ok (b := w.heap.size + 1) (n := j) (F := FV) rfl (.tmp 27) (.tmp 29) 124 75 rfl Tryz.underlying124 (zero_dep _) d.f1 rfl rfl (HMP.out.alloc _) HSZ.out ?_; rw [HFN.out]; simp only [Option.getD_none, Option.isSome_none, Option.getD_some, Option.isSome_some]) | (go_at_call 51; refine (counts_walk d A2 c2 root _).mono ?_; rintro e w6 ⟨rfl, hb6⟩; rw [HCB.out]; have BD := blk_below (blk_alloc (blk_new wr (.cells #[.int .i64 d.f0, .string d.f1, .slice A2 d.f2.f0.length c2] 75)) (.cells #[.int .i64 0, .string ⟨#[]⟩, .slice none 0 0] 75)) hb6; have y0 := blk_at BD 0 (v := .int .i64 d.f0) rfl; have y1 := blk_at BD 1 (v := .string d.f1) rfl; have y2 := blk_at BD 2 (v := .slice A2 d.f2.f0.length c2) rfl; have HB6 := Aside0.mk (below_step (below_alloc (below_alloc HB.out (.cells #[.int .i64 d.f0, .string d.f1, .slice A2 d.f2.f0.length c2] 75)) (.cells #[.int .i64 0, .string ⟨#[]⟩, .slice none 0 0] 75)) hb6); have HM6 := Aside0.mk (((HMP.out.alloc _).alloc _).below hb6); clear BD))
       go_roundg (m.f2.length - (j + 1) + 1)
       case measure => omega
       case rel => exact ⟨j + 1, FV, by omega, by omega, by go_num, HB6, ⟨HM6.out.mono (Nat.le_succ _)⟩, ⟨by rw [HST.out, HTK.out]; exact HFV.out⟩⟩
      | true =>
       have HTK := Aside0.mk (step_by (show takesB root st d = true by unfold takesB; rw [hcb, hby]; rfl))
       have HCB := Aside0.mk hcb
       clear hcb hF hby
       go_wp2_with (first | (at_lookup; refine map_look_ok (b := w.heap.size + 1) (n := j) (F := FV) rfl (.tmp 27) (.tmp 29) 124 75 rfl Tryz.underlying124 (zero_dep _) d.f1 rfl rfl (HMP.out.alloc _) HSZ.out ?_; rw [HFN.out]; simp only [Option.getD_none, Option.isSome_none, Option.getD_some, Option.isSome_some]) | (go_at_call 51; refine (counts_walk d A2 c2 root _).mono ?_; rintro e w6 ⟨rfl, hb6⟩; rw [HCB.out]; have BD := blk_below (blk_alloc (blk_new wr (.cells #[.int .i64 d.f0, .string d.f1, .slice A2 d.f2.f0.length c2] 75)) (.cells #[.int .i64 0, .string ⟨#[]⟩, .slice none 0 0] 75)) hb6; have y0 := blk_at BD 0 (v := .int .i64 d.f0) rfl; have y1 := blk_at BD 1 (v := .string d.f1) rfl; have y2 := blk_at BD 2 (v := .slice A2 d.f2.f0.length c2) rfl; have HB6 := Aside0.mk (below_step (below_alloc (below_alloc HB.out (.cells #[.int .i64 d.f0, .string d.f1, .slice A2 d.f2.f0.length c2] 75)) (.cells #[.int .i64 0, .string ⟨#[]⟩, .slice none 0 0] 75)) hb6); have HM6 := Aside0.mk (((HMP.out.alloc _).alloc _).below hb6); clear BD) | (at_mapUpdate; refine map_put (b := w.heap.size + 1) (n := j) (F := FV) rfl (.tmp 47) (.tmp 49) (.tmp 50) 124 75 rfl Tryz.underlying124 d.f1 (.agg #[.int .i64 d.f0, .string d.f1, .slice A2 d.f2.f0.length c2]) rfl rfl rfl HM6.out HSZ.out HJ.out ?_; intro w7 hm7 hg7; have HM7 := Aside0.mk hm7; have HB7 := Aside0.mk (pw_below_grown HB6.out (some (w.heap.size + 1)) HB6.out.size hg7 (fun k hk => by injection hk with hk; omega)); clear hm7 hg7 y0 y1 y2))
       go_roundg (m.f2.length - (j + 1) + 1)
       case measure => omega
       case rel => exact ⟨j + 1, _, by omega, by omega, by go_num, HB7, HM7, ⟨by rw [HST.out, HTK.out]; exact depV_set HFV.out ⟨A2, c2, rfl, HRC.out⟩⟩⟩
    | some e =>
     cases hF : FV d.f1 with
     | none => rw [hby, hF] at hfv; exact hfv.elim
     | some v =>
      rw [hby, hF] at hfv
      obtain ⟨A3, c3, rfl, _⟩ := hfv
      have HFN := Aside0.mk hF
      cases hcb : countsB d root with
      | false =>
       have HTK := Aside0.mk (step_not (show takesB root st d = false by unfold takesB; rw [hcb]; rfl))
       have HCB := Aside0.mk hcb
       clear hcb hF hby
       go_wp2_with (first | (at_lookup; refine map_look_ok (b := w.heap.size + 1) (n := j) (F := FV) rfl (.tmp 27) (.tmp 29) 124 75 rfl Tryz.underlying124 (zero_dep _) d.f1 rfl rfl (HMP.out.alloc _) HSZ.out ?_; rw [HFN.out]; simp only [Option.getD_none, Option.isSome_none, Option.getD_some, Option.isSome_some]) | (go_at_call 51; refine (counts_walk d A2 c2 root _).mono ?_; rintro e w6 ⟨rfl, hb6⟩; rw [HCB.out]; have BD := blk_below (blk_alloc (blk_new wr (.cells #[.int .i64 d.f0, .string d.f1, .slice A2 d.f2.f0.length c2] 75)) (.cells #[.int .i64 e.f0, .string e.f1, .slice A3 e.f2.f0.length c3] 75)) hb6; have y0 := blk_at BD 0 (v := .int .i64 d.f0) rfl; have y1 := blk_at BD 1 (v := .string d.f1) rfl; have y2 := blk_at BD 2 (v := .slice A2 d.f2.f0.length c2) rfl; have HB6 := Aside0.mk (below_step (below_alloc (below_alloc HB.out (.cells #[.int .i64 d.f0, .string d.f1, .slice A2 d.f2.f0.length c2] 75)) (.cells #[.int .i64 e.f0, .string e.f1, .slice A3 e.f2.f0.length c3] 75)) hb6); have HM6 := Aside0.mk (((HMP.out.alloc _).alloc _).below hb6); clear BD))
       go_roundg (m.f2.length - (j + 1) + 1)
       case measure => omega
       case rel => exact ⟨j + 1, FV, by omega, by omega, by go_num, HB6, ⟨HM6.out.mono (Nat.le_succ _)⟩, ⟨by rw [HST.out, HTK.out]; exact HFV.out⟩⟩
      | true =>
       cases hlt2 : decide (d.f0 < e.f0) with
       | false =>
        have HTK := Aside0.mk (step_not (show takesB root st d = false by unfold takesB; rw [hcb, hby]; exact hlt2))
        have HCB := Aside0.mk hcb
        have hnl : ¬ d.f0 < e.f0 := of_decide_eq_false hlt2
        clear hcb hF hby hlt2
        go_wp2_with (first | (at_lookup; refine map_look_ok (b := w.heap.size + 1) (n := j) (F := FV) rfl (.tmp 27) (.tmp 29) 124 75 rfl Tryz.underlying124 (zero_dep _) d.f1 rfl rfl (HMP.out.alloc _) HSZ.out ?_; rw [HFN.out]; simp only [Option.getD_none, Option.isSome_none, Option.getD_some, Option.isSome_some]) | (go_at_call 51; refine (counts_walk d A2 c2 root _).mono ?_; rintro e w6 ⟨rfl, hb6⟩; rw [HCB.out]; have BD := blk_below (blk_alloc (blk_new wr (.cells #[.int .i64 d.f0, .string d.f1, .slice A2 d.f2.f0.length c2] 75)) (.cells #[.int .i64 e.f0, .string e.f1, .slice A3 e.f2.f0.length c3] 75)) hb6; have y0 := blk_at BD 0 (v := .int .i64 d.f0) rfl; have y1 := blk_at BD 1 (v := .string d.f1) rfl; have y2 := blk_at BD 2 (v := .slice A2 d.f2.f0.length c2) rfl; have HB6 := Aside0.mk (below_step (below_alloc (below_alloc HB.out (.cells #[.int .i64 d.f0, .string d.f1, .slice A2 d.f2.f0.length c2] 75)) (.cells #[.int .i64 e.f0, .string e.f1, .slice A3 e.f2.f0.length c3] 75)) hb6); have HM6 := Aside0.mk (((HMP.out.alloc _).alloc _).below hb6); have BE := blk_below (blk_new (wr.alloc (.cells #[.int .i64 d.f0, .string d.f1, .slice A2 d.f2.f0.length c2] 75)) (.cells #[.int .i64 e.f0, .string e.f1, .slice A3 e.f2.f0.length c3] 75)) hb6; rw [World.size_alloc] at BE; have x0 := blk_at BE 0 (v := .int .i64 e.f0) rfl; clear BD BE))
        go_roundg (m.f2.length - (j + 1) + 1)
        case measure => omega
        case rel => exact ⟨j + 1, FV, by omega, by omega, by go_num, HB6, ⟨HM6.out.mono (Nat.le_succ _)⟩, ⟨by rw [HST.out, HTK.out]; exact HFV.out⟩⟩
       | true =>
        have HTK := Aside0.mk (step_by (show takesB root st d = true by unfold takesB; rw [hcb, hby]; exact hlt2))
        have HCB := Aside0.mk hcb
        have hnl : d.f0 < e.f0 := of_decide_eq_true hlt2
        clear hcb hF hby hlt2
        go_wp2_with (first | (at_lookup; refine map_look_ok (b := w.heap.size + 1) (n := j) (F := FV) rfl (.tmp 27) (.tmp 29) 124 75 rfl Tryz.underlying124 (zero_dep _) d.f1 rfl rfl (HMP.out.alloc _) HSZ.out ?_; rw [HFN.out]; simp only [Option.getD_none, Option.isSome_none, Option.getD_some, Option.isSome_some]) | (go_at_call 51; refine (counts_walk d A2 c2 root _).mono ?_; rintro e w6 ⟨rfl, hb6⟩; rw [HCB.out]; have BD := blk_below (blk_alloc (blk_new wr (.cells #[.int .i64 d.f0, .string d.f1, .slice A2 d.f2.f0.length c2] 75)) (.cells #[.int .i64 e.f0, .string e.f1, .slice A3 e.f2.f0.length c3] 75)) hb6; have y0 := blk_at BD 0 (v := .int .i64 d.f0) rfl; have y1 := blk_at BD 1 (v := .string d.f1) rfl; have y2 := blk_at BD 2 (v := .slice A2 d.f2.f0.length c2) rfl; have HB6 := Aside0.mk (below_step (below_alloc (below_alloc HB.out (.cells #[.int .i64 d.f0, .string d.f1, .slice A2 d.f2.f0.length c2] 75)) (.cells #[.int .i64 e.f0, .string e.f1, .slice A3 e.f2.f0.length c3] 75)) hb6); have HM6 := Aside0.mk (((HMP.out.alloc _).alloc _).below hb6); have BE := blk_below (blk_new (wr.alloc (.cells #[.int .i64 d.f0, .string d.f1, .slice A2 d.f2.f0.length c2] 75)) (.cells #[.int .i64 e.f0, .string e.f1, .slice A3 e.f2.f0.length c3] 75)) hb6; rw [World.size_alloc] at BE; have x0 := blk_at BE 0 (v := .int .i64 e.f0) rfl; clear BD BE) | (at_mapUpdate; refine map_put (b := w.heap.size + 1) (n := j) (F := FV) rfl (.tmp 47) (.tmp 49) (.tmp 50) 124 75 rfl Tryz.underlying124 d.f1 (.agg #[.int .i64 d.f0, .string d.f1, .slice A2 d.f2.f0.length c2]) rfl rfl rfl HM6.out HSZ.out HJ.out ?_; intro w7 hm7 hg7; have HM7 := Aside0.mk hm7; have HB7 := Aside0.mk (pw_below_grown HB6.out (some (w.heap.size + 1)) HB6.out.size hg7 (fun k hk => by injection hk with hk; omega)); clear hm7 hg7 y0 y1 y2))
        go_roundg (m.f2.length - (j + 1) + 1)
        case measure => omega
        case rel => exact ⟨j + 1, _, by omega, by omega, by go_num, HB7, HM7, ⟨by rw [HST.out, HTK.out]; exact depV_set HFV.out ⟨A2, c2, rfl, HRC.out⟩⟩⟩
  · obtain rfl : j = m.f2.length := by omega
    have hbo := by_take root m.f2 m.f2.length (Nat.le_refl _)
    rw [List.take_length] at HFV hbo
    have hnl := names_len (l := m.f2) root
    generalize hst : byAll root m.f2 = st at HFV hbo hnl
    have HED := Aside0.mk (show edgesL root m rules = (sortN st.names).map (edgeOf st rules) by unfold edgesL; rw [hst])
    clear hst
    have HBO := Aside0.mk hbo
    have HSW := Aside0.mk (sorted_walk HMP.out (by omega) hbo.nd (fun s => by rw [hbo.mem, depV_some (HFV.out s)]))
    have hnsl : (sortN st.names).length ≤ 1000 := by rw [sortN_len]; omega
    have HIN := Aside0.mk (fun s (h : s ∈ sortN st.names) => sortN_mem h)
    generalize sortN st.names = ns at HSW HED hnsl HIN
    clear hbo hnl
    go_wp2_with (first
     | (go_at_call 53; refine (keys_walk (some (w.heap.size + 1)) _).mono ?_; rintro e w' ⟨rfl, rfl⟩)
     | (go_at_call 52; refine HSW.out.mono ?_; rintro e w3 ⟨v3, rfl, hr3, hb3⟩; obtain ⟨A3, c3, rfl⟩ := Kd.R_slice hr3; have HNS := Aside0.mk (Kd.R_reads' hr3).2.2; have HB3 := Aside0.mk (below_step HB.out hb3); have HM3 := Aside0.mk (HMP.out.below hb3); clear hr3 hb3 HSW HMP HB))
    go_loopg [12, 56] (ns.length + 1) (fun gg s12 s56 wq => ∃ k : Nat, k ≤ ns.length ∧ ns.length - k < gg ∧ s56 = .int .i64 (k : Int) ∧ Aside0 (Below w3.heap.size w3 wq) ∧ Aside0 (Kd.N k75 75 wq w3.heap.size (fun k => okp k ∨ w.heap.size ≤ k) s12 ((ns.take k).map (edgeOf st rules))))
    case atStart => exact ⟨0, Nat.zero_le _, by omega, rfl, ⟨Below.refl _ _⟩, ⟨Kd.N_nil _ _ _ _ _⟩⟩
    case round =>
     obtain ⟨k, hk1, hkg, rfl, HB4, HV⟩ := hrel
     obtain ⟨A9, c9, rfl⟩ := Kd.N_slice HV.out
     have hl3 : ((ns.take k).map (edgeOf st rules)).length = k := by rw [List.length_map, List.length_take]; omega
     generalize hys : (ns.take k).map (edgeOf st rules) = ys at HV hl3
     by_cases hkl : k < ns.length
     · obtain ⟨adn, rfl, n0⟩ := C_str_at (Kd.C_below HNS.out HB4.out) k hkl
       have hki : (k : Int) < (ns.length : Int) := by omega
       have HTK := Aside0.mk (show (ns.take (k + 1)).map (edgeOf st rules) = ys ++ [edgeOf st rules ns[k]] by rw [List.take_succ_eq_append_getElem hkl, List.map_append, hys]; rfl)
       have hmem := HIN.out _ (List.getElem_mem hkl)
       generalize ns[k] = n at n0 HTK hmem
       obtain ⟨d, hdn⟩ := Option.isSome_iff_exists.1 ((HBO.out.mem n).1 hmem)
       obtain ⟨hdm, hd1⟩ := HBO.out.has n d hdn
       have hdo := HD.out d hdm
       have HSZ := Aside0.mk (show n.size ≤ 1000000000 by rw [← hd1]; exact Nat.le_trans hdo.name (by decide))
       have hfv := HFV.out n
       rw [hdn] at hfv
       cases hF : FV n with
       | none => rw [hF] at hfv; exact hfv.elim
       | some vv =>
        rw [hF] at hfv
        obtain ⟨A2, c2, rfl, hrc⟩ := hfv
        have HFN := Aside0.mk hF
        have HWR := Aside0.mk (show Below w.heap.size w wr from below_step HB3.out HB4.out)
        have HLW := Aside0.mk (fun k (hk : okp k) => (Nat.lt_of_lt_of_le (HLP.out k hk) HWR.out.size : k < wr.heap.size))
        have HM4 := Aside0.mk (HM3.out.below HB4.out)
        have HOW := Aside0.mk (fun W (h : Below wr.heap.size wr W) => own_walk A2 c2 d.f2.f0 hdo.range W okp (fun k hk => Nat.lt_of_lt_of_le (HLW.out k hk) h.size) ((hrc.below HWR.out).below h))
        have HRW := Aside0.mk (fun W (h : Below wr.heap.size wr W) => rule_walk A c rules n HL.out HU.out W okp (fun k hk => Nat.lt_of_lt_of_le (HLW.out k hk) h.size) (Kd.F_below (Kd.F_below HR.out HWR.out) h))
        have HE := Aside0.mk (show edgeOf st rules n = { d with f2 := (ruleOf rules n).getD d.f2 } by unfold edgeOf; rw [hdn]; rfl)
        have HL3 := Aside0.mk hl3
        have HOKE := Aside0.mk (show ∀ k, (okp k ∨ wr.heap.size ≤ k) → (okp k ∨ w.heap.size ≤ k) ∧ some k ≠ (Value.slice A9 ys.length c9).ownBlock from fun k hk => by
         refine ⟨hk.imp_right (Nat.le_trans HWR.out.size), fun he => ?_⟩
         have h1 := Kd.N_base HV.out k he.symm
         have h2 := Kd.N_lt HV.out k he.symm
         have h3 := HB3.out.size
         rcases hk with hk | hk
         · have := HLP.out k hk; omega
         · omega)
        have HYS := Aside0.mk hys
        have HHK := Aside0.mk hk1
        clear hys hl3 hmem hdn hdm hd1 hdo hF hrc
        cases hro : ruleOf rules n with
        | none =>
         have HRO := Aside0.mk hro
         rw [hro] at HE
         clear hro
         go_wp2_with (first | (at_lookup; refine map_look (b := w.heap.size + 1) (n := m.f2.length) (F := FV) rfl (.tmp 60) (.tmp 61) 124 75 rfl Tryz.underlying124 (zero_dep _) n rfl rfl HM4.out HSZ.out ?_; rw [HFN.out]; simp only [Option.getD_some]) | (go_at_call 54; refine (HOW.out _ (below_alloc (Below.refl _ _) _)).mono ?_; rintro e w5 ⟨A4, c4, rfl, hr5, hb5⟩; have BD5 := Aside0.mk (blk_set (blk_below (blk_new wr (.cells #[.int .i64 d.f0, .string d.f1, .slice A2 d.f2.f0.length c2] 75)) hb5) 2 (.slice A4 d.f2.f0.length c4)); have z2 := blk_at (blk_below (blk_new wr (.cells #[.int .i64 d.f0, .string d.f1, .slice A2 d.f2.f0.length c2] 75)) hb5) 2 (v := .slice A2 d.f2.f0.length c2) rfl; have zf := blk_frozen (blk_below (blk_new wr (.cells #[.int .i64 d.f0, .string d.f1, .slice A2 d.f2.f0.length c2] 75)) hb5) 2; have HK5 := Aside0.mk ((below_step (below_alloc (Below.refl wr.heap.size wr) (.cells #[.int .i64 d.f0, .string d.f1, .slice A2 d.f2.f0.length c2] 75)) hb5).setCell (p := ⟨wr.heap.size, 2, none⟩) (Nat.le_refl _) (.slice A4 d.f2.f0.length c4)); have HR5 := Aside0.mk (RangeF.far (p := ⟨wr.heap.size, 2, none⟩) hr5 (ne_later HLW.out (below_alloc (Below.refl wr.heap.size wr) (.cells #[.int .i64 d.f0, .string d.f1, .slice A2 d.f2.f0.length c2] 75)).size) (.slice A4 d.f2.f0.length c4)); clear hr5 hb5) | (go_at_call 55; (refine (HRW.out _ HK5.out).mono ?_; rintro e w7 ⟨hv, hb7⟩; unfold RuleV at hv; rw [HRO.out] at hv; subst hv; have BD7 := blk_alloc (blk_below BD5.out hb7) (.cells #[.slice none 0 0] 73); have y0 := blk_at BD7 0 (v := .int .i64 d.f0) rfl; have y1 := blk_at BD7 1 (v := .string d.f1) rfl; have y2 := blk_at BD7 2 (v := .slice A4 d.f2.f0.length c4) rfl; have HK7 := Aside0.mk (below_alloc (below_step HK5.out hb7) (.cells #[.slice none 0 0] 73)); have HR7 := Aside0.mk ((HR5.out.below hb7).below (below_alloc (Below.refl _ _) (.cells #[.slice none 0 0] 73))); have HFK7 := Aside0.mk (fk_edge (d := d) (r := d.f2) (c := c4) HE.out HR7.out (ok_later (below_alloc (Below.refl wr.heap.size wr) (.cells #[.int .i64 d.f0, .string d.f1, .slice A2 d.f2.f0.length c2] 75)).size)); clear BD7 hb7)) | (at_builtin; refine Kd.N_append k75 (w0 := w3) (W := w7.alloc (.cells #[.slice none 0 0] 73)) w3.heap.size rfl (.tmp 76) (.tmp 78) 24 75 (.agg #[.int .i64 0, .string ⟨#[]⟩, .slice none 0 0]) 48 rfl Tryz.underlying24 info_dep rfl (by decide) (by decide) (.slice A9 ys.length c9) ys (edgeOf st rules n) [.int .i64 d.f0, .string d.f1, .slice A4 d.f2.f0.length c4] (fun k => okp k ∨ w.heap.size ≤ k) (fun k => okp k ∨ wr.heap.size ≤ k) rfl ?aX HFK7.out HOKE.out (fun k hk => .inr (Nat.le_trans (Nat.le_trans HWR.out.size HK7.out.size) hk)) (Kd.N_below HV.out HK7.out) (below_step HB4.out HK7.out) (Nat.le_trans HB4.out.size HK7.out.size) (by have := HL3.out; omega) ?_; (case aX => simp only [World.size_alloc]; rfl); intro v1 w8 hn8 hb8 hg8 _; have HN8 := Aside0.mk hn8; have HB8 := Aside0.mk hb8; clear hn8 hb8 hg8))
         go_roundg (ns.length - (k + 1) + 1)
         case measure => omega
         case rel => exact ⟨k + 1, by omega, by omega, by go_num, HB8, ⟨by rw [HTK.out]; exact HN8.out⟩⟩
        | some r =>
         have HRO := Aside0.mk hro
         rw [hro] at HE
         clear hro
         go_wp2_with (first | (at_lookup; refine map_look (b := w.heap.size + 1) (n := m.f2.length) (F := FV) rfl (.tmp 60) (.tmp 61) 124 75 rfl Tryz.underlying124 (zero_dep _) n rfl rfl HM4.out HSZ.out ?_; rw [HFN.out]; simp only [Option.getD_some]) | (go_at_call 54; refine (HOW.out _ (below_alloc (Below.refl _ _) _)).mono ?_; rintro e w5 ⟨A4, c4, rfl, hr5, hb5⟩; have BD5 := Aside0.mk (blk_set (blk_below (blk_new wr (.cells #[.int .i64 d.f0, .string d.f1, .slice A2 d.f2.f0.length c2] 75)) hb5) 2 (.slice A4 d.f2.f0.length c4)); have z2 := blk_at (blk_below (blk_new wr (.cells #[.int .i64 d.f0, .string d.f1, .slice A2 d.f2.f0.length c2] 75)) hb5) 2 (v := .slice A2 d.f2.f0.length c2) rfl; have zf := blk_frozen (blk_below (blk_new wr (.cells #[.int .i64 d.f0, .string d.f1, .slice A2 d.f2.f0.length c2] 75)) hb5) 2; have HK5 := Aside0.mk ((below_step (below_alloc (Below.refl wr.heap.size wr) (.cells #[.int .i64 d.f0, .string d.f1, .slice A2 d.f2.f0.length c2] 75)) hb5).setCell (p := ⟨wr.heap.size, 2, none⟩) (Nat.le_refl _) (.slice A4 d.f2.f0.length c4)); have HR5 := Aside0.mk (RangeF.far (p := ⟨wr.heap.size, 2, none⟩) hr5 (ne_later HLW.out (below_alloc (Below.refl wr.heap.size wr) (.cells #[.int .i64 d.f0, .string d.f1, .slice A2 d.f2.f0.length c2] 75)).size) (.slice A4 d.f2.f0.length c4)); clear hr5 hb5) | (go_at_call 55; (refine (HRW.out _ HK5.out).mono ?_; rintro e w7 ⟨hv, hb7⟩; unfold RuleV at hv; rw [HRO.out] at hv; obtain ⟨A8, c8, rfl, hr8⟩ := hv; have BD7 := blk_alloc (blk_below BD5.out hb7) (.cells #[.slice A8 r.f0.length c8] 73); have y2 := blk_at BD7 2 (v := .slice A4 d.f2.f0.length c4) rfl; have zg := blk_frozen BD7 2; have BD8 := blk_set BD7 2 (.slice A8 r.f0.length c8); have u0 := blk_at BD8 0 (v := .int .i64 d.f0) rfl; have u1 := blk_at BD8 1 (v := .string d.f1) rfl; have u2 := blk_at BD8 2 (v := .slice A8 r.f0.length c8) rfl; have HK7 := Aside0.mk ((below_alloc (below_step HK5.out hb7) (.cells #[.slice A8 r.f0.length c8] 73)).setCell (p := ⟨wr.heap.size, 2, none⟩) (Nat.le_refl _) (.slice A8 r.f0.length c8)); have HR7 := Aside0.mk (RangeF.far (p := ⟨wr.heap.size, 2, none⟩) (hr8.below (below_alloc (Below.refl _ _) (.cells #[.slice A8 r.f0.length c8] 73))) (ne_later HLW.out HK5.out.size) (.slice A8 r.f0.length c8)); have HFK7 := Aside0.mk (fk_edge (d := d) (r := r) (c := c8) HE.out HR7.out (ok_later HK5.out.size)); clear BD7 BD8 hb7 hr8)) | (at_builtin; refine Kd.N_append k75 (w0 := w3) (W := (w7.alloc (.cells #[.slice A8 r.f0.length c8] 73)).setCell ⟨wr.heap.size, 2, none⟩ (.slice A8 r.f0.length c8)) w3.heap.size rfl (.tmp 76) (.tmp 78) 24 75 (.agg #[.int .i64 0, .string ⟨#[]⟩, .slice none 0 0]) 48 rfl Tryz.underlying24 info_dep rfl (by decide) (by decide) (.slice A9 ys.length c9) ys (edgeOf st rules n) [.int .i64 d.f0, .string d.f1, .slice A8 r.f0.length c8] (fun k => okp k ∨ w.heap.size ≤ k) (fun k => okp k ∨ wr.heap.size ≤ k) rfl ?aX HFK7.out HOKE.out (fun k hk => .inr (Nat.le_trans (Nat.le_trans HWR.out.size HK7.out.size) hk)) (Kd.N_below HV.out HK7.out) (below_step HB4.out HK7.out) (Nat.le_trans HB4.out.size HK7.out.size) (by have := HL3.out; omega) ?_; (case aX => simp only [World.size_alloc, World.size_setCell]; rfl); intro v1 w8 hn8 hb8 hg8 _; have HN8 := Aside0.mk hn8; have HB8 := Aside0.mk hb8; clear hn8 hb8 hg8))
         go_roundg (ns.length - (k + 1) + 1)
         case measure => omega
         case rel => exact ⟨k + 1, by omega, by omega, by go_num, HB8, ⟨by rw [HTK.out]; exact HN8.out⟩⟩
     · obtain rfl : k = ns.length := by omega
       rw [List.take_length] at hys
       have HYS := Aside0.mk hys
       clear hys hl3
       go_wp2
       go_ret
       exact ⟨_, rfl, by rw [HED.out, HYS.out]; exact Kd.N_lower HV.out HB3.out.size, below_step HB3.out HB4.out⟩
end Go.Proofs.YteinkjhimceljaaGreatDoor.J
