/- flat's tree, walked. -/
import Derived.Test.YteinkjhimceljaaGreatDoorT39
import Derived.Test.YteinkjhimceljaaGreatDoorT20
import Derived.Test.YteinkjhimceljaaGreatDoorT27
namespace Go.Proofs.YteinkjhimceljaaGreatDoor.J
open Go Go.RowKit Go.Shelf Go.Proofs.YteinkjhimceljaaGreatDoorW.PrintWords Go.Proofs.YteinkjhimceljaaGreatDoorW.PrintLast Go.Proofs.YteinkjhimceljaaGreatDoorW.PrintMore
set_option linter.unusedVariables false
set_option linter.unusedSimpArgs false
def AskIs (W : World) (ma cnt : Nat) (F : ByteArray → Option Value) (a : ByteArray → Bool) : Prop := MapIs W ma cnt F ∧ ∀ s, (F s).getD (.bool false) = .bool (a s)
theorem AskIs.below {W W1 : World} {ma cnt : Nat} {F : ByteArray → Option Value} {a : ByteArray → Bool} (h : AskIs W ma cnt F a) (hb : Below W.heap.size W W1) : AskIs W1 ma cnt F a := ⟨h.1.below hb, h.2⟩
theorem ask_put {F : ByteArray → Option Value} {a : ByteArray → Bool} (h : ∀ s, (F s).getD (.bool false) = .bool (a s)) (n : ByteArray) : ∀ s, (setF F n (.bool true) s).getD (.bool false) = .bool (setB a n s) := by
 intro s
 by_cases e : s = n
 · subst e
   rw [setF_same, setB_same]
   rfl
 · rw [setF_other F _ e, setB_other a e]
   exact h s
theorem edges_le (root : Bool) (m : S27) (rules : List S78) : (edgesL root m rules).length ≤ m.f2.length := by
 unfold edgesL
 rw [List.length_map, sortN_len]
 exact names_len root
theorem zero_boolv (w : World) : (zeroValue 4).run Tryz.prog w = .ok (.bool false) w := by kernel_rfl
theorem info_deps : (Tryz.prog.info? 75).map (fun i => (i.zero, i.size, i.bytes)) = some (some (.agg #[.int .i64 0, .string ⟨#[]⟩, .slice none 0 0]), k75.sz, 48) := by kernel_rfl
theorem getD_in {α : Type} {l : List α} {i : Nat} {z : α} (h : i < l.length) : l.getD i z = l[i] := by rw [List.getD_eq_getElem?_getD, List.getElem?_eq_getElem h]; rfl
theorem getD_out {α : Type} {l : List α} {i : Nat} {z : α} (h : l.length ≤ i) : l.getD i z = z := by rw [List.getD_eq_getElem?_getD, List.getElem?_eq_none h]; rfl
theorem map_look_g {ops : Array Oper} {rest : List Oper} {o : Oper} {a : Act} {Q : Exit → Act → World → Prop} {w : World} {b n : Nat} {F : ByteArray → Option Value} (hw : Region.wanted o (yielded ops a.tmps) = true) (m x : Operand) (t e : TypeId) (hop : o.op = Op.lookup t m x false) (ht : Tryz.prog.underlying t = some (.map 9 e)) {z : Value} (hz : (zeroValue e).run Tryz.prog w = .ok z w)
 (s : ByteArray) (hm : a.eval m = .map (some b)) (hx : a.eval x = .string s) (h : MapIs w b n F) (hs : s.size ≤ 1000000000)
 (hK : wpList Tryz.prog ops Q rest (a.put o.dst ((F s).getD z)) w) : wpList Tryz.prog ops Q (o :: rest) a w := by
 have hrun := map_run h t e ht hz s hs
 refine wpList_step fun K hK2 => ?_
 rw [if_pos hw]
 unfold Oper.wp
 simp [execOp, hop, hm, hx, hrun, Result.andThen]
 exact hK2 _ _ hK
theorem more_ok {B : Brd} (hB : BOk B) {rules : List S78} (hu : ∀ r ∈ rules, UOk r) (model : List Bool) (n : ByteArray) : ∀ d ∈ moreT B rules model n, DOk d := by
 intro d hd
 unfold moreT at hd
 obtain ⟨v, hv, hd⟩ := List.mem_flatMap.1 hd
 have h1 := hB.vars n v (List.mem_filter.1 hv).1
 unfold depsV at hd
 have hi : (v - 1).toNat < B.l.length := by omega
 have e : B.l.getD (v - 1).toNat z27 = B.l[(v - 1).toNat] := getD_in hi
 rw [e] at hd
 exact edges_ok (hB.each _ (List.getElem_mem hi)).deps hu d hd
theorem deps_len {B : Brd} (hB : BOk B) {rules : List S78} (v : Int) : (depsV B rules v).length ≤ 1000 := by
 unfold depsV
 refine Nat.le_trans (edges_le false _ rules) ?_
 by_cases hi : (v - 1).toNat < B.l.length
 · have e : B.l.getD (v - 1).toNat z27 = B.l[(v - 1).toNat] := getD_in hi
   rw [e]
   exact (hB.each _ (List.getElem_mem hi)).dlen
 · have e : B.l.getD (v - 1).toNat z27 = z27 := getD_out (Nat.le_of_not_lt hi)
   rw [e]
   exact Nat.zero_le _
set_option maxRecDepth 100000 in
set_option maxHeartbeats 32000000 in
theorem tree_walk {okx : Nat → Prop} {base0 b mb : Nat} {r : S27} {A5 : Option Addr} {c5 : Nat} {A6 : Option Addr} {c6 : Nat} {vn : Value} {ns : List ByteArray} {vl : Value} {FV : ByteArray → Option Value} {cnt : Nat} {B : Brd} (hB : BOk B) (hr : MOk r) (hT : TOk B ns r.f3) (hns : ns.length ≤ 100) (Am : Option Addr) (cm : Nat) (model : List Bool) (hml : model.length = B.l.length)
 (w : World) (HGL : Glob w) (hP : LayS okx base0 b mb r A5 c5 A6 c6 vn ns w vl FV cnt B) (hR : ManF w okx A5 c5 A6 c6 r) (hM : Kd.C Kd.bool w Am model.length model) :
 Calls Tryz.prog 21 #[.pointer (some ⟨b, 0, none⟩), .slice Am model.length cm] w fun e w' => ∃ a v, EndT B r model a ∧ e = .returned v ∧ Kd.R k62 62 w' w.heap.size (fun _ => True) v (rootP :: placesT B.l model a) ∧ Below w.heap.size w w' := by
 obtain ⟨Al, cl, rfl⟩ := Kd.N_slice (hP.l.toN hP.hx)
 have HP := Aside0.mk hP
 have HBO := Aside0.mk hB
 have HTO := Aside0.mk hT
 have HRM := Aside0.mk hr
 have HML := Aside0.mk hml
 have HLS := Aside0.mk (fun W (h : Below w.heap.size w W) => hP.below h)
 have HLP := Aside0.mk (show ∀ k, okx k → k < w.heap.size from fun k hk => Nat.lt_of_lt_of_le (hP.hx k hk) (Nat.le_trans hP.bb (Nat.le_of_lt (blk_lt2 hP.blk))))
 have HOF := Aside0.mk (fun W (h : Below w.heap.size w W) => of_walk r A5 c5 A6 c6 A6 c6 r.f3 true hr.deps hr.dlen hr.rlen hr.rules W okx (fun k hk => Nat.lt_of_lt_of_le (HLP.out k hk) h.size) (Kd.F_below hR.dr h) (Kd.F_below hR.rr h))
 have HOM := Aside0.mk (fun (m : S27) (hm : MOk m) (B5 : Option Addr) (d5 : Nat) (B6 : Option Addr) (d6 : Nat) (hF : ManF w okx B5 d5 B6 d6 m) W (h : Below w.heap.size w W) => of_walk m B5 d5 B6 d6 A6 c6 r.f3 false hm.deps hm.dlen hr.rlen hr.rules W okx (fun k hk => Nat.lt_of_lt_of_le (HLP.out k hk) h.size) (Kd.F_below hF.dr h) (Kd.F_below hR.rr h))
 have HMD := Aside0.mk (fun W (h : Below w.heap.size w W) => Kd.C_below hM h)
 have HEO := Aside0.mk (edges_ok (root := true) (m := r) (rules := r.f3) hr.deps hr.rules)
 have HEL := Aside0.mk (Nat.le_trans (edges_le true r r.f3) hr.dlen)
 have HMU := Aside0.mk (show muT ns (startT r) ≤ 200000000 by
  have h1 := rest_len ns (startT r).asked
  have h2 : (startT r).wait.length ≤ 1000 := HEL.out
  unfold muT
  omega)
 have hmm := @run_makeMap Tryz.prog
 have HA0 := Aside0.mk (show AskIs (w.alloc (.map #[] 0)) w.heap.size 0 (fun _ => none) (fun _ => false) from ⟨MapIs.made w, fun s => rfl⟩)
 have HB0 := Aside0.mk (below_alloc (Below.refl w.heap.size w) (.map #[] 0))
 have HZ0 := Aside0.mk (World.size_alloc w (.map #[] 0))
 clear hB hr hT hml hP hR hM
 go_enter Tryz.func21, Tryz.ntmps21
 go_upto_region 2 with (fail)
 obtain ⟨W0, hW0⟩ : ∃ W0, w.alloc (.map #[] 0) = W0 := ⟨_, rfl⟩
 rw [hW0] at HA0 HB0 HZ0 ⊢
 clear hW0
 have HS := Aside0.mk (fun W (h : Below w.heap.size w W) => (⟨(blk_cell (HLS.out W h).blk 0).trans rfl, (blk_cell (HLS.out W h).blk 1).trans rfl, (blk_cell (HLS.out W h).blk 2).trans rfl, (blk_cell (HLS.out W h).blk 3).trans rfl, (blk_cell (HLS.out W h).blk 4).trans rfl, (blk_cell (HLS.out W h).blk 5).trans rfl, (blk_cell (HLS.out W h).blk 6).trans rfl⟩ : W.cell? ⟨b, 0, none⟩ = some (.string r.f0) ∧ W.cell? ⟨b, 1, none⟩ = some (.int .i64 r.f1.f0) ∧ W.cell? ⟨b, 2, none⟩ = some (.int .i64 r.f1.f1) ∧ W.cell? ⟨b, 3, none⟩ = some (.int .i64 r.f1.f2) ∧ W.cell? ⟨b, 4, none⟩ = some (.string r.f1.f3) ∧ W.cell? ⟨b, 5, none⟩ = some (.slice A5 r.f2.length c5) ∧ W.cell? ⟨b, 6, none⟩ = some (.slice A6 r.f3.length c6)))
 have HB1 := Aside0.mk (below_drew HB0.out)
 have HA1 := Aside0.mk (HA0.out.below (below_drew (Below.refl _ _)))
 have HZ1 := Aside0.mk (show w.heap.size + 1 ≤ W0.drew.heap.size by rw [World.size_drew, HZ0.out]; exact Nat.le_refl _)
 refine start_ (n := 11) (S := fun w' => w'.cell? ⟨b, 0, none⟩ = some (.string r.f0) ∧ w'.cell? ⟨b, 1, none⟩ = some (.int .i64 r.f1.f0) ∧ w'.cell? ⟨b, 2, none⟩ = some (.int .i64 r.f1.f1) ∧ w'.cell? ⟨b, 3, none⟩ = some (.int .i64 r.f1.f2) ∧ w'.cell? ⟨b, 4, none⟩ = some (.string r.f1.f3) ∧ w'.cell? ⟨b, 5, none⟩ = some (.slice A5 r.f2.length c5) ∧ w'.cell? ⟨b, 6, none⟩ = some (.slice A6 r.f3.length c6)) (ds := []) (bts 11 0) (by kernel_rfl) rfl (by kernel_rfl) (HS.out _ HB1.out) (fun hHeld => ?_)
 generalize W0.drew = W1 at HB1 HA1 HZ1 hHeld ⊢
 refine pure_ (i := 0) (N := some 14) (v := ?_) (a' := ?_) (bts 11 1) rfl rfl (by kernel_rfl) (fun _ _ _ h => h) (Or.inl ⟨by rfl, ?_⟩) ?_ ?_
 rotate_left
 · intro w'
   go_simp
   with_reducible rfl
 rotate_left
 · simp only [Act.put, List.setIfInBounds_toArray, List.set_cons_zero, List.set_cons_succ, i64_w, i32_w]
   rfl
 refine pure_ (i := 1) (N := some 15) (v := ?_) (a' := ?_) (bts 11 3) rfl rfl (by kernel_rfl) (fun _ _ _ h => h) (Or.inl ⟨by rfl, ?_⟩) ?_ ?_
 rotate_left
 · intro w'
   go_simp
   with_reducible rfl
 rotate_left
 · simp only [Act.put, List.setIfInBounds_toArray, List.set_cons_zero, List.set_cons_succ, i64_w, i32_w]
   rfl
 refine pure_ (i := 2) (N := some 16) (v := ?_) (a' := ?_) (bts 11 7) rfl rfl (by kernel_rfl) (fun _ _ _ h => h) (Or.inl ⟨by rfl, ?_⟩) ?_ ?_
 rotate_left
 · intro w'
   go_simp
   with_reducible rfl
 rotate_left
 · simp only [Act.put, List.setIfInBounds_toArray, List.set_cons_zero, List.set_cons_succ, i64_w, i32_w]
   rfl
 refine take_ (i := 3) (N := some 17) (v := ?_) (a' := ?_) (bts 11 15) rfl rfl (by kernel_rfl) (fun _ _ _ h => h) (Or.inl ⟨by rfl, ?_⟩) hHeld ?_ ?_
 rotate_left
 · intro w'
   rintro ⟨s0, s1, s2, s3, s4, s5, s6⟩
   go_simp
   with_reducible rfl
 rotate_left
 · simp only [Act.put, List.setIfInBounds_toArray, List.set_cons_zero, List.set_cons_succ, i64_w, i32_w]
   rfl
 refine pure_ (i := 4) (N := some 18) (v := ?_) (a' := ?_) (bts 11 31) rfl rfl (by kernel_rfl) (fun _ _ _ h => h) (Or.inl ⟨by rfl, ?_⟩) ?_ ?_
 rotate_left
 · intro w'
   go_simp
   with_reducible rfl
 rotate_left
 · simp only [Act.put, List.setIfInBounds_toArray, List.set_cons_zero, List.set_cons_succ, i64_w, i32_w]
   rfl
 refine pure_ (i := 5) (N := some 19) (v := ?_) (a' := ?_) (bts 11 63) rfl rfl (by kernel_rfl) (fun _ _ _ h => h) (Or.inl ⟨by rfl, ?_⟩) ?_ ?_
 rotate_left
 · intro w'
   go_simp
   with_reducible rfl
 rotate_left
 · simp only [Act.put, List.setIfInBounds_toArray, List.set_cons_zero, List.set_cons_succ, i64_w, i32_w]
   rfl
 refine pure_ (i := 6) (N := some 20) (v := ?_) (a' := ?_) (bts 11 127) rfl rfl (by kernel_rfl) (fun _ _ _ h => h) (Or.inl ⟨by rfl, ?_⟩) ?_ ?_
 rotate_left
 · intro w'
   go_simp
   with_reducible rfl
 rotate_left
 · simp only [Act.put, List.setIfInBounds_toArray, List.set_cons_zero, List.set_cons_succ, i64_w, i32_w]
   rfl
 refine pure_ (i := 7) (N := some 21) (v := ?_) (a' := ?_) (bts 11 255) rfl rfl (by kernel_rfl) (fun _ _ _ h => h) (Or.inl ⟨by rfl, ?_⟩) ?_ ?_
 rotate_left
 · intro w'
   go_simp
   with_reducible rfl
 rotate_left
 · simp only [Act.put, List.setIfInBounds_toArray, List.set_cons_zero, List.set_cons_succ, i64_w, i32_w]
   rfl
 refine take_ (i := 8) (N := some 22) (v := ?_) (a' := ?_) (bts 11 511) rfl rfl (by kernel_rfl) (fun _ _ _ h => h) (Or.inl ⟨by rfl, ?_⟩) hHeld ?_ ?_
 rotate_left
 · intro w'
   rintro ⟨s0, s1, s2, s3, s4, s5, s6⟩
   go_simp
   with_reducible rfl
 rotate_left
 · simp only [Act.put, List.setIfInBounds_toArray, List.set_cons_zero, List.set_cons_succ, i64_w, i32_w]
   rfl
 refine one_ (i := 9) (N := some 23) (bts 11 1023) rfl rfl (by kernel_rfl) (by decide) (fun K hK => ?_)
 refine goes_ Tryz.func31 (by kernel_rfl) rfl #[.agg #[.string r.f0, .int .i64 r.f1.f0, .int .i64 r.f1.f1, .int .i64 r.f1.f2, .string r.f1.f3, .slice A5 r.f2.length c5, .slice A6 r.f3.length c6], .slice A6 r.f3.length c6, .bool true] (by rfl) rfl rfl (by (try simp only [List.map_toArray, List.map_cons, List.map_nil]); first | done | rfl) ?_
 refine (HOF.out _ HB1.out).mono ?_
 rintro e W5 ⟨v5, rfl, hn5, hb5⟩
 have HB5 := Aside0.mk (below_step HB1.out hb5)
 have HA5 := Aside0.mk (HA1.out.below hb5)
 have HQ5 := Aside0.mk (((QN.of hn5).mono (ok' := fun k => k ≠ w.heap.size) (fun k hk => by have h1 := HZ1.out; rcases hk with hk | hk; exact Nat.ne_of_lt (HLP.out k hk); omega)).lower HZ1.out)
 clear hb5 hn5 HB1 HA1 HZ1
 refine ⟨_, rfl, ?_⟩
 refine hK.out _ _ (HS.out _ HB5.out) (fun hHeld => ?_)
 clear hK K
 refine norm_ (a' := ?_) ?_ ?_
 rotate_left
 · show Act.put _ (some 23) _ = _
   simp only [Act.put, List.setIfInBounds_toArray, List.set_cons_zero, List.set_cons_succ, i64_w, i32_w]
   rfl
 refine pure_ (i := 10) (N := some 6) (v := ?_) (a' := ?_) (bts 11 2047) rfl rfl (by kernel_rfl) (fun _ _ _ h => h) (Or.inl ⟨by rfl, ?_⟩) ?_ ?_
 rotate_left
 · intro w'
   go_simp
   with_reducible rfl
 rotate_left
 · simp only [Act.put, List.setIfInBounds_toArray, List.set_cons_zero, List.set_cons_succ, i64_w, i32_w]
   rfl
 refine done_ (by kernel_rfl) ?_
 clear HS HOF hHeld
 clear HA0 HB0
 have HES := Aside0.mk (show startT r = ⟨fun _ => false, edgesL true r r.f3⟩ from rfl)
 generalize edgesL true r r.f3 = es at HQ5 HEO HEL HES ⊢
 go_wp2
 go_loopg [6] (muT ns (startT r) + 1) (fun gg s6 wq => ∃ (a : ByteArray → Bool) (l : List S75) (F : ByteArray → Option Value) (n : Nat), muT ns ⟨a, l⟩ < gg ∧ Aside0 (∃ k, itT B r.f3 model (startT r) k = ⟨a, l⟩) ∧ Aside0 (QN k75 75 wq (w.heap.size + 1) (fun k => k ≠ w.heap.size) s6 (l)) ∧ Aside0 (AskIs wq w.heap.size n F a) ∧ Aside0 (n + muT ns ⟨a, l⟩ ≤ 200000000) ∧ Aside0 (∀ d ∈ l, DOk d) ∧ Aside0 (Below w.heap.size w wq))
 case atStart => exact ⟨_, _, _, 0, by rw [HES.out]; omega, ⟨0, HES.out⟩, HQ5, HA5, ⟨by have := HMU.out; rw [HES.out] at this; omega⟩, HEO, HB5⟩
 case round =>
  clear HQ5 HA5 HB5
  obtain ⟨a, l, F, nn, hmu, HIT, HQ, HAS, HCM, HDO, HB⟩ := hrel
  cases l with
  | nil =>
   obtain ⟨A9, c9, rfl, _⟩ := HQ.out.slice
   clear HQ HDO hmu HCM
   go_wp2_with (go_at_call 44; refine (new_walk _).mono ?_; rintro e w6 ⟨v6, rfl, hr6, hb6⟩; have HB6 := Aside0.mk (below_step HB.out hb6); have HA6 := Aside0.mk (HAS.out.below hb6); have HR6 := Aside0.mk (Kd.R_lower hr6 HB.out.size); have y7 := blk_at (HLS.out w6 (below_step HB.out hb6)).blk 7 (v := .slice Al B.l.length cl) rfl; clear hb6 hr6 HB HAS)
   clear y7
   go_loopg [10, 79] (B.l.length + 1) (fun gg s10 s79 wq => ∃ i : Nat, i ≤ B.l.length ∧ B.l.length - i < gg ∧ s79 = .int .i64 (i : Int) ∧ Aside0 (Kd.R k62 62 wq w.heap.size (fun _ => True) s10 (rootP :: placesT (B.l.take i) model a)) ∧ Aside0 (AskIs wq w.heap.size nn F a) ∧ Aside0 (Below w.heap.size w wq))
   case atStart => exact ⟨0, Nat.zero_le _, by omega, rfl, HR6, HA6, HB6⟩
   case round =>
    clear HR6 HA6 HB6
    obtain ⟨i, hi1, hig, rfl, HR, HAS, HB⟩ := hrel
    by_cases hlt : i < B.l.length
    · have ia : (i : Int) < (B.l.length : Int) := by omega
      have hbl := HBO.out.len
      obtain ⟨gl, cl', e1, _, _, _⟩ := Kd.N_form (HP.out.l.toN HP.out.hx) (Nat.lt_of_le_of_lt (Nat.zero_le i) hlt)
      injection e1 with e1 _ e2
      subst e1
      subst e2
      obtain ⟨B5, d5, B6, d6, hcs, _, _⟩ := man_atN ((HLS.out wr HB.out).l.toN HP.out.hx) i hlt hlt
      obtain ⟨m0, m1, m2, m3, m4, m5, m6⟩ := hcs
      have HMK := Aside0.mk (HBO.out.each _ (List.getElem_mem hlt))
      have HPS := Aside0.mk (place_step B.l model a hlt)
      generalize B.l[i] = m at m0 m1 m2 m3 m4 m5 m6 HMK HPS
      have hil : i < model.length := by rw [HML.out]; exact hlt
      have iml : (i : Int) < (model.length : Int) := by omega
      have ii0 : (0 : Int) ≤ (i : Int) := by omega
      obtain ⟨am, rfl, _⟩ := C_bool_at (HMD.out wr HB.out) i hil
      have HMC := Aside0.mk (fun W (h : Below w.heap.size w W) => (by obtain ⟨am2, e2, h2⟩ := C_bool_at (HMD.out W h) i hil; injection e2 with e2; rw [e2]; exact h2 : W.cell? (am.add i) = some (.bool (model.getD i false))))
      have HSM := Aside0.mk (show m.f0.size ≤ 1000000000 from Nat.le_trans HMK.out.name (by decide))
      have HLN := Aside0.mk (show ((rootP :: placesT (B.l.take i) model a).length + 1) * 64 ≤ 140737488355328 by
       have h1 : (placesT (B.l.take i) model a).length ≤ (B.l.take i).zipIdx.length := by unfold placesT; rw [List.length_map]; exact List.length_filter_le _ _
       rw [List.length_zipIdx, List.length_take] at h1
       rw [List.length_cons]
       omega)
      go_upto_region 18 with (fail)
      have BM := Aside0.mk (blk_new wr (.cells #[.string m.f0, .int .i64 m.f1.f0, .int .i64 m.f1.f1, .int .i64 m.f1.f2, .string m.f1.f3, .slice B5 m.f2.length d5, .slice B6 m.f3.length d6] 27))
      have HB2 := Aside0.mk (below_alloc HB.out (.cells #[.string m.f0, .int .i64 m.f1.f0, .int .i64 m.f1.f1, .int .i64 m.f1.f2, .string m.f1.f3, .slice B5 m.f2.length d5, .slice B6 m.f3.length d6] 27))
      have HA2 := Aside0.mk (HAS.out.below (below_alloc (Below.refl _ _) (.cells #[.string m.f0, .int .i64 m.f1.f0, .int .i64 m.f1.f1, .int .i64 m.f1.f2, .string m.f1.f3, .slice B5 m.f2.length d5, .slice B6 m.f3.length d6] 27)))
      have HR2 := Aside0.mk (Kd.R_below HR.out (below_alloc (Below.refl _ _) (.cells #[.string m.f0, .int .i64 m.f1.f0, .int .i64 m.f1.f1, .int .i64 m.f1.f2, .string m.f1.f3, .slice B5 m.f2.length d5, .slice B6 m.f3.length d6] 27)))
      obtain ⟨W0, hW0⟩ : ∃ W0, wr.alloc (.cells #[.string m.f0, .int .i64 m.f1.f0, .int .i64 m.f1.f1, .int .i64 m.f1.f2, .string m.f1.f3, .slice B5 m.f2.length d5, .slice B6 m.f3.length d6] 27) = W0 := ⟨_, rfl⟩
      rw [hW0] at BM HB2 HA2 HR2 ⊢
      obtain ⟨bm, hbm⟩ : ∃ bm, wr.heap.size = bm := ⟨_, rfl⟩
      rw [hbm] at BM ⊢
      clear hW0 hbm m0 m1 m2 m3 m4 m5 m6 HB HAS HR
      generalize hmv : model.getD i false = mv at HMC HPS
      cases mv with
      | true =>
       have HAM := Aside0.mk (HA2.out.2 m.f0)
       generalize hav : a m.f0 = av at HAM HPS
       cases av with
       | true =>
        have hmc := HMC.out _ HB2.out
        have y0 := blk_at BM.out 0 (v := .string m.f0) rfl
        have y1 := blk_at BM.out 1 (v := .int .i64 m.f1.f0) rfl
        have y2 := blk_at BM.out 2 (v := .int .i64 m.f1.f1) rfl
        have y3 := blk_at BM.out 3 (v := .int .i64 m.f1.f2) rfl
        have y4 := blk_at BM.out 4 (v := .string m.f1.f3) rfl
        have HNM := Aside0.mk (show ∀ v, Kd.R k62 62 W0 w.heap.size (fun _ => True) v (rootP :: placesT (B.l.take i) model a) → some w.heap.size ≠ v.ownBlock from fun v hv e => by
         obtain ⟨es, clock, hm⟩ := HA2.out.1.block
         obtain ⟨cells, hc⟩ := Kd.R_typed hv _ e.symm
         rw [hm] at hc
         cases hc)
        go_wp2_with (first
         | (at_lookup; refine map_look_g (b := w.heap.size) (n := nn) (F := F) (by rfl) (.tmp 89) (.tmp 91) 114 4 rfl Tryz.underlying114 (zero_boolv _) m.f0 rfl rfl HA2.out.1 HSM.out ?_; rw [HAM.out])
         | (at_builtin; refine Kd.R_append k62 (w0 := w) (W := W0) w.heap.size rfl (.tmp 94) (.tmp 100) 30 62 (.agg #[.int .i64 0, .string ⟨#[]⟩, .int .i64 0, .int .i64 0, .int .i64 0, .string ⟨#[]⟩]) 64 rfl Tryz.underlying30 info62 rfl (by decide) (by decide) _ _ (placeOf m) [.int .i64 0, .string m.f0, .int .i64 m.f1.f0, .int .i64 m.f1.f1, .int .i64 m.f1.f2, .string m.f1.f3] (fun _ => True) (fun _ => False) rfl rfl (k62_mkM _ _ _ (placeOf m)) (fun _ h => h.elim) (fun _ _ => trivial) HR2.out HB2.out HB2.out.size HLN.out ?_; intro v5 w5 hr5 hb5 hg5 hat5; have HR5 := Aside0.mk hr5; have HB5 := Aside0.mk hb5; have HA5 := Aside0.mk (show AskIs w5 w.heap.size nn F a from ⟨HA2.out.1.kept hg5 (HNM.out _ HR2.out), HA2.out.2⟩); clear hr5 hb5 hg5 hat5 y0 y1 y2 y3 y4 hmc))
        go_roundg (B.l.length - (i + 1) + 1)
        case measure => omega
        case rel => exact ⟨i + 1, by omega, by omega, by go_num, ⟨by rw [HPS.out]; exact HR5.out⟩, HA5, HB5⟩
       | false =>
        have hmc := HMC.out _ HB2.out
        have y0 := blk_at BM.out 0 (v := .string m.f0) rfl
        go_wp2_with (at_lookup; refine map_look_g (b := w.heap.size) (n := nn) (F := F) (by rfl) (.tmp 89) (.tmp 91) 114 4 rfl Tryz.underlying114 (zero_boolv _) m.f0 rfl rfl HA2.out.1 HSM.out ?_; rw [HAM.out])
        go_roundg (B.l.length - (i + 1) + 1)
        case measure => omega
        case rel => exact ⟨i + 1, by omega, by omega, by go_num, ⟨by rw [HPS.out]; simpa using HR2.out⟩, HA2, HB2⟩
      | false =>
       have hmc := HMC.out _ HB2.out
       go_wp2
       go_roundg (B.l.length - (i + 1) + 1)
       case measure => omega
       case rel => exact ⟨i + 1, by omega, by omega, by go_num, ⟨by rw [HPS.out]; simpa using HR2.out⟩, HA2, HB2⟩
    · obtain rfl : i = B.l.length := by omega
      rw [List.take_length] at HR
      go_wp2
      go_ret
      exact ⟨a, _, HIT.out, rfl, HR.out, HB.out⟩
  | cons d t =>
   obtain ⟨A9, c9, rfl, hc9⟩ := HQ.out.slice
   obtain ⟨g, o, cs, rfl, _, _, hcell, hfk⟩ := HQ.out.first
   obtain ⟨A2, c2, rfl, l2, g2⟩ := k75_open (Kd.FK_now hfk)
   have m0 := hcell 0 _ rfl
   have m1 := hcell 1 _ rfl
   have m2 := hcell 2 _ rfl
   rw [Nat.add_zero] at m0
   have HDK := Aside0.mk (HDO.out d List.mem_cons_self)
   have HDT := Aside0.mk (fun x hx => HDO.out x (List.mem_cons_of_mem d hx))
   have HSZ := Aside0.mk (show d.f1.size ≤ 1000000000 from Nat.le_trans HDK.out.name (by decide))
   have hlen := HQ.out.max
   rw [List.length_cons] at hc9 hlen
   have hlt : (0 : Int) < ((t.length + 1 : Nat) : Int) := by omega
   simp only [List.length_cons]
   clear hcell hfk g2 l2 HDO
   go_upto_region 5 with (fail)
   have HBD := Aside0.mk (HAS.out.1.lt)
   have BD4 := Aside0.mk (blk_new wr (.cells #[.int .i64 d.f0, .string d.f1, .slice A2 d.f2.f0.length c2] 75))
   have HB4 := Aside0.mk (below_alloc HB.out (.cells #[.int .i64 d.f0, .string d.f1, .slice A2 d.f2.f0.length c2] 75))
   have HA4 := Aside0.mk (HAS.out.below (below_alloc (Below.refl _ _) (.cells #[.int .i64 d.f0, .string d.f1, .slice A2 d.f2.f0.length c2] 75)))
   have HQ4 := Aside0.mk (HQ.out.below (below_alloc (Below.refl _ _) (.cells #[.int .i64 d.f0, .string d.f1, .slice A2 d.f2.f0.length c2] 75)))
   obtain ⟨W4, hW4⟩ : ∃ W4, wr.alloc (.cells #[.int .i64 d.f0, .string d.f1, .slice A2 d.f2.f0.length c2] 75) = W4 := ⟨_, rfl⟩
   rw [hW4] at BD4 HB4 HA4 HQ4 ⊢
   obtain ⟨bd, hbd⟩ : ∃ bd, wr.heap.size = bd := ⟨_, rfl⟩
   rw [hbd] at BD4 HBD ⊢
   clear hW4 hbd m0 m1 m2 HB HAS HQ
   go_cut [6] (fun s6 wc => Aside0 (QN k75 75 wc (w.heap.size + 1) (fun k => k ≠ w.heap.size) s6 (t)) ∧ wc = W4)
   case first =>
    have HD1 := Aside0.mk HQ4.out.drop1
    rw [show 1 * k75.sz = 3 from rfl] at HD1
    by_cases hc : c9 = 1
    · subst hc
      obtain rfl : t = [] := List.eq_nil_of_length_eq_zero (by omega)
      simp only [if_true, Nat.sub_self, List.length_nil] at HD1
      go_wp2
      go_meet
      case rel => exact ⟨HD1, rfl⟩
    · simp only [if_neg hc, Option.map_some, add_at] at HD1
      go_wp2
      go_meet
      case rel => exact ⟨HD1, rfl⟩
   case rest =>
    obtain ⟨HQ5, hwc⟩ := hcut
    subst hwc
    clear HQ4 hlen hc9 hlt
    have y1 := blk_at BD4.out 1 (v := .string d.f1) rfl
    cases hask : a d.f1 with
    | true =>
     have HK := Aside0.mk hask
     clear hask
     go_wp2_with (at_lookup; refine map_look (b := w.heap.size) (n := nn) (F := F) rfl (.tmp 32) (.tmp 34) 114 4 rfl Tryz.underlying114 (zero_boolv _) d.f1 rfl rfl HA4.out.1 HSZ.out ?_; rw [HA4.out.2, HK.out])
     have hmq := mu_asked (ns := ns) (a := a) (d := d) (r := t)
     have hcm := HCM.out
     go_roundg (muT ns ⟨a, t⟩ + 1)
     case measure => omega
     case rel => exact ⟨a, t, F, nn, by omega, ⟨by obtain ⟨k, hk⟩ := HIT.out; exact ⟨k + 1, by show stepT _ _ _ (itT _ _ _ _ k) = _; rw [hk]; exact stepT_asked HK.out⟩⟩, HQ5, HA4, ⟨by omega⟩, HDT, HB4⟩
    | false =>
     have HK := Aside0.mk hask
     have HNN := Aside0.mk (show nn ≤ 1000000000 by have := HCM.out; omega)
     clear hask
     go_upto_region 8 with (first
      | (at_lookup; refine map_look (b := w.heap.size) (n := nn) (F := F) rfl (.tmp 32) (.tmp 34) 114 4 rfl Tryz.underlying114 (zero_boolv _) d.f1 rfl rfl HA4.out.1 HSZ.out ?_; rw [HA4.out.2, HK.out])
      | (at_mapUpdate; refine map_put (b := w.heap.size) (n := nn) (F := F) rfl (.tmp 36) (.tmp 38) (.const (.bool true)) 114 4 rfl Tryz.underlying114 d.f1 (.bool true) rfl rfl rfl HA4.out.1 HSZ.out HNN.out ?_; intro w7 hm7 hg7; have HA7 := Aside0.mk (show AskIs w7 w.heap.size (nn + 1) (setF F d.f1 (.bool true)) (setB a d.f1) from ⟨hm7, ask_put HA4.out.2 d.f1⟩); have HB7 := Aside0.mk (pw_below_grown HB4.out (some w.heap.size) HB4.out.size hg7 (fun k hk => by injection hk with hk; omega)); have HQ7 := Aside0.mk (HQ5.out.grown hg7 (fun k hk => by injection hk with hk; subst hk; exact ⟨fun h => h rfl, fun e => by have := (HQ5.out.typed _ e.symm).1; omega⟩)); have BD7 := Aside0.mk ((hg7.block bd (blk_lt2 BD4.out) (fun e => by injection e with e; have := HBD.out; omega)).trans BD4.out); clear hm7 hg7 y1))
     clear HB4 HA4 HQ5 BD4
     obtain ⟨A8, c8, hA8, _, hvc⟩ := var_get ((HLS.out w (Below.refl _ _)).v d.f1)
     have HVC := Aside0.mk (fun W (h : Below w.heap.size w W) => Kd.C_below hvc h)
     have HGD := Aside0.mk hA8
     clear hvc hA8
     have HB8 := Aside0.mk (below_drew HB7.out)
     have HA8 := Aside0.mk (HA7.out.below (below_drew (Below.refl _ _)))
     have HQ8 := Aside0.mk (HQ7.out.below (below_drew (Below.refl _ _)))
     have BD8 := Aside0.mk (blk_drew BD7.out)
     refine start_ (n := 9) (S := fun w' => w'.cell? ⟨b, 9, none⟩ = some (.map (some mb)) ∧ w'.cell? ⟨bd, 1, none⟩ = some (.string d.f1) ∧ MapIs w' mb cnt FV) (ds := []) (bts 9 0) (by kernel_rfl) rfl (by kernel_rfl) ⟨(blk_cell (HLS.out _ HB8.out).blk 9).trans rfl, (blk_cell BD8.out 1).trans rfl, (HLS.out _ HB8.out).m⟩ (fun hHeld => ?_)
     generalize w7.drew = W8 at HB8 HA8 HQ8 BD8 hHeld ⊢
     refine pure_ (i := 0) (N := some 39) (v := ?_) (a' := ?_) (bts 9 1) rfl rfl (by kernel_rfl) (fun _ _ _ h => h) (Or.inl ⟨by rfl, ?_⟩) ?_ ?_
     rotate_left
     · intro w'
       go_simp
       with_reducible rfl
     rotate_left
     · simp only [Act.put, List.setIfInBounds_toArray, List.set_cons_zero, List.set_cons_succ, i64_w, i32_w]
       rfl
     refine pure_ (i := 1) (N := some 40) (v := ?_) (a' := ?_) (bts 9 3) rfl rfl (by kernel_rfl) (fun _ _ _ h => h) (Or.inl ⟨by rfl, ?_⟩) ?_ ?_
     rotate_left
     · intro w'
       go_simp
       with_reducible rfl
     rotate_left
     · simp only [Act.put, List.setIfInBounds_toArray, List.set_cons_zero, List.set_cons_succ, i64_w, i32_w]
       rfl
     refine pure_ (i := 2) (N := some 41) (v := ?_) (a' := ?_) (bts 9 7) rfl rfl (by kernel_rfl) (fun _ _ _ h => h) (Or.inl ⟨by rfl, ?_⟩) ?_ ?_
     rotate_left
     · intro w'
       go_simp
       with_reducible rfl
     rotate_left
     · simp only [Act.put, List.setIfInBounds_toArray, List.set_cons_zero, List.set_cons_succ, i64_w, i32_w]
       rfl
     refine take_ (i := 3) (N := some 42) (v := ?_) (a' := ?_) (bts 9 15) rfl rfl (by kernel_rfl) (fun _ _ _ h => h) (Or.inl ⟨by rfl, ?_⟩) hHeld ?_ ?_
     rotate_left
     · intro w'
       rintro ⟨s0, s1, s2⟩
       go_simp
       with_reducible rfl
     rotate_left
     · simp only [Act.put, List.setIfInBounds_toArray, List.set_cons_zero, List.set_cons_succ, i64_w, i32_w]
       rfl
     refine pure_ (i := 4) (N := some 43) (v := ?_) (a' := ?_) (bts 9 31) rfl rfl (by kernel_rfl) (fun _ _ _ h => h) (Or.inl ⟨by rfl, ?_⟩) ?_ ?_
     rotate_left
     · intro w'
       go_simp
       with_reducible rfl
     rotate_left
     · simp only [Act.put, List.setIfInBounds_toArray, List.set_cons_zero, List.set_cons_succ, i64_w, i32_w]
       rfl
     refine take_ (i := 5) (N := some 44) (v := ?_) (a' := ?_) (bts 9 63) rfl rfl (by kernel_rfl) (fun _ _ _ h => h) (Or.inl ⟨by rfl, ?_⟩) hHeld ?_ ?_
     rotate_left
     · intro w'
       rintro ⟨s0, s1, s2⟩
       go_simp
       with_reducible rfl
     rotate_left
     · simp only [Act.put, List.setIfInBounds_toArray, List.set_cons_zero, List.set_cons_succ, i64_w, i32_w]
       rfl
     refine take_ (i := 6) (N := some 45) (v := .slice A8 (B.vars d.f1).length c8) (a' := ?_) (bts 9 127) rfl rfl (by kernel_rfl) (fun _ _ _ h => h) (Or.inl ⟨by rfl, ?_⟩) hHeld ?_ ?_
     · intro w'
       rintro ⟨s0, s1, s2⟩
       have hrun := map_run s2 85 56 Tryz.underlying85 (zero_ints w') d.f1 HSZ.out
       rw [HGD.out] at hrun
       go_simp
     rotate_left
     · simp only [Act.put, List.setIfInBounds_toArray, List.set_cons_zero, List.set_cons_succ, i64_w, i32_w]
       rfl
     refine pure_ (i := 7) (N := some 46) (v := ?_) (a' := ?_) (bts 9 255) rfl rfl (by kernel_rfl) (fun _ _ _ h => h) (Or.inl ⟨by rfl, ?_⟩) ?_ ?_
     rotate_left
     · intro w'
       go_simp
       with_reducible rfl
     rotate_left
     · simp only [Act.put, List.setIfInBounds_toArray, List.set_cons_zero, List.set_cons_succ, i64_w, i32_w]
       rfl
     refine pure_ (i := 8) (N := some 47) (v := ?_) (a' := ?_) (bts 9 511) rfl rfl (by kernel_rfl) (fun _ _ _ h => h) (Or.inl ⟨by rfl, ?_⟩) ?_ ?_
     rotate_left
     · intro w'
       go_simp
       with_reducible rfl
     rotate_left
     · simp only [Act.put, List.setIfInBounds_toArray, List.set_cons_zero, List.set_cons_succ, i64_w, i32_w]
       rfl
     refine done_ (by kernel_rfl) ?_
     clear hHeld BD8
     clear HB7 HA7 HQ7 BD7
     have HVL := Aside0.mk (hbo_vars HBO.out d.f1)
     have hlv := HBO.out.vlen d.f1
     have hbl := HBO.out.len
     have HMT := Aside0.mk (show moreT B r.f3 model d.f1 = ((B.vars d.f1).filter (fun v => model.getD (v - 1).toNat false)).flatMap (depsV B r.f3) from rfl)
     have hmn := mu_new (model := model) HTO.out (d := d) (r := t) HK.out
     have HMN := Aside0.mk hmn
     have HMO := Aside0.mk (more_ok HBO.out HRM.out.rules model d.f1)
     have HST := Aside0.mk (stepT_new (B := B) (rules := r.f3) (model := model) (r := t) HK.out)
     have HVN := Aside0.mk (HTO.out.vars d.f1)
     have HTL := Aside0.mk (show t.length ≤ 200000000 by have := HCM.out; unfold muT at this; simp only [List.length_cons] at this; omega)
     generalize moreT B r.f3 model d.f1 = mt at HMT HMN HMO HST
     generalize B.vars d.f1 = l at HVC HVL hlv HMT HVN ⊢
     generalize setF F d.f1 (.bool true) = F2 at HA8
     generalize setB a d.f1 = a2 at HA8 HMN HST
     clear hmn
     go_wp2
     go_loopg [6, 47] (l.length + 1) (fun gg s6 s47 wq => ∃ j : Nat, j ≤ l.length ∧ l.length - j < gg ∧ s47 = .int .i64 (j : Int) ∧ Aside0 (QN k75 75 wq (w.heap.size + 1) (fun k => k ≠ w.heap.size) s6 (t ++ ((l.take j).filter (fun v => model.getD (v - 1).toNat false)).flatMap (depsV B r.f3))) ∧ Aside0 (AskIs wq w.heap.size (nn + 1) F2 a2) ∧ Aside0 (Below w.heap.size w wq))
     case atStart => exact ⟨0, Nat.zero_le _, by omega, rfl, ⟨by rw [List.take_zero, List.filter_nil, List.flatMap_nil, List.append_nil]; exact HQ8.out⟩, HA8, HB8⟩
     case round =>
      clear HQ8 HA8 HB8
      obtain ⟨j, hj1, hjg, rfl, HQ, HAS, HB⟩ := hrel
      by_cases hlt : j < l.length
      · obtain ⟨ad, rfl, n0⟩ := C_int_at (HVC.out wr HB.out) j hlt
        have ja : (j : Int) < (l.length : Int) := by omega
        have hv := HVL.out _ (List.getElem_mem hlt)
        have HTK := Aside0.mk (show ((l.take (j + 1)).filter (fun v => model.getD (v - 1).toNat false)).flatMap (depsV B r.f3) = ((l.take j).filter (fun v => model.getD (v - 1).toNat false)).flatMap (depsV B r.f3) ++ (if model.getD (l[j] - 1).toNat false = true then depsV B r.f3 l[j] else []) by
         rw [List.take_succ_eq_append_getElem hlt, List.filter_append, List.flatMap_append, List.filter_cons]
         split <;> simp)
        have HXL := Aside0.mk (show (t ++ ((l.take j).filter (fun v => model.getD (v - 1).toNat false)).flatMap (depsV B r.f3)).length ≤ 300000000 by
         have h1 := flat_len2 (f := depsV B r.f3) (k := 1000) (l := (l.take j).filter (fun v => model.getD (v - 1).toNat false)) (fun v _ => HTO.out.deps v)
         have h2 : ((l.take j).filter (fun v => model.getD (v - 1).toNat false)).length ≤ (l.take j).length := List.length_filter_le _ _
         rw [List.length_take] at h2
         have h3 := HTL.out
         have h4 := HVN.out
         rw [List.length_append]
         omega)
        generalize l[j] = v at n0 hv HTK
        obtain ⟨i, rfl⟩ : ∃ i : Nat, v = (i : Int) + 1 := ⟨(v - 1).toNat, by omega⟩
        have hi : i < B.l.length := by omega
        rw [show ((i : Int) + 1 - 1).toNat = i by omega] at HTK
        have hii : (i : Int) < (B.l.length : Int) := by omega
        have hi0 : (0 : Int) ≤ (i : Int) := by omega
        have hiw : wrap64 (i : Int) = (i : Int) := (by unfold wrap64; omega)
        have him : (i : Int) < (model.length : Int) := by rw [HML.out]; exact hii
        obtain ⟨am, rfl, x0⟩ := C_bool_at (HMD.out wr HB.out) i (by rw [HML.out]; exact hi)
        generalize model.getD i false = mv at x0 HTK
        cases mv with
        | true =>
         obtain ⟨gl, cl', e1, _, _, _⟩ := Kd.N_form (HP.out.l.toN HP.out.hx) (Nat.lt_of_le_of_lt (Nat.zero_le i) hi)
         injection e1 with e1 _ e2
         subst e1
         subst e2
         obtain ⟨B5, d5, B6, d6, hcs, _, hmf⟩ := man_atN (HP.out.l.toN HP.out.hx) i hi hi
         have HMK := Aside0.mk (HBO.out.each _ (List.getElem_mem hi))
         have HDV := Aside0.mk (show depsV B r.f3 ((i : Int) + 1) = edgesL false B.l[i] r.f3 by unfold depsV; rw [Int.add_sub_cancel, Int.toNat_natCast, getD_in hi])
         have HMF := Aside0.mk (show ManF w okx B5 d5 B6 d6 B.l[i] from hmf.mono (fun k hk => hk.1.resolve_right (fun e => hk.2 (by simpa [Value.ownBlock] using e))))
         generalize B.l[i] = m at hcs HMK HDV HMF
         have HOI := Aside0.mk (HOM.out m HMK.out B5 d5 B6 d6 HMF.out)
         have HEN := Aside0.mk (Nat.le_trans (edges_le false m r.f3) HMK.out.dlen)
         rw [if_pos rfl, HDV.out] at HTK
         have HS := Aside0.mk (fun W (h : Below w.heap.size w W) => (⟨(blk_cell (HLS.out W h).blk 7).trans rfl, (blk_cell (HLS.out W h).blk 6).trans rfl, pw_cell_below h hcs.1, pw_cell_below h hcs.2.1, pw_cell_below h hcs.2.2.1, pw_cell_below h hcs.2.2.2.1, pw_cell_below h hcs.2.2.2.2.1, pw_cell_below h hcs.2.2.2.2.2.1, pw_cell_below h hcs.2.2.2.2.2.2⟩ : W.cell? ⟨b, 7, none⟩ = some (.slice (some ⟨gl, 0, none⟩) B.l.length cl) ∧ W.cell? ⟨b, 6, none⟩ = some (.slice A6 r.f3.length c6) ∧ W.cell? ⟨gl, i * 7, none⟩ = some (.string m.f0) ∧ W.cell? ⟨gl, i * 7 + 1, none⟩ = some (.int .i64 m.f1.f0) ∧ W.cell? ⟨gl, i * 7 + 2, none⟩ = some (.int .i64 m.f1.f1) ∧ W.cell? ⟨gl, i * 7 + 3, none⟩ = some (.int .i64 m.f1.f2) ∧ W.cell? ⟨gl, i * 7 + 4, none⟩ = some (.string m.f1.f3) ∧ W.cell? ⟨gl, i * 7 + 5, none⟩ = some (.slice B5 m.f2.length d5) ∧ W.cell? ⟨gl, i * 7 + 6, none⟩ = some (.slice B6 m.f3.length d6)))
         generalize edgesL false m r.f3 = es2 at HOI HTK HEN
         generalize hws : t ++ ((l.take j).filter (fun v => model.getD (v - 1).toNat false)).flatMap (depsV B r.f3) = ws at HQ HXL
         have HWS := Aside0.mk hws
         clear hws
         clear hcs hmf HDV
         go_upto_region 12 with (fail)
         have HB3 := Aside0.mk (below_drew HB.out)
         have HA3 := Aside0.mk (HAS.out.below (below_drew (Below.refl _ _)))
         have HQ3 := Aside0.mk (HQ.out.below (below_drew (Below.refl _ _)))
         refine start_ (n := 17) (S := fun w' => w'.cell? ⟨b, 7, none⟩ = some (.slice (some ⟨gl, 0, none⟩) B.l.length cl) ∧ w'.cell? ⟨b, 6, none⟩ = some (.slice A6 r.f3.length c6) ∧ w'.cell? ⟨gl, i * 7, none⟩ = some (.string m.f0) ∧ w'.cell? ⟨gl, i * 7 + 1, none⟩ = some (.int .i64 m.f1.f0) ∧ w'.cell? ⟨gl, i * 7 + 2, none⟩ = some (.int .i64 m.f1.f1) ∧ w'.cell? ⟨gl, i * 7 + 3, none⟩ = some (.int .i64 m.f1.f2) ∧ w'.cell? ⟨gl, i * 7 + 4, none⟩ = some (.string m.f1.f3) ∧ w'.cell? ⟨gl, i * 7 + 5, none⟩ = some (.slice B5 m.f2.length d5) ∧ w'.cell? ⟨gl, i * 7 + 6, none⟩ = some (.slice B6 m.f3.length d6)) (ds := []) (bts 17 0) (by kernel_rfl) rfl (by kernel_rfl) (HS.out _ HB3.out) (fun hHeld => ?_)
         generalize wr.drew = W3 at HB3 HA3 HQ3 hHeld ⊢
         clear HB HAS HQ
         refine pure_ (i := 0) (N := some 56) (v := ?_) (a' := ?_) (bts 17 1) rfl rfl (by kernel_rfl) (fun _ _ _ h => h) (Or.inl ⟨by rfl, ?_⟩) ?_ ?_
         rotate_left
         · intro w'
           go_simp
           with_reducible rfl
         rotate_left
         · simp only [Act.put, List.setIfInBounds_toArray, List.set_cons_zero, List.set_cons_succ, i64_w, i32_w]
           rfl
         refine pure_ (i := 1) (N := some 57) (v := ?_) (a' := ?_) (bts 17 3) rfl rfl (by kernel_rfl) (fun _ _ _ h => h) (Or.inl ⟨by rfl, ?_⟩) ?_ ?_
         rotate_left
         · intro w'
           go_simp
           with_reducible rfl
         rotate_left
         · simp only [Act.put, List.setIfInBounds_toArray, List.set_cons_zero, List.set_cons_succ, i64_w, i32_w]
           rfl
         refine pure_ (i := 2) (N := some 58) (v := ?_) (a' := ?_) (bts 17 7) rfl rfl (by kernel_rfl) (fun _ _ _ h => h) (Or.inl ⟨by rfl, ?_⟩) ?_ ?_
         rotate_left
         · intro w'
           go_simp
           with_reducible rfl
         rotate_left
         · simp only [Act.put, List.setIfInBounds_toArray, List.set_cons_zero, List.set_cons_succ, i64_w, i32_w]
           rfl
         refine pure_ (i := 3) (N := some 59) (v := ?_) (a' := ?_) (bts 17 15) rfl rfl (by kernel_rfl) (fun _ _ _ h => h) (Or.inl ⟨by rfl, ?_⟩) ?_ ?_
         rotate_left
         · intro w'
           go_simp
           with_reducible rfl
         rotate_left
         · simp only [Act.put, List.setIfInBounds_toArray, List.set_cons_zero, List.set_cons_succ, i64_w, i32_w]
           rfl
         refine take_ (i := 4) (N := some 60) (v := ?_) (a' := ?_) (bts 17 31) rfl rfl (by kernel_rfl) (fun _ _ _ h => h) (Or.inl ⟨by rfl, ?_⟩) hHeld ?_ ?_
         rotate_left
         · intro w'
           rintro ⟨s0, s1, s2, s3, s4, s5, s6, s7, s8⟩
           go_simp
           with_reducible rfl
         rotate_left
         · simp only [Act.put, List.setIfInBounds_toArray, List.set_cons_zero, List.set_cons_succ, i64_w, i32_w]
           rfl
         refine pure_ (i := 5) (N := some 61) (v := ?_) (a' := ?_) (bts 17 63) rfl rfl (by kernel_rfl) (fun _ _ _ h => h) (Or.inl ⟨by rfl, ?_⟩) ?_ ?_
         rotate_left
         · intro w'
           go_simp
           with_reducible rfl
         rotate_left
         · simp only [Act.put, List.setIfInBounds_toArray, List.set_cons_zero, List.set_cons_succ, i64_w, i32_w]
           rfl
         refine pure_ (i := 6) (N := some 62) (v := ?_) (a' := ?_) (bts 17 127) rfl rfl (by kernel_rfl) (fun _ _ _ h => h) (Or.inl ⟨by rfl, ?_⟩) ?_ ?_
         rotate_left
         · intro w'
           go_simp
           with_reducible rfl
         rotate_left
         · simp only [Act.put, List.setIfInBounds_toArray, List.set_cons_zero, List.set_cons_succ, i64_w, i32_w]
           rfl
         refine pure_ (i := 7) (N := some 63) (v := ?_) (a' := ?_) (bts 17 255) rfl rfl (by kernel_rfl) (fun _ _ _ h => h) (Or.inl ⟨by rfl, ?_⟩) ?_ ?_
         rotate_left
         · intro w'
           go_simp
           with_reducible rfl
         rotate_left
         · simp only [Act.put, List.setIfInBounds_toArray, List.set_cons_zero, List.set_cons_succ, i64_w, i32_w]
           rfl
         refine take_ (i := 8) (N := some 64) (v := ?_) (a' := ?_) (bts 17 511) rfl rfl (by kernel_rfl) (fun _ _ _ h => h) (Or.inl ⟨by rfl, ?_⟩) hHeld ?_ ?_
         rotate_left
         · intro w'
           rintro ⟨s0, s1, s2, s3, s4, s5, s6, s7, s8⟩
           go_simp
           with_reducible rfl
         rotate_left
         · simp only [Act.put, List.setIfInBounds_toArray, List.set_cons_zero, List.set_cons_succ, i64_w, i32_w]
           rfl
         refine pure_ (i := 9) (N := some 65) (v := ?_) (a' := ?_) (bts 17 1023) rfl rfl (by kernel_rfl) (fun _ _ _ h => h) (Or.inl ⟨by rfl, ?_⟩) ?_ ?_
         rotate_left
         · intro w'
           go_simp
           with_reducible rfl
         rotate_left
         · simp only [Act.put, List.setIfInBounds_toArray, List.set_cons_zero, List.set_cons_succ, i64_w, i32_w]
           rfl
         refine pure_ (i := 10) (N := some 66) (v := ?_) (a' := ?_) (bts 17 2047) rfl rfl (by kernel_rfl) (fun _ _ _ h => h) (Or.inl ⟨by rfl, ?_⟩) ?_ ?_
         rotate_left
         · intro w'
           go_simp
           with_reducible rfl
         rotate_left
         · simp only [Act.put, List.setIfInBounds_toArray, List.set_cons_zero, List.set_cons_succ, i64_w, i32_w]
           rfl
         refine pure_ (i := 11) (N := some 67) (v := ?_) (a' := ?_) (bts 17 4095) rfl rfl (by kernel_rfl) (fun _ _ _ h => h) (Or.inl ⟨by rfl, ?_⟩) ?_ ?_
         rotate_left
         · intro w'
           go_simp
           with_reducible rfl
         rotate_left
         · simp only [Act.put, List.setIfInBounds_toArray, List.set_cons_zero, List.set_cons_succ, i64_w, i32_w]
           rfl
         refine pure_ (i := 12) (N := some 68) (v := ?_) (a' := ?_) (bts 17 8191) rfl rfl (by kernel_rfl) (fun _ _ _ h => h) (Or.inl ⟨by rfl, ?_⟩) ?_ ?_
         rotate_left
         · intro w'
           go_simp
           with_reducible rfl
         rotate_left
         · simp only [Act.put, List.setIfInBounds_toArray, List.set_cons_zero, List.set_cons_succ, i64_w, i32_w]
           rfl
         refine take_ (i := 13) (N := some 69) (v := ?_) (a' := ?_) (bts 17 16383) rfl rfl (by kernel_rfl) (fun _ _ _ h => h) (Or.inl ⟨by rfl, ?_⟩) hHeld ?_ ?_
         rotate_left
         · intro w'
           rintro ⟨s0, s1, s2, s3, s4, s5, s6, s7, s8⟩
           go_simp
           with_reducible rfl
         rotate_left
         · simp only [Act.put, List.setIfInBounds_toArray, List.set_cons_zero, List.set_cons_succ, i64_w, i32_w]
           rfl
         refine one_ (i := 14) (N := some 70) (bts 17 32767) rfl rfl (by kernel_rfl) (by decide) (fun K hK => ?_)
         refine goes_ Tryz.func31 (by kernel_rfl) rfl #[.agg #[.string m.f0, .int .i64 m.f1.f0, .int .i64 m.f1.f1, .int .i64 m.f1.f2, .string m.f1.f3, .slice B5 m.f2.length d5, .slice B6 m.f3.length d6], .slice A6 r.f3.length c6, .bool false] (by rfl) rfl rfl (by (try simp only [List.map_toArray, List.map_cons, List.map_nil]); first | done | rfl) ?_
         refine (HOI.out _ HB3.out).mono ?_
         rintro e W5 ⟨v5, rfl, hn5, hb5⟩
         have HB5 := Aside0.mk (below_step HB3.out hb5)
         have HA5 := Aside0.mk (HA3.out.below hb5)
         have HQ5 := Aside0.mk (HQ3.out.below hb5)
         have HW3 := Aside0.mk HQ3.out.lt
         have HZ3 := Aside0.mk HA3.out.1.lt
         obtain ⟨A9, c9, rfl⟩ := Kd.N_slice hn5
         have HE5 := Aside0.mk (Kd.N_F (Kd.N_bound hn5))
         clear hb5 hn5 HB3 HA3 HQ3
         refine ⟨_, rfl, ?_⟩
         refine hK.out _ _ (HS.out _ HB5.out) (fun hHeld => ?_)
         clear hK K
         refine norm_ (a' := ?_) ?_ ?_
         rotate_left
         · show Act.put _ (some 70) _ = _
           simp only [Act.put, List.setIfInBounds_toArray, List.set_cons_zero, List.set_cons_succ, i64_w, i32_w]
           rfl
         refine one_ (i := 15) (N := some 71) (bts 17 65535) rfl rfl (by kernel_rfl) (by decide) (fun K hK => ?_)
         refine QN.append_step k75 (W := W5) (w.heap.size + 1) (by rfl) (.tmp 56) (.tmp 70) 24 75 (.agg #[.int .i64 0, .string ⟨#[]⟩, .slice none 0 0]) 48 rfl Tryz.underlying24 info_deps rfl (by decide) (by decide) _ ws es2 A9 es2.length c9 (fun k => k ≠ w.heap.size) _ rfl rfl HQ5.out HE5.out (fun k hk hlt => ?hok) (Nat.le_of_lt_succ (Nat.succ_lt_succ (HA5.out.1.lt))) (by have := HXL.out; have := HEN.out; omega) ?_
         · have h3 := HZ3.out
           rcases hk.1 with h | h
           · exact ⟨Nat.ne_of_lt (HLP.out k h), fun e => by have h4 := (HQ5.out.typed _ e.symm).1; have := HLP.out k h; omega⟩
           · exact ⟨by omega, fun e => by have := HW3.out _ e.symm; omega⟩
         intro v6 w6 hq6 hg6 hat6
         have HQ6 := Aside0.mk hq6
         have HB6 := Aside0.mk (pw_below_grown HB5.out _ HB5.out.size hg6 (fun k hk => by have := (HQ5.out.typed k hk).1; omega))
         have HA6 := Aside0.mk (show AskIs w6 w.heap.size (nn + 1) F2 a2 from ⟨HA5.out.1.kept hg6 (fun e => by have := (HQ5.out.typed _ e.symm).1; omega), HA5.out.2⟩)
         clear hq6 hg6 hat6
         refine hK.out _ _ (HS.out _ HB6.out) (fun hHeld => ?_)
         clear hK K
         refine norm_ (a' := ?_) ?_ ?_
         rotate_left
         · show Act.put _ (some 71) _ = _
           simp only [Act.put, List.setIfInBounds_toArray, List.set_cons_zero, List.set_cons_succ, i64_w, i32_w]
           rfl
         refine pure_ (i := 16) (N := some 6) (v := ?_) (a' := ?_) (bts 17 131071) rfl rfl (by kernel_rfl) (fun _ _ _ h => h) (Or.inl ⟨by rfl, ?_⟩) ?_ ?_
         rotate_left
         · intro w'
           go_simp
           with_reducible rfl
         rotate_left
         · simp only [Act.put, List.setIfInBounds_toArray, List.set_cons_zero, List.set_cons_succ, i64_w, i32_w]
           rfl
         refine done_ (by kernel_rfl) ?_
         clear hHeld HS HOI HB5 HA5 HQ5 HE5
         go_wp2
         go_roundg (l.length - (j + 1) + 1)
         case measure => omega
         case rel => exact ⟨j + 1, by omega, by omega, by go_num, ⟨by rw [HTK.out, ← List.append_assoc, HWS.out]; exact HQ6.out⟩, HA6, HB6⟩
        | false =>
         go_wp2
         go_roundg (l.length - (j + 1) + 1)
         case measure => omega
         case rel => exact ⟨j + 1, by omega, by omega, by go_num, ⟨by rw [HTK.out, if_neg (by decide), List.append_nil]; exact HQ.out⟩, HAS, HB⟩
      · obtain rfl : j = l.length := by omega
        rw [List.take_length, ← HMT.out] at HQ
        have hmq := HMN.out
        have hcm := HCM.out
        go_wp2
        go_roundg (muT ns ⟨a2, t ++ mt⟩ + 1)
        case measure => omega
        case rel => exact ⟨a2, t ++ mt, F2, nn + 1, by omega, ⟨by obtain ⟨k, hk⟩ := HIT.out; exact ⟨k + 1, by show stepT _ _ _ (itT _ _ _ _ k) = _; rw [hk]; exact HST.out⟩⟩, HQ, HAS, ⟨by omega⟩, ⟨fun x hx => by rcases List.mem_append.1 hx with h | h; exact HDT.out x h; exact HMO.out x h⟩, HB⟩
end Go.Proofs.YteinkjhimceljaaGreatDoor.J
