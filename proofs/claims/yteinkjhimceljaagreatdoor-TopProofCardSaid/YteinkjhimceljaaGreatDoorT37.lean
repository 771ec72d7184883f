/- clause.Tidy, walked: the library's sort and Compact by the shelf's contracts. The walks of count_check, by the print over this seat. -/
import Derived.Test.YteinkjhimceljaaGreatDoorT10
import Derived.Test.YteinkjhimceljaaGreatDoorT35
import Derived.Test.YteinkjhimceljaaGreatDoorT36
import Derived.Lib.RowBridge
import Derived.Lib.SortBridge
import Derived.Lib.LazyBuf
import Derived.Lib.AppendIntMem
import Derived.IntWalk
import Derived.Test.YteinkjhimceljaaGreatDoorT05
namespace Go.Proofs.YteinkjhimceljaaGreatDoor.J
open Go.RowKit Go.Shelf Go.Proofs.YteinkjhimceljaaGreatDoorW.PrintWords Go.Proofs.YteinkjhimceljaaGreatDoorW.PrintLast Go.Proofs.YteinkjhimceljaaGreatDoorW.PrintMore
set_option linter.unusedVariables false
set_option linter.unusedSimpArgs false
theorem info_int' : (Tryz.prog.info? 3).map (fun i => (i.zero, i.size, i.bytes)) = some (some (.int .i64 0), 1, 8) := by kernel_rfl
theorem run_eql_ints_nil (w : World) (n c : Nat) (a : Option Addr) : (binOp .eql 56 (.slice a n c) (.slice none 0 0)).run Tryz.prog w = .ok (.bool a.isNone) w := run_eql_slice_nil w _ _ a n c Tryz.underlying56
set_option maxHeartbeats 1000000 in
set_option maxRecDepth 100000 in
theorem clone_ints (l : List Int) (A : Option Addr) (c : Nat) (w : World) (hr : Kd.C (Kd.int .i64) w A l.length l) (hl : l.length ≤ 17592186043904) :
 Calls Tryz.prog 106 #[.slice A l.length c] w fun e w' => ∃ v, e = .returned v ∧ Kd.R (Kd.int .i64) 3 w' w.heap.size (fun _ => True) v l ∧ Below w.heap.size w w' := by
 cases A with
 | none =>
  have e : l = [] := by
   cases l with
   | nil => rfl
   | cons x t => obtain ⟨ad, he, _⟩ := hr.2.2 (by simp); exact absurd he (by simp)
  subst e
  have hn0 := fun W' n' c' a' => run_eql_ints_nil W' n' c' a'
  go_enter Tryz.func106, Tryz.ntmps106
  go_wp2
  go_ret
  exact ⟨_, rfl, Kd.R_nil _ _ _ _ _, Below.refl _ _⟩
 | some ad =>
  have HR := Aside0.mk hr
  have HLN := Aside0.mk hl
  clear hr hl
  have hn0 := fun W' n' c' a' => run_eql_ints_nil W' n' c' a'
  go_enter Tryz.func106, Tryz.ntmps106
  go_wp2_with (first
   | ((with_reducible refine gate_dst (N := 5) rfl ?_); refine Kd.R_lit (Kd.int .i64) (w0 := w) w.heap.size 3 ?hg (N := 5) ?hd (xs := ([] : List Int)) (inner := []) (ok := fun _ => True) (okp := fun _ => True) ?hr ?hp (fun _ hk => hk) trivial (Below.refl _ _) (Nat.le_refl _) (by simp) ?_; (case hd => rfl); (case hg => rfl); (case hr => first | (go_simp; done) | (go_simp; rfl)); (case hp => exact Reps.none _ _); intro v5 w5 hn5 hb5 hg5 hat5; obtain ⟨A5, c5, rfl⟩ := Kd.R_slice hn5; have HN5 := Aside0.mk hn5; have HB5 := Aside0.mk hb5; clear hn5 hb5 hg5 hat5)
   | (at_builtin; refine Kd.R_append_rows (Kd.int .i64) (w0 := w) w.heap.size rfl (.tmp 5) (.tmp 6) 56 3 (.int .i64 0) 8 rfl Tryz.underlying56 info_int' rfl (by decide) (by omega) (.slice A5 0 c5) ([] : List Int) l _ _ _ (fun _ => True) (fun _ => False) rfl rfl HN5.out (Kd.C_below HR.out HB5.out) (fun _ _ h => h) (fun _ h => h.elim) (fun _ _ => trivial) HB5.out HB5.out.size (by have := HLN.out; simp only [List.length_nil]; omega) ?_; intro v6 w6 hn6 hb6 hg6 hat6; rw [List.nil_append] at hn6; have HN6 := Aside0.mk hn6; have HB6 := Aside0.mk hb6; clear hn6 hb6 hg6 hat6))
  go_ret
  exact ⟨_, rfl, HN6.out, HB6.out⟩
theorem enters_tidy1 : ∀ args w, (callFunc 105 args).run Tryz.prog w = .ok (.enter 105 args) w := enters_of Tryz.func105 (by kernel_rfl) rfl
theorem enters_tidy2 : ∀ args w, (callFunc 108 args).run Tryz.prog w = .ok (.enter 108 args) w := enters_of Tryz.func108 (by kernel_rfl) rfl
theorem tidy1_pred (l : List Int) (w : World) : PredI 105 #[] (Sp.lit 60) l w := by
 intro W x hx hbel
 clear hbel hx
 go_enter Tryz.func105, Tryz.ntmps105
 go_wp2_with (go_at_call 62; refine (literal_any x 60 _ (by omega) (by omega)).mono ?_; rintro e w' ⟨rfl, rfl⟩)
 go_ret
 exact ⟨rfl, Below.refl _ _⟩
def orT (x y : Int) : Int := if x ≠ 0 then x else y
set_option maxHeartbeats 1000000 in
theorem or_two (x y : Int) (g : Nat) (w : World) (h0 : w.cell? ⟨g, 0, none⟩ = some (.int .i64 x)) (h1 : w.cell? ⟨g, 1, none⟩ = some (.int .i64 y)) :
 Calls Tryz.prog 70 #[.slice (some ⟨g, 0, none⟩) 2 2] w fun e w' => e = .returned (.int .i64 (orT x y)) ∧ w' = w := by
 unfold orT
 by_cases hx : x = 0
 · subst hx
   rw [if_neg (by simp)]
   by_cases hy : y = 0
   · subst hy
     go_enter Tryz.func70, Tryz.ntmps70
     go_wp2
     refine wp_loop_rounds 3 ?_
     rw [rounds_succ]
     go_wp2
     rw [rounds_succ]
     go_wp2
     rw [rounds_succ]
     go_wp2
     go_ret
     exact ⟨rfl, rfl⟩
   · have hy1 : (y != 0) = true := bne_iff_ne.2 hy
     go_enter Tryz.func70, Tryz.ntmps70
     go_wp2
     refine wp_loop_rounds 2 ?_
     rw [rounds_succ]
     go_wp2
     rw [rounds_succ]
     go_wp2
     go_ret
     exact ⟨rfl, rfl⟩
 · rw [if_pos hx]
   have hx1 : (x != 0) = true := bne_iff_ne.2 hx
   go_enter Tryz.func70, Tryz.ntmps70
   go_wp2
   refine wp_loop_rounds 1 ?_
   rw [rounds_succ]
   go_wp2
   go_ret
   exact ⟨rfl, rfl⟩
theorem alloc_grow (w : World) (o : Obj) : w.alloc o = Go.Sort.grow (w.drewN 0) #[o] := Go.Sort.alloc_eq_grow w o
theorem max_abs {x : Int} (h : -60 ≤ x ∧ x ≤ 60) : max x (-x) = (x.natAbs : Int) := by omega
set_option maxHeartbeats 1000000 in
theorem tidy2_any (x y : Int) (hx : -60 ≤ x ∧ x ≤ 60) (hy : -60 ≤ y ∧ y ≤ 60) (w : World) :
 Calls Tryz.prog 108 #[.int .i64 x, .int .i64 y] w fun e w' => e = .returned (.int .i64 (Td.cf x y)) ∧ ∃ q os, w' = Go.Sort.grow (w.drewN q) os := by
 have hc : ∀ a b W, Calls Tryz.prog 101 #[.int .i64 a, .int .i64 b] W fun e w' => e = .returned (.int .i64 (Lib.compareInt a b)) ∧ w' = W := fun a b W => Any.cmp_Compare_int Tryz.cmpL a b W
 have HC := Aside0.mk hc
 have nx : IntKind.i64.wrap (-x) = -x := IntWalk.i64_in _ (by omega)
 have ny : IntKind.i64.wrap (-y) = -y := IntWalk.i64_in _ (by omega)
 have mx := max_abs hx
 have my := max_abs hy
 have HD := Aside0.mk (show orT (Lib.compareInt (x.natAbs : Int) (y.natAbs : Int)) (Lib.compareInt y x) = Td.cf x y from rfl)
 generalize Td.cf x y = r at HD
 clear hc
 go_enter Tryz.func108, Tryz.ntmps108
 go_wp2_with (first
  | (go_at_call 101; refine (HC.out _ _ _).mono ?_; rintro e w' ⟨rfl, hw⟩; rw [hw]; clear hw)
  | (go_at_call 70; refine (or_two (Lib.compareInt (x.natAbs : Int) (y.natAbs : Int)) (Lib.compareInt y x) w.heap.size _ ((blk_cell (heap_alloc_new w _) 0).trans rfl) ((blk_cell (heap_alloc_new w _) 1).trans rfl)).mono ?_; rw [HD.out]; rintro e w' ⟨rfl, hw⟩; rw [hw]; clear hw))
 go_ret
 exact ⟨rfl, 0, _, alloc_grow w _⟩
open Go.Sort Go.Lib in
theorem tidy2_lays (g : Nat) (d : Array Td.L) (w : World) : CmpLays1 Tryz.prog 108 #[] (fun x : Td.L => .int .i64 x.1) Td.cfL g 0 d.size w := by
 intro m os dk hs x y
 have hx := Sp.lit_iff.1 x.2
 have hy := Sp.lit_iff.1 y.2
 exact (tidy2_any x.1 y.1 (by omega) (by omega) _).mono fun e w' ⟨he, q, os', hw⟩ => ⟨he, q, os', hw⟩
theorem as_lits : ∀ l : List Int, l.all (Sp.lit 60) = true → ∃ d : List Td.L, d.map (fun x => x.1) = l
 | [], _ => ⟨[], rfl⟩
 | x :: l, h => by
  rw [List.all_cons, Bool.and_eq_true] at h
  obtain ⟨d, hd⟩ := as_lits l h.2
  exact ⟨⟨x, h.1⟩ :: d, by rw [List.map_cons, hd]⟩
open Go.Sort Go.Lib in
theorem row_step {w w5 : World} {g cap n m q : Nat} {l vs : List Int} {os : Array Obj} (h : Kd.R (Kd.int .i64) 3 w5 w.heap.size (fun _ => True) (.slice (some ⟨g, 0, none⟩) l.length cap) l) (hb : RowKit.Below w.heap.size w w5)
 (hn : l.length = n) (hy : vs.length = n) (hm : m ≤ n) :
 Kd.R (Kd.int .i64) 3 (grow ((w5.drewN q).setCells g 0 (vs.map (Value.int .i64))) os) w.heap.size (fun _ => True) (.slice (some ⟨g, 0, none⟩) m cap) (vs.take m) ∧ RowKit.Below w.heap.size w (grow ((w5.drewN q).setCells g 0 (vs.map (Value.int .i64))) os) := by
 have ho : w5.ownsRow w.heap.size 3 1 (.slice (some ⟨g, 0, none⟩) l.length cap) l.length (encs (Value.int .i64) l) := Kd.own_of_R h
 obtain ⟨e1, ⟨e2, _⟩ | ⟨g', cap', cur, e2, e3, e4, e5, e6, e7, e8⟩⟩ := ho
 · exact absurd e2 (by simp)
 · injection e2 with e21 e22 e23
   injection e21 with e21
   injection e21 with e21
   subst e21
   subst e23
   obtain ⟨cur1, a1, a2, a3⟩ := setCells_row (vs.map (Value.int .i64)) 0 (w5.drewN q) cur (by rw [← e4]; rfl) (by rw [List.length_map]; omega)
   have hlt : g < w5.heap.size := (Array.getElem?_eq_some_iff.1 e4).1
   have hs1 : ((w5.drewN q).setCells g 0 (vs.map (Value.int .i64))).heap.size = w5.heap.size := (setCells_same g _ 0 _).2.2.2
   have b1 : RowKit.Below w.heap.size w ((w5.drewN q).setCells g 0 (vs.map (Value.int .i64))) := Go.below_setCells e3 _ 0 _ (pw_below_drewN hb q)
   have b9 := Lib.below_grow _ ((w5.drewN q).setCells g 0 (vs.map (Value.int .i64))) (Nat.le_refl _) 0 os
   refine ⟨?_, below_step b1 b9⟩
   have a4 : (grow ((w5.drewN q).setCells g 0 (vs.map (Value.int .i64))) os).heap[g]? = some (.cells cur1 3 (0, 0)) := (b9.block g (by rw [hs1]; exact hlt)).trans a1
   have hl : (vs.take m).length = m := by rw [List.length_take]; omega
   have hR := Kd.R_of_own (w := grow ((w5.drewN q).setCells g 0 (vs.map (Value.int .i64))) os) (e := 3) (base := w.heap.size) (ok := fun _ => True) (v := .slice (some ⟨g, 0, none⟩) m cap) (xs := vs.take m) (enc := Value.int .i64) (h1 := fun _ => rfl) ⟨by rw [encs_length, Nat.mul_one], .inr ⟨g, cap, cur1, by rw [hl], e3, a4, by omega, e6, by omega, by
    rw [a3, hl, Nat.mul_one, List.take_zero, List.nil_append, List.take_append_of_le_length (by rw [List.length_map]; omega), encs, List.map_take]⟩⟩ (fun _ _ => trivial)
   exact hR
open Go.Sort Go.Lib in
theorem tidy_holds {w5 : World} {b g cap : Nat} {l : List Int} (h : Kd.R (Kd.int .i64) 3 w5 b (fun _ => True) (.slice (some ⟨g, 0, none⟩) l.length cap) l) (d : List Td.L) (hd : d.map (fun x => x.1) = l) : Holds (fun x : Td.L => .int .i64 x.1) w5 g 0 d.toArray := by
 intro j hj
 have hj2 : j < d.length := by simpa using hj
 have hl : j < l.length := by rw [← hd, List.length_map]; exact hj2
 obtain ⟨h1, h2⟩ := Kd.R_cell 0 h (j : Int) (by omega) (by omega)
 rw [Int.toNat_natCast] at h1 h2
 rw [Nat.zero_add]
 refine ⟨h1.trans ?_, h2⟩
 subst hd
 simp [rdOf, hj2]
theorem tidy_lits (l : List Int) (d : List Td.L) (hd : d.map (fun x => x.1) = l) : Lib.compact ((d.mergeSort fun x y => !(ltOf Td.cfL) y x).map (fun x => x.1)) = Td.tidied l := by rw [← hd]; exact Td.sorted_tidied d
open Go.Sort Go.Lib in
theorem sort_any (l : List Int) (d : List Td.L) (hd : d.map (fun x => x.1) = l) (g cap : Nat) (w w5 : World) (h : Kd.R (Kd.int .i64) 3 w5 w.heap.size (fun _ => True) (.slice (some ⟨g, 0, none⟩) l.length cap) l) (hb : RowKit.Below w.heap.size w w5) (hg : g < w5.heap.size) (hl : l.length ≤ 17592186043904) :
 Calls Tryz.prog 107 #[.slice (some ⟨g, 0, none⟩) l.length cap, .func (.func 108) #[] #[]] w5 fun e w' => e = .returned (.tuple #[]) ∧
  Kd.R (Kd.int .i64) 3 w' w.heap.size (fun _ => True) (.slice (some ⟨g, 0, none⟩) l.length cap) ((d.mergeSort fun x y => !(ltOf Td.cfL) y x).map (fun x => x.1)) ∧ RowKit.Below w.heap.size w w' := by
 have hdl : d.length = l.length := by rw [← hd, List.length_map]
 have hH := tidy_holds h d hd
 have hS := Any.slices_SortFunc_total Tryz.sortL (fun x : Td.L => .int .i64 x.1) (fun _ => rfl) Td.cfL Td.swo 108 #[] g 0 cap d.toArray w5 enters_tidy2 (tidy2_lays g d.toArray w5) hH hg (by simp; omega) Td.tot
 have e9 : d.toArray.size = l.length := by simp; exact hdl
 rw [e9] at hS
 refine Calls.mono (show Calls Tryz.prog 107 _ _ _ from hS) ?_
 rintro e w' ⟨he, n, os, hw⟩
 refine ⟨he, ?_⟩
 have hw2 : w' = grow ((w5.drewN n).setCells g 0 (((d.mergeSort fun x y => !(ltOf Td.cfL) y x).map (fun x => x.1)).map (Value.int .i64))) os := by
  rw [hw]
  have := Lib.sorted_world (fun x : Td.L => Value.int .i64 x.1) w5 g 0 n d.toArray (d.mergeSort fun x y => !(ltOf Td.cfL) y x) os hH (by simp)
  rw [List.map_map]
  exact this
 have hr := row_step (q := n) (os := os) (m := l.length) (n := l.length) (vs := (d.mergeSort fun x y => !(ltOf Td.cfL) y x).map (fun x => x.1)) h hb rfl (by rw [List.length_map, List.length_mergeSort]; exact hdl) (Nat.le_refl _)
 rw [← hw2, List.take_of_length_le (by rw [List.length_map, List.length_mergeSort]; omega)] at hr
 exact hr
open Go.Sort Go.Lib in
theorem compact_any (ys : List Int) (g n cap : Nat) (w w6 : World) (h : Kd.R (Kd.int .i64) 3 w6 w.heap.size (fun _ => True) (.slice (some ⟨g, 0, none⟩) n cap) ys) (hb : RowKit.Below w.heap.size w w6) :
 Calls Tryz.prog 109 #[.slice (some ⟨g, 0, none⟩) n cap] w6 fun e w' => e = .returned (.slice (some ⟨g, 0, none⟩) (Lib.compact ys).length cap) ∧
  Kd.R (Kd.int .i64) 3 w' w.heap.size (fun _ => True) (.slice (some ⟨g, 0, none⟩) (Lib.compact ys).length cap) (Lib.compact ys) ∧ RowKit.Below w.heap.size w w' := by
 obtain ⟨hn, hc, hC⟩ := Kd.R_reads' h
 subst hn
 have hmax := Kd.C_max hC
 have hC2 := Any.slices_Compact_int_cells Tryz.compactL g 0 ys.length cap ys w6 (Nat.le_refl _) (by omega) hc
  (fun j hj => by
   obtain ⟨h1, h2⟩ := Kd.R_cell 0 h (j : Int) (by omega) (by omega)
   rw [Int.toNat_natCast] at h1
   rw [Nat.zero_add, h1]
   simp [rdOf, hj])
  (fun j hj => by
   obtain ⟨h1, h2⟩ := Kd.R_cell 0 h (j : Int) (by omega) (by omega)
   rw [Int.toNat_natCast] at h2
   rw [Nat.zero_add]
   exact h2)
 rw [List.take_length] at hC2
 refine Calls.mono (show Calls Tryz.prog 109 _ _ _ from hC2) ?_
 rintro e w' ⟨he, q, hw⟩
 refine ⟨he, ?_⟩
 have hle := Lib.compact_length_le ys
 have hr := row_step (q := q) (os := #[]) (m := (Lib.compact ys).length) (n := ys.length) (vs := Lib.compact ys ++ List.replicate (ys.length - (Lib.compact ys).length) 0) h hb rfl (by rw [List.length_append, List.length_replicate]; omega) hle
 rw [grow_empty, ← hw, List.take_left] at hr
 exact hr
theorem sort_none (p : Option Addr) (cap : Nat) (fv : Value) (w : World) : Calls Tryz.prog 107 #[.slice p 0 cap, fv] w fun e w' => e = .returned (.tuple #[]) ∧ w' = w :=
 AnyF.slices_SortFunc_none (P := Tryz.prog) (ρ := Tryz.sortL_ren) { Tryz.sortL with } p cap fv w
theorem compact_none (p : Option Addr) (cap : Nat) (w : World) : Calls Tryz.prog 109 #[.slice p 0 cap] w fun e w' => e = .returned (.slice p 0 cap) ∧ w' = w :=
 Any.slices_Compact_int_empty Tryz.compactL p cap w
inductive TidyIs (l : List Int) : Option (List Int × Int) → Prop
 | mk : TidyIs l (if l.length ≤ 17592186043904 then some (Td.tidy l) else none)
theorem TidyIs.some (l : List Int) : ∃ r, TidyIs l r := ⟨_, .mk⟩
noncomputable def clause_Tidy.f (l0 : List Int) : Option (List Int × Int) := Classical.choose (TidyIs.some l0)
theorem clause_Tidy.f_eq (l : List Int) : clause_Tidy.f l = if l.length ≤ 17592186043904 then some (Td.tidy l) else none := by
 have h : TidyIs l (clause_Tidy.f l) := Classical.choose_spec (TidyIs.some l)
 generalize clause_Tidy.f l = x at h
 cases h
 rfl
open Go.Sort Go.Lib in
set_option maxHeartbeats 4000000 in
set_option maxRecDepth 100000 in
theorem clause_Tidy.calls (A0 : Option Addr) (c0 : Nat) (l0 : List Int) (r1 : List Int) (r2 : Int) (w : World) (hr0 : Kd.C (Kd.int .i64) w A0 l0.length l0) (hc0 : l0.length ≤ c0) (h : clause_Tidy.f l0 = some (r1, r2)) :
 Calls Tryz.prog 74 #[.slice A0 l0.length c0] w fun e w' => ∃ v0_ : Value, e = .returned (.tuple #[v0_, .int .i64 r2]) ∧ Kd.R (Kd.int .i64) 3 w' w.heap.size (fun _ => True) v0_ r1 ∧ RowKit.Below w.heap.size w w' := by
 rw [clause_Tidy.f_eq] at h
 split at h
 · rename_i hl
   have h := Option.some.inj h
   have HR := Aside0.mk hr0
   have HL := Aside0.mk hl
   cases ha : l0.all (Sp.lit 60) with
   | false =>
    unfold Td.tidy at h
    rw [ha, if_neg (by decide)] at h
    injection h with f1 f2
    subst f1
    subst f2
    clear hr0 hl
    go_enter Tryz.func74, Tryz.ntmps74
    go_wp2_with (go_at_call 60; refine (every_int _ #[] _ enters_tidy1 l0 _ _ _ HR.out (tidy1_pred l0 _)).mono ?_; rw [ha]; rintro e w1 ⟨rfl, hb1⟩; have HB1 := Aside0.mk hb1; clear hb1)
    go_ret2
    exact ⟨_, rfl, Kd.R_nil _ _ _ _ _, HB1.out⟩
   | true =>
    unfold Td.tidy at h
    rw [ha, if_pos rfl] at h
    injection h with f1 f2
    subst f2
    obtain ⟨d, hd⟩ := as_lits l0 ha
    have HT := Aside0.mk ((tidy_lits l0 d hd).trans f1)
    have HA := Aside0.mk ha
    have hdl : d.length = l0.length := by rw [← hd, List.length_map]
    have HD := Aside0.mk hd
    clear hr0 hl f1 ha hd
    by_cases h0 : l0.length = 0
    · have e0 : l0 = [] := List.eq_nil_of_length_eq_zero h0
      have ed : d = [] := List.eq_nil_of_length_eq_zero (by omega)
      subst e0
      subst ed
      have er : ([] : List Int) = r1 := by rw [← HT.out]; simp [Lib.compact, Lib.compactUpTo]
      subst er
      go_enter Tryz.func74, Tryz.ntmps74
      go_wp2_with (first
       | (go_at_call 60; refine (every_int _ #[] _ enters_tidy1 ([] : List Int) _ _ _ HR.out (tidy1_pred [] _)).mono ?_; rw [HA.out]; rintro e w1 ⟨rfl, hb1⟩; have HB1 := Aside0.mk hb1; clear hb1)
       | (go_at_call 106; refine (clone_ints [] _ _ _ (Kd.C_below HR.out HB1.out) (by simp)).mono ?_; rintro e w5 ⟨v5, rfl, hn5, hb5⟩; obtain ⟨A5, c5, rfl⟩ := Kd.R_slice hn5; have HN5 := Aside0.mk (Kd.R_lower hn5 HB1.out.size); have HB5 := Aside0.mk (below_step HB1.out hb5); clear hn5 hb5)
       | (go_at_call 107; refine (sort_none A5 c5 _ _).mono ?_; rintro e w6 ⟨rfl, hw⟩; rw [hw]; clear hw)
       | (go_at_call 109; refine (compact_none A5 c5 _).mono ?_; rintro e w7 ⟨rfl, hw⟩; rw [hw]; clear hw))
      go_ret2
      exact ⟨_, rfl, HN5.out, HB5.out⟩
    · go_enter Tryz.func74, Tryz.ntmps74
      go_wp2_with (first
       | (go_at_call 60; refine (every_int _ #[] _ enters_tidy1 l0 _ _ _ HR.out (tidy1_pred l0 _)).mono ?_; rw [HA.out]; rintro e w1 ⟨rfl, hb1⟩; have HB1 := Aside0.mk hb1; clear hb1)
       | (go_at_call 106; refine (clone_ints l0 _ _ _ (Kd.C_below HR.out HB1.out) HL.out).mono ?_; rintro e w5 ⟨v5, rfl, hn5, hb5⟩; obtain ⟨g, cap, rfl, hg1, hg2, hg3⟩ := Kd.R_form hn5 (Nat.pos_of_ne_zero h0); have HN5 := Aside0.mk (Kd.R_lower hn5 HB1.out.size); have HB5 := Aside0.mk (below_step HB1.out hb5); clear hn5 hb5))
      have hsort := sort_any l0 d HD.out g cap w w5 HN5.out HB5.out hg2 HL.out
      have HS := Aside0.mk hsort
      clear hsort
      go_wp2_with (first
       | (go_at_call 107; refine HS.out.mono ?_; rintro e w6 ⟨rfl, hn6, hb6⟩; have HN6 := Aside0.mk hn6; have HB6 := Aside0.mk hb6; clear hn6 hb6)
       | (go_at_call 109; refine (compact_any _ g _ cap w w6 HN6.out HB6.out).mono ?_; rintro e w7 ⟨rfl, hn7, hb7⟩; rw [HT.out] at hn7 ⊢; have HN7 := Aside0.mk hn7; have HB7 := Aside0.mk hb7; clear hn7 hb7))
      go_ret2
      exact ⟨_, rfl, HN7.out, HB7.out⟩
 · exact absurd h (by simp)
end Go.Proofs.YteinkjhimceljaaGreatDoor.J
namespace Go.Proofs.YteinkjhimceljaaGreatDoor.J
open Go.RowKit Go.Proofs.YteinkjhimceljaaGreatDoorW.PrintWords Go.Proofs.YteinkjhimceljaaGreatDoorW.PrintLast Go.Proofs.YteinkjhimceljaaGreatDoorW.PrintMore
set_option linter.unusedVariables false
set_option linter.unusedSimpArgs false
noncomputable def count_check.l0 : Nat → List (List Int) → Int → Int → Option (Int)
 | 0, _, _, _ => none
 | k + 1, x7, x8, x9 => if x9 < x8 then (if 0 ≤ x9 then (if x9 < (x7.length : Int) then ((clause_Tidy.f (rd_L14 x7 x9)).bind fun bt230 => (if bt230.2 = 0 then (count_check.l0 k x7 x8 (wrap64 (x9 + 1))) else (some bt230.2))) else (none)) else (none)) else (some 0)
noncomputable def count_check.f (k : Nat) (l0 : List (List Int)) : Option (Int) := count_check.l0 k l0 (l0.length : Int) 0
set_option maxHeartbeats 8000000 in
set_option maxRecDepth 100000 in
theorem count_check.calls (k : Nat) (A0 : Option Addr) (c0 : Nat) (l0 : List (List Int)) (r : Int) (w : World) (hr0 : Kd.C (Kd.slice 3 (Kd.int .i64)) w A0 l0.length l0) (hc0 : l0.length ≤ c0) (h : count_check.f k l0 = some r) :
 Calls Tryz.prog 49 #[.slice A0 l0.length c0] w fun e w' => e = .returned (.int .i64 r) ∧ Below w.heap.size w w' := by
 have HR0 := Aside0.mk hr0
 have HC0 := Aside0.mk hc0
 clear hr0 hc0
 have HB := Aside0.mk (Below.refl w.heap.size w)
 have H : (count_check.l0 k l0 (l0.length : Int) 0) = some r := h
 clear h
 have H' := Aside0.mk H
 clear H
 go_enter Tryz.func49, Tryz.ntmps49
 go_wp2
 go_loopg [9] k (fun kq v9 w' => ∃ (x9_1 : Int), v9 = .int .i64 x9_1 ∧ Aside0 (count_check.l0 kq l0 (l0.length : Int) x9_1 = some r) ∧ Aside0 (kq ≤ k) ∧ Aside0 (Below w.heap.size w w'))
 case atStart => exact ⟨(0), (by first | rfl | (simp; done) | (simp [*]; done)), H', ⟨Nat.le_refl _⟩, ⟨by repeat (first | (with_reducible first | exact HB.out | apply below_alloc | apply pw_below_drewN | apply below_drew1) | exact HB.out)⟩⟩
 case round =>
  clear H'
  obtain ⟨x9_1, rfl, HA, HK1, HB⟩ := hrel
  cases gk with
  | zero => exact absurd HA.out (by simp [count_check.l0])
  | succ k1 =>
   have H := HA.out
   clear HA
   simp only [count_check.l0] at H
   by_cases c2 : x9_1 < (l0.length : Int)
   · rw [if_pos c2] at H
     have c2b0 : decide (x9_1 < (l0.length : Int)) = true := decide_eq_true c2
     clear c2
     by_cases c3 : 0 ≤ x9_1
     · rw [if_pos c3] at H
       have c3b0 : decide (0 ≤ x9_1) = true := decide_eq_true c3
       clear c3
       by_cases c4 : x9_1 < (l0.length : Int)
       · rw [if_pos c4] at H
         have c4b0 : decide (x9_1 < (l0.length : Int)) = true := decide_eq_true c4
         clear c4
         replace H := Option.bind_eq_some_iff.mp H
         obtain ⟨⟨t230, t231⟩, A50, H⟩ := H
         replace H : (if t231 = 0 then (count_check.l0 k1 l0 (l0.length : Int) (wrap64 (x9_1 + 1))) else (some t231)) = some r := H
         have A5 := Aside0.mk A50
         clear A50
         by_cases c6 : t231 = 0
         · rw [if_pos c6] at H
           have c6b0 : (t231 == 0) = true := beq_iff_eq.mpr c6
           have c6b1 : (t231 != 0) = false := bne_eq_false_iff_eq.mpr c6
           clear c6
           have H' := Aside0.mk H
           clear H
           have p229 : 0 ≤ (x9_1 : Int) := of_decide_eq_true (by first | (with_reducible assumption) | assumption)
           have q229 : x9_1 < (l0.length : Int) := of_decide_eq_true (by first | (with_reducible assumption) | assumption)
           obtain ⟨ad229, A229_0, c229_0, e229, hx229_0, hl229_0, hi229_0⟩ := at_L14 HR0.out x9_1 p229 q229
           cases e229
           replace hx229_0 := (HB.out.cell (World.block_lt_of_cell? w _ hx229_0)).trans hx229_0
           have HR229_0 := Aside0.mk hi229_0
           have HC229_0 := Aside0.mk hl229_0
           clear hi229_0 hl229_0
           replace p229 := eq_true p229
           replace q229 := eq_true q229
           go_wp2_with (first | ((with_reducible refine gate_callee (f := 74) rfl ?_); refine goesL_ (some 15) rfl rfl Tryz.func74 (by kernel_rfl) rfl #[.slice A229_0 (rd_L14 l0 x9_1).length c229_0] rfl (by (try simp only [List.map_toArray, List.map_cons, List.map_nil]); first | done | rfl | (simp only [List.length_drop, List.length_take]; rfl)) ?_; (with_reducible refine (clause_Tidy.calls _ _ (rd_L14 l0 x9_1) t230 t231 _ ?side1 ?side2 A5.out).mono ?_); (case side1 => repeat (first | exact (Kd.C_below HR229_0.out HB.out) | (with_reducible refine Kd.C_alloc ?_ _) | (with_reducible refine Kd.C_drewN ?_ _) | (with_reducible refine Kd.C_drew ?_))); (case side2 => exact HC229_0.out); rintro e w7 ⟨v232, rfl, ho0, hb⟩; refine ⟨_, rfl, ?_⟩; have n0_ := Aside0.mk (Kd.R_lower ho0 (below_size (by repeat (first | (with_reducible first | exact HB.out | apply below_alloc | apply pw_below_drewN | apply below_drew1) | exact HB.out)))); have n1_ := Aside0.mk (below_step (by repeat (first | (with_reducible first | exact HB.out | apply below_alloc | apply pw_below_drewN | apply below_drew1) | exact HB.out)) hb); clear HB; have HO233 := n0_; have HB := n1_; clear n0_ n1_; (try clear hb); (try clear hb2); (try clear hk); (try clear hi); (try clear ho0)))
           go_roundg k1
           case measure => have := HK1.out; omega
           case rel => exact ⟨(wrap64 (x9_1 + 1)), (by first | rfl | (simp; done) | (simp [*]; done)), H', ⟨by have := HK1.out; omega⟩, ⟨by repeat (first | (with_reducible first | exact HB.out | apply below_alloc | apply pw_below_drewN | apply below_drew1) | exact HB.out)⟩⟩
         · rw [if_neg c6] at H
           have c6b0 : (t231 == 0) = false := beq_eq_false_iff_ne.mpr c6
           have c6b1 : (t231 != 0) = true := bne_iff_ne.mpr c6
           obtain rfl := Option.some.inj H
           have p229 : 0 ≤ (x9_1 : Int) := of_decide_eq_true (by first | (with_reducible assumption) | assumption)
           have q229 : x9_1 < (l0.length : Int) := of_decide_eq_true (by first | (with_reducible assumption) | assumption)
           obtain ⟨ad229, A229_0, c229_0, e229, hx229_0, hl229_0, hi229_0⟩ := at_L14 HR0.out x9_1 p229 q229
           cases e229
           replace hx229_0 := (HB.out.cell (World.block_lt_of_cell? w _ hx229_0)).trans hx229_0
           have HR229_0 := Aside0.mk hi229_0
           have HC229_0 := Aside0.mk hl229_0
           clear hi229_0 hl229_0
           replace p229 := eq_true p229
           replace q229 := eq_true q229
           go_wp2_with (first | ((with_reducible refine gate_callee (f := 74) rfl ?_); refine goesL_ (some 15) rfl rfl Tryz.func74 (by kernel_rfl) rfl #[.slice A229_0 (rd_L14 l0 x9_1).length c229_0] rfl (by (try simp only [List.map_toArray, List.map_cons, List.map_nil]); first | done | rfl | (simp only [List.length_drop, List.length_take]; rfl)) ?_; (with_reducible refine (clause_Tidy.calls _ _ (rd_L14 l0 x9_1) t230 t231 _ ?side1 ?side2 A5.out).mono ?_); (case side1 => repeat (first | exact (Kd.C_below HR229_0.out HB.out) | (with_reducible refine Kd.C_alloc ?_ _) | (with_reducible refine Kd.C_drewN ?_ _) | (with_reducible refine Kd.C_drew ?_))); (case side2 => exact HC229_0.out); rintro e w8 ⟨v232, rfl, ho0, hb⟩; refine ⟨_, rfl, ?_⟩; have n0_ := Aside0.mk (Kd.R_lower ho0 (below_size (by repeat (first | (with_reducible first | exact HB.out | apply below_alloc | apply pw_below_drewN | apply below_drew1) | exact HB.out)))); have n1_ := Aside0.mk (below_step (by repeat (first | (with_reducible first | exact HB.out | apply below_alloc | apply pw_below_drewN | apply below_drew1) | exact HB.out)) hb); clear HB; have HO233 := n0_; have HB := n1_; clear n0_ n1_; (try clear hb); (try clear hb2); (try clear hk); (try clear hi); (try clear ho0)))
           go_ret
           exact ⟨by first | rfl | (simp [errW_none, errW_some] <;> rfl) | (simp [*, errW_none, errW_some] <;> rfl), by repeat (first | (with_reducible first | exact HB.out | apply below_alloc | apply pw_below_drewN | apply below_drew1) | exact HB.out)⟩
       · rw [if_neg c4] at H
         exact absurd H (by simp)
     · rw [if_neg c3] at H
       exact absurd H (by simp)
   · rw [if_neg c2] at H
     have c2b0 : decide (x9_1 < (l0.length : Int)) = false := decide_eq_false c2
     clear c2
     obtain rfl := Option.some.inj H
     go_wp2
     go_ret
     exact ⟨by first | rfl | (simp [errW_none, errW_some] <;> rfl) | (simp [*, errW_none, errW_some] <;> rfl), by repeat (first | (with_reducible first | exact HB.out | apply below_alloc | apply pw_below_drewN | apply below_drew1) | exact HB.out)⟩
end Go.Proofs.YteinkjhimceljaaGreatDoor.J
