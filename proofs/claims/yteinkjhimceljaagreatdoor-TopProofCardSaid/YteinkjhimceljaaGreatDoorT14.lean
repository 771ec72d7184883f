/- The functions of package unit, walked: what they compute is what Un says. unit.run, unit.Propagate, unit.Free, walked. A formula of the walk's own, whose clauses are shared rows: its struct in memory, the append of a clause. -/
import Derived.Test.YteinkjhimceljaaGreatDoorT10
import Derived.Test.YteinkjhimceljaaGreatDoorT11
import Derived.IntWalk
import Derived.Test.YteinkjhimceljaaGreatDoorT12
namespace Go.Proofs.YteinkjhimceljaaGreatDoor.J
open Go.RowKit Go.Shelf Go.Proofs.YteinkjhimceljaaGreatDoorW.PrintWords Go.Proofs.YteinkjhimceljaaGreatDoorW.PrintLast Go.Proofs.YteinkjhimceljaaGreatDoorW.PrintMore
set_option linter.unusedVariables false
set_option linter.unusedSimpArgs false
def Idx (l : List Int) (x : Int) : Int := match l.findIdx? (fun y => x == y) with | some i => i | none => -1
theorem idx_hit (l : List Int) (x : Int) (k : Nat) (h : k < l.length) (hk : l[k] = x) (hb : ∀ j (hj : j < l.length), j < k → l[j] ≠ x) : Idx l x = k := by
 have : l.findIdx? (fun y => x == y) = some k := by
  rw [List.findIdx?_eq_some_iff_getElem]
  refine ⟨h, by simp [hk], fun j hj => ?_⟩
  have := hb j (by omega) hj
  simp; exact fun e => this e.symm
 unfold Idx; rw [this]
theorem idx_miss (l : List Int) (x : Int) (hb : ∀ j (hj : j < l.length), l[j] ≠ x) : Idx l x = -1 := by
 have : l.findIdx? (fun y => x == y) = none := by
  rw [List.findIdx?_eq_none_iff]
  intro y hy
  obtain ⟨j, hj, rfl⟩ := List.mem_iff_getElem.1 hy
  simp; exact fun e => hb j hj e.symm
 unfold Idx; rw [this]
theorem idx_contains (l : List Int) (x : Int) : decide (0 ≤ Idx l x) = l.contains x := by
 unfold Idx
 cases h : l.findIdx? (fun y => x == y) with
 | none =>
  rw [List.findIdx?_eq_none_iff] at h
  have : l.contains x = false := by
   rw [Bool.eq_false_iff]; intro hc
   have := h x (by simpa using hc)
   simp at this
  rw [this]; rfl
 | some i =>
  rw [List.findIdx?_eq_some_iff_getElem] at h
  obtain ⟨hi, h1, _⟩ := h
  have : l.contains x = true := by
   have : x = l[i] := by simpa using h1
   rw [this]; simp
  rw [this]; simp
set_option maxHeartbeats 2000000 in
theorem index_int (x : Int) (l : List Int) (A : Option Addr) (c : Nat) (w : World) (hr : Kd.C (Kd.int .i64) w A l.length l) :
 Calls Tryz.prog 88 #[.slice A l.length c, .int .i64 x] w fun e w' => e = .returned (.int .i64 (Idx l x)) ∧ w = w' := by
 have HR := Aside0.mk hr
 have hbig : l.length ≤ 9223372036854775807 := hr.2.1
 clear hr
 go_enter Tryz.func88, Tryz.ntmps88
 go_wp2
 go_loopg [5, 8] l.length (fun gg _ s8 wr => ∃ kk : Nat, kk ≤ l.length ∧ l.length - kk ≤ gg ∧ s8 = .int .i64 kk ∧ Aside0 (∀ j (hj : j < l.length), j < kk → l[j] ≠ x) ∧ Aside0 (w = wr))
 case atStart => exact ⟨0, Nat.zero_le _, by omega, rfl, ⟨fun j hj h => absurd h (Nat.not_lt_zero _)⟩, ⟨rfl⟩⟩
 case round =>
  obtain ⟨kk, hkk, hg, rfl, AM, ⟨rfl⟩⟩ := hrel
  by_cases hlt : kk < l.length
  · have hltz : (kk : Int) < (l.length : Int) := by omega
    obtain ⟨ad, e0, hcell⟩ := C_int_at HR.out kk hlt
    subst e0
    generalize hy : l[kk] = y at hcell
    have B := Aside0.mk hy
    clear hy
    by_cases hq : x = y
    · have t1 : (x == y) = true := beq_iff_eq.2 hq
      have HQ := Aside0.mk hq
      clear hq
      go_wp2
      go_ret
      exact ⟨by rw [idx_hit l x kk hlt (by rw [B.out, HQ.out]) AM.out]; rfl, rfl⟩
    · have t1 : (x == y) = false := beq_eq_false_iff_ne.2 hq
      have HQ := Aside0.mk hq
      clear hq
      go_wp2
      go_roundg (l.length - (kk + 1))
      case measure => omega
      case rel =>
       refine ⟨kk + 1, by omega, by omega, by go_num, ⟨fun j hj h => ?_⟩, ⟨rfl⟩⟩
       by_cases e : j = kk
       · subst e
         rw [B.out]; exact fun e => HQ.out e.symm
       · exact AM.out j hj (by omega)
  · have hltz : ¬ (kk : Int) < (l.length : Int) := by omega
    go_wp2
    go_ret
    exact ⟨by rw [idx_miss l x (fun j hj => AM.out j hj (by omega))]; rfl, rfl⟩
theorem contains_int (x : Int) (l : List Int) (A : Option Addr) (c : Nat) (w : World) (hr : Kd.C (Kd.int .i64) w A l.length l) :
 Calls Tryz.prog 120 #[.slice A l.length c, .int .i64 x] w fun e w' => e = .returned (.bool (l.contains x)) ∧ w = w' := by
 have HR := Aside0.mk hr
 clear hr
 have HE := Aside0.mk (idx_contains l x)
 generalize l.contains x = b at HE ⊢
 go_enter Tryz.func120, Tryz.ntmps120
 go_wp2_with (go_at_call 88; refine (index_int x l _ _ _ HR.out).mono ?_; rintro e w' ⟨rfl, rfl⟩)
 go_ret
 exact ⟨by rw [← HE.out]; rfl, rfl⟩
theorem contains_quiet (x : Int) (l : List Int) (A : Option Addr) (c : Nat) (b : Bool) (w : World) (hr : Kd.C (Kd.int .i64) w A l.length l) (hb : l.contains x = b) :
 Calls Tryz.prog 120 #[.slice A l.length c, .int .i64 x] w fun e w' => e = .returned (.bool b) ∧ w' = w := (contains_int x l A c w hr).mono fun _ _ ⟨he, hw⟩ => ⟨by rw [he, hb], hw.symm⟩
structure StQ (w0 W : World) (g v : Nat) (vars : Int) (A : Option Addr) (c : Nat) (cls : List (List Int)) (vals ws : List Int) (qv : Value) : Prop where
 hg : W.heap[g]? = some (.cells #[.int .i64 vars, .slice A cls.length c, .slice (some ⟨v, 0, none⟩) vals.length vals.length, qv] 145 (0, 0))
 hv : W.heap[v]? = some (.cells (vals.map (Value.int .i64)).toArray 3 (0, 0))
 hq : QRow W w0.heap.size 3 1 qv ws.length (nums .i64 ws)
 ne : qv.ownBlock ≠ some v
 bg : w0.heap.size ≤ g
 bv : w0.heap.size ≤ v
 hl : vals.length ≤ 100
 hx : ∀ x ∈ vals, -1 ≤ x ∧ x ≤ 1
 hb : Below w0.heap.size w0 W
 hr : Kd.C (Kd.slice 3 (Kd.int .i64)) w0 A cls.length cls
def St (w0 W : World) (g v : Nat) (vars : Int) (A : Option Addr) (c : Nat) (cls : List (List Int)) (vals ws : List Int) : Prop := ∃ qv, StQ w0 W g v vars A c cls vals ws qv
theorem vals_range {vals : List Int} (hx : ∀ x ∈ vals, -1 ≤ x ∧ x ≤ 1) (j : Nat) : -1 ≤ vals.getD j 0 ∧ vals.getD j 0 ≤ 1 := by
 by_cases h : j < vals.length
 · have := hx vals[j] (List.getElem_mem h)
   simpa [List.getD_eq_getElem?_getD, h] using this
 · simp [List.getD_eq_getElem?_getD, h]
theorem StQ.cell {w0 W : World} {g v : Nat} {vars : Int} {A : Option Addr} {c : Nat} {cls : List (List Int)} {vals ws : List Int} {qv : Value} (h : StQ w0 W g v vars A c cls vals ws qv) (j : Nat) (hj : j < vals.length) :
 W.cell? ⟨v, j, none⟩ = some (.int .i64 (vals.getD j 0)) := by
 rw [blk_cell h.hv j]; simp [hj]
theorem StQ.fld {w0 W : World} {g v : Nat} {vars : Int} {A : Option Addr} {c : Nat} {cls : List (List Int)} {vals ws : List Int} {qv : Value} (h : StQ w0 W g v vars A c cls vals ws qv) :
 W.cell? ⟨g, 0, none⟩ = some (.int .i64 vars) ∧ W.cell? ⟨g, 1, none⟩ = some (.slice A cls.length c) ∧ W.cell? ⟨g, 2, none⟩ = some (.slice (some ⟨v, 0, none⟩) vals.length vals.length) ∧ W.cell? ⟨g, 3, none⟩ = some qv :=
 ⟨(blk_cell h.hg 0).trans rfl, (blk_cell h.hg 1).trans rfl, (blk_cell h.hg 2).trans rfl, (blk_cell h.hg 3).trans rfl⟩
set_option maxHeartbeats 1000000 in
theorem value_any {w0 W : World} {g v : Nat} {vars : Int} {A : Option Addr} {c : Nat} {cls : List (List Int)} {vals ws : List Int} (h : St w0 W g v vars A c cls vals ws) (n : Int) (hn : n.natAbs < vals.length) :
 Calls Tryz.prog 118 #[.pointer (some ⟨g, 0, none⟩), .int .i64 n] W fun e w' => e = .returned (.int .i64 (Un.val vals n)) ∧ W = w' := by
 obtain ⟨qv, h⟩ := h
 obtain ⟨f0, f1, f2, f3⟩ := h.fld
 have hc := h.cell n.natAbs hn
 obtain ⟨x1, x2⟩ := vals_range h.hx n.natAbs
 have hl := h.hl
 by_cases hp : n < 0
 · obtain ⟨m, hm⟩ := Int.eq_ofNat_of_zero_le (show 0 ≤ -n by omega)
   obtain rfl : n = -(m : Int) := by omega
   have hm0 : (-(m : Int)).natAbs = m := by omega
   have HE : Aside0 (Un.val vals (-(m : Int)) = -(vals.getD m 0)) := ⟨by unfold Un.val; rw [if_pos hp, hm0]⟩
   rw [HE.out]
   rw [hm0] at hc x1 x2 hn
   clear HE hm hm0 h
   generalize vals.getD m 0 = y at hc x1 x2 ⊢
   go_enter Tryz.func118, Tryz.ntmps118
   go_wp2
   go_ret
   exact ⟨rfl, rfl⟩
 · obtain ⟨m, rfl⟩ := Int.eq_ofNat_of_zero_le (show 0 ≤ n by omega)
   have hm0 : (m : Int).natAbs = m := by omega
   have HE : Aside0 (Un.val vals (m : Int) = vals.getD m 0) := ⟨by unfold Un.val; rw [if_neg hp, hm0]⟩
   rw [HE.out]
   rw [hm0] at hc x1 x2 hn
   clear HE hm0 h
   generalize vals.getD m 0 = y at hc x1 x2 ⊢
   go_enter Tryz.func118, Tryz.ntmps118
   go_wp2
   go_ret
   exact ⟨rfl, rfl⟩
theorem StQ.alloc {w0 W : World} {g v : Nat} {vars : Int} {A : Option Addr} {c : Nat} {cls : List (List Int)} {vals ws : List Int} {qv : Value} (h : StQ w0 W g v vars A c cls vals ws qv) (o : Obj) : StQ w0 (W.alloc o) g v vars A c cls vals ws qv where
 hg := (Below.heap_alloc W o g (Array.getElem?_eq_some_iff.1 h.hg).1).trans h.hg
 hv := (Below.heap_alloc W o v (Array.getElem?_eq_some_iff.1 h.hv).1).trans h.hv
 hq := q_move h.hq (fun k hk => Below.heap_alloc W o k (q_lt h.hq k hk))
 ne := h.ne
 bg := h.bg
 bv := h.bv
 hl := h.hl
 hx := h.hx
 hb := h.hb.alloc h.hb.size o
 hr := h.hr
theorem StQ.drewN {w0 W : World} {g v : Nat} {vars : Int} {A : Option Addr} {c : Nat} {cls : List (List Int)} {vals ws : List Int} {qv : Value} (h : StQ w0 W g v vars A c cls vals ws qv) (m : Nat) : StQ w0 (W.drewN m) g v vars A c cls vals ws qv where
 hg := h.hg
 hv := h.hv
 hq := q_move h.hq (fun k hk => rfl)
 ne := h.ne
 bg := h.bg
 bv := h.bv
 hl := h.hl
 hx := h.hx
 hb := pw_below_drewN h.hb m
 hr := h.hr
theorem StQ.gv {w0 W : World} {g v : Nat} {vars : Int} {A : Option Addr} {c : Nat} {cls : List (List Int)} {vals ws : List Int} {qv : Value} (h : StQ w0 W g v vars A c cls vals ws qv) : g ≠ v := by
 rintro rfl
 have := h.hg.symm.trans h.hv
 injection this with this
 injection this with _ h2
 exact absurd h2 (by decide)
theorem StQ.qg {w0 W : World} {g v : Nat} {vars : Int} {A : Option Addr} {c : Nat} {cls : List (List Int)} {vals ws : List Int} {qv : Value} (h : StQ w0 W g v vars A c cls vals ws qv) : qv.ownBlock ≠ some g := by
 intro e
 obtain ⟨_, cells, hc⟩ := q_typed h.hq g e
 have := h.hg.symm.trans hc
 injection this with this
 injection this with _ h2
 exact absurd h2 (by decide)
theorem info_int : (Tryz.prog.info? 3).map (fun i => (i.zero, i.size, i.bytes)) = some (some (.int .i64 0), 1, 8) := by kernel_rfl
theorem wpList_qappend {P : Program} {ops : Array Oper} {rest : List Oper} {o : Oper} {a : Act} {Q : Exit → Act → World → Prop} {W : World} (base : Nat) (hgd : o.guard = none) (s x : Operand) (t e : TypeId)
 (ho : o.op = .call { callee := .builtin .append, args := #[s, x], argTypes := #[t, t] })
 (ht : P.underlying t = some (.slice e)) (hinfo : (P.info? e).map (fun i => (i.zero, i.size, i.bytes)) = some (some (.int .i64 0), 1, 8))
 (v : Value) (xs : List Int) (y : Int) (b : Nat) (hs : a.eval s = v) (hx : a.eval x = .slice (some ⟨b, 0, none⟩) 1 1)
 (HO : QRow W base e 1 v xs.length (nums .i64 xs)) (hy : W.cell? ⟨b, 0, none⟩ = some (.int .i64 y)) (hbase : base ≤ W.heap.size) (hl : (xs.length + 1) * 8 ≤ 140737488355328)
 (h : ∀ v1 w1, QRow w1 base e 1 v1 (xs.length + 1) (nums .i64 (xs ++ [y])) → W.grownBy w1 v.ownBlock → (v1.ownBlock = v.ownBlock ∨ ∃ b, v1.ownBlock = some b ∧ W.heap.size ≤ b) → wpList P ops Q rest (a.put o.dst v1) w1) :
 wpList P ops Q (o :: rest) a W := by
 obtain ⟨i0, hi, hzz⟩ := Option.map_eq_some_iff.1 hinfo
 simp only [Prod.mk.injEq] at hzz
 obtain ⟨hz0, hz1, hz2⟩ := hzz
 obtain ⟨v', w', hr, hq, hg, hat⟩ := q_append (P := P) W base t o.type e i0 (.int .i64 0) 1 8 ht hi hz0 hz1 hz2 rfl (by omega) v xs.length (nums .i64 xs) HO ⟨b, 0, none⟩ 1 1 [.int .i64 y] rfl
  (fun j u hu => by
   cases j with
   | zero => simp at hu; subst hu; exact hy
   | succ j => simp at hu) (by simp [Value.oneCell']) (by omega) (by simp only [maxLen]; omega) hl hbase
 refine wpList_plain hgd fun K hK => ?_
 unfold Oper.wp execOp
 simp only [ho, resolve, invoke, builtin, Sem.run_bind, Sem.run_pure, Result.andThen_ok, List.map_toArray, List.map_cons, List.map_nil, hs, hx, hr]
 exact hK _ _ (h v' w' (by rw [nums_append]; exact hq) hg hat)
theorem StQ.pushed {w0 W w1 : World} {g v : Nat} {vars : Int} {A : Option Addr} {c : Nat} {cls : List (List Int)} {vals ws : List Int} {qv v1 : Value} (h : StQ w0 W g v vars A c cls vals ws qv) (y : Int)
 (hq : QRow w1 w0.heap.size 3 1 v1 (ws.length + 1) (nums .i64 (ws ++ [y]))) (hg : W.grownBy w1 qv.ownBlock) (hat : v1.ownBlock = qv.ownBlock ∨ ∃ b, v1.ownBlock = some b ∧ W.heap.size ≤ b) :
 StQ w0 (w1.setCell ⟨g, 3, none⟩ v1) g v vars A c cls vals (ws ++ [y]) v1 := by
 have gl := (Array.getElem?_eq_some_iff.1 h.hg).1
 have vl := (Array.getElem?_eq_some_iff.1 h.hv).1
 have e1 : w1.heap[g]? = W.heap[g]? := hg.block g gl (fun e => h.qg e.symm)
 have e2 : w1.heap[v]? = W.heap[v]? := hg.block v vl (fun e => h.ne e.symm)
 have n1 : v1.ownBlock ≠ some v := by
  rcases hat with e | ⟨b, e, hb⟩
  · rw [e]; exact h.ne
  · rw [e]; intro e; injection e with e; omega
 have n2 : v1.ownBlock ≠ some g := by
  rcases hat with e | ⟨b, e, hb⟩
  · rw [e]; exact h.qg
  · rw [e]; intro e; injection e with e; omega
 refine ⟨?_, ?_, ?_, n1, h.bg, h.bv, h.hl, h.hx, (h.hb.grown hg h.hb.size (fun k hk => (q_typed h.hq k hk).1)).setCell (p := ⟨g, 3, none⟩) h.bg _, h.hr⟩
 · have := blk_set (e1.trans h.hg) 3 v1
   simpa using this
 · rw [Below.heap_setCell w1 ⟨g, 3, none⟩ v1 v (fun e => h.gv e.symm)]
   exact e2.trans h.hv
 · rw [List.length_append, List.length_singleton]
   exact q_move hq (fun k hk => Below.heap_setCell w1 ⟨g, 3, none⟩ v1 k (fun e => n2 (by rw [hk, e])))
theorem StQ.g_kept {w0 W w1 : World} {g v : Nat} {vars : Int} {A : Option Addr} {c : Nat} {cls : List (List Int)} {vals ws : List Int} {qv : Value} (h : StQ w0 W g v vars A c cls vals ws qv) (hg : W.grownBy w1 qv.ownBlock) (j : Nat) :
 w1.cell? ⟨g, j, none⟩ = W.cell? ⟨g, j, none⟩ ∧ w1.frozen? ⟨g, j, none⟩ = W.frozen? ⟨g, j, none⟩ := by
 have e1 : w1.heap[g]? = W.heap[g]? := hg.block g (Array.getElem?_eq_some_iff.1 h.hg).1 (fun e => h.qg e.symm)
 unfold World.cell? World.frozen?
 simp [e1]
set_option maxHeartbeats 1000000 in
set_option maxRecDepth 100000 in
theorem push_any {w0 W : World} {g v b : Nat} {vars : Int} {A : Option Addr} {c : Nat} {cls : List (List Int)} {vals ws : List Int} (h : St w0 W g v vars A c cls vals ws) (y : Int) (hy : W.cell? ⟨b, 0, none⟩ = some (.int .i64 y)) (hw : ws.length ≤ 100000) :
 Calls Tryz.prog 119 #[.pointer (some ⟨g, 3, none⟩), .slice (some ⟨b, 0, none⟩) 1 1] W fun e w' => e = .returned (.tuple #[]) ∧ St w0 w' g v vars A c cls vals (ws ++ [y]) := by
 obtain ⟨qv, h⟩ := h
 obtain ⟨f0, f1, f2, f3⟩ := h.fld
 have z3 : W.frozen? ⟨g, 3, none⟩ = false := blk_frozen h.hg 3
 have H := Aside0.mk h
 clear h f0 f1 f2
 go_enter Tryz.func119, Tryz.ntmps119
 go_wp2_with (at_builtin; refine wpList_qappend w0.heap.size rfl (.tmp 8) (.tmp 9) 56 3 rfl Tryz.underlying56 info_int qv ws y b rfl rfl H.out.hq hy H.out.hb.size (by omega) ?_; intro v1 w1 hq1 hg1 hat1; obtain ⟨A1, c1, rfl, hc1⟩ := q_slice hq1; have k3 : w1.cell? ⟨g, 3, none⟩ = some qv := (StQ.g_kept H.out hg1 3).1.trans f3; have k4 : w1.frozen? ⟨g, 3, none⟩ = false := (StQ.g_kept H.out hg1 3).2.trans z3; have HQ1 := Aside0.mk hq1; have HG1 := Aside0.mk hg1; have HA1 := Aside0.mk hat1; clear hq1 hg1 hat1 hc1)
 go_end0
 exact ⟨rfl, _, H.out.pushed y HQ1.out HG1.out HA1.out⟩
theorem q_addr {w : World} {base n size : Nat} {e : TypeId} {xs : List Value} {ad : Addr} {c : Nat} (h : QRow w base e size (.slice (some ad) n c) n xs) (hn : 0 < n) : ∃ q o, ad = ⟨q, o, none⟩ := by
 rcases h.2 with ⟨h0, _⟩ | ⟨g, off, cap, cur, he, _⟩
 · omega
 · injection he with ha _ hc
   injection ha with ha
   exact ⟨_, _, ha⟩
theorem StQ.popped {w0 W : World} {g v : Nat} {vars : Int} {A : Option Addr} {c : Nat} {cls : List (List Int)} {vals ws : List Int} {n : Int} {A1 : Option Addr} {c1 : Nat} (h : StQ w0 W g v vars A c cls vals (n :: ws) (.slice A1 (ws.length + 1) c1)) :
 StQ w0 (W.setCell ⟨g, 3, none⟩ (.slice (if c1 = 1 then A1 else A1.map (·.add 1)) ws.length (c1 - 1))) g v vars A c cls vals ws (.slice (if c1 = 1 then A1 else A1.map (·.add 1)) ws.length (c1 - 1)) := by
 have hb1 : (Value.slice (if c1 = 1 then A1 else A1.map (·.add 1)) ws.length (c1 - 1)).ownBlock = (Value.slice A1 (ws.length + 1) c1).ownBlock := by
  cases A1 with
  | none => split <;> rfl
  | some a => split <;> simp [Value.ownBlock, Addr.add] <;> split <;> rfl
 have hq := q_drop (k := 1) h.hq (by simp)
 have hq' : QRow W w0.heap.size 3 1 (.slice (if c1 = 1 then A1 else A1.map (·.add 1)) ws.length (c1 - 1)) ws.length (nums .i64 ws) := by
  simpa [nums] using hq
 refine ⟨?_, ?_, ?_, ?_, h.bg, h.bv, h.hl, h.hx, h.hb.setCell (p := ⟨g, 3, none⟩) h.bg _, h.hr⟩
 · have := blk_set h.hg 3 (.slice (if c1 = 1 then A1 else A1.map (·.add 1)) ws.length (c1 - 1))
   simpa using this
 · rw [Below.heap_setCell W ⟨g, 3, none⟩ _ v (fun e => h.gv e.symm)]
   exact h.hv
 · refine q_move hq' (fun k hk => Below.heap_setCell W ⟨g, 3, none⟩ _ k (fun e => h.qg (by rw [← hb1, hk, e])))
 · rw [hb1]; exact h.ne
set_option maxHeartbeats 1000000 in
set_option maxRecDepth 100000 in
theorem next_none {w0 W : World} {g v : Nat} {vars : Int} {A : Option Addr} {c : Nat} {cls : List (List Int)} {vals : List Int} (h : St w0 W g v vars A c cls vals []) :
 Calls Tryz.prog 91 #[.pointer (some ⟨g, 3, none⟩)] W fun e w' => e = .returned (.tuple #[.int .i64 0, .bool false]) ∧ W = w' := by
 obtain ⟨qv, h⟩ := h
 obtain ⟨f0, f1, f2, f3⟩ := h.fld
 obtain ⟨A1, c1, rfl, hc1⟩ := q_slice h.hq
 clear h f0 f1 f2
 go_enter Tryz.func91, Tryz.ntmps91
 go_wp2
 go_ret2
 exact ⟨rfl, rfl⟩
set_option maxHeartbeats 1000000 in
set_option maxRecDepth 100000 in
theorem next_some {w0 W : World} {g v : Nat} {vars : Int} {A : Option Addr} {c : Nat} {cls : List (List Int)} {vals ws : List Int} {n : Int} (h : St w0 W g v vars A c cls vals (n :: ws)) :
 Calls Tryz.prog 91 #[.pointer (some ⟨g, 3, none⟩)] W fun e w' => e = .returned (.tuple #[.int .i64 n, .bool true]) ∧ St w0 w' g v vars A c cls vals ws := by
 obtain ⟨qv, h⟩ := h
 obtain ⟨f0, f1, f2, f3⟩ := h.fld
 obtain ⟨A1, c1, rfl, hc1⟩ := q_slice h.hq
 obtain ⟨ad, rfl, hcell⟩ := q_cells h.hq (by simp)
 have z3 : W.frozen? ⟨g, 3, none⟩ = false := blk_frozen h.hg 3
 obtain ⟨q0, o0, rfl⟩ := q_addr h.hq (by simp)
 have k0 : W.cell? ⟨q0, o0, none⟩ = some (.int .i64 n) := by have := hcell 0 _ rfl; rwa [add_at, Nat.add_zero] at this
 have hm := q_max h.hq
 have H := Aside0.mk h
 simp only [List.length_cons] at f3 hc1 hm
 clear h f0 f1 f2 hcell
 go_enter Tryz.func91, Tryz.ntmps91
 by_cases hc : c1 = 1
 · subst hc
   obtain rfl : ws = [] := List.eq_nil_of_length_eq_zero (by omega)
   have HP := Aside0.mk H.out.popped
   simp only [if_true, Nat.sub_self, List.length_nil] at HP
   clear hc1 hm
   go_wp2
   go_ret2
   exact ⟨rfl, _, HP.out⟩
 · have HP := Aside0.mk H.out.popped
   simp only [if_neg hc, Option.map_some, add_at] at HP
   go_wp2
   go_ret2
   exact ⟨rfl, _, HP.out⟩
theorem StQ.stored {w0 W : World} {g v : Nat} {vars : Int} {A : Option Addr} {c : Nat} {cls : List (List Int)} {vals ws : List Int} {qv : Value} (h : StQ w0 W g v vars A c cls vals ws qv) (j : Nat) (x : Int) (hx : -1 ≤ x ∧ x ≤ 1) :
 StQ w0 (W.setCell ⟨v, j, none⟩ (.int .i64 x)) g v vars A c cls (vals.set j x) ws qv := by
 refine ⟨?_, ?_, ?_, h.ne, h.bg, h.bv, by simpa using h.hl, ?_, h.hb.setCell (p := ⟨v, j, none⟩) h.bv _, h.hr⟩
 · rw [Below.heap_setCell W ⟨v, j, none⟩ _ g h.gv, h.hg]; simp
 · have := blk_set h.hv j (.int .i64 x)
   rw [this]
   simp [List.map_set]
 · exact q_move h.hq (fun k hk => Below.heap_setCell W ⟨v, j, none⟩ _ k (fun e => h.ne (by rw [hk, e])))
 · intro y hy
   rcases List.mem_or_eq_of_mem_set hy with hy | rfl
   · exact h.hx y hy
   · exact hx
theorem new_cell (W0 W : World) (hs : W.heap.size = W0.heap.size) (x : Value) (t : Nat) : (W.alloc (.cells #[x] t)).cell? ⟨W0.heap.size, 0, none⟩ = some x := by
 rw [← hs]; exact (blk_cell (heap_alloc_new W _) 0).trans rfl
theorem size_set (W : World) (p : Addr) (x : Value) : (W.setCell p x).heap.size = W.heap.size := by simp [World.setCell]
set_option maxHeartbeats 2000000 in
set_option maxRecDepth 100000 in
theorem set_any {w0 W : World} {g v : Nat} {vars : Int} {A : Option Addr} {c : Nat} {cls : List (List Int)} {vals ws : List Int} (h : St w0 W g v vars A c cls vals ws) (n : Int) (hn : n.natAbs < vals.length) (hw : ws.length ≤ 100000) :
 Calls Tryz.prog 89 #[.pointer (some ⟨g, 0, none⟩), .int .i64 n] W fun e w' => e = .returned (.bool (Un.set vals ws n).1) ∧ St w0 w' g v vars A c cls (Un.set vals ws n).2.1 (Un.set vals ws n).2.2 := by
 have HV := Aside0.mk (value_any h n hn)
 have H := Aside0.mk h
 clear h
 by_cases h1 : Un.val vals n = 1
 · have HE : Aside0 (Un.set vals ws n = (true, vals, ws)) := ⟨by unfold Un.set; rw [if_pos h1]⟩
   rw [HE.out]
   rw [h1] at HV
   clear h1
   go_enter Tryz.func89, Tryz.ntmps89
   go_wp2_with (go_at_call 118; refine HV.out.mono ?_; rintro e w' ⟨rfl, rfl⟩)
   go_ret
   exact ⟨rfl, H.out⟩
 · by_cases h2 : Un.val vals n = -1
   · have HE : Aside0 (Un.set vals ws n = (false, vals, ws)) := ⟨by unfold Un.set; rw [if_neg h1, if_pos h2]⟩
     rw [HE.out]
     rw [h2] at HV
     clear h1 h2
     go_enter Tryz.func89, Tryz.ntmps89
     go_wp2_with (go_at_call 118; refine HV.out.mono ?_; rintro e w' ⟨rfl, rfl⟩)
     go_ret
     exact ⟨rfl, H.out⟩
   · have HE : Aside0 (Un.set vals ws n = (true, Un.put vals n, ws ++ [n])) := ⟨by unfold Un.set; rw [if_neg h1, if_neg h2]⟩
     rw [HE.out]
     clear HE
     have t1 : (Un.val vals n == 1) = false := beq_eq_false_iff_ne.2 h1
     have t2 : (Un.val vals n == -1) = false := beq_eq_false_iff_ne.2 h2
     clear h1 h2
     generalize Un.val vals n = y at HV t1 t2
     obtain ⟨qv, hs⟩ := H.out
     obtain ⟨f0, f1, f2, f3⟩ := hs.fld
     have hc := hs.cell n.natAbs hn
     have z := blk_frozen hs.hv
     have HS := Aside0.mk hs
     have hgv := hs.gv
     have hl := hs.hl
     have gl := (Array.getElem?_eq_some_iff.1 hs.hg).1
     clear hs f0 f1 f3
     by_cases hp : n < 0
     · obtain ⟨m, hm⟩ := Int.eq_ofNat_of_zero_le (show 0 ≤ -n by omega)
       obtain rfl : n = -(m : Int) := by omega
       have hm0 : (-(m : Int)).natAbs = m := by omega
       have HE : Aside0 (Un.put vals (-(m : Int)) = (vals.set m 1).set m (-1)) := ⟨by unfold Un.put; rw [if_pos hp, hm0, List.set_set]⟩
       rw [HE.out]
       rw [hm0] at hc hn
       have z1 := z m
       clear HE hm hm0 z
       generalize vals.getD m 0 = x at hc
       have HP := Aside0.mk (push_any (b := W.heap.size) ⟨_, ((HS.out.stored m 1 (by omega)).stored m (-1) (by omega)).alloc (.cells #[.int .i64 (-(m : Int))] 3)⟩ (-(m : Int)) (new_cell W _ (by rw [size_set, size_set]) _ _) hw)
       go_enter Tryz.func89, Tryz.ntmps89
       go_wp2_with (first | (go_at_call 118; refine HV.out.mono ?_; rintro e w' ⟨rfl, rfl⟩) | (go_at_call 119; refine HP.out.mono ?_; rintro e w' ⟨rfl, hst⟩))
       go_ret
       exact ⟨rfl, hst⟩
     · obtain ⟨m, rfl⟩ := Int.eq_ofNat_of_zero_le (show 0 ≤ n by omega)
       have hm0 : (m : Int).natAbs = m := by omega
       have HE : Aside0 (Un.put vals (m : Int) = vals.set m 1) := ⟨by unfold Un.put; rw [if_neg hp, hm0]⟩
       rw [HE.out]
       rw [hm0] at hc hn
       have z1 := z m
       clear HE hm0 z
       generalize vals.getD m 0 = x at hc
       have HP := Aside0.mk (push_any (b := W.heap.size) ⟨_, (HS.out.stored m 1 (by omega)).alloc (.cells #[.int .i64 (m : Int)] 3)⟩ (m : Int) (new_cell W _ (size_set _ _ _) _ _) hw)
       go_enter Tryz.func89, Tryz.ntmps89
       go_wp2_with (first | (go_at_call 118; refine HV.out.mono ?_; rintro e w' ⟨rfl, rfl⟩) | (go_at_call 119; refine HP.out.mono ?_; rintro e w' ⟨rfl, hst⟩))
       go_ret
       exact ⟨rfl, hst⟩
theorem addr_add_zero (p : Addr) : p.add 0 = p := by cases p with | mk b o s => unfold Addr.add; split <;> simp_all
set_option maxHeartbeats 4000000 in
set_option maxRecDepth 100000 in
theorem look_any {w0 W : World} {g v : Nat} {vars : Int} {A : Option Addr} {c : Nat} {cls : List (List Int)} {vals ws : List Int} (h : St w0 W g v vars A c cls vals ws) (n : Int) (hn : n.natAbs < vals.length)
 (hL : ∀ cl ∈ cls, ∀ m ∈ cl, m.natAbs < vals.length) (B : Nat) (hB : ws.length + Un.free vals = B) (hB2 : B ≤ 1000) :
 Calls Tryz.prog 90 #[.pointer (some ⟨g, 0, none⟩), .int .i64 n] W fun e w' => e = .returned (.bool (Un.look n cls vals ws).1) ∧ St w0 w' g v vars A c cls (Un.look n cls vals ws).2.1 (Un.look n cls vals ws).2.2 := by
 obtain ⟨qv, hs⟩ := h
 have hl := hs.hl
 obtain ⟨f0, f1, f2, f3⟩ := hs.fld
 have hbig : cls.length ≤ 9223372036854775807 := hs.hr.2.1
 have H := Aside0.mk hs
 obtain ⟨LK, hLK⟩ : ∃ L, L = Un.look n cls vals ws := ⟨_, rfl⟩
 rw [← hLK]
 have HLK := Aside0.mk hLK
 have HL := Aside0.mk hL
 have HB := Aside0.mk hB
 clear hs f2 f3 hL hB hLK
 go_enter Tryz.func90, Tryz.ntmps90
 go_wp2
 go_step3
 go_wp2
 go_step3
 go_wp2
 go_loopg [6, 7, 16] cls.length (fun gg _ _ s16 wr => ∃ (k : Nat) (v1 w1 : List Int), k ≤ cls.length ∧ cls.length - k ≤ gg ∧ s16 = .int .i64 k ∧ Aside0 (St w0 wr g v vars A c cls v1 w1) ∧ Aside0 (v1.length = vals.length) ∧ Aside0 (w1.length + Un.free v1 = B) ∧ Aside0 (Un.look n (cls.drop k) v1 w1 = LK))
 case atStart => exact ⟨0, vals, ws, Nat.zero_le _, by omega, rfl, ⟨_, H.out⟩, ⟨rfl⟩, HB, ⟨by rw [HLK.out]; rfl⟩⟩
 case round =>
  obtain ⟨k, v1, w1, hk, hg, rfl, ⟨hst⟩, HV1, HB1, HK⟩ := hrel
  by_cases hlt : k < cls.length
  · have hltz : (k : Int) < (cls.length : Int) := by omega
    obtain ⟨qv1, hs1⟩ := hst
    obtain ⟨ad, A1, c1, e0, hcell, hc1, hr1⟩ := at_L14 hs1.hr k (by omega) (by omega)
    rw [rdL_get cls k hlt] at hcell hc1 hr1
    rw [Int.toNat_natCast] at hcell
    subst e0
    have HR0 := Aside0.mk hr1
    replace hcell := pw_cell_below hs1.hb hcell
    replace hr1 := Kd.C_below hr1 hs1.hb
    have hcl : ∀ m ∈ cls[k], m.natAbs < vals.length := HL.out _ (List.getElem_mem hlt)
    generalize hy : cls[k] = cl at hcell hc1 hr1 hcl HR0
    have HC := Aside0.mk hy
    have HR1 := Aside0.mk hr1
    have HCL := Aside0.mk hcl
    have hbig1 : cl.length ≤ 9223372036854775807 := hr1.2.1
    have HS1 := Aside0.mk hs1
    clear hy hr1 hcl hs1
    go_upto_region 4 with (fail)
    go_cut [49] (fun v49 wc => v49 = .bool (Un.skip n cl) ∧ Aside0 (StQ w0 wc g v vars (some ad) c cls v1 w1 qv1))
    case first =>
     by_cases hn0 : n = 0
     · subst hn0
       by_cases hc0 : cl.length = 0
       · have HE := Aside0.mk (show Un.skip 0 cl = false by unfold Un.skip; simp [hc0])
         have HST := Aside0.mk (List.eq_nil_of_length_eq_zero hc0)
         have t1 : decide (0 < (cl.length : Int)) = false := decide_eq_false (by omega)
         have t2 : decide (0 < cl.length) = false := decide_eq_false (by omega)
         clear hc0
         go_quiet (fail)
         go_wp2
         go_meet
         case rel => exact ⟨by rw [HE.out], ⟨HS1.out.drewN _⟩⟩
       · obtain ⟨p0, e0, z0⟩ := C_int_at HR1.out 0 (by omega)
         obtain ⟨p1, e1, z1⟩ := C_int_at HR1.out (cl.length - 1) (by omega)
         have e2 : some p0 = some p1 := e0.symm.trans e1
         injection e2 with e2
         subst e2
         subst e0
         have t1 : decide (0 < (cl.length : Int)) = true := decide_eq_true (by omega)
         have t2 : decide (0 < cl.length) = true := decide_eq_true (by omega)
         have t3 : IntKind.i64.wrap ((cl.length : Int) - 1) = (cl.length : Int) - 1 := IntWalk.i64_in _ (by omega)
         have t4 : 0 ≤ (cl.length : Int) - 1 := by omega
         have t5 : ((cl.length : Int) - 1).toNat = cl.length - 1 := by omega
         have t6 : (cl.length : Int) - 1 < (cl.length : Int) := by omega
         have t7 : (0 : Int) < (cl.length : Int) := by omega
         have t8 : 0 < cl.length := by omega
         have HE := Aside0.mk (show Un.skip 0 cl = (cl.getD 0 0 != cl.getD (cl.length - 1) 0) by
          have key : ∀ x y : Int, decide (x ≠ y) = (x != y) := fun x y => by by_cases h : x = y <;> simp [h]
          unfold Un.skip
          rw [decide_eq_true (show 0 < cl.length by omega), key (cl.getD 0 0)]
          rfl)
         have g0 : cl[0]'(by omega) = cl.getD 0 0 := by simp [show 0 < cl.length by omega]
         have g1 : cl[cl.length - 1]'(by omega) = cl.getD (cl.length - 1) 0 := by simp [show cl.length - 1 < cl.length by omega]
         rw [g0] at z0
         rw [g1] at z1
         clear g0 g1 hc0 e1
         generalize cl.getD 0 0 = x0 at z0 HE
         generalize cl.getD (cl.length - 1) 0 = x1 at z1 HE
         rw [addr_add_zero] at z0
         go_quiet (fail)
         go_wp2
         go_meet
         case rel => exact ⟨by rw [HE.out], ⟨HS1.out.drewN _⟩⟩
     · have t1 : (n != 0) = true := bne_iff_ne.2 hn0
       have t2 : (n == 0) = false := beq_eq_false_iff_ne.2 hn0
       have hneg : IntKind.i64.wrap (-n) = -n := IntWalk.i64_in _ (by omega)
       cases hcn : cl.contains (-n) with
       | true =>
        have HE := Aside0.mk (show Un.skip n cl = false by unfold Un.skip; rw [hcn]; simp [hn0])
        have HCN := Aside0.mk hcn
        clear hn0 hcn
        go_quiet ((go_at_call 120; exact Calls.quiet_of_same (contains_quiet (-n) cl _ _ true _ (Kd.C_drewN HR1.out _) HCN.out)))
        go_wp2
        go_meet
        case rel => exact ⟨by rw [HE.out], ⟨HS1.out.drewN _⟩⟩
       | false =>
        have HE := Aside0.mk (show Un.skip n cl = true by unfold Un.skip; rw [hcn]; simp [hn0])
        have HCN := Aside0.mk hcn
        clear hn0 hcn
        go_quiet ((go_at_call 120; exact Calls.quiet_of_same (contains_quiet (-n) cl _ _ false _ (Kd.C_drewN HR1.out _) HCN.out)))
        go_wp2
        go_meet
        case rel => exact ⟨by rw [HE.out], ⟨HS1.out.drewN _⟩⟩
    case rest =>
     obtain ⟨rfl, HS2⟩ := hcut
     have HR2 := Aside0.mk (Kd.C_below HR0.out HS2.out.hb)
     cases hsk : Un.skip n cl with
     | true =>
      have HSK := Aside0.mk hsk
      clear hsk
      go_wp2
      go_roundg (cls.length - (k + 1))
      case measure => omega
      case rel => exact ⟨k + 1, v1, w1, by omega, by omega, by go_num, ⟨_, HS2.out⟩, HV1, HB1, ⟨by rw [← Un.look_skip n cls v1 w1 k hlt (by rw [HC.out]; exact HSK.out)]; exact HK.out⟩⟩
     | false =>
      have HSK := Aside0.mk hsk
      clear hsk
      have hv1l : v1.length = vals.length := HV1.out
      have HX1 := Aside0.mk (Un.val_range HS2.out.hx)
      go_wp2_with fail
      go_loopg [7, 52] cl.length (fun gg s7 s52 wq => ∃ (j : Nat) (left : Int), j ≤ cl.length ∧ cl.length - j ≤ gg ∧ s52 = .int .i64 j ∧ s7 = .int .i64 left ∧ left.natAbs < vals.length ∧ Aside0 (StQ w0 wq g v vars (some ad) c cls v1 w1 qv1) ∧ Aside0 (Un.scan v1 (cl.drop j) left = Un.scan v1 cl 0))
      case atStart => exact ⟨0, 0, Nat.zero_le _, by omega, rfl, rfl, by omega, HS2, ⟨rfl⟩⟩
      case round =>
       obtain ⟨j, left, hj, hg2, rfl, rfl, hleft, HS3, HSC⟩ := hrel
       by_cases hjl : j < cl.length
       · have hjlz : (j : Int) < (cl.length : Int) := by omega
         obtain ⟨p0, e0, z0⟩ := C_int_at (Kd.C_below HR0.out HS3.out.hb) j hjl
         subst e0
         have hmb := HCL.out _ (List.getElem_mem hjl)
         generalize hm : cl[j] = m at z0 hmb
         have HM := Aside0.mk hm
         clear hm
         have HVA := Aside0.mk (value_any ⟨_, HS3.out⟩ m (by rw [HV1.out]; exact hmb))
         have hxr := HX1.out m
         generalize hx : Un.val v1 m = x at HVA hxr
         have HXE := Aside0.mk hx
         clear hx
         by_cases hx1 : x = 1
         · have HO := Aside0.mk (Un.scan_out v1 cl j left hjl (.inl (by rw [HM.out, HXE.out, hx1])))
           subst hx1
           go_wp2_with (go_at_call 118; refine HVA.out.mono ?_; rintro e w' ⟨rfl, rfl⟩)
           go_roundg (cls.length - (k + 1))
           case measure => omega
           case rel => exact ⟨k + 1, v1, w1, by omega, by omega, by go_num, ⟨_, HS3.out⟩, HV1, HB1, ⟨by rw [← Un.look_none n cls v1 w1 k hlt (by rw [HC.out]; exact HSK.out) (by rw [HC.out, ← HSC.out]; exact HO.out)]; exact HK.out⟩⟩
         · by_cases hx0 : x = 0
           · by_cases hc : left ≠ 0 ∧ left ≠ m
             · have HO := Aside0.mk (Un.scan_out v1 cl j left hjl (.inr ⟨by rw [HM.out, HXE.out, hx0], hc.1, by rw [HM.out]; exact hc.2⟩))
               subst hx0
               have t1 : (left != 0) = true := bne_iff_ne.2 hc.1
               have t2 : (left != m) = true := bne_iff_ne.2 hc.2
               clear hc hx1
               go_wp2_with (go_at_call 118; refine HVA.out.mono ?_; rintro e w' ⟨rfl, rfl⟩)
               go_roundg (cls.length - (k + 1))
               case measure => omega
               case rel => exact ⟨k + 1, v1, w1, by omega, by omega, by go_num, ⟨_, HS3.out⟩, HV1, HB1, ⟨by rw [← Un.look_none n cls v1 w1 k hlt (by rw [HC.out]; exact HSK.out) (by rw [HC.out, ← HSC.out]; exact HO.out)]; exact HK.out⟩⟩
             · have HO := Aside0.mk (Un.scan_zero v1 cl j left hjl (by rw [HM.out, HXE.out, hx0]) (by rw [HM.out]; omega))
               subst hx0
               clear hx1
               by_cases hl0 : left = 0
               · subst hl0
                 go_wp2_with (go_at_call 118; refine HVA.out.mono ?_; rintro e w' ⟨rfl, rfl⟩)
                 go_roundg (cl.length - (j + 1))
                 case measure => omega
                 case rel => exact ⟨j + 1, m, by omega, by omega, by go_num, rfl, hmb, HS3, ⟨by rw [← HSC.out, HO.out, HM.out]⟩⟩
               · have t1 : (left != 0) = true := bne_iff_ne.2 hl0
                 have t2 : (left != m) = false := by rw [bne_eq_false_iff_eq]; omega
                 clear hc hl0
                 go_wp2_with (go_at_call 118; refine HVA.out.mono ?_; rintro e w' ⟨rfl, rfl⟩)
                 go_roundg (cl.length - (j + 1))
                 case measure => omega
                 case rel => exact ⟨j + 1, m, by omega, by omega, by go_num, rfl, hmb, HS3, ⟨by rw [← HSC.out, HO.out, HM.out]⟩⟩
           · have HO := Aside0.mk (Un.scan_less v1 cl j left hjl (by rw [HM.out, HXE.out]; exact hx0) (by rw [HM.out, HXE.out]; exact hx1))
             have t1 : (x == 1) = false := beq_eq_false_iff_ne.2 hx1
             have t2 : (x == 0) = false := beq_eq_false_iff_ne.2 hx0
             clear hx0 hx1
             go_wp2_with (go_at_call 118; refine HVA.out.mono ?_; rintro e w' ⟨rfl, rfl⟩)
             go_roundg (cl.length - (j + 1))
             case measure => omega
             case rel => exact ⟨j + 1, left, by omega, by omega, by go_num, rfl, hleft, HS3, ⟨by rw [← HSC.out, HO.out]⟩⟩
       · have hjlz : ¬ (j : Int) < (cl.length : Int) := by omega
         have hsc : Un.scan v1 cl 0 = some left := by
          rw [← HSC.out, List.drop_eq_nil_of_le (by omega)]; rfl
         have hsk : Un.skip n cls[k] = false := by rw [HC.out]; exact HSK.out
         by_cases hl0 : left = 0
         · subst hl0
           have HE := Aside0.mk (show LK = (false, v1, w1) by rw [← HK.out]; exact Un.look_zero n cls v1 w1 k hlt hsk (by rw [HC.out]; exact hsc))
           clear hsc hsk
           go_wp2
           try rw [Exit.noGoto_ret]
           go_ret
           rw [HE.out]
           exact ⟨rfl, _, HS3.out⟩
         · have t1 : (left == 0) = false := beq_eq_false_iff_ne.2 hl0
           have HSA := Aside0.mk (set_any ⟨_, HS3.out⟩ left (by rw [HV1.out]; exact hleft) (by have := HB1.out; omega))
           have HI := Aside0.mk (Un.set_inv v1 w1 left HS3.out.hx (by rw [HV1.out]; exact hleft))
           cases hb : (Un.set v1 w1 left).1 with
           | false =>
            have HE := Aside0.mk (show LK = Un.set v1 w1 left by rw [← HK.out]; exact Un.look_clash n cls v1 w1 k hlt hsk left hl0 (by rw [HC.out]; exact hsc) hb)
            have HBB := Aside0.mk hb
            rw [hb] at HSA
            clear hsc hsk hl0 hb
            go_wp2_with (go_at_call 89; refine HSA.out.mono ?_; rintro e w' ⟨rfl, hst'⟩; have HST := Aside0.mk hst'; clear hst')
            try rw [Exit.noGoto_ret]
            go_ret
            rw [HE.out, HBB.out]
            exact ⟨rfl, HST.out⟩
           | true =>
            have HE := Aside0.mk (show Un.look n (cls.drop (k + 1)) (Un.set v1 w1 left).2.1 (Un.set v1 w1 left).2.2 = LK by rw [← HK.out]; exact (Un.look_set n cls v1 w1 k hlt hsk left hl0 (by rw [HC.out]; exact hsc) hb).symm)
            rw [hb] at HSA
            clear hsc hsk hl0 hb
            go_wp2_with (go_at_call 89; refine HSA.out.mono ?_; rintro e w' ⟨rfl, hst'⟩; have HST := Aside0.mk hst'; clear hst')
            go_roundg (cls.length - (k + 1))
            case measure => omega
            case rel => exact ⟨k + 1, (Un.set v1 w1 left).2.1, (Un.set v1 w1 left).2.2, by omega, by omega, by go_num, HST, ⟨by rw [HI.out.1, HV1.out]⟩, ⟨by rw [HI.out.2.1, HB1.out]⟩, HE⟩
  · have hltz : ¬ (k : Int) < (cls.length : Int) := by omega
    have hke : cls.drop k = [] := List.drop_eq_nil_of_le (by omega)
    have HE := Aside0.mk (show LK = (true, v1, w1) by rw [← HK.out, hke]; rfl)
    clear hke
    go_wp2
    try rw [Exit.noGoto_ret]
    go_ret
    rw [HE.out]
    exact ⟨rfl, hst⟩
def RunEnds (w : World) (vars : Int) (A : Option Addr) (c : Nat) (cls : List (List Int)) (r : Int × List Int) (e : Ending) (w' : World) : Prop :=
 (r.1 ≠ 0 ∧ e = .returned (.tuple #[.pointer none, .int .i64 r.1]) ∧ Below w.heap.size w w') ∨
 (r.1 = 0 ∧ ∃ g v ws, e = .returned (.tuple #[.pointer (some ⟨g, 0, none⟩), .int .i64 0]) ∧ St w w' g v vars A c cls r.2 ws)
theorem boxed_formula (w : World) (vars : Int) (A : Option Addr) (c n : Nat) :
 ∃ W0 : World, W0 = w.alloc (.cells #[.int .i64 vars, .slice A n c] 36) ∧ Below w.heap.size w W0 ∧ w.heap.size < W0.heap.size ∧
  ∀ w1, Below W0.heap.size W0 w1 → Below w.heap.size w w1 ∧ w1.cell? ⟨w.heap.size, 0, none⟩ = some (.int .i64 vars) ∧ w1.cell? ⟨w.heap.size, 1, none⟩ = some (.slice A n c) := by
 refine ⟨_, rfl, below_alloc (Below.refl _ w) _, by simp, fun w1 hb => ⟨(below_alloc (Below.refl _ w) _).trans (hb.mono (by simp)), ?_, ?_⟩⟩
 · exact (hb.cell (p := ⟨w.heap.size, 0, none⟩) (by simp)).trans (by simp)
 · exact (hb.cell (p := ⟨w.heap.size, 1, none⟩) (by simp)).trans (by simp)
set_option maxHeartbeats 2000000 in
set_option maxRecDepth 100000 in
theorem run_bad (vars : Int) (A : Option Addr) (c : Nat) (cls : List (List Int)) (A1 : Option Addr) (c1 : Nat) (fixed : List Int) (w : World) (hr : Kd.C (Kd.slice 3 (Kd.int .i64)) w A cls.length cls) (hc : Sp.check vars cls ≠ 0) :
 Calls Tryz.prog 64 #[.agg #[.int .i64 vars, .slice A cls.length c], .slice A1 fixed.length c1] w (RunEnds w vars A c cls (Sp.check vars cls, [])) := by
 obtain ⟨W0, hW0, hb0, hs0, hw0⟩ := boxed_formula w vars A c cls.length
 have HB0 := Aside0.mk hb0
 have HW := Aside0.mk hw0
 have HR := Aside0.mk (Kd.C_below hr hb0)
 have HC := Aside0.mk hc
 have t1 : (Sp.check vars cls != 0) = true := bne_iff_ne.2 hc
 have HCK := Aside0.mk (fun W => check_any vars A c cls W)
 generalize Sp.check vars cls = y at HC t1 HCK ⊢
 clear hb0 hs0 hw0 hr hc
 go_enter Tryz.func64, Tryz.ntmps64
 go_wp2_with fail
 rw [← hW0]
 clear hW0
 refine (HCK.out W0 HR.out).mono ?_
 rintro e w1 ⟨rfl, hb1⟩
 obtain ⟨q0, q1, q2⟩ := HW.out w1 hb1
 have HB1 := Aside0.mk q0
 clear hb1 q0
 go_wp2
 go_ret2
 exact .inl ⟨HC.out, rfl, HB1.out⟩
theorem make_vals (m : Nat) (hm : m ≤ 1000) : ∀ W : World, (Instr.makeSlice 56 (.int .i64 ((m : Int) + 1)) (.int .i64 ((m : Int) + 1))).run Tryz.prog W = .ok (.slice (some ⟨W.heap.size, 0, none⟩) (m + 1) (m + 1)) (W.alloc (.cells (madeCells #[.int .i64 0] (m + 1)) 3)) := by
 have h := print_make (P := Tryz.prog) 56 3 .i64 8 Tryz.underlying56 info_int (by omega) (m + 1) (by omega)
 intro W
 have e : (((m + 1 : Nat)) : Int) = (m : Int) + 1 := by omega
 rw [← e]
 exact h W
theorem madeCells_list (m : Nat) : madeCells #[.int .i64 0] m = ((List.replicate m (0 : Int)).map (Value.int .i64)).toArray := by
 rw [List.map_replicate]
 refine Array.ext (by simp [madeCells]) (fun i h1 h2 => ?_)
 simp [madeCells, Nat.mod_one]
theorem st_new (w w1 : World) (hb : Below w.heap.size w w1) (nv : Nat) (hv : (nv : Int) ≤ 60) (A : Option Addr) (c : Nat) (cls : List (List Int)) (hr : Kd.C (Kd.slice 3 (Kd.int .i64)) w A cls.length cls) :
 StQ w ((w1.alloc (.cells (madeCells #[.int .i64 0] (nv + 1)) 3)).alloc (.cells #[.int .i64 nv, .slice A cls.length c, .slice (some ⟨w1.heap.size, 0, none⟩) (nv + 1) (nv + 1), .slice none 0 0] 145)) (w1.heap.size + 1) w1.heap.size nv A c cls (List.replicate (nv + 1) 0) [] (.slice none 0 0) where
 hg := by
  have := heap_alloc_new (w1.alloc (.cells (madeCells #[.int .i64 0] (nv + 1)) 3)) (.cells #[.int .i64 nv, .slice A cls.length c, .slice (some ⟨w1.heap.size, 0, none⟩) (nv + 1) (nv + 1), .slice none 0 0] 145)
  rw [World.size_alloc] at this
  simpa using this
 hv := by
  rw [Below.heap_alloc _ _ _ (by simp), heap_alloc_new, madeCells_list]
 hq := q_of_own (own_nil _ _ _ _)
 ne := by simp [Value.ownBlock]
 bg := by have := hb.size; omega
 bv := hb.size
 hl := by simp; omega
 hx := fun x hx => by rw [(List.mem_replicate.1 hx).2]; omega
 hb := (hb.alloc hb.size _).alloc (by have := hb.size; simp; omega) _
 hr := hr
def Popped (w0 : World) (g v : Nat) (vars : Int) (A : Option Addr) (c : Nat) (cls : List (List Int)) (vals ws : List Int) (e : Ending) (w' : World) : Prop :=
 ∃ (n : Int) (more : Bool) (ws' : List Int), e = .returned (.tuple #[.int .i64 n, .bool more]) ∧ St w0 w' g v vars A c cls vals ws' ∧ ws = (if more = true then n :: ws' else []) ∧ (more = false → n = 0)
theorem next_any {w0 W : World} {g v : Nat} {vars : Int} {A : Option Addr} {c : Nat} {cls : List (List Int)} {vals ws : List Int} (h : St w0 W g v vars A c cls vals ws) :
 Calls Tryz.prog 91 #[.pointer (some ⟨g, 3, none⟩)] W (Popped w0 g v vars A c cls vals ws) := by
 cases ws with
 | nil =>
  refine (next_none h).mono ?_
  rintro e w' ⟨rfl, rfl⟩
  exact ⟨0, false, [], rfl, h, rfl, fun _ => rfl⟩
 | cons n ws =>
  refine (next_some h).mono ?_
  rintro e w' ⟨rfl, hs⟩
  exact ⟨n, true, ws, rfl, hs, rfl, fun h => absurd h (by decide)⟩
theorem St.below {w0 W : World} {g v : Nat} {vars : Int} {A : Option Addr} {c : Nat} {cls : List (List Int)} {vals ws : List Int} (h : St w0 W g v vars A c cls vals ws) : Below w0.heap.size w0 W := by
 obtain ⟨qv, h⟩ := h; exact h.hb
theorem St.range {w0 W : World} {g v : Nat} {vars : Int} {A : Option Addr} {c : Nat} {cls : List (List Int)} {vals ws : List Int} (h : St w0 W g v vars A c cls vals ws) : ∀ x ∈ vals, -1 ≤ x ∧ x ≤ 1 := by
 obtain ⟨qv, h⟩ := h; exact h.hx
set_option maxHeartbeats 4000000 in
set_option maxRecDepth 100000 in
theorem run_good (k : Nat) (vars : Int) (A : Option Addr) (c : Nat) (cls : List (List Int)) (A1 : Option Addr) (c1 : Nat) (fixed : List Int) (r : Int × List Int) (w : World) (hr : Kd.C (Kd.slice 3 (Kd.int .i64)) w A cls.length cls) (hr1 : Kd.C (Kd.int .i64) w A1 fixed.length fixed)
 (hc : Sp.check vars cls = 0) (h : Un.run k vars cls fixed = some r) :
 Calls Tryz.prog 64 #[.agg #[.int .i64 vars, .slice A cls.length c], .slice A1 fixed.length c1] w (RunEnds w vars A c cls r) := by
 obtain ⟨v0, v1, hL⟩ := Sp.check_ok hc
 obtain ⟨nv, rfl⟩ := Int.eq_ofNat_of_zero_le v0
 obtain ⟨W0, hW0, hb0, hs0, hw0⟩ := boxed_formula w nv A c cls.length
 have HB0 := Aside0.mk hb0
 have HW := Aside0.mk hw0
 have HR := Aside0.mk hr
 have HR1 := Aside0.mk hr1
 have HC := Aside0.mk hc
 have HCK := Aside0.mk (check_any nv A c cls W0 (Kd.C_below hr hb0))
 rw [hc] at HCK
 have HL := Aside0.mk hL
 have HH := Aside0.mk h
 have hbig : fixed.length ≤ 9223372036854775807 := hr1.2.1
 have hmk := make_vals nv (by omega)
 clear hb0 hs0 hw0 hr hr1 hc hL h v0
 go_enter Tryz.func64, Tryz.ntmps64
 go_wp2_with fail
 rw [← hW0]
 clear hW0
 refine HCK.out.mono ?_
 rintro e w1 ⟨rfl, hb1⟩
 obtain ⟨q0, q1, q2⟩ := HW.out w1 hb1
 have HB1 := Aside0.mk q0
 clear hb1 q0
 go_wp2
 go_upto_region 4 with (fail)
 go_cut [7] (fun s7 wc => ∃ g v ws, s7 = .pointer (some ⟨g, 0, none⟩) ∧ Aside0 (StQ w wc g v nv A c cls (List.replicate (nv + 1) 0) [] ws) ∧ Aside0 (wc.cell? ⟨w.heap.size, 0, none⟩ = some (.int .i64 nv)))
 case first =>
  have hwr : IntKind.i64.wrap ((nv : Int) + 1) = (nv : Int) + 1 := IntWalk.i64_in _ (by omega)
  have q3 : ∀ o, (w1.alloc o).cell? ⟨w.heap.size, 0, none⟩ = some (.int .i64 nv) := fun o => pw_cell_below (below_alloc (Below.refl _ w1) o) q1
  have q4 : ∀ o, (w1.alloc o).cell? ⟨w.heap.size, 1, none⟩ = some (.slice A cls.length c) := fun o => pw_cell_below (below_alloc (Below.refl _ w1) o) q2
  go_region
  go_wp2
  go_meet
  case rel => exact ⟨_, _, _, rfl, ⟨(st_new w w1 HB1.out nv v1 A c cls HR.out).drewN 1⟩, ⟨pw_cell_below (below_alloc (Below.refl _ _) _) (q3 _)⟩⟩
 case rest =>
  obtain ⟨g, v, qv, rfl, HS, HF⟩ := hcut
  clear q1 q2 hmk
  have hq1 := HF.out
  go_wp2_with fail
  go_loopg [9, 29] fixed.length (fun gg _ s29 wq => ∃ j : Nat, j ≤ fixed.length ∧ fixed.length - j ≤ gg ∧ s29 = .int .i64 j ∧ Aside0 (∀ i (hi : i < fixed.length), i < j → Sp.lit nv fixed[i] = true) ∧ Aside0 (StQ w wq g v nv A c cls (List.replicate (nv + 1) 0) [] qv) ∧ Aside0 (wq.cell? ⟨w.heap.size, 0, none⟩ = some (.int .i64 nv)))
  case atStart => exact ⟨0, Nat.zero_le _, by omega, rfl, ⟨fun i hi h => absurd h (Nat.not_lt_zero _)⟩, HS, HF⟩
  case round =>
   clear hq1
   obtain ⟨j, hj, hg, rfl, HJ, HS2, HF2⟩ := hrel
   have hq2 := HF2.out
   by_cases hjl : j < fixed.length
   · have hjlz : (j : Int) < (fixed.length : Int) := by omega
     obtain ⟨p0, e0, z0⟩ := C_int_at (Kd.C_below HR1.out HS2.out.hb) j hjl
     subst e0
     generalize hm : fixed[j] = m at z0
     have HM := Aside0.mk hm
     clear hm
     cases hq : Sp.lit nv m with
     | true =>
      obtain ⟨a1, a2, a3⟩ := Sp.lit_iff.1 hq
      have HQ := Aside0.mk hq
      have t1 : (m == 0) = false := beq_eq_false_iff_ne.2 a1
      have t2 : decide (m < -(nv : Int)) = false := decide_eq_false (by omega)
      have t3 : decide ((nv : Int) < m) = false := decide_eq_false (by omega)
      clear hq a1
      go_wp2
      go_roundg (fixed.length - (j + 1))
      case measure => omega
      case rel =>
       refine ⟨j + 1, by omega, by omega, by go_num, ⟨fun i hi h => ?_⟩, HS2, HF2⟩
       by_cases e : i = j
       · subst e; rw [HM.out]; exact HQ.out
       · exact HJ.out i hi (by omega)
     | false =>
      have HE := Aside0.mk (show r = (100, []) by
       have := HH.out
       unfold Un.run at this
       rw [if_neg (by rw [HC.out]; simp), if_pos] at this
       · exact (Option.some.inj this).symm
       · rw [Bool.eq_false_iff]; intro hall
         have := List.all_eq_true.1 hall fixed[j] (List.getElem_mem hjl)
         rw [HM.out, hq] at this; exact absurd this (by decide))
      rcases Sp.lit_false.1 hq with h0 | h0 | h0
      · subst h0
        clear hq
        go_wp2
        go_ret2
        rw [HE.out]
        exact .inl ⟨by decide, rfl, HS2.out.hb⟩
      · have t1 : (m == 0) = false := beq_eq_false_iff_ne.2 (by omega)
        have t2 : decide (m < -(nv : Int)) = true := decide_eq_true (by omega)
        clear hq
        go_wp2
        go_ret2
        rw [HE.out]
        exact .inl ⟨by decide, rfl, HS2.out.hb⟩
      · have t1 : (m == 0) = false := beq_eq_false_iff_ne.2 (by omega)
        have t2 : decide (m < -(nv : Int)) = false := decide_eq_false (by omega)
        have t3 : decide ((nv : Int) < m) = true := decide_eq_true (by omega)
        clear hq
        go_wp2
        go_ret2
        rw [HE.out]
        exact .inl ⟨by decide, rfl, HS2.out.hb⟩
   · have hjlz : ¬ (j : Int) < (fixed.length : Int) := by omega
     have hlit : ∀ m ∈ fixed, Sp.lit nv m = true := by
      intro m hm
      obtain ⟨i, hi, rfl⟩ := List.mem_iff_getElem.1 hm
      exact HJ.out i hi (by omega)
     have hlen : (List.replicate (nv + 1) (0 : Int)).length = nv + 1 := by simp
     have HLIT := Aside0.mk (show ∀ m ∈ fixed, m.natAbs < nv + 1 from fun m hm => by have := Sp.lit_iff.1 (hlit m hm); omega)
     have HP := Aside0.mk (Un.run_parts HC.out (List.all_eq_true.2 hlit) HH.out)
     have HCL := Aside0.mk (show ∀ cl ∈ cls, ∀ m ∈ cl, m.natAbs < nv + 1 from fun cl hcl m hm => by have := Sp.lit_iff.1 (HL.out cl hcl m hm); omega)
     have hfr := Un.free_replicate (nv + 1)
     have HI0 := Aside0.mk (show (List.replicate (nv + 1) (0 : Int)).length = nv + 1 ∧ ([] : List Int).length + Un.free (List.replicate (nv + 1) 0) = nv + 1 from ⟨hlen, by rw [hfr]; simp⟩)
     have HS4 := Aside0.mk (show St w _ g v nv A c cls (List.replicate (nv + 1) 0) [] from ⟨_, HS2.out⟩)
     clear hlit hlen hfr HJ HS HS2 HF HF2 hq2
     have HW0 := Aside0.mk (show ∀ x ∈ ([] : List Int), x.natAbs < nv + 1 from fun x hx => by cases hx)
     generalize List.replicate (nv + 1) (0 : Int) = vals0 at HI0 HS4 HP
     generalize ([] : List Int) = ws0 at HI0 HS4 HP HW0
     obtain ⟨FX, hFX⟩ : ∃ F, F = Un.fix fixed vals0 ws0 := ⟨_, rfl⟩
     rw [← hFX] at HP
     go_wp2_with fail
     go_loopg [11, 51] fixed.length (fun gg _ s51 wq => ∃ (i : Nat) (vs ws : List Int), i ≤ fixed.length ∧ fixed.length - i ≤ gg ∧ s51 = .int .i64 i ∧ Aside0 (St w wq g v nv A c cls vs ws) ∧ Aside0 (vs.length = nv + 1 ∧ ws.length + Un.free vs = nv + 1) ∧ Aside0 (∀ x ∈ ws, x.natAbs < nv + 1) ∧ Aside0 (Un.fix (fixed.drop i) vs ws = FX))
     case atStart => exact ⟨0, vals0, ws0, Nat.zero_le _, by omega, rfl, HS4, HI0, HW0, ⟨by rw [hFX]; rfl⟩⟩
     case round =>
      clear HS4 HI0 HW0 hFX hg hj hjl hjlz
      obtain ⟨i, vs, ws, hi, hg, rfl, HS5, HI5, HW5, HX⟩ := hrel
      by_cases hil : i < fixed.length
      · have hilz : (i : Int) < (fixed.length : Int) := by omega
        obtain ⟨p0, e0, z0⟩ := C_int_at (Kd.C_below HR1.out (St.below HS5.out)) i hil
        subst e0
        have hmb := HLIT.out _ (List.getElem_mem hil)
        have HSA := Aside0.mk (set_any HS5.out fixed[i] (by rw [HI5.out.1]; exact hmb) (by have := HI5.out.2; omega))
        have HI6 := Aside0.mk (Un.set_inv vs ws fixed[i] (St.range HS5.out) (by rw [HI5.out.1]; exact hmb))
        have HW6 := Aside0.mk (Un.set_ws vs ws fixed[i] (nv + 1) HW5.out hmb)
        cases hb : (Un.set vs ws fixed[i]).1 with
        | false =>
         have HE := Aside0.mk (show r.1 = 110 by
          rcases HP.out with ⟨_, e⟩ | ⟨e, _⟩
          · rw [e]
          · rw [← HX.out, Un.fix_false fixed vs ws i hil hb] at e; exact absurd e (by decide))
         rw [hb] at HSA
         clear hb
         generalize fixed[i] = m at z0 HSA HI6 HW6 hmb
         go_wp2_with (go_at_call 89; refine HSA.out.mono ?_; rintro e w' ⟨rfl, hst'⟩; have HST := Aside0.mk hst'; clear hst')
         go_ret2
         exact .inl ⟨by rw [HE.out]; decide, by rw [HE.out]; rfl, St.below HST.out⟩
        | true =>
         have HE := Aside0.mk (show Un.fix (fixed.drop (i + 1)) (Un.set vs ws fixed[i]).2.1 (Un.set vs ws fixed[i]).2.2 = FX by rw [← Un.fix_true fixed vs ws i hil hb]; exact HX.out)
         rw [hb] at HSA
         clear hb
         generalize fixed[i] = m at z0 HSA HI6 HW6 hmb HE
         go_wp2_with (go_at_call 89; refine HSA.out.mono ?_; rintro e w' ⟨rfl, hst'⟩; have HST := Aside0.mk hst'; clear hst')
         go_roundg (fixed.length - (i + 1))
         case measure => omega
         case rel => exact ⟨i + 1, (Un.set vs ws m).2.1, (Un.set vs ws m).2.2, by omega, by omega, by go_num, HST, ⟨by rw [HI6.out.1, HI5.out.1], by rw [HI6.out.2.1, HI5.out.2]⟩, HW6, HE⟩
      · have hilz : ¬ (i : Int) < (fixed.length : Int) := by omega
        have hFX : FX = (true, vs, ws) := by rw [← HX.out, List.drop_eq_nil_of_le (by omega)]; rfl
        obtain ⟨L, okF, vF, hLK, hLP, hr⟩ : ∃ L okF vF, Un.look 0 cls vs ws = L ∧ Un.loop cls k L.1 L.2.1 L.2.2 = some (okF, vF) ∧ r = if okF = true then (0, vF) else (110, ws0) := by
         rcases HP.out with ⟨e, _⟩ | ⟨_, v2, w2, L, okF, vF, e, hlk, hlp, hr⟩
         · rw [hFX] at e; exact absurd e (by simp)
         · rw [hFX] at e
           injection e with _ e
           injection e with e1 e2
           subst e1; subst e2
           exact ⟨L, okF, vF, hlk, hlp, hr⟩
        have HLA := Aside0.mk (look_any HS5.out 0 (by rw [HI5.out.1]; exact Nat.succ_pos _) (fun cl h m hm => by rw [HI5.out.1]; exact HCL.out cl h m hm) (nv + 1) HI5.out.2 (by omega))
        have HI7 := Aside0.mk (Un.look_inv 0 cls vs ws (St.range HS5.out) (fun cl h m hm => by rw [HI5.out.1]; exact HCL.out cl h m hm))
        have HW7 := Aside0.mk (Un.look_ws 0 (nv + 1) cls vs ws HW5.out HCL.out)
        rw [hLK] at HLA HI7 HW7
        have HRF := Aside0.mk hr
        have HLP := Aside0.mk hLP
        obtain ⟨ok1, vs1, ws1⟩ := L
        have HI8 := Aside0.mk (show vs1.length = nv + 1 ∧ ws1.length + Un.free vs1 = nv + 1 from ⟨HI7.out.1.trans HI5.out.1, HI7.out.2.1.trans HI5.out.2⟩)
        clear hr hLP hLK hFX
        have hlook := HLA.out
        clear HLA
        simp only at hlook HW7 HLP
        go_wp2_with (first | (go_at_call 90; refine hlook.mono ?_; rintro e w2 ⟨rfl, hst2⟩; have HN := Aside0.mk (next_any hst2); clear hst2) | (go_at_call 91; refine HN.out.mono ?_; rintro e w3 ⟨n, more, ws2, rfl, hst3, hws, hmo⟩; have HS6 := Aside0.mk hst3; have HWS := Aside0.mk hws; have HMO := Aside0.mk hmo; clear hst3 hws hmo HN))
        rw [HWS.out] at HLP HI8 HW7
        have HW9 := Aside0.mk HW7.out
        go_loopg [12, 13, 14] k (fun gg s12 s13 s14 wq => ∃ (ok more : Bool) (n : Int) (vs ws : List Int), s12 = .bool ok ∧ s13 = .int .i64 n ∧ s14 = .bool more ∧ Aside0 (St w wq g v nv A c cls vs ws) ∧ Aside0 (Un.loop cls gg ok vs (if more = true then n :: ws else []) = some (okF, vF)) ∧ Aside0 (vs.length = nv + 1 ∧ (if more = true then n :: ws else []).length + Un.free vs ≤ nv + 1) ∧ Aside0 (∀ x ∈ (if more = true then n :: ws else []), x.natAbs < nv + 1))
        case atStart => exact ⟨ok1, more, n, vs1, ws2, rfl, rfl, rfl, HS6, HLP, ⟨HI8.out.1, Nat.le_of_eq HI8.out.2⟩, HW9⟩
        case round =>
         clear HS6 HLP HI8 HW9 HW7 HWS HMO HS5 HI5 HW5 HX hilz hg hi HI7
         obtain ⟨ok, more, n, vs, ws, rfl, rfl, rfl, HS7, HLO, HI9, HWA⟩ := hrel
         cases gk with
         | zero => exact absurd HLO.out (by simp [Un.loop])
         | succ gk =>
          have hlo := HLO.out
          clear HLO
          cases more with
          | false =>
           simp only [Bool.false_eq_true, if_false, Un.loop] at hlo
           injection hlo with e
           injection e with e1 e2
           subst e1; subst e2
           cases ok with
           | false =>
            go_wp2
            go_ret2
            refine .inl ⟨?_, ?_, St.below HS7.out⟩
            · rw [HRF.out]; simp
            · rw [HRF.out]; rfl
           | true =>
            go_wp2
            go_ret2
            refine .inr ⟨?_, g, v, ws, rfl, ?_⟩
            · rw [HRF.out]; rfl
            · rw [HRF.out]; exact HS7.out
          | true =>
           simp only [if_true, Un.loop] at hlo
           cases ok with
           | false =>
            simp only [if_true] at hlo
            injection hlo with e
            injection e with e1 e2
            subst e1; subst e2
            go_wp2
            go_ret2
            refine .inl ⟨?_, ?_, St.below HS7.out⟩
            · rw [HRF.out]; simp
            · rw [HRF.out]; rfl
           | true =>
            simp only [Bool.true_eq_false, if_false] at hlo
            simp only [if_true] at HI9 HWA
            have hn := HWA.out n List.mem_cons_self
            have HWB := Aside0.mk (show ∀ x ∈ ws, x.natAbs < nv + 1 from fun x hx => HWA.out x (List.mem_cons_of_mem _ hx))
            have hB : ws.length + Un.free vs ≤ nv := by have := HI9.out.2; simp only [List.length_cons] at this; omega
            have HLA := Aside0.mk (look_any HS7.out n (by rw [HI9.out.1]; exact hn) (fun cl h m hm => by rw [HI9.out.1]; exact HCL.out cl h m hm) _ rfl (by omega))
            have HI7 := Aside0.mk (Un.look_inv n cls vs ws (St.range HS7.out) (fun cl h m hm => by rw [HI9.out.1]; exact HCL.out cl h m hm))
            have HW7 := Aside0.mk (Un.look_ws n (nv + 1) cls vs ws HWB.out HCL.out)
            clear HWA HWB
            rcases hLK : Un.look n cls vs ws with ⟨ok2, vs2, ws2⟩
            rw [hLK] at hlo HLA HI7 HW7
            have HLO2 := Aside0.mk hlo
            have HI8 := Aside0.mk (show vs2.length = nv + 1 ∧ ws2.length + Un.free vs2 ≤ nv from ⟨HI7.out.1.trans HI9.out.1, by have := HI7.out.2.1; simp only at this; omega⟩)
            have hlook := HLA.out
            clear HLA hLK hlo HI9 HI7 hB HS7
            simp only at hlook HW7 HLO2
            go_wp2_with (first | (go_at_call 90; refine hlook.mono ?_; rintro e w2 ⟨rfl, hst2⟩; have HN := Aside0.mk (next_any hst2); clear hst2) | (go_at_call 91; refine HN.out.mono ?_; rintro e w3 ⟨n2, more2, ws3, rfl, hst3, hws, hmo⟩; have HS6 := Aside0.mk hst3; have HWS := Aside0.mk hws; clear hst3 hws hmo HN))
            rw [HWS.out] at HLO2 HI8 HW7
            go_roundg gk
            case measure => omega
            case rel => exact ⟨ok2, more2, n2, vs2, ws3, rfl, rfl, rfl, HS6, HLO2, ⟨HI8.out.1, by have := HI8.out.2; omega⟩, HW7⟩
theorem run_any (k : Nat) (vars : Int) (A : Option Addr) (c : Nat) (cls : List (List Int)) (A1 : Option Addr) (c1 : Nat) (fixed : List Int) (r : Int × List Int) (w : World) (hr : Kd.C (Kd.slice 3 (Kd.int .i64)) w A cls.length cls) (hr1 : Kd.C (Kd.int .i64) w A1 fixed.length fixed) (h : Un.run k vars cls fixed = some r) :
 Calls Tryz.prog 64 #[.agg #[.int .i64 vars, .slice A cls.length c], .slice A1 fixed.length c1] w (RunEnds w vars A c cls r) := by
 by_cases hc : Sp.check vars cls = 0
 · exact run_good k vars A c cls A1 c1 fixed r w hr hr1 hc h
 · unfold Un.run at h
   rw [if_pos hc] at h
   obtain rfl := Option.some.inj h
   exact run_bad vars A c cls A1 c1 fixed w hr hc
def prop (r : Int × List Int) : List Int × Int := if r.1 ≠ 0 then ([], r.1) else (Un.tell r.2, 0)
def PropEnds (w : World) (r : List Int × Int) (e : Ending) (w' : World) : Prop :=
 ∃ v0_ : Value, e = .returned (.tuple #[v0_, .int .i64 r.2]) ∧ Kd.R (Kd.int .i64) 3 w' w.heap.size (fun _ => True) v0_ r.1 ∧ Below w.heap.size w w'
set_option maxHeartbeats 4000000 in
set_option maxRecDepth 100000 in
theorem propagate_any (k : Nat) (vars : Int) (A : Option Addr) (c : Nat) (cls : List (List Int)) (A1 : Option Addr) (c1 : Nat) (fixed : List Int) (r : Int × List Int) (w : World) (hr : Kd.C (Kd.slice 3 (Kd.int .i64)) w A cls.length cls) (hr1 : Kd.C (Kd.int .i64) w A1 fixed.length fixed) (h : Un.run k vars cls fixed = some r) :
 Calls Tryz.prog 41 #[.agg #[.int .i64 vars, .slice A cls.length c], .slice A1 fixed.length c1] w (PropEnds w (prop r)) := by
 obtain ⟨re, vals⟩ := r
 obtain ⟨W0, hW0, hb0, hs0, hw0⟩ := boxed_formula w vars A c cls.length
 have HB0 := Aside0.mk hb0
 have HRN := Aside0.mk (run_any k vars A c cls A1 c1 fixed (re, vals) W0 (Kd.C_below hr hb0) (Kd.C_below hr1 hb0) h)
 clear hb0 hs0 hw0 hr hr1 h
 by_cases h0 : re = 0
 · have HE := Aside0.mk (show prop (re, vals) = (Un.tell vals, 0) by unfold prop; rw [if_neg (by simp [h0])])
   rw [HE.out]
   clear HE
   go_enter Tryz.func41, Tryz.ntmps41
   go_wp2_with fail
   rw [← hW0]
   clear hW0
   refine HRN.out.mono ?_
   rintro e w1 (⟨e1, _⟩ | ⟨_, g, v, ws, rfl, hst⟩)
   · exact absurd h0 e1
   obtain ⟨qv, hs⟩ := hst
   obtain ⟨f0, f1, f2, f3⟩ := hs.fld
   have HS := Aside0.mk hs
   have hl := hs.hl
   have HB1 := Aside0.mk (HB0.out.trans (hs.hb.mono HB0.out.size))
   have HX := Aside0.mk (fun j => vals_range hs.hx j)
   have HV := Aside0.mk hs.hv
   have HVL := Aside0.mk (Array.getElem?_eq_some_iff.1 hs.hv).1
   clear hs f0 f1 f3
   simp only at HS hl HX HV f2
   go_wp2_with fail
   go_loopg [8, 25] vals.length (fun gg s8 s25 wq => ∃ j : Nat, j ≤ vals.length ∧ vals.length - j ≤ gg ∧ s25 = .int .i64 j ∧ Aside0 (Kd.R (Kd.int .i64) 3 wq w.heap.size (fun b => b ≠ v) s8 (Un.upto vals j)) ∧ Aside0 (Below w.heap.size w wq) ∧ Aside0 (wq.heap[v]? = some (.cells (vals.map (Value.int .i64)).toArray 3 (0, 0))))
   case atStart => exact ⟨0, Nat.zero_le _, by omega, rfl, ⟨Kd.R_nil _ _ _ _ _⟩, HB1, HV⟩
   case round =>
    clear HV HVL HS f2
    obtain ⟨j, hj, hg, rfl, HR, HB, HV⟩ := hrel
    by_cases hjl : j < vals.length
    · have hjlz : (j : Int) < (vals.length : Int) := by omega
      have hcell : wr.cell? ⟨v, j, none⟩ = some (.int .i64 (vals.getD j 0)) := by rw [blk_cell HV.out j]; simp [hjl]
      have hxr := HX.out j
      have HLE := Aside0.mk (Un.upto_length vals j)
      have HVL := Aside0.mk (Array.getElem?_eq_some_iff.1 HV.out).1
      by_cases hx0 : vals.getD j 0 = 0
      · have HU := Aside0.mk (Un.upto_zero vals j hx0)
        rw [hx0] at hcell
        clear hx0 hxr
        go_wp2
        go_roundg (vals.length - (j + 1))
        case measure => omega
        case rel => exact ⟨j + 1, by omega, by omega, by go_num, ⟨by rw [HU.out]; exact HR.out⟩, HB, HV⟩
      · have HU := Aside0.mk (Un.upto_some vals j hx0)
        by_cases hx1 : vals.getD j 0 = 1
        · rw [hx1] at hcell HU
          clear hx0 hxr hx1
          have e1 : (j : Int) * 1 = j := by omega
          rw [e1] at HU
          clear e1
          go_wp2_with (at_builtin; refine Kd.R_append (Kd.int .i64) (w0 := w) w.heap.size rfl (.tmp 32) (.tmp 36) 56 3 (.int .i64 0) 8 rfl Tryz.underlying56 info_int rfl (by decide) (by omega) u8 (Un.upto vals j) (j : Int) [.int .i64 (j : Int)] (fun b => b ≠ v) (fun _ => False) rfl rfl ?aP (fun _ hk => hk.elim) ?aF ?aO ?aB ?aS ?aL ?_; (case aP => exact rfl); (case aB => exact HB.out); (case aF => exact (fun b hb e => by have := HVL.out; omega)); (case aO => exact HR.out); (case aS => exact HB.out.size); (case aL => have := HLE.out; omega); intro v1 w2 hR2 hB2 hg2 hat2; have HR2 := Aside0.mk hR2; have HB2 := Aside0.mk hB2; have HG2 := Aside0.mk hg2; clear hR2 hB2 hg2 hat2)
          go_roundg (vals.length - (j + 1))
          case measure => omega
          case rel => exact ⟨j + 1, by omega, by omega, by go_num, ⟨by rw [HU.out]; exact HR2.out⟩, HB2, ⟨(HG2.out.block v HVL.out (fun e => HR.out.1 v e.symm rfl)).trans HV.out⟩⟩
        · have hx2 : vals.getD j 0 = -1 := by omega
          rw [hx2] at hcell HU
          clear hx0 hxr hx1 hx2
          have e1 : (j : Int) * -1 = -(j : Int) := by omega
          rw [e1] at HU
          clear e1
          go_wp2_with (at_builtin; refine Kd.R_append (Kd.int .i64) (w0 := w) w.heap.size rfl (.tmp 32) (.tmp 36) 56 3 (.int .i64 0) 8 rfl Tryz.underlying56 info_int rfl (by decide) (by omega) u8 (Un.upto vals j) (-(j : Int)) [.int .i64 (-(j : Int))] (fun b => b ≠ v) (fun _ => False) rfl rfl ?aP (fun _ hk => hk.elim) ?aF ?aO ?aB ?aS ?aL ?_; (case aP => exact rfl); (case aB => exact HB.out); (case aF => exact (fun b hb e => by have := HVL.out; omega)); (case aO => exact HR.out); (case aS => exact HB.out.size); (case aL => have := HLE.out; omega); intro v1 w2 hR2 hB2 hg2 hat2; have HR2 := Aside0.mk hR2; have HB2 := Aside0.mk hB2; have HG2 := Aside0.mk hg2; clear hR2 hB2 hg2 hat2)
          go_roundg (vals.length - (j + 1))
          case measure => omega
          case rel => exact ⟨j + 1, by omega, by omega, by go_num, ⟨by rw [HU.out]; exact HR2.out⟩, HB2, ⟨(HG2.out.block v HVL.out (fun e => HR.out.1 v e.symm rfl)).trans HV.out⟩⟩
    · have hjlz : ¬ (j : Int) < (vals.length : Int) := by omega
      have hjv : j = vals.length := by omega
      subst hjv
      go_wp2
      go_ret2
      exact ⟨_, rfl, Kd.R_mono HR.out (fun _ _ => trivial), HB.out⟩
 · have HE := Aside0.mk (show prop (re, vals) = ([], re) by unfold prop; rw [if_pos (by simpa using h0)])
   rw [HE.out]
   have t1 : (re != 0) = true := bne_iff_ne.2 h0
   clear HE
   go_enter Tryz.func41, Tryz.ntmps41
   go_wp2_with fail
   rw [← hW0]
   clear hW0
   refine HRN.out.mono ?_
   rintro e w1 (⟨_, rfl, hb1⟩ | ⟨e1, _⟩)
   · have HB1 := Aside0.mk (HB0.out.trans (hb1.mono HB0.out.size))
     clear hb1 h0
     go_wp2
     go_ret2
     exact ⟨_, rfl, Kd.R_nil _ _ _ _ _, HB1.out⟩
   · exact absurd e1 h0
theorem freeVar_idx (vals : List Int) : Un.freeVar vals = Idx (vals.drop 1) 0 + 1 := by
 unfold Un.freeVar Idx
 cases (vals.drop 1).findIdx? (fun x => 0 == x) <;> rfl
theorem idx_range (l : List Int) (x : Int) : -1 ≤ Idx l x ∧ Idx l x < l.length := by
 unfold Idx
 cases h : l.findIdx? (fun y => x == y) with
 | none => exact ⟨Int.le_refl _, by show (-1 : Int) < _; omega⟩
 | some i =>
  rw [List.findIdx?_eq_some_iff_getElem] at h
  obtain ⟨hi, _⟩ := h
  exact ⟨by simp only; omega, by simp only; omega⟩
theorem C_tail {W : World} {v : Nat} {vals : List Int} (h : W.heap[v]? = some (.cells (vals.map (Value.int .i64)).toArray 3 (0, 0))) (hl : vals.length ≤ 100) : Kd.C (Kd.int .i64) W (some ⟨v, 1, none⟩) (vals.drop 1).length (vals.drop 1) := by
 refine Kd.C_of_reads (d := (0 : Int)) (h1 := fun _ => rfl) ⟨rfl, by simp; omega, fun _ => ⟨_, rfl, fun j hj => ?_⟩⟩
 have hj' : 1 + j < vals.length := by simp at hj; omega
 rw [add_at, Nat.add_comm 1 j, blk_cell h (j + 1)]
 simp [show j + 1 < vals.length by omega]
def free (r : Int × List Int) : Int := if r.1 ≠ 0 then 0 else Un.freeVar r.2
set_option maxHeartbeats 4000000 in
set_option maxRecDepth 100000 in
theorem free_any (k : Nat) (vars : Int) (A : Option Addr) (c : Nat) (cls : List (List Int)) (A1 : Option Addr) (c1 : Nat) (fixed : List Int) (r : Int × List Int) (w : World) (hr : Kd.C (Kd.slice 3 (Kd.int .i64)) w A cls.length cls) (hr1 : Kd.C (Kd.int .i64) w A1 fixed.length fixed) (h : Un.run k vars cls fixed = some r) :
 Calls Tryz.prog 63 #[.agg #[.int .i64 vars, .slice A cls.length c], .slice A1 fixed.length c1] w fun e w' => e = .returned (.int .i64 (free r)) ∧ Below w.heap.size w w' := by
 obtain ⟨re, vals⟩ := r
 obtain ⟨W0, hW0, hb0, hs0, hw0⟩ := boxed_formula w vars A c cls.length
 have HB0 := Aside0.mk hb0
 have HRN := Aside0.mk (run_any k vars A c cls A1 c1 fixed (re, vals) W0 (Kd.C_below hr hb0) (Kd.C_below hr1 hb0) h)
 clear hb0 hs0 hw0 hr hr1
 by_cases h0 : re = 0
 · have HE := Aside0.mk (show free (re, vals) = Idx (vals.drop 1) 0 + 1 by unfold free; rw [if_neg (by simp [h0])]; exact freeVar_idx vals)
   rw [HE.out]
   subst h0
   have hvl := Un.run_length h
   obtain ⟨z, hz⟩ : ∃ z, Idx (vals.drop 1) 0 + 1 = z := ⟨_, rfl⟩
   rw [hz]
   have HZ := Aside0.mk hz
   clear HE h hz
   go_enter Tryz.func63, Tryz.ntmps63
   go_wp2_with fail
   rw [← hW0]
   clear hW0
   refine HRN.out.mono ?_
   rintro e w1 (⟨e1, _⟩ | ⟨_, g, v, ws, rfl, hst⟩)
   · exact absurd rfl e1
   obtain ⟨qv, hs⟩ := hst
   obtain ⟨f0, f1, f2, f3⟩ := hs.fld
   have hl := hs.hl
   have HB1 := Aside0.mk (HB0.out.trans (hs.hb.mono HB0.out.size))
   have HV := Aside0.mk hs.hv
   have HT := Aside0.mk (C_tail hs.hv hs.hl)
   obtain ⟨y1, y2⟩ := idx_range (vals.drop 1) 0
   have hdl : (vals.drop 1).length = vals.length - 1 := by simp
   clear hs f0 f1 f3
   simp only at hl HV HT f2
   obtain ⟨y, hy⟩ : ∃ y, Idx (vals.drop 1) 0 = y := ⟨_, rfl⟩
   have HY := Aside0.mk hy
   by_cases hv1 : vals.length = 1
   · have HIX := Aside0.mk (index_int 0 [] (some ⟨v, 0, none⟩) 0 w1 (Kd.C_of_reads (d := (0 : Int)) (h1 := fun _ => rfl) ⟨rfl, by simp, fun h => absurd h (by simp)⟩))
     have hd : vals.drop 1 = [] := List.drop_eq_nil_of_le (by omega)
     rw [hd] at hy
     rw [hy] at HIX
     have hy0 : y = -1 := by rw [← hy]; rfl
     rw [hv1] at f2
     clear hdl hvl hd hy y1 y2 hl
     subst hy0
     go_wp2_with (go_at_call 88; refine HIX.out.mono ?_; rintro e w' ⟨rfl, rfl⟩)
     go_ret
     exact ⟨by rw [show z = 0 from by have := HZ.out; have := HY.out; omega]; rfl, HB1.out⟩
   · have hv2 : 1 < vals.length := by omega
     have HIX := Aside0.mk (index_int 0 (vals.drop 1) (some ⟨v, 1, none⟩) (vals.length - 1) w1 HT.out)
     rw [hdl] at HIX y2
     rw [hy] at HIX y1 y2
     clear hdl hvl hy hv1
     go_wp2_with (go_at_call 88; refine HIX.out.mono ?_; rintro e w' ⟨rfl, rfl⟩)
     · go_ret
       exact ⟨by rw [show z = y + 1 from by have := HZ.out; have := HY.out; omega]; rfl, HB1.out⟩
     · go_ret
       exact ⟨by rw [show z = 0 from by have := HZ.out; have := HY.out; omega]; rfl, HB1.out⟩
 · have HE := Aside0.mk (show free (re, vals) = 0 by unfold free; rw [if_pos (by simpa using h0)])
   rw [HE.out]
   have t1 : (re != 0) = true := bne_iff_ne.2 h0
   clear HE h
   go_enter Tryz.func63, Tryz.ntmps63
   go_wp2_with fail
   rw [← hW0]
   clear hW0
   refine HRN.out.mono ?_
   rintro e w1 (⟨_, rfl, hb1⟩ | ⟨e1, _⟩)
   · have HB1 := Aside0.mk (HB0.out.trans (hb1.mono HB0.out.size))
     clear hb1 h0
     go_wp2
     go_ret
     exact ⟨rfl, HB1.out⟩
   · exact absurd e1 h0
noncomputable def unit_Propagate.f (a0_0 : Int) (l0_1 : List (List Int)) (l1 : List Int) : Option (List Int × Int) := some (Uk.prop a0_0 l0_1 l1)
theorem unit_Propagate.calls (a0_0 : Int) (A0_1 : Option Addr) (c0_1 : Nat) (l0_1 : List (List Int)) (A1 : Option Addr) (c1 : Nat) (l1 : List Int) (r1 : List Int) (r2 : Int) (w : World) (hr0_1 : Kd.C (Kd.slice 3 (Kd.int .i64)) w A0_1 l0_1.length l0_1) (hc0_1 : l0_1.length ≤ c0_1) (hr1 : Kd.C (Kd.int .i64) w A1 l1.length l1) (hc1 : l1.length ≤ c1) (h : unit_Propagate.f a0_0 l0_1 l1 = some (r1, r2)) :
 Calls Tryz.prog 41 #[.agg #[.int .i64 a0_0, .slice A0_1 l0_1.length c0_1], .slice A1 l1.length c1] w fun e w' => ∃ v0_ : Value, e = .returned (.tuple #[v0_, .int .i64 r2]) ∧ Kd.R (Kd.int .i64) 3 w' w.heap.size (fun _ => True) v0_ r1 ∧ Below w.heap.size w w' := by
 obtain ⟨k, r, h1, h2, _⟩ := Uk.run_prop a0_0 l0_1 l1
 have e : prop r = (r1, r2) := h2.trans (Option.some.inj h)
 have := propagate_any k a0_0 A0_1 c0_1 l0_1 A1 c1 l1 r w hr0_1 hr1 h1
 rw [e] at this
 exact this
noncomputable def unit_Free.f (a0_0 : Int) (l0_1 : List (List Int)) (l1 : List Int) : Option Int := some (Uk.free a0_0 l0_1 l1)
theorem unit_Free.calls (a0_0 : Int) (A0_1 : Option Addr) (c0_1 : Nat) (l0_1 : List (List Int)) (A1 : Option Addr) (c1 : Nat) (l1 : List Int) (r : Int) (w : World) (hr0_1 : Kd.C (Kd.slice 3 (Kd.int .i64)) w A0_1 l0_1.length l0_1) (hc0_1 : l0_1.length ≤ c0_1) (hr1 : Kd.C (Kd.int .i64) w A1 l1.length l1) (hc1 : l1.length ≤ c1) (h : unit_Free.f a0_0 l0_1 l1 = some r) :
 Calls Tryz.prog 63 #[.agg #[.int .i64 a0_0, .slice A0_1 l0_1.length c0_1], .slice A1 l1.length c1] w fun e w' => e = .returned (.int .i64 r) ∧ Below w.heap.size w w' := by
 obtain ⟨k, q, h1, _, h2⟩ := Uk.run_prop a0_0 l0_1 l1
 have e : free q = r := h2.trans (Option.some.inj h)
 rw [← e]
 exact free_any k a0_0 A0_1 c0_1 l0_1 A1 c1 l1 q w hr0_1 hr1 h1
structure GstT (T : TypeId) (w2 W : World) (b : Nat) (vars : Int) (gv : Value) (xs : List (List Int)) : Prop where
 hg : W.heap[b]? = some (.cells #[.int .i64 vars, gv] T (0, 0))
 hn : Kd.N (Kd.slice 3 (Kd.int .i64)) 56 W w2.heap.size (fun k => k ≠ b) gv xs
 bb : w2.heap.size ≤ b
 hb : Below w2.heap.size w2 W
theorem GstT.lt {T : TypeId} {w2 W : World} {b : Nat} {vars : Int} {gv : Value} {xs : List (List Int)} (h : GstT T w2 W b vars gv xs) : b < W.heap.size := (Array.getElem?_eq_some_iff.1 h.hg).1
theorem GstT.below {T : TypeId} {w2 W w1 : World} {b : Nat} {vars : Int} {gv : Value} {xs : List (List Int)} (h : GstT T w2 W b vars gv xs) (hb : Below W.heap.size W w1) : GstT T w2 w1 b vars gv xs :=
 ⟨(hb.block b h.lt).trans h.hg, Kd.N_below h.hn hb, h.bb, below_then h.hb h.hb.size hb⟩
theorem GstT.fld {T : TypeId} {w2 W : World} {b : Nat} {vars : Int} {gv : Value} {xs : List (List Int)} (h : GstT T w2 W b vars gv xs) : W.cell? ⟨b, 0, none⟩ = some (.int .i64 vars) ∧ W.cell? ⟨b, 1, none⟩ = some gv := ⟨(blk_cell h.hg 0).trans rfl, (blk_cell h.hg 1).trans rfl⟩
theorem GstT.put {T : TypeId} {w2 W w1 : World} {b : Nat} {vars : Int} {gv v1 : Value} {xs ys : List (List Int)} (h : GstT T w2 W b vars gv xs) (hn : Kd.N (Kd.slice 3 (Kd.int .i64)) 56 w1 w2.heap.size (fun k => k ≠ b) v1 ys) (hb : Below w2.heap.size w2 w1) (hg : W.grownBy w1 gv.ownBlock) :
 GstT T w2 (w1.setCell ⟨b, 1, none⟩ v1) b vars v1 ys := by
 have e1 : w1.heap[b]? = W.heap[b]? := hg.block b h.lt (fun e => h.hn.1 b e.symm rfl)
 refine ⟨?_, Kd.N_far hn (fun k hk => hk) v1, h.bb, hb.setCell (p := ⟨b, 1, none⟩) h.bb v1⟩
 have := blk_set (e1.trans h.hg) 1 v1
 simpa using this
theorem GstT.kept {T : TypeId} {w2 W w1 : World} {b : Nat} {vars : Int} {gv : Value} {xs : List (List Int)} (h : GstT T w2 W b vars gv xs) (hg : W.grownBy w1 gv.ownBlock) : w1.heap[b]? = some (.cells #[.int .i64 vars, gv] T (0, 0)) :=
 (hg.block b h.lt (fun e => h.hn.1 b e.symm rfl)).trans h.hg
theorem row_reads {w : World} {e : TypeId} {base : Nat} {v : Value} {xs : List Int} (h : Kd.R (Kd.int .i64) e w base (fun _ => True) v xs) : ∃ A c, v = .slice A xs.length c ∧ Kd.C (Kd.int .i64) w A xs.length xs ∧ xs.length ≤ c := by
 obtain ⟨A, c, e⟩ := Kd.R_slice h
 subst e
 exact ⟨A, c, rfl, (Kd.R_reads' h).2.2, (Kd.R_reads' h).2.1⟩
theorem info_rows : (Tryz.prog.info? 56).map (fun i => (i.zero, i.size, i.bytes)) = some (some (.slice none 0 0), (Kd.slice 3 (Kd.int .i64)).sz, 24) := by kernel_rfl
theorem shared_row {w2 W : World} {A : Option Addr} {c : Nat} {l : List Int} (hl : l.length ≤ c) (h : Kd.C (Kd.int .i64) w2 A l.length l) (hb : Below w2.heap.size w2 W) : Kd.FK (Kd.slice 3 (Kd.int .i64)) W (fun k => k < w2.heap.size) l [.slice A l.length c] :=
 Kd.FK_slice_mk hl (Kd.F_below (Kd.C_F (Kd.heap_int .i64) h) hb)
theorem shared_ok {T : TypeId} {w2 W : World} {b : Nat} {vars : Int} {gv : Value} {xs : List (List Int)} (h : GstT T w2 W b vars gv xs) (k : Nat) (hk : k < w2.heap.size) : k ≠ b ∧ some k ≠ gv.ownBlock := by
 refine ⟨fun e => ?_, fun e => ?_⟩
 · have := h.bb; omega
 · have := Kd.N_base h.hn k e.symm; omega
theorem fresh_ok {T : TypeId} {w2 W : World} {b : Nat} {vars : Int} {gv : Value} {xs : List (List Int)} (h : GstT T w2 W b vars gv xs) (k : Nat) (hk : W.heap.size ≤ k) : k ≠ b := by
 have := h.lt; omega
end Go.Proofs.YteinkjhimceljaaGreatDoor.J
