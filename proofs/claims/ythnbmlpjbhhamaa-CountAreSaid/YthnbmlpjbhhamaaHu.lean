/- The functions of package unit, walked: what they compute is what Un says. -/
import Derived.Test.YthnbmlpjbhhamaaHb
import Derived.Test.YthnbmlpjbhhamaaUn
import Derived.IntWalk
namespace Go.Proofs.Ythnbmlpjbhhamaa.J
open Go.RowKit Go.Shelf Go.Proofs.YthnbmlpjbhhamaaW.PrintWords Go.Proofs.YthnbmlpjbhhamaaW.PrintLast Go.Proofs.YthnbmlpjbhhamaaW.PrintMore
set_option linter.unusedVariables false
set_option linter.unusedSimpArgs false

/-! ### slices.Index, slices.Contains at whole numbers -/
def Idx (l : List Int) (x : Int) : Int := match l.findIdx? (fun y => x == y) with | some i => i | none => -1
theorem idx_hit (l : List Int) (x : Int) (k : Nat) (h : k < l.length) (hk : l[k] = x) (hb : ∀ j (hj : j < l.length), j < k → l[j] ≠ x) : Idx l x = k := by
  have : l.findIdx? (fun y => x == y) = some k := by
    rw [List.findIdx?_eq_some_iff_getElem]
    refine ⟨h, by simp [hk], fun j hj => ?_⟩
    have := hb j (by omega) hj
    simp; exact fun e => this e.symm
  unfold Idx; rw [this]
theorem idx_miss (l : List Int) (x : Int) (hb : ∀ j (hj : j < l.length), l[j] ≠ x) : Idx l x = -1 := by
  have : l.findIdx? (fun y => x == y) = none := by
    rw [List.findIdx?_eq_none_iff]
    intro y hy
    obtain ⟨j, hj, rfl⟩ := List.mem_iff_getElem.1 hy
    simp; exact fun e => hb j hj e.symm
  unfold Idx; rw [this]
theorem idx_contains (l : List Int) (x : Int) : decide (0 ≤ Idx l x) = l.contains x := by
  unfold Idx
  cases h : l.findIdx? (fun y => x == y) with
  | none =>
    rw [List.findIdx?_eq_none_iff] at h
    have : l.contains x = false := by
      rw [Bool.eq_false_iff]; intro hc
      have := h x (by simpa using hc)
      simp at this
    rw [this]; rfl
  | some i =>
    rw [List.findIdx?_eq_some_iff_getElem] at h
    obtain ⟨hi, h1, _⟩ := h
    have : l.contains x = true := by
      have : x = l[i] := by simpa using h1
      rw [this]; simp
    rw [this]; simp

set_option maxHeartbeats 2000000 in
theorem index_int (x : Int) (l : List Int) (A : Option Addr) (c : Nat) (w : World) (hr : Kd.C (Kd.int .i64) w A l.length l) :
    Calls Try.prog 85 #[.slice A l.length c, .int .i64 x] w fun e w' => e = .returned (.int .i64 (Idx l x)) ∧ w = w' := by
  have HR := Aside0.mk hr
  have hbig : l.length ≤ 9223372036854775807 := hr.2.1
  clear hr
  go_enter Try.func85, Try.ntmps85
  go_wp2
  go_loopg [5, 8] l.length (fun gg _ s8 wr => ∃ kk : Nat, kk ≤ l.length ∧ l.length - kk ≤ gg ∧ s8 = .int .i64 kk ∧ Aside0 (∀ j (hj : j < l.length), j < kk → l[j] ≠ x) ∧ Aside0 (w = wr))
  case atStart => exact ⟨0, Nat.zero_le _, by omega, rfl, ⟨fun j hj h => absurd h (Nat.not_lt_zero _)⟩, ⟨rfl⟩⟩
  case round =>
    obtain ⟨kk, hkk, hg, rfl, AM, ⟨rfl⟩⟩ := hrel
    by_cases hlt : kk < l.length
    · have hltz : (kk : Int) < (l.length : Int) := by omega
      obtain ⟨ad, e0, hcell⟩ := C_int_at HR.out kk hlt
      subst e0
      generalize hy : l[kk] = y at hcell
      have B := Aside0.mk hy
      clear hy
      by_cases hq : x = y
      · have t1 : (x == y) = true := beq_iff_eq.2 hq
        have HQ := Aside0.mk hq
        clear hq
        go_wp2
        go_ret
        exact ⟨by rw [idx_hit l x kk hlt (by rw [B.out, HQ.out]) AM.out]; rfl, rfl⟩
      · have t1 : (x == y) = false := beq_eq_false_iff_ne.2 hq
        have HQ := Aside0.mk hq
        clear hq
        go_wp2
        go_roundg (l.length - (kk + 1))
        case measure => omega
        case rel =>
          refine ⟨kk + 1, by omega, by omega, by go_num, ⟨fun j hj h => ?_⟩, ⟨rfl⟩⟩
          by_cases e : j = kk
          · subst e
            rw [B.out]; exact fun e => HQ.out e.symm
          · exact AM.out j hj (by omega)
    · have hltz : ¬ (kk : Int) < (l.length : Int) := by omega
      go_wp2
      go_ret
      exact ⟨by rw [idx_miss l x (fun j hj => AM.out j hj (by omega))]; rfl, rfl⟩

theorem contains_int (x : Int) (l : List Int) (A : Option Addr) (c : Nat) (w : World) (hr : Kd.C (Kd.int .i64) w A l.length l) :
    Calls Try.prog 133 #[.slice A l.length c, .int .i64 x] w fun e w' => e = .returned (.bool (l.contains x)) ∧ w = w' := by
  have HR := Aside0.mk hr
  clear hr
  have HE := Aside0.mk (idx_contains l x)
  generalize l.contains x = b at HE ⊢
  go_enter Try.func133, Try.ntmps133
  go_wp2_with (go_at_call 85; refine (index_int x l _ _ _ HR.out).mono ?_; rintro e w' ⟨rfl, rfl⟩)
  go_ret
  exact ⟨by rw [← HE.out]; rfl, rfl⟩

theorem contains_quiet (x : Int) (l : List Int) (A : Option Addr) (c : Nat) (b : Bool) (w : World) (hr : Kd.C (Kd.int .i64) w A l.length l) (hb : l.contains x = b) :
    Calls Try.prog 133 #[.slice A l.length c, .int .i64 x] w fun e w' => e = .returned (.bool b) ∧ w' = w := (contains_int x l A c w hr).mono fun _ _ ⟨he, hw⟩ => ⟨by rw [he, hb], hw.symm⟩

/-! ### the state in memory: g: its block; v: the values' block -/
structure StQ (w0 W : World) (g v : Nat) (vars : Int) (A : Option Addr) (c : Nat) (cls : List (List Int)) (vals ws : List Int) (qv : Value) : Prop where
  hg : W.heap[g]? = some (.cells #[.int .i64 vars, .slice A cls.length c, .slice (some ⟨v, 0, none⟩) vals.length vals.length, qv] 78 (0, 0))
  hv : W.heap[v]? = some (.cells (vals.map (Value.int .i64)).toArray 3 (0, 0))
  hq : QRow W w0.heap.size 3 1 qv ws.length (nums .i64 ws)
  ne : qv.ownBlock ≠ some v
  bg : w0.heap.size ≤ g
  bv : w0.heap.size ≤ v
  hl : vals.length ≤ 100
  hx : ∀ x ∈ vals, -1 ≤ x ∧ x ≤ 1
  hb : Below w0.heap.size w0 W
  hr : Kd.C (Kd.slice 3 (Kd.int .i64)) w0 A cls.length cls
def St (w0 W : World) (g v : Nat) (vars : Int) (A : Option Addr) (c : Nat) (cls : List (List Int)) (vals ws : List Int) : Prop := ∃ qv, StQ w0 W g v vars A c cls vals ws qv

theorem vals_range {vals : List Int} (hx : ∀ x ∈ vals, -1 ≤ x ∧ x ≤ 1) (j : Nat) : -1 ≤ vals.getD j 0 ∧ vals.getD j 0 ≤ 1 := by
  by_cases h : j < vals.length
  · have := hx vals[j] (List.getElem_mem h)
    simpa [List.getD_eq_getElem?_getD, h] using this
  · simp [List.getD_eq_getElem?_getD, h]
theorem StQ.cell {w0 W : World} {g v : Nat} {vars : Int} {A : Option Addr} {c : Nat} {cls : List (List Int)} {vals ws : List Int} {qv : Value} (h : StQ w0 W g v vars A c cls vals ws qv) (j : Nat) (hj : j < vals.length) :
    W.cell? ⟨v, j, none⟩ = some (.int .i64 (vals.getD j 0)) := by
  rw [blk_cell h.hv j]; simp [hj]
theorem StQ.fld {w0 W : World} {g v : Nat} {vars : Int} {A : Option Addr} {c : Nat} {cls : List (List Int)} {vals ws : List Int} {qv : Value} (h : StQ w0 W g v vars A c cls vals ws qv) :
    W.cell? ⟨g, 0, none⟩ = some (.int .i64 vars) ∧ W.cell? ⟨g, 1, none⟩ = some (.slice A cls.length c) ∧ W.cell? ⟨g, 2, none⟩ = some (.slice (some ⟨v, 0, none⟩) vals.length vals.length) ∧ W.cell? ⟨g, 3, none⟩ = some qv :=
  ⟨(blk_cell h.hg 0).trans rfl, (blk_cell h.hg 1).trans rfl, (blk_cell h.hg 2).trans rfl, (blk_cell h.hg 3).trans rfl⟩

set_option maxHeartbeats 1000000 in
theorem value_any {w0 W : World} {g v : Nat} {vars : Int} {A : Option Addr} {c : Nat} {cls : List (List Int)} {vals ws : List Int} (h : St w0 W g v vars A c cls vals ws) (n : Int) (hn : n.natAbs < vals.length) :
    Calls Try.prog 131 #[.pointer (some ⟨g, 0, none⟩), .int .i64 n] W fun e w' => e = .returned (.int .i64 (Un.val vals n)) ∧ W = w' := by
  obtain ⟨qv, h⟩ := h
  obtain ⟨f0, f1, f2, f3⟩ := h.fld
  have hc := h.cell n.natAbs hn
  obtain ⟨x1, x2⟩ := vals_range h.hx n.natAbs
  have hl := h.hl
  by_cases hp : n < 0
  · obtain ⟨m, hm⟩ := Int.eq_ofNat_of_zero_le (show 0 ≤ -n by omega)
    obtain rfl : n = -(m : Int) := by omega
    have hm0 : (-(m : Int)).natAbs = m := by omega
    have HE : Aside0 (Un.val vals (-(m : Int)) = -(vals.getD m 0)) := ⟨by unfold Un.val; rw [if_pos hp, hm0]⟩
    rw [HE.out]
    rw [hm0] at hc x1 x2 hn
    clear HE hm hm0 h
    generalize vals.getD m 0 = y at hc x1 x2 ⊢
    go_enter Try.func131, Try.ntmps131
    go_wp2
    go_ret
    exact ⟨rfl, rfl⟩
  · obtain ⟨m, rfl⟩ := Int.eq_ofNat_of_zero_le (show 0 ≤ n by omega)
    have hm0 : (m : Int).natAbs = m := by omega
    have HE : Aside0 (Un.val vals (m : Int) = vals.getD m 0) := ⟨by unfold Un.val; rw [if_neg hp, hm0]⟩
    rw [HE.out]
    rw [hm0] at hc x1 x2 hn
    clear HE hm0 h
    generalize vals.getD m 0 = y at hc x1 x2 ⊢
    go_enter Try.func131, Try.ntmps131
    go_wp2
    go_ret
    exact ⟨rfl, rfl⟩


/-! ### push, next, set -/
/-- What a step over the state keeps: below base, and that the state lies. -/
theorem StQ.alloc {w0 W : World} {g v : Nat} {vars : Int} {A : Option Addr} {c : Nat} {cls : List (List Int)} {vals ws : List Int} {qv : Value} (h : StQ w0 W g v vars A c cls vals ws qv) (o : Obj) : StQ w0 (W.alloc o) g v vars A c cls vals ws qv where
  hg := (Below.heap_alloc W o g (Array.getElem?_eq_some_iff.1 h.hg).1).trans h.hg
  hv := (Below.heap_alloc W o v (Array.getElem?_eq_some_iff.1 h.hv).1).trans h.hv
  hq := q_move h.hq (fun k hk => Below.heap_alloc W o k (q_lt h.hq k hk))
  ne := h.ne
  bg := h.bg
  bv := h.bv
  hl := h.hl
  hx := h.hx
  hb := h.hb.alloc h.hb.size o
  hr := h.hr

theorem StQ.drewN {w0 W : World} {g v : Nat} {vars : Int} {A : Option Addr} {c : Nat} {cls : List (List Int)} {vals ws : List Int} {qv : Value} (h : StQ w0 W g v vars A c cls vals ws qv) (m : Nat) : StQ w0 (W.drewN m) g v vars A c cls vals ws qv where
  hg := h.hg
  hv := h.hv
  hq := q_move h.hq (fun k hk => rfl)
  ne := h.ne
  bg := h.bg
  bv := h.bv
  hl := h.hl
  hx := h.hx
  hb := pw_below_drewN h.hb m
  hr := h.hr

theorem StQ.gv {w0 W : World} {g v : Nat} {vars : Int} {A : Option Addr} {c : Nat} {cls : List (List Int)} {vals ws : List Int} {qv : Value} (h : StQ w0 W g v vars A c cls vals ws qv) : g ≠ v := by
  rintro rfl
  have := h.hg.symm.trans h.hv
  injection this with this
  injection this with _ h2
  exact absurd h2 (by decide)
theorem StQ.qg {w0 W : World} {g v : Nat} {vars : Int} {A : Option Addr} {c : Nat} {cls : List (List Int)} {vals ws : List Int} {qv : Value} (h : StQ w0 W g v vars A c cls vals ws qv) : qv.ownBlock ≠ some g := by
  intro e
  obtain ⟨_, cells, hc⟩ := q_typed h.hq g e
  have := h.hg.symm.trans hc
  injection this with this
  injection this with _ h2
  exact absurd h2 (by decide)

theorem info_int : (Try.prog.info? 3).map (fun i => (i.zero, i.size, i.bytes)) = some (some (.int .i64 0), 1, 8) := by kernel_rfl

/-- append to the queue, at the builtin itself. -/
theorem wpList_qappend {P : Program} {ops : Array Oper} {rest : List Oper} {o : Oper} {a : Act} {Q : Exit → Act → World → Prop} {W : World} (base : Nat) (hgd : o.guard = none) (s x : Operand) (t e : TypeId)
    (ho : o.op = .call { callee := .builtin .append, args := #[s, x], argTypes := #[t, t] })
    (ht : P.underlying t = some (.slice e)) (hinfo : (P.info? e).map (fun i => (i.zero, i.size, i.bytes)) = some (some (.int .i64 0), 1, 8))
    (v : Value) (xs : List Int) (y : Int) (b : Nat) (hs : a.eval s = v) (hx : a.eval x = .slice (some ⟨b, 0, none⟩) 1 1)
    (HO : QRow W base e 1 v xs.length (nums .i64 xs)) (hy : W.cell? ⟨b, 0, none⟩ = some (.int .i64 y)) (hbase : base ≤ W.heap.size) (hl : (xs.length + 1) * 8 ≤ 140737488355328)
    (h : ∀ v1 w1, QRow w1 base e 1 v1 (xs.length + 1) (nums .i64 (xs ++ [y])) → W.grownBy w1 v.ownBlock → (v1.ownBlock = v.ownBlock ∨ ∃ b, v1.ownBlock = some b ∧ W.heap.size ≤ b) → wpList P ops Q rest (a.put o.dst v1) w1) :
    wpList P ops Q (o :: rest) a W := by
  obtain ⟨i0, hi, hzz⟩ := Option.map_eq_some_iff.1 hinfo
  simp only [Prod.mk.injEq] at hzz
  obtain ⟨hz0, hz1, hz2⟩ := hzz
  obtain ⟨v', w', hr, hq, hg, hat⟩ := q_append (P := P) W base t o.type e i0 (.int .i64 0) 1 8 ht hi hz0 hz1 hz2 rfl (by omega) v xs.length (nums .i64 xs) HO ⟨b, 0, none⟩ 1 1 [.int .i64 y] rfl
    (fun j u hu => by
      cases j with
      | zero => simp at hu; subst hu; exact hy
      | succ j => simp at hu) (by simp [Value.oneCell']) (by omega) (by simp only [maxLen]; omega) hl hbase
  refine wpList_plain hgd fun K hK => ?_
  unfold Oper.wp execOp
  simp only [ho, resolve, invoke, builtin, Sem.run_bind, Sem.run_pure, Result.andThen_ok, List.map_toArray, List.map_cons, List.map_nil, hs, hx, hr]
  exact hK _ _ (h v' w' (by rw [nums_append]; exact hq) hg hat)

theorem StQ.pushed {w0 W w1 : World} {g v : Nat} {vars : Int} {A : Option Addr} {c : Nat} {cls : List (List Int)} {vals ws : List Int} {qv v1 : Value} (h : StQ w0 W g v vars A c cls vals ws qv) (y : Int)
    (hq : QRow w1 w0.heap.size 3 1 v1 (ws.length + 1) (nums .i64 (ws ++ [y]))) (hg : W.grownBy w1 qv.ownBlock) (hat : v1.ownBlock = qv.ownBlock ∨ ∃ b, v1.ownBlock = some b ∧ W.heap.size ≤ b) :
    StQ w0 (w1.setCell ⟨g, 3, none⟩ v1) g v vars A c cls vals (ws ++ [y]) v1 := by
  have gl := (Array.getElem?_eq_some_iff.1 h.hg).1
  have vl := (Array.getElem?_eq_some_iff.1 h.hv).1
  have e1 : w1.heap[g]? = W.heap[g]? := hg.block g gl (fun e => h.qg e.symm)
  have e2 : w1.heap[v]? = W.heap[v]? := hg.block v vl (fun e => h.ne e.symm)
  have n1 : v1.ownBlock ≠ some v := by
    rcases hat with e | ⟨b, e, hb⟩
    · rw [e]; exact h.ne
    · rw [e]; intro e; injection e with e; omega
  have n2 : v1.ownBlock ≠ some g := by
    rcases hat with e | ⟨b, e, hb⟩
    · rw [e]; exact h.qg
    · rw [e]; intro e; injection e with e; omega
  refine ⟨?_, ?_, ?_, n1, h.bg, h.bv, h.hl, h.hx, (h.hb.grown hg h.hb.size (fun k hk => (q_typed h.hq k hk).1)).setCell (p := ⟨g, 3, none⟩) h.bg _, h.hr⟩
  · have := blk_set (e1.trans h.hg) 3 v1
    simpa using this
  · rw [Below.heap_setCell w1 ⟨g, 3, none⟩ v1 v (fun e => h.gv e.symm)]
    exact e2.trans h.hv
  · rw [List.length_append, List.length_singleton]
    exact q_move hq (fun k hk => Below.heap_setCell w1 ⟨g, 3, none⟩ v1 k (fun e => n2 (by rw [hk, e])))

theorem StQ.g_kept {w0 W w1 : World} {g v : Nat} {vars : Int} {A : Option Addr} {c : Nat} {cls : List (List Int)} {vals ws : List Int} {qv : Value} (h : StQ w0 W g v vars A c cls vals ws qv) (hg : W.grownBy w1 qv.ownBlock) (j : Nat) :
    w1.cell? ⟨g, j, none⟩ = W.cell? ⟨g, j, none⟩ ∧ w1.frozen? ⟨g, j, none⟩ = W.frozen? ⟨g, j, none⟩ := by
  have e1 : w1.heap[g]? = W.heap[g]? := hg.block g (Array.getElem?_eq_some_iff.1 h.hg).1 (fun e => h.qg e.symm)
  unfold World.cell? World.frozen?
  simp [e1]

set_option maxHeartbeats 1000000 in
set_option maxRecDepth 100000 in
theorem push_any {w0 W : World} {g v b : Nat} {vars : Int} {A : Option Addr} {c : Nat} {cls : List (List Int)} {vals ws : List Int} (h : St w0 W g v vars A c cls vals ws) (y : Int) (hy : W.cell? ⟨b, 0, none⟩ = some (.int .i64 y)) (hw : ws.length ≤ 100000) :
    Calls Try.prog 132 #[.pointer (some ⟨g, 3, none⟩), .slice (some ⟨b, 0, none⟩) 1 1] W fun e w' => e = .returned (.tuple #[]) ∧ St w0 w' g v vars A c cls vals (ws ++ [y]) := by
  obtain ⟨qv, h⟩ := h
  obtain ⟨f0, f1, f2, f3⟩ := h.fld
  have z3 : W.frozen? ⟨g, 3, none⟩ = false := blk_frozen h.hg 3
  have H := Aside0.mk h
  clear h f0 f1 f2
  go_enter Try.func132, Try.ntmps132
  go_wp2_with (at_builtin; refine wpList_qappend w0.heap.size rfl (.tmp 8) (.tmp 9) 25 3 rfl Try.underlying25 info_int qv ws y b rfl rfl H.out.hq hy H.out.hb.size (by omega) ?_; intro v1 w1 hq1 hg1 hat1; obtain ⟨A1, c1, rfl, hc1⟩ := q_slice hq1; have k3 : w1.cell? ⟨g, 3, none⟩ = some qv := (StQ.g_kept H.out hg1 3).1.trans f3; have k4 : w1.frozen? ⟨g, 3, none⟩ = false := (StQ.g_kept H.out hg1 3).2.trans z3; have HQ1 := Aside0.mk hq1; have HG1 := Aside0.mk hg1; have HA1 := Aside0.mk hat1; clear hq1 hg1 hat1 hc1)
  go_end0
  exact ⟨rfl, _, H.out.pushed y HQ1.out HG1.out HA1.out⟩

/-! next -/
theorem q_addr {w : World} {base n size : Nat} {e : TypeId} {xs : List Value} {ad : Addr} {c : Nat} (h : QRow w base e size (.slice (some ad) n c) n xs) (hn : 0 < n) : ∃ q o, ad = ⟨q, o, none⟩ := by
  rcases h.2 with ⟨h0, _⟩ | ⟨g, off, cap, cur, he, _⟩
  · omega
  · injection he with ha _ hc
    injection ha with ha
    exact ⟨_, _, ha⟩
theorem StQ.popped {w0 W : World} {g v : Nat} {vars : Int} {A : Option Addr} {c : Nat} {cls : List (List Int)} {vals ws : List Int} {n : Int} {A1 : Option Addr} {c1 : Nat} (h : StQ w0 W g v vars A c cls vals (n :: ws) (.slice A1 (ws.length + 1) c1)) :
    StQ w0 (W.setCell ⟨g, 3, none⟩ (.slice (if c1 = 1 then A1 else A1.map (·.add 1)) ws.length (c1 - 1))) g v vars A c cls vals ws (.slice (if c1 = 1 then A1 else A1.map (·.add 1)) ws.length (c1 - 1)) := by
  have hb1 : (Value.slice (if c1 = 1 then A1 else A1.map (·.add 1)) ws.length (c1 - 1)).ownBlock = (Value.slice A1 (ws.length + 1) c1).ownBlock := by
    cases A1 with
    | none => split <;> rfl
    | some a => split <;> simp [Value.ownBlock, Addr.add] <;> split <;> rfl
  have hq := q_drop (k := 1) h.hq (by simp)
  have hq' : QRow W w0.heap.size 3 1 (.slice (if c1 = 1 then A1 else A1.map (·.add 1)) ws.length (c1 - 1)) ws.length (nums .i64 ws) := by
    simpa [nums] using hq
  refine ⟨?_, ?_, ?_, ?_, h.bg, h.bv, h.hl, h.hx, h.hb.setCell (p := ⟨g, 3, none⟩) h.bg _, h.hr⟩
  · have := blk_set h.hg 3 (.slice (if c1 = 1 then A1 else A1.map (·.add 1)) ws.length (c1 - 1))
    simpa using this
  · rw [Below.heap_setCell W ⟨g, 3, none⟩ _ v (fun e => h.gv e.symm)]
    exact h.hv
  · refine q_move hq' (fun k hk => Below.heap_setCell W ⟨g, 3, none⟩ _ k (fun e => h.qg (by rw [← hb1, hk, e])))
  · rw [hb1]; exact h.ne

set_option maxHeartbeats 1000000 in
set_option maxRecDepth 100000 in
theorem next_none {w0 W : World} {g v : Nat} {vars : Int} {A : Option Addr} {c : Nat} {cls : List (List Int)} {vals : List Int} (h : St w0 W g v vars A c cls vals []) :
    Calls Try.prog 116 #[.pointer (some ⟨g, 3, none⟩)] W fun e w' => e = .returned (.tuple #[.int .i64 0, .bool false]) ∧ W = w' := by
  obtain ⟨qv, h⟩ := h
  obtain ⟨f0, f1, f2, f3⟩ := h.fld
  obtain ⟨A1, c1, rfl, hc1⟩ := q_slice h.hq
  clear h f0 f1 f2
  go_enter Try.func116, Try.ntmps116
  go_wp2
  go_ret2
  exact ⟨rfl, rfl⟩

set_option maxHeartbeats 1000000 in
set_option maxRecDepth 100000 in
theorem next_some {w0 W : World} {g v : Nat} {vars : Int} {A : Option Addr} {c : Nat} {cls : List (List Int)} {vals ws : List Int} {n : Int} (h : St w0 W g v vars A c cls vals (n :: ws)) :
    Calls Try.prog 116 #[.pointer (some ⟨g, 3, none⟩)] W fun e w' => e = .returned (.tuple #[.int .i64 n, .bool true]) ∧ St w0 w' g v vars A c cls vals ws := by
  obtain ⟨qv, h⟩ := h
  obtain ⟨f0, f1, f2, f3⟩ := h.fld
  obtain ⟨A1, c1, rfl, hc1⟩ := q_slice h.hq
  obtain ⟨ad, rfl, hcell⟩ := q_cells h.hq (by simp)
  have z3 : W.frozen? ⟨g, 3, none⟩ = false := blk_frozen h.hg 3
  obtain ⟨q0, o0, rfl⟩ := q_addr h.hq (by simp)
  have k0 : W.cell? ⟨q0, o0, none⟩ = some (.int .i64 n) := by have := hcell 0 _ rfl; rwa [add_at, Nat.add_zero] at this
  have hm := q_max h.hq
  have H := Aside0.mk h
  simp only [List.length_cons] at f3 hc1 hm
  clear h f0 f1 f2 hcell
  go_enter Try.func116, Try.ntmps116
  by_cases hc : c1 = 1
  · subst hc
    obtain rfl : ws = [] := List.eq_nil_of_length_eq_zero (by omega)
    have HP := Aside0.mk H.out.popped
    simp only [if_true, Nat.sub_self, List.length_nil] at HP
    clear hc1 hm
    go_wp2
    go_ret2
    exact ⟨rfl, _, HP.out⟩
  · have HP := Aside0.mk H.out.popped
    simp only [if_neg hc, Option.map_some, add_at] at HP
    go_wp2
    go_ret2
    exact ⟨rfl, _, HP.out⟩

/-! ### set -/
theorem StQ.stored {w0 W : World} {g v : Nat} {vars : Int} {A : Option Addr} {c : Nat} {cls : List (List Int)} {vals ws : List Int} {qv : Value} (h : StQ w0 W g v vars A c cls vals ws qv) (j : Nat) (x : Int) (hx : -1 ≤ x ∧ x ≤ 1) :
    StQ w0 (W.setCell ⟨v, j, none⟩ (.int .i64 x)) g v vars A c cls (vals.set j x) ws qv := by
  refine ⟨?_, ?_, ?_, h.ne, h.bg, h.bv, by simpa using h.hl, ?_, h.hb.setCell (p := ⟨v, j, none⟩) h.bv _, h.hr⟩
  · rw [Below.heap_setCell W ⟨v, j, none⟩ _ g h.gv, h.hg]; simp
  · have := blk_set h.hv j (.int .i64 x)
    rw [this]
    simp [List.map_set]
  · exact q_move h.hq (fun k hk => Below.heap_setCell W ⟨v, j, none⟩ _ k (fun e => h.ne (by rw [hk, e])))
  · intro y hy
    rcases List.mem_or_eq_of_mem_set hy with hy | rfl
    · exact h.hx y hy
    · exact hx

theorem new_cell (W0 W : World) (hs : W.heap.size = W0.heap.size) (x : Value) (t : Nat) : (W.alloc (.cells #[x] t)).cell? ⟨W0.heap.size, 0, none⟩ = some x := by
  rw [← hs]; exact (blk_cell (heap_alloc_new W _) 0).trans rfl
theorem size_set (W : World) (p : Addr) (x : Value) : (W.setCell p x).heap.size = W.heap.size := by simp [World.setCell]

set_option maxHeartbeats 2000000 in
set_option maxRecDepth 100000 in
theorem set_any {w0 W : World} {g v : Nat} {vars : Int} {A : Option Addr} {c : Nat} {cls : List (List Int)} {vals ws : List Int} (h : St w0 W g v vars A c cls vals ws) (n : Int) (hn : n.natAbs < vals.length) (hw : ws.length ≤ 100000) :
    Calls Try.prog 114 #[.pointer (some ⟨g, 0, none⟩), .int .i64 n] W fun e w' => e = .returned (.bool (Un.set vals ws n).1) ∧ St w0 w' g v vars A c cls (Un.set vals ws n).2.1 (Un.set vals ws n).2.2 := by
  have HV := Aside0.mk (value_any h n hn)
  have H := Aside0.mk h
  clear h
  by_cases h1 : Un.val vals n = 1
  · have HE : Aside0 (Un.set vals ws n = (true, vals, ws)) := ⟨by unfold Un.set; rw [if_pos h1]⟩
    rw [HE.out]
    rw [h1] at HV
    clear h1
    go_enter Try.func114, Try.ntmps114
    go_wp2_with (go_at_call 131; refine HV.out.mono ?_; rintro e w' ⟨rfl, rfl⟩)
    go_ret
    exact ⟨rfl, H.out⟩
  · by_cases h2 : Un.val vals n = -1
    · have HE : Aside0 (Un.set vals ws n = (false, vals, ws)) := ⟨by unfold Un.set; rw [if_neg h1, if_pos h2]⟩
      rw [HE.out]
      rw [h2] at HV
      clear h1 h2
      go_enter Try.func114, Try.ntmps114
      go_wp2_with (go_at_call 131; refine HV.out.mono ?_; rintro e w' ⟨rfl, rfl⟩)
      go_ret
      exact ⟨rfl, H.out⟩
    · have HE : Aside0 (Un.set vals ws n = (true, Un.put vals n, ws ++ [n])) := ⟨by unfold Un.set; rw [if_neg h1, if_neg h2]⟩
      rw [HE.out]
      clear HE
      have t1 : (Un.val vals n == 1) = false := beq_eq_false_iff_ne.2 h1
      have t2 : (Un.val vals n == -1) = false := beq_eq_false_iff_ne.2 h2
      clear h1 h2
      generalize Un.val vals n = y at HV t1 t2
      obtain ⟨qv, hs⟩ := H.out
      obtain ⟨f0, f1, f2, f3⟩ := hs.fld
      have hc := hs.cell n.natAbs hn
      have z := blk_frozen hs.hv
      have HS := Aside0.mk hs
      have hgv := hs.gv
      have hl := hs.hl
      have gl := (Array.getElem?_eq_some_iff.1 hs.hg).1
      clear hs f0 f1 f3
      by_cases hp : n < 0
      · obtain ⟨m, hm⟩ := Int.eq_ofNat_of_zero_le (show 0 ≤ -n by omega)
        obtain rfl : n = -(m : Int) := by omega
        have hm0 : (-(m : Int)).natAbs = m := by omega
        have HE : Aside0 (Un.put vals (-(m : Int)) = (vals.set m 1).set m (-1)) := ⟨by unfold Un.put; rw [if_pos hp, hm0, List.set_set]⟩
        rw [HE.out]
        rw [hm0] at hc hn
        have z1 := z m
        clear HE hm hm0 z
        generalize vals.getD m 0 = x at hc
        have HP := Aside0.mk (push_any (b := W.heap.size) ⟨_, ((HS.out.stored m 1 (by omega)).stored m (-1) (by omega)).alloc (.cells #[.int .i64 (-(m : Int))] 3)⟩ (-(m : Int)) (new_cell W _ (by rw [size_set, size_set]) _ _) hw)
        go_enter Try.func114, Try.ntmps114
        go_wp2_with (first | (go_at_call 131; refine HV.out.mono ?_; rintro e w' ⟨rfl, rfl⟩) | (go_at_call 132; refine HP.out.mono ?_; rintro e w' ⟨rfl, hst⟩))
        go_ret
        exact ⟨rfl, hst⟩
      · obtain ⟨m, rfl⟩ := Int.eq_ofNat_of_zero_le (show 0 ≤ n by omega)
        have hm0 : (m : Int).natAbs = m := by omega
        have HE : Aside0 (Un.put vals (m : Int) = vals.set m 1) := ⟨by unfold Un.put; rw [if_neg hp, hm0]⟩
        rw [HE.out]
        rw [hm0] at hc hn
        have z1 := z m
        clear HE hm0 z
        generalize vals.getD m 0 = x at hc
        have HP := Aside0.mk (push_any (b := W.heap.size) ⟨_, (HS.out.stored m 1 (by omega)).alloc (.cells #[.int .i64 (m : Int)] 3)⟩ (m : Int) (new_cell W _ (size_set _ _ _) _ _) hw)
        go_enter Try.func114, Try.ntmps114
        go_wp2_with (first | (go_at_call 131; refine HV.out.mono ?_; rintro e w' ⟨rfl, rfl⟩) | (go_at_call 132; refine HP.out.mono ?_; rintro e w' ⟨rfl, hst⟩))
        go_ret
        exact ⟨rfl, hst⟩


theorem addr_add_zero (p : Addr) : p.add 0 = p := by cases p with | mk b o s => unfold Addr.add; split <;> simp_all
/-! ### look -/
/-- How many may wait, told by what is unknown. -/
def Inv (vals0 vals ws : List Int) (B : Nat) : Prop := vals.length = vals0.length ∧ ws.length + Un.free vals = B ∧ B ≤ 1000

set_option maxHeartbeats 4000000 in
set_option maxRecDepth 100000 in
theorem look_any {w0 W : World} {g v : Nat} {vars : Int} {A : Option Addr} {c : Nat} {cls : List (List Int)} {vals ws : List Int} (h : St w0 W g v vars A c cls vals ws) (n : Int) (hn : n.natAbs < vals.length)
    (hL : ∀ cl ∈ cls, ∀ m ∈ cl, m.natAbs < vals.length) (B : Nat) (hB : ws.length + Un.free vals = B) (hB2 : B ≤ 1000) :
    Calls Try.prog 115 #[.pointer (some ⟨g, 0, none⟩), .int .i64 n] W fun e w' => e = .returned (.bool (Un.look n cls vals ws).1) ∧ St w0 w' g v vars A c cls (Un.look n cls vals ws).2.1 (Un.look n cls vals ws).2.2 := by
  obtain ⟨qv, hs⟩ := h
  have hl := hs.hl
  obtain ⟨f0, f1, f2, f3⟩ := hs.fld
  have hbig : cls.length ≤ 9223372036854775807 := hs.hr.2.1
  have H := Aside0.mk hs
  obtain ⟨LK, hLK⟩ : ∃ L, L = Un.look n cls vals ws := ⟨_, rfl⟩
  rw [← hLK]
  have HLK := Aside0.mk hLK
  have HL := Aside0.mk hL
  have HB := Aside0.mk hB
  clear hs f2 f3 hL hB hLK
  go_enter Try.func115, Try.ntmps115
  go_wp2
  go_step3
  go_wp2
  go_step3
  go_wp2
  go_loopg [6, 7, 16] cls.length (fun gg _ _ s16 wr => ∃ (k : Nat) (v1 w1 : List Int), k ≤ cls.length ∧ cls.length - k ≤ gg ∧ s16 = .int .i64 k ∧ Aside0 (St w0 wr g v vars A c cls v1 w1) ∧ Aside0 (v1.length = vals.length) ∧ Aside0 (w1.length + Un.free v1 = B) ∧ Aside0 (Un.look n (cls.drop k) v1 w1 = LK))
  case atStart => exact ⟨0, vals, ws, Nat.zero_le _, by omega, rfl, ⟨_, H.out⟩, ⟨rfl⟩, HB, ⟨by rw [HLK.out]; rfl⟩⟩
  case round =>
    obtain ⟨k, v1, w1, hk, hg, rfl, ⟨hst⟩, HV1, HB1, HK⟩ := hrel
    by_cases hlt : k < cls.length
    · have hltz : (k : Int) < (cls.length : Int) := by omega
      obtain ⟨qv1, hs1⟩ := hst
      obtain ⟨ad, A1, c1, e0, hcell, hc1, hr1⟩ := at_L1 hs1.hr k (by omega) (by omega)
      rw [rdL_get cls k hlt] at hcell hc1 hr1
      rw [Int.toNat_natCast] at hcell
      subst e0
      have HR0 := Aside0.mk hr1
      replace hcell := pw_cell_below hs1.hb hcell
      replace hr1 := Kd.C_below hr1 hs1.hb
      have hcl : ∀ m ∈ cls[k], m.natAbs < vals.length := HL.out _ (List.getElem_mem hlt)
      generalize hy : cls[k] = cl at hcell hc1 hr1 hcl HR0
      have HC := Aside0.mk hy
      have HR1 := Aside0.mk hr1
      have HCL := Aside0.mk hcl
      have hbig1 : cl.length ≤ 9223372036854775807 := hr1.2.1
      have HS1 := Aside0.mk hs1
      clear hy hr1 hcl hs1
      go_upto_region 4 with (fail)
      go_cut [49] (fun v49 wc => v49 = .bool (Un.skip n cl) ∧ Aside0 (StQ w0 wc g v vars (some ad) c cls v1 w1 qv1))
      case first =>
        by_cases hn0 : n = 0
        · subst hn0
          by_cases hc0 : cl.length = 0
          · have HE := Aside0.mk (show Un.skip 0 cl = false by unfold Un.skip; simp [hc0])
            have HST := Aside0.mk (List.eq_nil_of_length_eq_zero hc0)
            have t1 : decide (0 < (cl.length : Int)) = false := decide_eq_false (by omega)
            have t2 : decide (0 < cl.length) = false := decide_eq_false (by omega)
            clear hc0
            go_quiet (fail)
            go_wp2
            go_meet
            case rel => exact ⟨by rw [HE.out], ⟨HS1.out.drewN _⟩⟩
          · obtain ⟨p0, e0, z0⟩ := C_int_at HR1.out 0 (by omega)
            obtain ⟨p1, e1, z1⟩ := C_int_at HR1.out (cl.length - 1) (by omega)
            have e2 : some p0 = some p1 := e0.symm.trans e1
            injection e2 with e2
            subst e2
            subst e0
            have t1 : decide (0 < (cl.length : Int)) = true := decide_eq_true (by omega)
            have t2 : decide (0 < cl.length) = true := decide_eq_true (by omega)
            have t3 : IntKind.i64.wrap ((cl.length : Int) - 1) = (cl.length : Int) - 1 := IntWalk.i64_in _ (by omega)
            have t4 : 0 ≤ (cl.length : Int) - 1 := by omega
            have t5 : ((cl.length : Int) - 1).toNat = cl.length - 1 := by omega
            have t6 : (cl.length : Int) - 1 < (cl.length : Int) := by omega
            have t7 : (0 : Int) < (cl.length : Int) := by omega
            have t8 : 0 < cl.length := by omega
            have HE := Aside0.mk (show Un.skip 0 cl = (cl.getD 0 0 != cl.getD (cl.length - 1) 0) by
              have key : ∀ x y : Int, decide (x ≠ y) = (x != y) := fun x y => by by_cases h : x = y <;> simp [h]
              unfold Un.skip
              rw [decide_eq_true (show 0 < cl.length by omega), key (cl.getD 0 0)]
              rfl)
            have g0 : cl[0]'(by omega) = cl.getD 0 0 := by simp [show 0 < cl.length by omega]
            have g1 : cl[cl.length - 1]'(by omega) = cl.getD (cl.length - 1) 0 := by simp [show cl.length - 1 < cl.length by omega]
            rw [g0] at z0
            rw [g1] at z1
            clear g0 g1 hc0 e1
            generalize cl.getD 0 0 = x0 at z0 HE
            generalize cl.getD (cl.length - 1) 0 = x1 at z1 HE
            rw [addr_add_zero] at z0
            go_quiet (fail)
            go_wp2
            go_meet
            case rel => exact ⟨by rw [HE.out], ⟨HS1.out.drewN _⟩⟩
        · have t1 : (n != 0) = true := bne_iff_ne.2 hn0
          have t2 : (n == 0) = false := beq_eq_false_iff_ne.2 hn0
          have hneg : IntKind.i64.wrap (-n) = -n := IntWalk.i64_in _ (by omega)
          cases hcn : cl.contains (-n) with
          | true =>
            have HE := Aside0.mk (show Un.skip n cl = false by unfold Un.skip; rw [hcn]; simp [hn0])
            have HCN := Aside0.mk hcn
            clear hn0 hcn
            go_quiet ((go_at_call 133; exact Calls.quiet_of_same (contains_quiet (-n) cl _ _ true _ (Kd.C_drewN HR1.out _) HCN.out)))
            go_wp2
            go_meet
            case rel => exact ⟨by rw [HE.out], ⟨HS1.out.drewN _⟩⟩
          | false =>
            have HE := Aside0.mk (show Un.skip n cl = true by unfold Un.skip; rw [hcn]; simp [hn0])
            have HCN := Aside0.mk hcn
            clear hn0 hcn
            go_quiet ((go_at_call 133; exact Calls.quiet_of_same (contains_quiet (-n) cl _ _ false _ (Kd.C_drewN HR1.out _) HCN.out)))
            go_wp2
            go_meet
            case rel => exact ⟨by rw [HE.out], ⟨HS1.out.drewN _⟩⟩
      case rest =>
        obtain ⟨rfl, HS2⟩ := hcut
        have HR2 := Aside0.mk (Kd.C_below HR0.out HS2.out.hb)
        cases hsk : Un.skip n cl with
        | true =>
          have HSK := Aside0.mk hsk
          clear hsk
          go_wp2
          go_roundg (cls.length - (k + 1))
          case measure => omega
          case rel => exact ⟨k + 1, v1, w1, by omega, by omega, by go_num, ⟨_, HS2.out⟩, HV1, HB1, ⟨by rw [← Un.look_skip n cls v1 w1 k hlt (by rw [HC.out]; exact HSK.out)]; exact HK.out⟩⟩
        | false =>
          have HSK := Aside0.mk hsk
          clear hsk
          have hv1l : v1.length = vals.length := HV1.out
          have HX1 := Aside0.mk (Un.val_range HS2.out.hx)
          go_wp2_with fail
          go_loopg [7, 52] cl.length (fun gg s7 s52 wq => ∃ (j : Nat) (left : Int), j ≤ cl.length ∧ cl.length - j ≤ gg ∧ s52 = .int .i64 j ∧ s7 = .int .i64 left ∧ left.natAbs < vals.length ∧ Aside0 (StQ w0 wq g v vars (some ad) c cls v1 w1 qv1) ∧ Aside0 (Un.scan v1 (cl.drop j) left = Un.scan v1 cl 0))
          case atStart => exact ⟨0, 0, Nat.zero_le _, by omega, rfl, rfl, by omega, HS2, ⟨rfl⟩⟩
          case round =>
            obtain ⟨j, left, hj, hg2, rfl, rfl, hleft, HS3, HSC⟩ := hrel
            by_cases hjl : j < cl.length
            · have hjlz : (j : Int) < (cl.length : Int) := by omega
              obtain ⟨p0, e0, z0⟩ := C_int_at (Kd.C_below HR0.out HS3.out.hb) j hjl
              subst e0
              have hmb := HCL.out _ (List.getElem_mem hjl)
              generalize hm : cl[j] = m at z0 hmb
              have HM := Aside0.mk hm
              clear hm
              have HVA := Aside0.mk (value_any ⟨_, HS3.out⟩ m (by rw [HV1.out]; exact hmb))
              have hxr := HX1.out m
              generalize hx : Un.val v1 m = x at HVA hxr
              have HXE := Aside0.mk hx
              clear hx
              by_cases hx1 : x = 1
              · have HO := Aside0.mk (Un.scan_out v1 cl j left hjl (.inl (by rw [HM.out, HXE.out, hx1])))
                subst hx1
                go_wp2_with (go_at_call 131; refine HVA.out.mono ?_; rintro e w' ⟨rfl, rfl⟩)
                go_roundg (cls.length - (k + 1))
                case measure => omega
                case rel => exact ⟨k + 1, v1, w1, by omega, by omega, by go_num, ⟨_, HS3.out⟩, HV1, HB1, ⟨by rw [← Un.look_none n cls v1 w1 k hlt (by rw [HC.out]; exact HSK.out) (by rw [HC.out, ← HSC.out]; exact HO.out)]; exact HK.out⟩⟩
              · by_cases hx0 : x = 0
                · by_cases hc : left ≠ 0 ∧ left ≠ m
                  · have HO := Aside0.mk (Un.scan_out v1 cl j left hjl (.inr ⟨by rw [HM.out, HXE.out, hx0], hc.1, by rw [HM.out]; exact hc.2⟩))
                    subst hx0
                    have t1 : (left != 0) = true := bne_iff_ne.2 hc.1
                    have t2 : (left != m) = true := bne_iff_ne.2 hc.2
                    clear hc hx1
                    go_wp2_with (go_at_call 131; refine HVA.out.mono ?_; rintro e w' ⟨rfl, rfl⟩)
                    go_roundg (cls.length - (k + 1))
                    case measure => omega
                    case rel => exact ⟨k + 1, v1, w1, by omega, by omega, by go_num, ⟨_, HS3.out⟩, HV1, HB1, ⟨by rw [← Un.look_none n cls v1 w1 k hlt (by rw [HC.out]; exact HSK.out) (by rw [HC.out, ← HSC.out]; exact HO.out)]; exact HK.out⟩⟩
                  · have HO := Aside0.mk (Un.scan_zero v1 cl j left hjl (by rw [HM.out, HXE.out, hx0]) (by rw [HM.out]; omega))
                    subst hx0
                    clear hx1
                    by_cases hl0 : left = 0
                    · subst hl0
                      go_wp2_with (go_at_call 131; refine HVA.out.mono ?_; rintro e w' ⟨rfl, rfl⟩)
                      go_roundg (cl.length - (j + 1))
                      case measure => omega
                      case rel => exact ⟨j + 1, m, by omega, by omega, by go_num, rfl, hmb, HS3, ⟨by rw [← HSC.out, HO.out, HM.out]⟩⟩
                    · have t1 : (left != 0) = true := bne_iff_ne.2 hl0
                      have t2 : (left != m) = false := by rw [bne_eq_false_iff_eq]; omega
                      clear hc hl0
                      go_wp2_with (go_at_call 131; refine HVA.out.mono ?_; rintro e w' ⟨rfl, rfl⟩)
                      go_roundg (cl.length - (j + 1))
                      case measure => omega
                      case rel => exact ⟨j + 1, m, by omega, by omega, by go_num, rfl, hmb, HS3, ⟨by rw [← HSC.out, HO.out, HM.out]⟩⟩
                · have HO := Aside0.mk (Un.scan_less v1 cl j left hjl (by rw [HM.out, HXE.out]; exact hx0) (by rw [HM.out, HXE.out]; exact hx1))
                  have t1 : (x == 1) = false := beq_eq_false_iff_ne.2 hx1
                  have t2 : (x == 0) = false := beq_eq_false_iff_ne.2 hx0
                  clear hx0 hx1
                  go_wp2_with (go_at_call 131; refine HVA.out.mono ?_; rintro e w' ⟨rfl, rfl⟩)
                  go_roundg (cl.length - (j + 1))
                  case measure => omega
                  case rel => exact ⟨j + 1, left, by omega, by omega, by go_num, rfl, hleft, HS3, ⟨by rw [← HSC.out, HO.out]⟩⟩
            · have hjlz : ¬ (j : Int) < (cl.length : Int) := by omega
              have hsc : Un.scan v1 cl 0 = some left := by
                rw [← HSC.out, List.drop_eq_nil_of_le (by omega)]; rfl
              have hsk : Un.skip n cls[k] = false := by rw [HC.out]; exact HSK.out
              by_cases hl0 : left = 0
              · subst hl0
                have HE := Aside0.mk (show LK = (false, v1, w1) by rw [← HK.out]; exact Un.look_zero n cls v1 w1 k hlt hsk (by rw [HC.out]; exact hsc))
                clear hsc hsk
                go_wp2
                try rw [Exit.noGoto_ret]
                go_ret
                rw [HE.out]
                exact ⟨rfl, _, HS3.out⟩
              · have t1 : (left == 0) = false := beq_eq_false_iff_ne.2 hl0
                have HSA := Aside0.mk (set_any ⟨_, HS3.out⟩ left (by rw [HV1.out]; exact hleft) (by have := HB1.out; omega))
                have HI := Aside0.mk (Un.set_inv v1 w1 left HS3.out.hx (by rw [HV1.out]; exact hleft))
                cases hb : (Un.set v1 w1 left).1 with
                | false =>
                  have HE := Aside0.mk (show LK = Un.set v1 w1 left by rw [← HK.out]; exact Un.look_clash n cls v1 w1 k hlt hsk left hl0 (by rw [HC.out]; exact hsc) hb)
                  have HBB := Aside0.mk hb
                  rw [hb] at HSA
                  clear hsc hsk hl0 hb
                  go_wp2_with (go_at_call 114; refine HSA.out.mono ?_; rintro e w' ⟨rfl, hst'⟩; have HST := Aside0.mk hst'; clear hst')
                  try rw [Exit.noGoto_ret]
                  go_ret
                  rw [HE.out, HBB.out]
                  exact ⟨rfl, HST.out⟩
                | true =>
                  have HE := Aside0.mk (show Un.look n (cls.drop (k + 1)) (Un.set v1 w1 left).2.1 (Un.set v1 w1 left).2.2 = LK by rw [← HK.out]; exact (Un.look_set n cls v1 w1 k hlt hsk left hl0 (by rw [HC.out]; exact hsc) hb).symm)
                  rw [hb] at HSA
                  clear hsc hsk hl0 hb
                  go_wp2_with (go_at_call 114; refine HSA.out.mono ?_; rintro e w' ⟨rfl, hst'⟩; have HST := Aside0.mk hst'; clear hst')
                  go_roundg (cls.length - (k + 1))
                  case measure => omega
                  case rel => exact ⟨k + 1, (Un.set v1 w1 left).2.1, (Un.set v1 w1 left).2.2, by omega, by omega, by go_num, HST, ⟨by rw [HI.out.1, HV1.out]⟩, ⟨by rw [HI.out.2.1, HB1.out]⟩, HE⟩
    · have hltz : ¬ (k : Int) < (cls.length : Int) := by omega
      have hke : cls.drop k = [] := List.drop_eq_nil_of_le (by omega)
      have HE := Aside0.mk (show LK = (true, v1, w1) by rw [← HK.out, hke]; rfl)
      clear hke
      go_wp2
      try rw [Exit.noGoto_ret]
      go_ret
      rw [HE.out]
      exact ⟨rfl, hst⟩
end Go.Proofs.Ythnbmlpjbhhamaa.J
