/- The board that flat.lay makes: what a world holds of it, and how it grows. How the board grows within a round of flat.lay; appends and look-ups within drawn regions. A row of one's own that may begin inside its block, whose elements share: QN. -/
import Derived.Test.YteinkjhimceljaaGreatDoorT23
import Derived.Test.YteinkjhimceljaaGreatDoorT26
namespace Go.Proofs.YteinkjhimceljaaGreatDoor.J
open Go Go.RowKit Go.Shelf Go.Proofs.YteinkjhimceljaaGreatDoorW.PrintWords Go.Proofs.YteinkjhimceljaaGreatDoorW.PrintLast Go.Proofs.YteinkjhimceljaaGreatDoorW.PrintMore
set_option linter.unusedVariables false
set_option linter.unusedSimpArgs false
def NX {α : Type} (d : Kd α) (e : Nat) (w : World) (base : Nat) (okx : Nat → Prop) (v : Value) (xs : List α) : Prop :=
 ∃ rows : List (List Value), rows.length = xs.length ∧ (Kd.raw d.sz).R e w base (fun _ => True) v rows ∧ ∀ (j : Nat) (x : α) (c : List Value), xs[j]? = some x → rows[j]? = some c → Kd.FK d w okx x c
section
variable {α : Type} {d : Kd α} {e base : Nat} {w w1 : World} {okx : Nat → Prop} {v v1 : Value} {xs : List α} {x : α} {cs : List Value}
theorem NX.nil (d : Kd α) (e : Nat) (w : World) (base : Nat) (okx : Nat → Prop) : NX d e w base okx (.slice none 0 0) [] := ⟨[], rfl, Kd.R_nil _ _ _ _ _, fun j x c h => by simp at h⟩
theorem NX.of (h : Kd.N d e w base (fun k => okx k ∨ some k = v.ownBlock) v xs) : NX d e w base okx v xs := by
 obtain ⟨_, rows, hl, hR, hf⟩ := h
 exact ⟨rows, hl, Kd.raw_any hR, fun j x c hx hc => Kd.FK_mono (hf j x c hx hc) (fun k hk => hk.1.resolve_right hk.2)⟩
theorem NX.toN (h : NX d e w base okx v xs) (hx : ∀ k, okx k → k < base) : Kd.N d e w base (fun k => okx k ∨ some k = v.ownBlock) v xs := by
 obtain ⟨rows, hl, hR, hf⟩ := h
 exact ⟨fun k hk => .inr hk.symm, rows, hl, Kd.raw_tight hR, fun j x c hx2 hc => Kd.FK_mono (hf j x c hx2 hc) (fun k hk => ⟨.inl hk, fun he => by have := Kd.R_base hR k he.symm; have := hx k hk; omega⟩)⟩
theorem NX.grown {row : Option Nat} (h : NX d e w base okx v xs) (hx : ∀ k, okx k → k < base) (hg : w.grownBy w1 row) (hne : ∀ k, row = some k → some k ≠ v.ownBlock ∧ base ≤ k) : NX d e w1 base okx v xs := by
 obtain ⟨rows, hl, hR, hf⟩ := h
 exact ⟨rows, hl, Kd.R_grown2 hR rfl hg (fun k hk => (hne k hk).1), fun j x c hx2 hc => Kd.FK_step (hf j x c hx2 hc) (fun k hk hlt => hg.block k hlt (fun he => by have := (hne k he.symm).2; have := hx k hk; omega))⟩
theorem NX.below (h : NX d e w base okx v xs) (hb : Below w.heap.size w w1) : NX d e w1 base okx v xs := by
 obtain ⟨rows, hl, hR, hf⟩ := h
 exact ⟨rows, hl, Kd.R_below hR hb, fun j x c hx2 hc => Kd.FK_step (hf j x c hx2 hc) (fun k hk hlt => hb.block k hlt)⟩
end
theorem add_rows {P : Program} {α : Type} {ops : Array Oper} {rest : List Oper} {o : Oper} {a : Act} {Q : Exit → Act → World → Prop} (d : Kd α) {w0 W : World} (base : Nat) (hgd : o.guard = none) (s x : Operand) (t e : TypeId) (z : Value) (bytes : Nat)
 (ho : o.op = .call { callee := .builtin .append, args := #[s, x], argTypes := #[t, t] })
 (ht : P.underlying t = some (.slice e)) (hinfo : (P.info? e).map (fun i => (i.zero, i.size, i.bytes)) = some (some z, d.sz, bytes)) (hz : z.cells.size = d.sz) (hs0 : 0 < d.sz) (hb0 : 0 < bytes)
 (v : Value) (ys : List α) (A : Option Addr) (m c : Nat) (ok okp : Nat → Prop) (hs : a.eval s = v) (hx : a.eval x = .slice A m c)
 (HO : Kd.N d e W base ok v []) (HR : Kd.F d W okp A m ys) (hlt : ∀ k, okp k → k < base) (HB : Below base w0 W) (hbase : base ≤ W.heap.size) (hl : m * bytes ≤ 140737488355328)
 (h : ∀ v1 w1, Kd.N d e w1 base (fun k => okp k ∨ some k = v1.ownBlock) v1 ys → Below base w0 w1 → wpList P ops Q rest (a.put o.dst v1) w1) :
 wpList P ops Q (o :: rest) a W := by
 obtain ⟨h0, rows, hlr, hR, hf⟩ := HO
 have hre : rows = [] := List.eq_nil_of_length_eq_zero hlr
 obtain ⟨news, hnl, hnr, hnf⟩ := Kd.reads_raw (Kd.F_rows HR) (fun y c hk => ⟨d.K_len (Kd.FK_now hk), d.K_one (Kd.FK_now hk)⟩)
 refine Kd.R_append_rows (Kd.raw d.sz) base hgd s x t e z bytes ho ht hinfo hz hs0 hb0 v rows news A m c (fun _ => True) (fun _ => False) hs hx (Kd.raw_any hR) hnr (fun _ _ hk => hk) (fun _ hk => hk.elim) (fun _ _ => trivial) HB hbase (by rw [hlr]; simpa using hl) ?_
 intro v1 w1 hr hb hg hat
 rw [hre, List.nil_append] at hr
 refine h v1 w1 ⟨fun k hk => .inr hk.symm, news, hnl, Kd.raw_tight hr, fun j y c hy hc => Kd.FK_mono (Kd.FK_step (hnf j y c hy hc) (fun k hk hlk => hg.block k hlk (fun he => ?_))) (fun k hk => ⟨.inl hk, fun he => ?_⟩)⟩ hb
 · have := Kd.R_base hR k he.symm
   have := hlt k hk
   omega
 · have := Kd.R_base hr k he.symm
   have := hlt k hk
   omega
def VarV (W : World) (base : Nat) (l : List Int) : Option Value → Prop
 | none => l = []
 | some v => Kd.R (Kd.int .i64) 3 W base (fun _ => True) v l
structure LayS (okx : Nat → Prop) (base b mb : Nat) (r : S27) (A5 : Option Addr) (c5 : Nat) (A6 : Option Addr) (c6 : Nat) (vn : Value) (ns : List ByteArray) (W : World) (vl : Value) (FV : ByteArray → Option Value) (cnt : Nat) (B : Brd) : Prop where
 bm : b ≠ mb
 bb : base ≤ b
 mbb : base ≤ mb
 hx : ∀ k, okx k → k < base
 blk : W.heap[b]? = some (.cells #[.string r.f0, .int .i64 r.f1.f0, .int .i64 r.f1.f1, .int .i64 r.f1.f2, .string r.f1.f3, .slice A5 r.f2.length c5, .slice A6 r.f3.length c6, vl, vn, .map (some mb)] 87 (0, 0))
 l : NX k27 27 W base okx vl B.l
 n : Kd.R Kd.string 9 W base (fun _ => True) vn ns
 m : MapIs W mb cnt FV
 v : ∀ s, VarV W base (B.vars s) (FV s)
 d : ∀ s t v u, s ≠ t → FV s = some v → FV t = some u → v.ownBlock = none ∨ v.ownBlock ≠ u.ownBlock
section
variable {okx : Nat → Prop} {base b mb : Nat} {r : S27} {A5 : Option Addr} {c5 : Nat} {A6 : Option Addr} {c6 : Nat} {vn : Value} {ns : List ByteArray} {W W1 W2 : World} {vl v1 : Value} {FV : ByteArray → Option Value} {cnt : Nat} {B : Brd} {l' : List S27}
theorem VarV.below {l : List Int} : ∀ {o : Option Value}, VarV W base l o → Below W.heap.size W W1 → VarV W1 base l o
 | none, h, _ => h
 | some v, h, hb => Kd.R_below h hb
theorem VarV.grown {l : List Int} {row : Option Nat} : ∀ {o : Option Value}, VarV W base l o → W.grownBy W1 row → (∀ v, o = some v → ∀ k, row = some k → some k ≠ v.ownBlock) → VarV W1 base l o
 | none, h, _, _ => h
 | some v, h, hg, hne => Kd.R_grown2 h rfl hg (hne v rfl)
theorem LayS.below (h : LayS okx base b mb r A5 c5 A6 c6 vn ns W vl FV cnt B) (hb : Below W.heap.size W W1) : LayS okx base b mb r A5 c5 A6 c6 vn ns W1 vl FV cnt B :=
 ⟨h.bm, h.bb, h.mbb, h.hx, blk_below h.blk hb, h.l.below hb, Kd.R_below h.n hb, h.m.below hb, fun s => (h.v s).below hb, h.d⟩
theorem MapIs.block {F : ByteArray → Option Value} (h : MapIs W mb cnt F) : ∃ es clock, W.heap[mb]? = some (.map es clock) := by
 obtain ⟨D, ⟨es, clock, hb, _⟩, _⟩ := h
 exact ⟨es, clock, hb⟩
theorem grown_setCell (W : World) (p : Addr) (u : Value) : W.grownBy (W.setCell p u) (some p.block) :=
 ⟨rfl, rfl, rfl, by rw [World.size_setCell]; exact Nat.le_refl _, fun k _ hk => Below.heap_setCell W p u k (fun e => hk (by rw [e]))⟩
theorem var_ne (h : LayS okx base b mb r A5 c5 A6 c6 vn ns W vl FV cnt B) {s : ByteArray} {v : Value} (hs : FV s = some v) : some b ≠ v.ownBlock ∧ some mb ≠ v.ownBlock ∧ ∀ k, vl.ownBlock = some k → some k ≠ v.ownBlock := by
 have hv := h.v s
 rw [hs] at hv
 refine ⟨Kd.R_ne hv h.blk (by decide), fun e => ?_, fun k hk => ?_⟩
 · obtain ⟨es, clock, hm⟩ := h.m.block
   obtain ⟨cells, hc⟩ := Kd.R_typed hv mb e.symm
   rw [hm] at hc
   cases hc
 · obtain ⟨cells, hc⟩ := Kd.N_typed (h.l.toN h.hx) k hk
   exact Kd.R_ne hv hc (by decide)
theorem LayS.put_l (h : LayS okx base b mb r A5 c5 A6 c6 vn ns W vl FV cnt B) (hg : W.grownBy W1 vl.ownBlock) (hn : NX k27 27 W1 base okx v1 l') :
 LayS okx base b mb r A5 c5 A6 c6 vn ns (W1.setCell ⟨b, 7, none⟩ v1) v1 FV cnt ⟨l', B.vars⟩ := by
 have hbl : some b ≠ vl.ownBlock := Kd.N_ne (h.l.toN h.hx) h.blk (by decide)
 have hml : some mb ≠ vl.ownBlock := fun e => by
  obtain ⟨es, clock, hm⟩ := h.m.block
  obtain ⟨cells, hc⟩ := Kd.N_typed (h.l.toN h.hx) mb e.symm
  rw [hm] at hc
  cases hc
 have hblt : b < W.heap.size := by
  obtain ⟨hlt, _⟩ := Array.getElem?_eq_some_iff.1 h.blk
  exact hlt
 have hb1 : W1.heap[b]? = some (.cells #[.string r.f0, .int .i64 r.f1.f0, .int .i64 r.f1.f1, .int .i64 r.f1.f2, .string r.f1.f3, .slice A5 r.f2.length c5, .slice A6 r.f3.length c6, vl, vn, .map (some mb)] 87 (0, 0)) := (hg.block b hblt hbl).trans h.blk
 have hg2 := grown_setCell W1 ⟨b, 7, none⟩ v1
 refine ⟨h.bm, h.bb, h.mbb, h.hx, blk_set hb1 7 v1, hn.grown h.hx hg2 (fun k hk => by injection hk with hk; subst hk; exact ⟨Kd.N_ne (hn.toN h.hx) hb1 (by decide), h.bb⟩), ?_, ?_, fun s => ?_, h.d⟩
 · refine Kd.R_grown2 (Kd.R_grown2 h.n rfl hg (fun k hk => ?_)) rfl hg2 (fun k hk => ?_)
   · obtain ⟨cells, hc⟩ := Kd.N_typed (h.l.toN h.hx) k hk
     exact Kd.R_ne h.n hc (by decide)
   · injection hk with hk
     rw [← hk]
     refine Kd.R_ne (Kd.R_grown2 h.n rfl hg (fun k hk => ?_)) hb1 (by decide)
     obtain ⟨cells, hc⟩ := Kd.N_typed (h.l.toN h.hx) k hk
     exact Kd.R_ne h.n hc (by decide)
 · exact (h.m.kept hg hml).set (p := ⟨b, 7, none⟩) (fun e => h.bm e.symm) v1
 · refine ((h.v s).grown hg (fun v hv k hk => (var_ne h hv).2.2 k hk)).grown hg2 (fun v hv k hk => ?_)
   injection hk with hk
   rw [← hk]
   exact (var_ne h hv).1
theorem LayS.put_v (h : LayS okx base b mb r A5 c5 A6 c6 vn ns W vl FV cnt B) {s : ByteArray} {l1 : List Int} {v : Value} (hv : FV s = none ∧ v = .slice none 0 0 ∨ FV s = some v) (hg : W.grownBy W1 v.ownBlock) (hr : Kd.R (Kd.int .i64) 3 W1 base (fun _ => True) v1 l1)
 (hat : v1.ownBlock = v.ownBlock ∨ ∃ k, v1.ownBlock = some k ∧ W.heap.size ≤ k) (hg2 : W1.grownBy W2 (some mb)) (hm : MapIs W2 mb (cnt + 1) (setF FV s v1)) :
 LayS okx base b mb r A5 c5 A6 c6 vn ns W2 vl (setF FV s v1) (cnt + 1) ⟨B.l, setV B.vars s l1⟩ := by
 have hn0 : ∀ k, (Value.slice none 0 0).ownBlock = some k → False := fun k hk => by cases hk
 have hne : some b ≠ v.ownBlock ∧ some mb ≠ v.ownBlock ∧ ∀ k, vl.ownBlock = some k → some k ≠ v.ownBlock := by
  rcases hv with ⟨_, rfl⟩ | hv
  · exact ⟨fun e => hn0 _ e.symm, fun e => hn0 _ e.symm, fun k _ e => hn0 _ e.symm⟩
  · exact var_ne h hv
 have hblt : b < W.heap.size := by
  obtain ⟨hlt, _⟩ := Array.getElem?_eq_some_iff.1 h.blk
  exact hlt
 have hb1 := (hg.block b hblt hne.1).trans h.blk
 have hblt1 : b < W1.heap.size := Nat.lt_of_lt_of_le hblt hg.size
 have hb2 := (hg2.block b hblt1 (fun e => h.bm (by injection e))).trans hb1
 have hbase : ∀ k, v.ownBlock = some k → base ≤ k := fun k hk => by
  rcases hv with ⟨_, rfl⟩ | hv
  · exact (hn0 k hk).elim
  · have hr0 := h.v s
    rw [hv] at hr0
    exact Kd.R_base hr0 k hk
 have hl2 := (h.l.grown h.hx hg (fun k hk => ⟨fun e => hne.2.2 k e.symm hk.symm, hbase k hk⟩)).grown h.hx hg2 (fun k hk => by
  injection hk with hk
  subst hk
  refine ⟨fun e => ?_, h.mbb⟩
  obtain ⟨es, clock, hm0⟩ := h.m.block
  obtain ⟨cells, hc⟩ := Kd.N_typed (h.l.toN h.hx) _ e.symm
  rw [hm0] at hc
  cases hc)
 have hty : ∀ k, v.ownBlock = some k → ∃ cells, W.heap[k]? = some (.cells cells 3 (0, 0)) := fun k hk => by
  rcases hv with ⟨_, rfl⟩ | hv
  · exact (hn0 k hk).elim
  · have hr0 := h.v s
    rw [hv] at hr0
    exact Kd.R_typed hr0 k hk
 obtain ⟨es, clock, hmb⟩ := h.m.block
 have hmn : some mb ≠ vn.ownBlock := fun e => by
  obtain ⟨cells, hc⟩ := Kd.R_typed h.n _ e.symm
  rw [hmb] at hc
  cases hc
 refine ⟨h.bm, h.bb, h.mbb, h.hx, hb2, hl2, Kd.R_grown2 (Kd.R_grown2 h.n rfl hg (fun k hk => ?_)) rfl hg2 (fun k hk => by injection hk with hk; subst hk; exact hmn), hm, fun t => ?_, fun t t' u u' hne2 h1 h2 => ?_⟩
 · obtain ⟨cells, hc⟩ := hty k hk
   exact Kd.R_ne h.n hc (by decide)
 · show VarV W2 base (setV B.vars s l1 t) (setF FV s v1 t)
   unfold setV setF
   by_cases e : t = s
   · rw [if_pos e, if_pos e]
     refine Kd.R_grown2 hr rfl hg2 (fun k hk he => ?_)
     injection hk with hk
     subst hk
     rcases hat with hat | ⟨k, hk, hle⟩
     · exact hne.2.1 (he.trans hat)
     · rw [hk] at he
       injection he with he
       have := h.m.lt
       omega
   · rw [if_neg e, if_neg e]
     refine ((h.v t).grown hg (fun u hu k hk => ?_)).grown hg2 (fun u hu k hk => by injection hk with hk; subst hk; exact (var_ne h hu).2.1)
     rcases hv with ⟨_, rfl⟩ | hv
     · exact (hn0 k hk).elim
     · rcases h.d s t v u (fun e2 => e e2.symm) hv hu with h0 | h0
       · rw [h0] at hk; cases hk
       · rw [← hk]; exact h0
 · unfold setF at h1 h2
   have hlt : ∀ {t u}, FV t = some u → ∀ k, u.ownBlock = some k → k < W.heap.size := fun {t u} hu k hk => by
    have hr0 := h.v t
    rw [hu] at hr0
    exact Kd.R_lt hr0 k hk
   split at h1
   · rename_i e1
     rw [if_neg (fun e => hne2 (e1.trans e.symm))] at h2
     injection h1 with h1
     subst h1
     rcases hat with hat | ⟨k, hk, hle⟩
     · rw [hat]
       rcases hv with ⟨_, rfl⟩ | hv
       · exact .inl rfl
       · exact h.d s t' v u' (fun e => hne2 (e1.trans e)) hv h2
     · right
       rw [hk]
       intro he
       have := hlt h2 k he.symm
       omega
   · split at h2
     · rename_i e1 e2
       injection h2 with h2
       subst h2
       rcases hat with hat | ⟨k, hk, hle⟩
       · rw [hat]
         rcases hv with ⟨_, rfl⟩ | hv
         · by_cases hu : u.ownBlock = none
           · exact .inl hu
           · exact .inr hu
         · exact h.d t s u v e1 h1 hv
       · right
         rw [hk]
         intro he
         have := hlt h1 k he
         omega
     · exact h.d t t' u u' hne2 h1 h2
end
structure InS (okx : Nat → Prop) (base b mb : Nat) (r : S27) (A5 : Option Addr) (c5 : Nat) (A6 : Option Addr) (c6 : Nat) (vn : Value) (ns : List ByteArray) (bn : Nat) (nm : ByteArray) (g gn gc : Nat) (ps : List S27) (W : World) (vl : Value) (FV : ByteArray → Option Value) (cnt : Nat) (B : Brd) : Prop where
 s : LayS okx base b mb r A5 c5 A6 c6 vn ns W vl FV cnt B
 nb : W.heap[bn]? = some (.cells #[.string nm] 9 (0, 0))
 p : NX k27 27 W base okx (.slice (some ⟨g, 0, none⟩) gn gc) ps
 gv : some g ≠ vl.ownBlock
theorem NX_append_step {P : Program} {α : Type} {ops : Array Oper} {o : Oper} {a : Act} {Q : Exit → Act → World → Prop} {Kc : Act → World → Prop} (d : Kd α) {w0 W : World} (base : Nat) {okx : Nat → Prop} (hw : Region.wanted o (yielded ops a.tmps) = true) (s x : Operand) (t e : TypeId) (z : Value) (bytes : Nat)
 (ho : o.op = .call { callee := .builtin .append, args := #[s, x], argTypes := #[t, t] })
 (ht : P.underlying t = some (.slice e)) (hinfo : (P.info? e).map (fun i => (i.zero, i.size, i.bytes)) = some (some z, d.sz, bytes)) (hz : z.cells.size = d.sz) (hs0 : 0 < d.sz) (hb0 : 0 < bytes)
 (v : Value) (xs : List α) (p : α) (cs : List Value) (hs : a.eval s = v) (hx : a.eval x = .slice (some ⟨W.heap.size, 0, none⟩) 1 1) (hp : Kd.FK d W okx p cs) (hlt : ∀ k, okx k → k < base)
 (HO : NX d e W base okx v xs) (HB : Below base w0 W) (hbase : base ≤ W.heap.size) (hl : (xs.length + 1) * bytes ≤ 140737488355328)
 (h : ∀ v1 w1, NX d e w1 base okx v1 (xs ++ [p]) → Below base w0 w1 → W.grownBy w1 v.ownBlock → (v1.ownBlock = v.ownBlock ∨ ∃ b, v1.ownBlock = some b ∧ W.heap.size ≤ b) → Kc (a.put o.dst v1) w1) :
 if Region.wanted o (yielded ops a.tmps) = true then Oper.wp P o a (W.alloc (.cells cs.toArray e)) Kc Q else Kc (a.put o.dst undef) (W.alloc (.cells cs.toArray e)) := by
 obtain ⟨rows, hlr, hR, hf⟩ := HO
 refine Kd.R_append_step (Kd.raw d.sz) base hw s x t e z bytes ho ht hinfo hz hs0 hb0 v rows cs cs (fun _ => True) (fun _ => False) hs hx (Kd.FK_raw hp) (fun _ hk => hk.elim) (fun _ _ => trivial) hR HB hbase (by rw [hlr]; exact hl) ?_
 intro v1 w1 hr hb hg hat
 have hne : ∀ k, okx k → some k ≠ v.ownBlock := fun k hk he => by
  have := Kd.R_base hR k he.symm
  have := hlt k hk
  omega
 refine h v1 w1 ⟨rows ++ [cs], by rw [List.length_append, List.length_append, hlr]; rfl, hr, fun j y c hy hc => ?_⟩ hb hg hat
 by_cases hj : j < xs.length
 · rw [List.getElem?_append_left hj] at hy
   rw [List.getElem?_append_left (by omega)] at hc
   exact Kd.FK_step (hf j y c hy hc) (fun k hk hlk => hg.block k hlk (hne k hk))
 · rw [List.getElem?_append_right (by omega)] at hy hc
   rw [hlr] at hc
   obtain ⟨e1, e2⟩ := List.getElem?_eq_some_iff.1 hy
   obtain ⟨e3, e4⟩ := List.getElem?_eq_some_iff.1 hc
   rw [List.getElem_singleton] at e2 e4
   rw [← e2, ← e4]
   exact Kd.FK_step hp (fun k hk hlk => hg.block k hlk (hne k hk))
section
variable {okx : Nat → Prop} {base b mb : Nat} {r : S27} {A5 : Option Addr} {c5 : Nat} {A6 : Option Addr} {c6 : Nat} {vn : Value} {ns : List ByteArray} {bn : Nat} {nm : ByteArray} {g gn gc : Nat} {ps : List S27} {W W1 W2 : World} {vl v1 : Value} {FV : ByteArray → Option Value} {cnt : Nat} {B : Brd} {l' : List S27}
theorem InS.below (h : InS okx base b mb r A5 c5 A6 c6 vn ns bn nm g gn gc ps W vl FV cnt B) (hb : Below W.heap.size W W1) : InS okx base b mb r A5 c5 A6 c6 vn ns bn nm g gn gc ps W1 vl FV cnt B :=
 ⟨h.s.below hb, blk_below h.nb hb, h.p.below hb, h.gv⟩
theorem blk_lt2 {o : Obj} {k : Nat} (h : W.heap[k]? = some o) : k < W.heap.size := (Array.getElem?_eq_some_iff.1 h).1
theorem InS.put_l (h : InS okx base b mb r A5 c5 A6 c6 vn ns bn nm g gn gc ps W vl FV cnt B) (hg : W.grownBy W1 vl.ownBlock) (hn : NX k27 27 W1 base okx v1 l') (hat : v1.ownBlock = vl.ownBlock ∨ ∃ b, v1.ownBlock = some b ∧ W.heap.size ≤ b) :
 InS okx base b mb r A5 c5 A6 c6 vn ns bn nm g gn gc ps (W1.setCell ⟨b, 7, none⟩ v1) v1 FV cnt ⟨l', B.vars⟩ := by
 have hgl : g < W.heap.size := Kd.N_lt (h.p.toN h.s.hx) g rfl
 have hvb : ∀ k, vl.ownBlock = some k → some k ≠ (Value.slice (some ⟨g, 0, none⟩) gn gc).ownBlock ∧ base ≤ k := fun k hk => ⟨fun e => h.gv (by rw [hk]; exact e.symm), Kd.N_base (h.s.l.toN h.s.hx) k hk⟩
 have hbg : some b ≠ (Value.slice (some ⟨g, 0, none⟩) gn gc).ownBlock := Kd.N_ne (h.p.toN h.s.hx) h.s.blk (by decide)
 have hbn : some bn ≠ vl.ownBlock := Kd.N_ne (h.s.l.toN h.s.hx) h.nb (by decide)
 have hb2 : bn ≠ b := fun e => by
  have h1 := h.nb
  rw [e, h.s.blk] at h1
  injection h1 with h1
  injection h1 with _ h1
  exact absurd h1 (by decide)
 refine ⟨h.s.put_l hg hn, ?_, (h.p.grown h.s.hx hg hvb).grown h.s.hx (grown_setCell W1 ⟨b, 7, none⟩ v1) (fun k hk => by injection hk with hk; subst hk; exact ⟨hbg, h.s.bb⟩), ?_⟩
 · exact (Below.heap_setCell W1 ⟨b, 7, none⟩ v1 bn hb2).trans ((hg.block bn (blk_lt2 h.nb) hbn).trans h.nb)
 · rcases hat with hat | ⟨k, hk, hle⟩
   · rw [hat]; exact h.gv
   · rw [hk]
     intro e
     injection e with e
     omega
theorem InS.var_keep (h : InS okx base b mb r A5 c5 A6 c6 vn ns bn nm g gn gc ps W vl FV cnt B) {s : ByteArray} {v : Value} (hv : FV s = none ∧ v = .slice none 0 0 ∨ FV s = some v) (hg : W.grownBy W1 v.ownBlock) :
 W1.heap[b]? = some (.cells #[.string r.f0, .int .i64 r.f1.f0, .int .i64 r.f1.f1, .int .i64 r.f1.f2, .string r.f1.f3, .slice A5 r.f2.length c5, .slice A6 r.f3.length c6, vl, vn, .map (some mb)] 87 (0, 0)) ∧ W1.heap[bn]? = some (.cells #[.string nm] 9 (0, 0)) ∧ MapIs W1 mb cnt FV ∧ (∀ k, v.ownBlock = some k → some k ≠ (Value.slice (some ⟨g, 0, none⟩) gn gc).ownBlock ∧ base ≤ k) := by
 rcases hv with ⟨_, rfl⟩ | hv
 · exact ⟨(hg.block b (blk_lt2 h.s.blk) (fun e => by cases e)).trans h.s.blk, (hg.block bn (blk_lt2 h.nb) (fun e => by cases e)).trans h.nb, h.s.m.kept hg (fun e => by cases e), fun k hk => by cases hk⟩
 · have h3 := h.s.v s
   rw [hv] at h3
   refine ⟨(hg.block b (blk_lt2 h.s.blk) (var_ne h.s hv).1).trans h.s.blk, (hg.block bn (blk_lt2 h.nb) (Kd.R_ne h3 h.nb (by decide))).trans h.nb, h.s.m.kept hg (var_ne h.s hv).2.1, fun k hk => ⟨fun e => ?_, Kd.R_base h3 k hk⟩⟩
   obtain ⟨cells, hc⟩ := Kd.R_typed h3 k hk
   exact Kd.N_ne (h.p.toN h.s.hx) hc (by decide) e
theorem InS.put_v (h : InS okx base b mb r A5 c5 A6 c6 vn ns bn nm g gn gc ps W vl FV cnt B) {s : ByteArray} {l1 : List Int} {v : Value} (hv : FV s = none ∧ v = .slice none 0 0 ∨ FV s = some v) (hg : W.grownBy W1 v.ownBlock) (hr : Kd.R (Kd.int .i64) 3 W1 base (fun _ => True) v1 l1)
 (hat : v1.ownBlock = v.ownBlock ∨ ∃ k, v1.ownBlock = some k ∧ W.heap.size ≤ k) (hg2 : W1.grownBy W2 (some mb)) (hm : MapIs W2 mb (cnt + 1) (setF FV s v1)) :
 InS okx base b mb r A5 c5 A6 c6 vn ns bn nm g gn gc ps W2 vl (setF FV s v1) (cnt + 1) ⟨B.l, setV B.vars s l1⟩ := by
 obtain ⟨k1, k2, k3, k4⟩ := h.var_keep hv hg
 obtain ⟨es, clock, hm1⟩ := k3.block
 refine ⟨h.s.put_v hv hg hr hat hg2 hm, ?_, (h.p.grown h.s.hx hg k4).grown h.s.hx hg2 (fun k hk => ?_), h.gv⟩
 · refine (hg2.block bn (blk_lt2 k2) (fun e => ?_)).trans k2
   injection e with e
   rw [e, hm1] at k2
   cases k2
 · injection hk with hk
   subst hk
   refine ⟨fun e => ?_, h.s.mbb⟩
   obtain ⟨cells, hc⟩ := Kd.N_typed ((h.p.grown h.s.hx hg k4).toN h.s.hx) mb e.symm
   rw [hm1] at hc
   cases hc
end
set_option maxRecDepth 100000 in
theorem map_run {w : World} {b n : Nat} {F : ByteArray → Option Value} (h : MapIs w b n F) (t e : TypeId) (ht : Tryz.prog.underlying t = some (.map 9 e)) {z : Value} (hz : (zeroValue e).run Tryz.prog w = .ok z w) (s : ByteArray) (hs : s.size ≤ 1000000000) :
 (Instr.lookup t (.map (some b)) (.string s) false).run Tryz.prog w = .ok ((F s).getD z) w := by
 obtain ⟨D, h1, h2, h3⟩ := h
 obtain ⟨v, ps, hrun, hv⟩ := h1.lookup key_law ht hz (zd := .held z) (zp := []) rfl (key_of hs)
 rw [(h3 s).2 z] at hv
 injection hv with hv
 injection hv with hv _
 injection hv with hv
 rw [hv] at hrun
 exact hrun
set_option maxRecDepth 100000 in
theorem map_put_step {w : World} {b n : Nat} {F : ByteArray → Option Value} {ops : Array Oper} {o : Oper} {a : Act} {Q : Exit → Act → World → Prop} {Kc : Act → World → Prop} (hw : Region.wanted o (yielded ops a.tmps) = true) (m x y : Operand) (t e : TypeId) (hop : o.op = Op.mapUpdate t m x y) (ht : Tryz.prog.underlying t = some (.map 9 e))
 (s : ByteArray) (v : Value) (hm : a.eval m = .map (some b)) (hx : a.eval x = .string s) (hy : a.eval y = v) (h : MapIs w b n F) (hs : s.size ≤ 1000000000) (hn : n ≤ 1000000000)
 (hK : ∀ w', MapIs w' b (n + 1) (setF F s v) → w.grownBy w' (some b) → Kc (a.put o.dst undef) w') : if Region.wanted o (yielded ops a.tmps) = true then Oper.wp Tryz.prog o a w Kc Q else Kc (a.put o.dst undef) w := by
 rw [if_pos hw]
 obtain ⟨D, h1, h2, h3⟩ := h
 obtain ⟨w', hrun, r1, r2⟩ := h1.update key_law ht (by unfold maxLen; omega) (key_of hs) (d := .held v) (ps := []) rfl
 unfold Oper.wp
 simp [execOp, hop, hm, hx, hy, hrun, Result.andThen]
 refine hK w' ⟨_, r1, h2.put _ _, fun u => ?_⟩ r2
 by_cases hu : u = s
 · subst hu
   rw [setF_same]
   exact ⟨Maps.has_put_same h2 (keyL_is _) _, fun z => Maps.atKey_put_same h2 (keyL_is _) _ _⟩
 · rw [setF_other F v hu, Maps.has_put_other (fun e => hu (keyL_inj e)), (h3 u).1]
   exact ⟨rfl, fun z => by rw [Maps.atKey_put_other (fun e => hu (keyL_inj e)), (h3 u).2 z]⟩
def QN {α : Type} (d : Kd α) (e : Nat) (w : World) (base : Nat) (ok : Nat → Prop) (v : Value) (xs : List α) : Prop :=
 ∃ inner, QRow w base e d.sz v xs.length inner ∧ Reps (Kd.FK d w (fun k => ok k ∧ some k ≠ v.ownBlock)) d.sz xs inner
section
variable {α : Type} {d : Kd α} {e base : Nat} {w w1 : World} {ok ok' : Nat → Prop} {v v1 : Value} {xs ys : List α} {x : α} {cs : List Value}
theorem QN.of (h : Kd.N d e w base ok v xs) : QN d e w base ok v xs := by
 obtain ⟨_, rows, hl, ⟨_, inner, ho, hr⟩, hf⟩ := h
 rw [hl] at ho
 refine ⟨inner, q_of_own ho, ⟨by rw [hr.1, hl]; rfl, fun j p hj => ?_⟩⟩
 obtain ⟨hj1, hj2⟩ := List.getElem?_eq_some_iff.1 hj
 have hc : rows[j]? = some rows[j] := List.getElem?_eq_getElem (by omega)
 have h2 := hr.2 j _ hc
 have h3 : (inner.drop (j * d.sz)).take d.sz = rows[j] := h2.1
 rw [h3]
 exact hf j p _ hj hc
theorem QN.mono (h : QN d e w base ok v xs) (hk : ∀ k, ok k → ok' k) : QN d e w base ok' v xs := by
 obtain ⟨inner, hq, hr⟩ := h
 exact ⟨inner, hq, hr.imp_ (fun _ _ hp => Kd.FK_mono hp (fun k h => ⟨hk k h.1, h.2⟩))⟩
theorem QN.lower {base' : Nat} (h : QN d e w base ok v xs) (hb : base' ≤ base) : QN d e w base' ok v xs := by
 obtain ⟨inner, hq, hr⟩ := h
 exact ⟨inner, q_lower hq hb, hr⟩
theorem QN.below (h : QN d e w base ok v xs) (hb : Below w.heap.size w w1) : QN d e w1 base ok v xs := by
 obtain ⟨inner, hq, hr⟩ := h
 exact ⟨inner, q_move hq (fun k hk => hb.block k (q_lt hq k hk)), hr.imp_ (fun _ _ hp => Kd.FK_step hp (fun k _ hlt => hb.block k hlt))⟩
theorem QN.grown {row : Option Nat} (h : QN d e w base ok v xs) (hg : w.grownBy w1 row) (hne : ∀ k, row = some k → ¬ ok k ∧ some k ≠ v.ownBlock) : QN d e w1 base ok v xs := by
 obtain ⟨inner, hq, hr⟩ := h
 exact ⟨inner, q_move hq (fun k hk => hg.block k (q_lt hq k hk) (fun he => (hne k he.symm).2 hk.symm)), hr.imp_ (fun _ _ hp => Kd.FK_step hp (fun k hk hlt => hg.block k hlt (fun he => (hne k he.symm).1 hk.1)))⟩
theorem QN.slice (h : QN d e w base ok v xs) : ∃ A c, v = .slice A xs.length c ∧ xs.length ≤ c := by
 obtain ⟨inner, hq, hr⟩ := h
 exact q_slice hq
theorem QN.max (h : QN d e w base ok v xs) : xs.length ≤ 9223372036854775807 := by
 obtain ⟨inner, hq, hr⟩ := h
 exact q_max hq
theorem QN.lt (h : QN d e w base ok v xs) : ∀ k, v.ownBlock = some k → k < w.heap.size := by
 obtain ⟨inner, hq, hr⟩ := h
 exact q_lt hq
theorem QN.typed (h : QN d e w base ok v xs) : ∀ k, v.ownBlock = some k → base ≤ k ∧ ∃ cells, w.heap[k]? = some (.cells cells e (0, 0)) := by
 obtain ⟨inner, hq, hr⟩ := h
 exact q_typed hq
theorem q_at {w : World} {base n size : Nat} {e : TypeId} {xs : List Value} {ad : Addr} {c : Nat} (h : QRow w base e size (.slice (some ad) n c) n xs) (hn : 0 < n) : ∃ q o, ad = ⟨q, o, none⟩ := by
 rcases h.2 with ⟨h0, _⟩ | ⟨g, off, cap, cur, he, _⟩
 · omega
 · injection he with ha _ hc
   injection ha with ha
   exact ⟨_, _, ha⟩
theorem QN.first {A : Option Addr} {n c : Nat} (h : QN d e w base ok (.slice A n c) (x :: xs)) : ∃ g o cs, A = some ⟨g, o, none⟩ ∧ n = xs.length + 1 ∧ cs.length = d.sz ∧ (∀ j u, cs[j]? = some u → w.cell? ⟨g, o + j, none⟩ = some u) ∧ Kd.FK d w (fun k => ok k ∧ k ≠ g) x cs := by
 obtain ⟨inner, hq, hr⟩ := h
 obtain ⟨A', c', he, hc⟩ := q_slice hq
 injection he with e1 e2 e3
 subst e2
 obtain ⟨ad, rfl, hcell⟩ := q_cells hq (by simp)
 obtain ⟨g, o, rfl⟩ := q_at hq (by simp)
 have h0 := hr.2 0 x rfl
 rw [Nat.zero_mul, List.drop_zero] at h0
 refine ⟨g, o, inner.take d.sz, rfl, rfl, d.K_len (Kd.FK_now h0), fun j u hu => ?_, Kd.FK_mono h0 (fun k hk => ⟨hk.1, fun he => hk.2 (by simp [Value.ownBlock, he])⟩)⟩
 have h1 : inner[j]? = some u := by
  rw [List.getElem?_take] at hu
  split at hu
  · exact hu
  · cases hu
 have := hcell j u h1
 rwa [add_at] at this
theorem own_same (A : Option Addr) (n n' c c' k : Nat) : (Value.slice (if c = k then A else A.map (·.add n')) n c').ownBlock = (Value.slice A n c).ownBlock := by
 split
 · cases A <;> rfl
 · cases A with
   | none => rfl
   | some a => simp [Value.ownBlock]; unfold Addr.add; split <;> rfl
theorem own_len (A : Option Addr) (n m c c' : Nat) : (Value.slice A n c).ownBlock = (Value.slice A m c').ownBlock := by cases A <;> rfl
theorem QN.drop1 {A : Option Addr} {n c : Nat} (h : QN d e w base ok (.slice A n c) (x :: xs)) : QN d e w base ok (.slice (if c = 1 then A else A.map (·.add (1 * d.sz))) xs.length (c - 1)) xs := by
 obtain ⟨inner, hq, hr⟩ := h
 obtain ⟨A', c', he, hc⟩ := q_slice hq
 injection he with e1 e2 e3
 subst e2
 have h1 := q_drop (k := 1) hq (by simp)
 have h2 := Kd.reps_drop (m := 1) hr
 refine ⟨inner.drop (1 * d.sz), by simpa using h1, ?_⟩
 have hb : (Value.slice (if c = 1 then A else A.map (·.add (1 * d.sz))) xs.length (c - 1)).ownBlock = (Value.slice A (x :: xs).length c).ownBlock := (own_same A _ _ _ _ _).trans (own_len _ _ _ _ _)
 rw [hb]
 simpa using h2
end
section
variable {P : Program} {α : Type} (d : Kd α)
set_option maxRecDepth 100000 in
theorem QN.run {W : World} (base : Nat) (t ty e : TypeId) (z : Value) (bytes : Nat) (ht : P.underlying t = some (.slice e)) (hinfo : (P.info? e).map (fun i => (i.zero, i.size, i.bytes)) = some (some z, d.sz, bytes)) (hz : z.cells.size = d.sz) (hs0 : 0 < d.sz) (hb0 : 0 < bytes)
 {v : Value} {xs ys : List α} {A : Option Addr} {m c : Nat} {ok okp : Nat → Prop} (HO : QN d e W base ok v xs) (HR : Kd.F d W okp A m ys) (hokp : ∀ k, okp k → k < W.heap.size → ok k ∧ some k ≠ v.ownBlock) (hbase : base ≤ W.heap.size) (hl : (xs.length + m) * bytes ≤ 140737488355328) :
 ∃ v1 w1, (Builtin.append_ #[t, t] ty #[v, .slice A m c]).run P W = .ok v1 w1 ∧ QN d e w1 base ok v1 (xs ++ ys) ∧ W.grownBy w1 v.ownBlock ∧ (v1.ownBlock = v.ownBlock ∨ ∃ b, v1.ownBlock = some b ∧ W.heap.size ≤ b) := by
 obtain ⟨i0, hi, hzz⟩ := Option.map_eq_some_iff.1 hinfo
 simp only [Prod.mk.injEq] at hzz
 obtain ⟨hz0, hz1, hz2⟩ := hzz
 have hlen : xs.length + m ≤ 140737488355328 := Nat.le_trans (Nat.le_mul_of_pos_right _ hb0) hl
 obtain ⟨inner, hq, hr⟩ := HO
 have hm : ys.length = m := (Kd.F_now HR).1
 rcases Nat.eq_zero_or_pos m with h0 | hp
 · subst h0
   obtain rfl : ys = [] := List.eq_nil_of_length_eq_zero hm
   obtain ⟨A', c', rfl, hc⟩ := q_slice hq
   refine ⟨_, W, ?_, by rw [List.append_nil]; exact ⟨inner, hq, hr⟩, World.grownBy.refl W _, .inl rfl⟩
   cases A <;> cases A' <;> simp [Builtin.append_, run_underlying ht, sizeOf, typeInfo, hi, Builtin.lenOf, Builtin.firstCells, hc, storeCells, loadCells, loadCellsFrom]
 · obtain ⟨ad, rfl, _⟩ := (Kd.F_now HR).2.2 hp
   obtain ⟨news, hnr, hnc⟩ := ReadsRow.inner_ (Kd.F_rows HR)
   have hone : ∀ u ∈ news, u.oneCell' = true := by
    intro u hu
    obtain ⟨q, hq2, rfl⟩ := List.mem_iff_getElem.1 hu
    have hql : q / d.sz < ys.length := by
     rw [Nat.div_lt_iff_lt_mul hs0]
     rw [← hnr.1]
     exact hq2
    have hc := hnr.2 (q / d.sz) _ (List.getElem?_eq_getElem hql)
    refine d.K_one (Kd.FK_now hc) _ ?_
    rw [List.mem_iff_getElem?]
    refine ⟨q % d.sz, ?_⟩
    rw [List.getElem?_take, if_pos (Nat.mod_lt _ hs0), List.getElem?_drop, Nat.mul_comm, Nat.div_add_mod, List.getElem?_eq_getElem hq2]
   obtain ⟨v1, w1, hrun, h2, hg, hat⟩ := q_append (P := P) W base t ty e i0 z d.sz bytes ht hi hz0 hz1 hz2 hz hs0 v xs.length inner hq ad m c news (by rw [hnr.1, hm]) hnc hone hp (by simp only [maxLen]; omega) hl hbase
   have hne : ∀ k, some k ≠ v.ownBlock → k < W.heap.size → some k ≠ v1.ownBlock := by
    intro k hk hlt
    rcases hat with hat | ⟨b, hb, hle⟩
    · rw [hat]; exact hk
    · rw [hb]
      intro he
      injection he with he
      omega
   have step : ∀ {q : α} {cc : List Value} {o : Nat → Prop}, Kd.FK d W o q cc → (∀ k, o k → k < W.heap.size → ok k ∧ some k ≠ v.ownBlock) → Kd.FK d w1 (fun k => ok k ∧ some k ≠ v1.ownBlock) q cc := by
    intro q cc o hq ho
    exact Kd.FK_mono (Kd.FK_step (Kd.FK_bound hq) (fun k hk hlt => hg.block k hlt (ho k hk.1 hk.2).2)) (fun k hk => ⟨(ho k hk.1 hk.2).1, hne k (ho k hk.1 hk.2).2 hk.2⟩)
   exact ⟨v1, w1, hrun, ⟨inner ++ news, by rw [List.length_append, hm]; exact h2, Kd.reps_append (hr.imp_ (fun _ _ hq => step hq (fun _ hk _ => hk))) (hnr.imp_ (fun _ _ hq => step hq hokp))⟩, hg, hat⟩
variable {ops : Array Oper} {rest : List Oper} {o : Oper} {a : Act} {Q : Exit → Act → World → Prop} {Kc : Act → World → Prop}
theorem QN.append_step {W : World} (base : Nat) (hw : Region.wanted o (yielded ops a.tmps) = true) (s x : Operand) (t e : TypeId) (z : Value) (bytes : Nat)
 (ho : o.op = .call { callee := .builtin .append, args := #[s, x], argTypes := #[t, t] })
 (ht : P.underlying t = some (.slice e)) (hinfo : (P.info? e).map (fun i => (i.zero, i.size, i.bytes)) = some (some z, d.sz, bytes)) (hz : z.cells.size = d.sz) (hs0 : 0 < d.sz) (hb0 : 0 < bytes)
 (v : Value) (xs ys : List α) (A : Option Addr) (m c : Nat) (ok okp : Nat → Prop) (hs : a.eval s = v) (hx : a.eval x = .slice A m c)
 (HO : QN d e W base ok v xs) (HR : Kd.F d W okp A m ys) (hokp : ∀ k, okp k → k < W.heap.size → ok k ∧ some k ≠ v.ownBlock) (hbase : base ≤ W.heap.size) (hl : (xs.length + m) * bytes ≤ 140737488355328)
 (h : ∀ v1 w1, QN d e w1 base ok v1 (xs ++ ys) → W.grownBy w1 v.ownBlock → (v1.ownBlock = v.ownBlock ∨ ∃ b, v1.ownBlock = some b ∧ W.heap.size ≤ b) → Kc (a.put o.dst v1) w1) :
 if Region.wanted o (yielded ops a.tmps) = true then Oper.wp P o a W Kc Q else Kc (a.put o.dst undef) W := by
 obtain ⟨v1, w1, hr, h1, h3, h4⟩ := QN.run (P := P) d base t o.type e z bytes ht hinfo hz hs0 hb0 (c := c) HO HR hokp hbase hl
 rw [if_pos hw]
 unfold Oper.wp execOp
 simp only [ho, resolve, invoke, builtin, Sem.run_bind, Sem.run_pure, Result.andThen_ok, List.map_toArray, List.map_cons, List.map_nil, hs, hx, hr]
 exact h v1 w1 h1 h3 h4
end
end Go.Proofs.YteinkjhimceljaaGreatDoor.J
