/- A formula of the walk's own, whose clauses are shared rows: its struct in memory, the append of a clause. -/
import Derived.Test.YthnbmlpjbhhamaaHv
import Derived.Test.YthnbmlpjbhhamaaGa
namespace Go.Proofs.Ythnbmlpjbhhamaa.J
open Go.RowKit Go.Shelf Go.Proofs.YthnbmlpjbhhamaaW.PrintWords Go.Proofs.YthnbmlpjbhhamaaW.PrintLast Go.Proofs.YthnbmlpjbhhamaaW.PrintMore
set_option linter.unusedVariables false
set_option linter.unusedSimpArgs false

/-- The formula at block b (of type T), which is younger than the world w2. -/
structure GstT (T : TypeId) (w2 W : World) (b : Nat) (vars : Int) (gv : Value) (xs : List (List Int)) : Prop where
  hg : W.heap[b]? = some (.cells #[.int .i64 vars, gv] T (0, 0))
  hn : Kd.N (Kd.slice 3 (Kd.int .i64)) 25 W w2.heap.size (fun k => k ≠ b) gv xs
  bb : w2.heap.size ≤ b
  hb : Below w2.heap.size w2 W
abbrev Gst := GstT 24

theorem GstT.lt {T : TypeId} {w2 W : World} {b : Nat} {vars : Int} {gv : Value} {xs : List (List Int)} (h : GstT T w2 W b vars gv xs) : b < W.heap.size := (Array.getElem?_eq_some_iff.1 h.hg).1
theorem GstT.below {T : TypeId} {w2 W w1 : World} {b : Nat} {vars : Int} {gv : Value} {xs : List (List Int)} (h : GstT T w2 W b vars gv xs) (hb : Below W.heap.size W w1) : GstT T w2 w1 b vars gv xs :=
  ⟨(hb.block b h.lt).trans h.hg, Kd.N_below h.hn hb, h.bb, below_then h.hb h.hb.size hb⟩
theorem GstT.drewN {T : TypeId} {w2 W : World} {b : Nat} {vars : Int} {gv : Value} {xs : List (List Int)} (h : GstT T w2 W b vars gv xs) (m : Nat) : GstT T w2 (W.drewN m) b vars gv xs := h.below (pw_below_drewN (Below.refl _ _) m)
theorem GstT.drew {T : TypeId} {w2 W : World} {b : Nat} {vars : Int} {gv : Value} {xs : List (List Int)} (h : GstT T w2 W b vars gv xs) : GstT T w2 W.drew b vars gv xs := h.below (below_drew (Below.refl _ _))
theorem GstT.fld {T : TypeId} {w2 W : World} {b : Nat} {vars : Int} {gv : Value} {xs : List (List Int)} (h : GstT T w2 W b vars gv xs) : W.cell? ⟨b, 0, none⟩ = some (.int .i64 vars) ∧ W.cell? ⟨b, 1, none⟩ = some gv := ⟨(blk_cell h.hg 0).trans rfl, (blk_cell h.hg 1).trans rfl⟩
/-- Behind an append and the store of what it tells. -/
theorem GstT.put {T : TypeId} {w2 W w1 : World} {b : Nat} {vars : Int} {gv v1 : Value} {xs ys : List (List Int)} (h : GstT T w2 W b vars gv xs) (hn : Kd.N (Kd.slice 3 (Kd.int .i64)) 25 w1 w2.heap.size (fun k => k ≠ b) v1 ys) (hb : Below w2.heap.size w2 w1) (hg : W.grownBy w1 gv.ownBlock) :
    GstT T w2 (w1.setCell ⟨b, 1, none⟩ v1) b vars v1 ys := by
  have e1 : w1.heap[b]? = W.heap[b]? := hg.block b h.lt (fun e => h.hn.1 b e.symm rfl)
  refine ⟨?_, Kd.N_far hn (fun k hk => hk) v1, h.bb, hb.setCell (p := ⟨b, 1, none⟩) h.bb v1⟩
  have := blk_set (e1.trans h.hg) 1 v1
  simpa using this
theorem GstT.kept {T : TypeId} {w2 W w1 : World} {b : Nat} {vars : Int} {gv : Value} {xs : List (List Int)} (h : GstT T w2 W b vars gv xs) (hg : W.grownBy w1 gv.ownBlock) : w1.heap[b]? = some (.cells #[.int .i64 vars, gv] T (0, 0)) :=
  (hg.block b h.lt (fun e => h.hn.1 b e.symm rfl)).trans h.hg
theorem row_reads {w : World} {e : TypeId} {base : Nat} {v : Value} {xs : List Int} (h : Kd.R (Kd.int .i64) e w base (fun _ => True) v xs) : ∃ A c, v = .slice A xs.length c ∧ Kd.C (Kd.int .i64) w A xs.length xs ∧ xs.length ≤ c := by
  obtain ⟨A, c, e⟩ := Kd.R_slice h
  subst e
  exact ⟨A, c, rfl, (Kd.R_reads' h).2.2, (Kd.R_reads' h).2.1⟩
theorem info_rows : (Try.prog.info? 25).map (fun i => (i.zero, i.size, i.bytes)) = some (some (.slice none 0 0), (Kd.slice 3 (Kd.int .i64)).sz, 24) := by kernel_rfl
/-- A clause that came in, as an element. -/
theorem shared_row {w2 W : World} {A : Option Addr} {c : Nat} {l : List Int} (hl : l.length ≤ c) (h : Kd.C (Kd.int .i64) w2 A l.length l) (hb : Below w2.heap.size w2 W) : Kd.FK (Kd.slice 3 (Kd.int .i64)) W (fun k => k < w2.heap.size) l [.slice A l.length c] :=
  Kd.FK_slice_mk hl (Kd.F_below (Kd.C_F (Kd.heap_int .i64) h) hb)
theorem shared_ok {T : TypeId} {w2 W : World} {b : Nat} {vars : Int} {gv : Value} {xs : List (List Int)} (h : GstT T w2 W b vars gv xs) (k : Nat) (hk : k < w2.heap.size) : k ≠ b ∧ some k ≠ gv.ownBlock := by
  refine ⟨fun e => ?_, fun e => ?_⟩
  · have := h.bb; omega
  · have := Kd.N_base h.hn k e.symm; omega
theorem fresh_ok {T : TypeId} {w2 W : World} {b : Nat} {vars : Int} {gv : Value} {xs : List (List Int)} (h : GstT T w2 W b vars gv xs) (k : Nat) (hk : W.heap.size ≤ k) : k ≠ b := by
  have := h.lt; omega
end Go.Proofs.Ythnbmlpjbhhamaa.J
