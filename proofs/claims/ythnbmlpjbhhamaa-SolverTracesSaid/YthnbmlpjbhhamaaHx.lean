/- The last frame of the solver's stack: read, written. -/
import Derived.Test.YthnbmlpjbhhamaaHy
namespace Go.Proofs.Ythnbmlpjbhhamaa.J
open Go.RowKit Go.Shelf Go.Proofs.YthnbmlpjbhhamaaW.PrintWords Go.Proofs.YthnbmlpjbhhamaaW.PrintLast Go.Proofs.YthnbmlpjbhhamaaW.PrintMore
set_option linter.unusedVariables false

section
variable {W : World} {base gk n ck T : Nat} {ok : Nat → Prop} {stk3 : List (Int × Int)} {p : Int × Int}
theorem frame_split (h : Kd.R (Kd.pair (Kd.int .i64) (Kd.int .i64)) T W base ok (.slice (some ⟨gk, 0, none⟩) (n + 1) ck) (stk3 ++ [p])) (hl : stk3.length = n) :
    ∃ inner0 : List Value, inner0.length = n * 2 ∧ W.ownsRow base T 2 (.slice (some ⟨gk, 0, none⟩) (n + 1) ck) (n + 1) (inner0 ++ [.int .i64 p.1, .int .i64 p.2]) ∧
      Reps ((Kd.pair (Kd.int .i64) (Kd.int .i64)).M W base (fun k => ok k ∧ some k ≠ (Value.slice (some ⟨gk, 0, none⟩) (n + 1) ck).ownBlock)) 2 stk3 inner0 := by
  obtain ⟨h0, inner, ho, hr⟩ := h
  have hlen : inner.length = (n + 1) * 2 := by have := hr.1; rw [List.length_append, List.length_singleton, hl] at this; exact this
  obtain ⟨c0, c1, e, e0, e1⟩ := hr.2 n p (by rw [List.getElem?_append_right (by omega), hl, Nat.sub_self]; rfl)
  have e0 : c0 = [.int .i64 p.1] := e0
  have e1 : c1 = [.int .i64 p.2] := e1
  have hz : (Kd.pair (Kd.int .i64) (Kd.int .i64)).sz = 2 := rfl
  rw [hz] at e
  rw [e0, e1, List.take_of_length_le (by rw [List.length_drop]; omega)] at e
  have hi : inner = inner.take (n * 2) ++ [.int .i64 p.1, .int .i64 p.2] := by
    have := (List.take_append_drop (n * 2) inner).symm
    rw [e] at this
    exact this
  refine ⟨inner.take (n * 2), by rw [List.length_take]; omega, ?_, ?_, ?_⟩
  · rw [← hi]
    rw [List.length_append, List.length_singleton, hl] at ho
    exact ho
  · rw [List.length_take, hl, hlen]; omega
  · intro j q hj
    have hjn : j < n := by have := (List.getElem?_eq_some_iff.1 hj).1; omega
    have := hr.2 j q (by rw [List.getElem?_append_left (by omega)]; exact hj)
    rw [hz] at this
    rw [List.drop_take, List.take_take]
    rw [show min 2 (n * 2 - j * 2) = 2 by omega]
    exact this
theorem frame_cells (h : Kd.R (Kd.pair (Kd.int .i64) (Kd.int .i64)) T W base ok (.slice (some ⟨gk, 0, none⟩) (n + 1) ck) (stk3 ++ [p])) (hl : stk3.length = n) :
    W.cell? ⟨gk, n * 2, none⟩ = some (.int .i64 p.1) ∧ W.cell? ⟨gk, n * 2 + 1, none⟩ = some (.int .i64 p.2) ∧ W.frozen? ⟨gk, n * 2 + 1, none⟩ = false := by
  obtain ⟨inner0, h1, ⟨_, ⟨e2, _⟩ | ⟨g', cap', cur, e2, e3, e4, e5, e6, e7, e8⟩⟩, _⟩ := frame_split h hl
  · exact absurd e2 (by simp)
  · injection e2 with e21 e22 e23
    injection e21 with e21
    injection e21 with e21
    subst e21
    have key : ∀ j, j < (n + 1) * 2 → cur[j]? = (inner0 ++ [.int .i64 p.1, .int .i64 p.2])[j]? := by
      intro j hj
      rw [← e8, List.getElem?_take, if_pos hj, Array.getElem?_toList]
    refine ⟨?_, ?_, blk_frozen e4 _⟩
    · rw [blk_cell e4, key _ (by omega), List.getElem?_append_right (by omega), h1, Nat.sub_self]; rfl
    · rw [blk_cell e4, key _ (by omega), List.getElem?_append_right (by omega), h1, show n * 2 + 1 - n * 2 = 1 by omega]; rfl
theorem frame_put (h : Kd.R (Kd.pair (Kd.int .i64) (Kd.int .i64)) T W base ok (.slice (some ⟨gk, 0, none⟩) (n + 1) ck) (stk3 ++ [p])) (hl : stk3.length = n) (m : Int) :
    Kd.R (Kd.pair (Kd.int .i64) (Kd.int .i64)) T (W.setCell ⟨gk, n * 2 + 1, none⟩ (.int .i64 m)) base ok (.slice (some ⟨gk, 0, none⟩) (n + 1) ck) (stk3 ++ [(p.1, m)]) ∧ W.grownBy (W.setCell ⟨gk, n * 2 + 1, none⟩ (.int .i64 m)) (some gk) := by
  have h0 := h.1
  obtain ⟨inner0, h1, ho, hr⟩ := frame_split h hl
  have hs := ho.stored (n * 2 + 1) (.int .i64 m)
  have e : (inner0 ++ [Value.int .i64 p.1, Value.int .i64 p.2]).set (n * 2 + 1) (Value.int .i64 m) = inner0 ++ [Value.int .i64 p.1, Value.int .i64 m] := by
    rw [List.set_append_right _ _ (by omega), h1, show n * 2 + 1 - n * 2 = 1 by omega]; rfl
  rw [e] at hs
  refine ⟨⟨h0, inner0 ++ [Value.int .i64 p.1, Value.int .i64 m], ?_, ?_⟩, hs.2⟩
  · rw [List.length_append, List.length_singleton, hl]; exact hs.1
  · refine Reps.snoc (hr.imp_ (fun q c hq => hq)) ?_ rfl
    exact ⟨[Value.int .i64 p.1], [Value.int .i64 m], rfl, rfl, rfl⟩
end
/-- The stack's last frame is written. -/
theorem Sst.frame {w0 W : World} {g : Nat} {vars : Int} {A : Option Addr} {c : Nat} {cls : List (List Int)} {d : List Int} {s : Sv.St} {dv mv tv : Value} {gk n ck : Nat} {stk3 : List (Int × Int)} {p : Int × Int}
    (h : Sst w0 W g vars A c cls d (stk3 ++ [p]) s dv (.slice (some ⟨gk, 0, none⟩) (n + 1) ck) mv tv) (hl : stk3.length = n) (m : Int) :
    Sst w0 (W.setCell ⟨gk, n * 2 + 1, none⟩ (.int .i64 m)) g vars A c cls d (stk3 ++ [(p.1, m)]) s dv (.slice (some ⟨gk, 0, none⟩) (n + 1) ck) mv tv := by
  obtain ⟨hk, hgw⟩ := frame_put h.hk hl m
  have hgw' : W.grownBy (W.setCell ⟨gk, n * 2 + 1, none⟩ (.int .i64 m)) (Value.slice (some ⟨gk, 0, none⟩) (n + 1) ck).ownBlock := hgw
  have hb : w0.heap.size ≤ gk := Kd.R_base h.hk gk rfl
  refine ⟨h.kept (u := .slice (some ⟨gk, 0, none⟩) (n + 1) ck) (fun k hk => h.hk.1 k hk) hgw', Kd.R_over h.hd h.hk (by decide) hgw', hk, Kd.R_over h.hm h.hk (by decide) hgw', Kd.S_over' h.ht (Kd.R_typed h.hk) (by decide) hgw', h.bg, h.hb.setCell (p := ⟨gk, n * 2 + 1, none⟩) hb _, h.hr, h.hc⟩
end Go.Proofs.Ythnbmlpjbhhamaa.J
