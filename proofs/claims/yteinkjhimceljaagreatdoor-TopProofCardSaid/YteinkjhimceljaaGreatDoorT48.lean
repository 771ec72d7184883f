/- What the row's condition on the listed variables gives the walk. -/
import Derived.Test.YteinkjhimceljaaGreatDoorRows
import Derived.Test.YteinkjhimceljaaGreatDoorT47
import Derived.LaidLaws
import Derived.ChangeSame
import Derived.FnData
namespace Go.Proofs.YteinkjhimceljaaGreatDoor.J
open Go Go.RowKit Go.ChangeShapes Go.WideShapes Go.ChangeAt Go.Proofs.YteinkjhimceljaaGreatDoorW.PrintWords
set_option linter.unusedVariables false
set_option linter.unusedSimpArgs false
theorem var_block {W : World} {n : String} {g : Nat} {cs : Array Value} (hg : Tryz.prog.globalNamed n = some g) (h : W.var? Tryz.prog n = some cs) : ∃ t fr, W.heap[g]? = some (.cells cs t fr) := by
 simp only [World.var?, hg, Option.bind_some] at h
 split at h
 · rename_i c t fr hb
   injection h with h
   subst h
   exact ⟨t, fr, hb⟩
 · cases h
theorem bytes_of {s : ByteArray} {l : List UInt8} (h : s.data.toList = l) : s = ⟨l.toArray⟩ := by
 subst h
 cases s
 simp
set_option maxRecDepth 100000 in
theorem sign_cells {W : World} {fuel : Nat} {cs : List Value} {x : DataW Unit × List MemPlace} {k : Int} {bs : List UInt8} (h : DataW.trod (fun _ => ()) Tryz.prog W 0 (fun _ => true) false fuel 189 cs = some x) (hx : x.1 = .agg [.lit (.int .i64 k), .lit (.string bs)]) :
 cs = [.int .i64 k, .string ⟨bs.toArray⟩] := by
 obtain ⟨xs, n, _, hxe, hl, hlen, hf⟩ := DataW.trod_struct Tryz.underlying189 h
 subst hxe
 rw [show Tryz.prog.cellsOf 189 = 2 by kernel_rfl] at hl
 have f0 : DataW.trod (fun _ => ()) Tryz.prog W 0 (fun _ => true) false n 110 ((cs.drop 0).take (Tryz.prog.cellsOf 110)) = xs[0]? := hf 0 _ rfl
 have f1 : DataW.trod (fun _ => ()) Tryz.prog W 0 (fun _ => true) false n 9 ((cs.drop 1).take (Tryz.prog.cellsOf 9)) = xs[1]? := hf 1 _ rfl
 rw [show Tryz.prog.cellsOf 110 = 1 by kernel_rfl] at f0
 rw [show Tryz.prog.cellsOf 9 = 1 by kernel_rfl] at f1
 match xs, hlen with
 | [x0, x1], _ =>
  match cs, hl with
  | [c0, c1], _ =>
   obtain ⟨a0, e0, r0, _⟩ := DataW.trod_int Tryz.underlying110 (show DataW.trod (fun _ => ()) Tryz.prog W 0 (fun _ => true) false n 110 [c0] = some x0 from f0)
   obtain ⟨a1, e1, r1, _⟩ := DataW.trod_string Tryz.underlying9 (show DataW.trod (fun _ => ()) Tryz.prog W 0 (fun _ => true) false n 9 [c1] = some x1 from f1)
   injection e0 with e0
   injection e1 with e1
   subst e0 e1 r0 r1
   simp only [List.map_cons, List.map_nil, DataW.agg.injEq, List.cons.injEq, DataW.lit.injEq, Lit.int.injEq, Lit.string.injEq, true_and, and_true] at hx
   obtain ⟨h1, h2⟩ := hx
   rw [h1, bytes_of h2]
set_option maxRecDepth 100000 in
theorem glob_of {W : World} (hsh : W.ShapedOpen Tryz.prog) (h : laidMetH Tryz.prog Rows.topProofRow.laid W) : Glob W := by
 rw [MakeChecks.laidMetH_plain _ _ _ (by kernel_rfl)] at h
 have h0 : laidMet Tryz.prog [("math/bits.deBruijn32tab", Rows.laid_math_bits_deBruijn32tab), ("math/bits.deBruijn64tab", Rows.laid_math_bits_deBruijn64tab), ("internal/strconv.uint64pow10", Rows.laid_internal_strconv_uint64pow10), ("unicode/utf8.acceptRanges", Rows.laid_unicode_utf8_acceptRanges), ("strconv.ErrRange", Rows.laid_strconv_ErrRange), ("strconv.ErrSyntax", Rows.laid_strconv_ErrSyntax), ("hogget/span.signs", Rows.laid_hogget_span_signs), ("unicode/utf8.first", Rows.laid_unicode_utf8_first)] W := h
 have h2 := h0.tail.tail
 have h4 := h2.tail.tail
 have h5 := h4.tail
 have h6 := h5.tail
 have e10 : (Rows.laid_internal_strconv_uint64pow10 : DataW Unit) = Lib.tabData .u64 Lib.pow10Tab := by kernel_rfl
 rw [e10] at h2
 have hten := Lib.tabIs_of_head (P := Tryz.prog) (by kernel_rfl : Tryz.prog.globalNamed "internal/strconv.uint64pow10" = some 2) (by kernel_rfl : (Tryz.prog.globals[2]?).map (·.type) = some 255) Tryz.underlying255 Tryz.underlying207 (by kernel_rfl) (by kernel_rfl) h2
 have hten2 : ∃ t fr, W.heap[2]? = some (.cells (Lib.pow10Tab.map fun z => Value.int .u64 z).toArray t fr) := var_block (by kernel_rfl : Tryz.prog.globalNamed "internal/strconv.uint64pow10" = some 2) hten
 have hmax := cell_of_shapedOpen_int (g := 1) (t := 3) (zero := #[.int .i64 0]) (k := .i64) hsh (of_decide_eq_true (by kernel_rfl)) (by kernel_rfl) rfl (by kernel_rfl) (by kernel_rfl) Tryz.underlying3
 obtain ⟨_, ⟨g4, t4, cs4, f4, p4, q4, hg4, ht4, hv4, hd4, _, _⟩, _⟩ := h4
 obtain ⟨_, ⟨g5, t5, cs5, f5, p5, q5, hg5, ht5, hv5, hd5, _, _⟩, _⟩ := h5
 obtain ⟨_, ⟨g6, t6, cs6, f6, p6, q6, hg6, ht6, hv6, hd6, _, _⟩, _⟩ := h6
 have G4 : Tryz.prog.globalNamed "strconv.ErrRange" = some 6 := by kernel_rfl
 have G5 : Tryz.prog.globalNamed "strconv.ErrSyntax" = some 5 := by kernel_rfl
 have G6 : Tryz.prog.globalNamed "hogget/span.signs" = some 0 := by kernel_rfl
 obtain rfl := Option.some.inj (G4.symm.trans hg4)
 obtain rfl := Option.some.inj (G5.symm.trans hg5)
 obtain rfl := Option.some.inj (G6.symm.trans hg6)
 obtain rfl := Option.some.inj ((by kernel_rfl : (Tryz.prog.globals[6]?).map (·.type) = some 216).symm.trans ht4)
 obtain rfl := Option.some.inj ((by kernel_rfl : (Tryz.prog.globals[5]?).map (·.type) = some 216).symm.trans ht5)
 obtain rfl := Option.some.inj ((by kernel_rfl : (Tryz.prog.globals[0]?).map (·.type) = some 190).symm.trans ht6)
 obtain ⟨_, u4, v4, hc4, _, _⟩ := iface_of_trod Tryz.underlying216 hd4
 obtain ⟨_, u5, v5, hc5, _, _⟩ := iface_of_trod Tryz.underlying216 hd5
 have hE4 := World.var?_cell G4 hv4 0
 have hE5 := World.var?_cell G5 hv5 0
 have hE4 : W.cell? ⟨6, 0, none⟩ = some (.iface u4 v4) := by rw [hE4, ← Array.getElem?_toList, hc4]; rfl
 have hE5 : W.cell? ⟨5, 0, none⟩ = some (.iface u5 v5) := by rw [hE5, ← Array.getElem?_toList, hc5]; rfl
 obtain ⟨xs, m, _, hx, hl, hlen, hel⟩ := DataW.trod_array Tryz.underlying190 hd6
 rw [show Tryz.prog.cellsOf 190 = 10 by kernel_rfl] at hl
 rw [show Tryz.prog.cellsOf 189 = 2 by kernel_rfl] at hel
 have hsg : cs6.toList = [.int .i64 3, .string ⟨#[60, 61]⟩, .int .i64 5, .string ⟨#[62, 61]⟩, .int .i64 2, .string ⟨#[60]⟩, .int .i64 4, .string ⟨#[62]⟩, .int .i64 1, .string ⟨#[61]⟩] := by
  obtain ⟨l⟩ := cs6
  have hel : ∀ i, i < 5 → DataW.trod (fun _ => ()) Tryz.prog W 0 (fun _ => true) false m 189 ((l.drop (i * 2)).take 2) = xs[i]? := hel
  have hl : l.length = 10 := hl
  show l = _
  have hx : Rows.laid_hogget_span_signs = .agg (xs.map (·.1)) := congrArg Prod.fst hx
  have s0 := hel 0 (by decide)
  have s1 := hel 1 (by decide)
  have s2 := hel 2 (by decide)
  have s3 := hel 3 (by decide)
  have s4 := hel 4 (by decide)
  clear hel hd6
  obtain ⟨x0, x1, x2, x3, x4, rfl⟩ : ∃ x0 x1 x2 x3 x4, xs = [x0, x1, x2, x3, x4] := by
   match xs, hlen with
   | [a, b, c, d, e], _ => exact ⟨a, b, c, d, e, rfl⟩
  obtain ⟨c0, c1, c2, c3, c4, c5, c6, c7, c8, c9, rfl⟩ : ∃ c0 c1 c2 c3 c4 c5 c6 c7 c8 c9, l = [c0, c1, c2, c3, c4, c5, c6, c7, c8, c9] := by
   match l, hl with
   | [c0, c1, c2, c3, c4, c5, c6, c7, c8, c9], _ => exact ⟨c0, c1, c2, c3, c4, c5, c6, c7, c8, c9, rfl⟩
  unfold Rows.laid_hogget_span_signs at hx
  simp only [List.map_cons, List.map_nil, DataW.agg.injEq, List.cons.injEq, and_true] at hx
  obtain ⟨y0, y1, y2, y3, y4⟩ := hx
  have z0 := sign_cells (x := x0) s0 y0.symm
  have z1 := sign_cells (x := x1) s1 y1.symm
  have z2 := sign_cells (x := x2) s2 y2.symm
  have z3 := sign_cells (x := x3) s3 y3.symm
  have z4 := sign_cells (x := x4) s4 y4.symm
  simp only [Nat.zero_mul, Nat.one_mul, List.drop_zero, List.take_succ_cons, List.take_zero, List.cons.injEq, and_true] at z0
  have z1 : [c2, c3] = _ := z1
  have z2 : [c4, c5] = _ := z2
  have z3 : [c6, c7] = _ := z3
  have z4 : [c8, c9] = _ := z4
  simp only [List.cons.injEq, and_true] at z1 z2 z3 z4
  obtain ⟨rfl, rfl⟩ := z0
  obtain ⟨rfl, rfl⟩ := z1
  obtain ⟨rfl, rfl⟩ := z2
  obtain ⟨rfl, rfl⟩ := z3
  obtain ⟨rfl, rfl⟩ := z4
  rfl
 obtain ⟨t0, fr0, hb0⟩ := var_block G6 hv6
 refine ⟨hmax, hten2, ⟨u5, v5, hE5⟩, ⟨u4, v4, hE4⟩, t0, fr0, ?_⟩
 rw [hb0]
 have : cs6 = #[.int .i64 3, .string ⟨#[60, 61]⟩, .int .i64 5, .string ⟨#[62, 61]⟩, .int .i64 2, .string ⟨#[60]⟩, .int .i64 4, .string ⟨#[62]⟩, .int .i64 1, .string ⟨#[61]⟩] := Array.toList_inj.1 hsg
 rw [this]
end Go.Proofs.YteinkjhimceljaaGreatDoor.J
