/- How TopProof's arguments and the listed variables read. -/
import Derived.Test.YteinkjhimceljaaGreatDoorT46
import Derived.WalkKit
import Derived.ProofKit
import Derived.OpenShut
import Derived.DataShut
import Derived.Lib.LaidTab
import Derived.Stop.LaidErr
import Derived.Shelf.Vars
import Derived.MakeChecks
namespace Go.Proofs.YteinkjhimceljaaGreatDoor.J
open Go Go.RowKit Go.ChangeShapes Go.WideShapes Go.ChangeAt Go.Proofs.YteinkjhimceljaaGreatDoorW.PrintWords
set_option linter.unusedVariables false
set_option linter.unusedSimpArgs false
def Rd {α : Type} (d : Kd α) (t : TypeId) (good : α → Prop) : Prop :=
 ∀ {H : Type} (enc : TypeId × Value → H) (W : World) (held : Bool) (fuel : Nat) (cs : List Value) (y : DataW H × List MemPlace), DataW.trod enc Tryz.prog W 0 (fun _ => true) held fuel t cs = some y → ∃ x, d.K W x cs ∧ good x
theorem rd_int : Rd (Kd.int .i64) 3 IntOk := by
 intro H enc W held fuel cs y h
 obtain ⟨n, rfl, _, hw⟩ := DataW.trod_int Tryz.underlying3 h
 exact ⟨n, rfl, (Lit.wf_int_iff _ _).1 hw⟩
theorem rd_op : Rd (Kd.int .i64) 110 IntOk := by
 intro H enc W held fuel cs y h
 obtain ⟨n, rfl, _, hw⟩ := DataW.trod_int Tryz.underlying110 h
 exact ⟨n, rfl, (Lit.wf_int_iff _ _).1 hw⟩
theorem rd_kind : Rd (Kd.int .i64) 70 IntOk := by
 intro H enc W held fuel cs y h
 obtain ⟨n, rfl, _, hw⟩ := DataW.trod_int Tryz.underlying70 h
 exact ⟨n, rfl, (Lit.wf_int_iff _ _).1 hw⟩
theorem rd_string : Rd Kd.string 9 (fun _ => True) := by
 intro H enc W held fuel cs y h
 obtain ⟨s, rfl, _, _⟩ := DataW.trod_string Tryz.underlying9 h
 exact ⟨s, rfl, trivial⟩
theorem add_add2 (a : Addr) (i j : Nat) : (a.add i).add j = a.add (i + j) := Go.Proofs.YteinkjhimceljaaGreatDoorW.PrintWords.add_add a i j
theorem rd_slice {α : Type} {d : Kd α} {e t : TypeId} {good : α → Prop} (ht : Tryz.prog.underlying t = some (.slice e)) (hc : Tryz.prog.cellsOf e = d.sz) (h : Rd d e good) : Rd (Kd.slice e d) t (fun l => ∀ x ∈ l, good x) := by
 intro H enc W held fuel cs y hy
 rcases DataW.trod_slice ht hy with ⟨rfl, _⟩ | ⟨a, len, cap, elems, rest, n, _, rfl, _, _, hl, hm, _, hel, _⟩
 · exact ⟨[], ⟨none, 0, rfl, Nat.le_refl _, Kd.C_nil _ _⟩, fun x hx => by cases hx⟩
 · rw [hc] at hel
   have each : ∀ i, i < len → ∃ x c, c.length = d.sz ∧ d.K W x c ∧ good x ∧ ∀ j u, c[j]? = some u → W.cell? (a.add (i * d.sz + j)) = some u := by
    intro i hi
    have h1 := hel i hi
    obtain ⟨el, hE⟩ : ∃ el, elems[i]? = some el := by
     have : i < elems.length := by omega
     exact ⟨_, List.getElem?_eq_getElem this⟩
    rw [hE] at h1
    obtain ⟨c, hc1, hc2⟩ := Option.bind_eq_some_iff.1 h1
    obtain ⟨x, hx, hg⟩ := h enc W held n c el hc2
    obtain ⟨_, hcl, hcc⟩ := World.cells?_some hc1
    exact ⟨x, c, d.K_len hx, hx, hg, fun j u hu => by
     have hj := (List.getElem?_eq_some_iff.1 hu).1
     rw [← add_add2, hcc j (by omega)]
     exact hu⟩
   have all : ∀ m, m ≤ len → ∃ l : List α, l.length = m ∧ ∀ j x, l[j]? = some x → ∃ c, c.length = d.sz ∧ d.K W x c ∧ good x ∧ ∀ i u, c[i]? = some u → W.cell? (a.add (j * d.sz + i)) = some u := by
    intro m
    induction m with
    | zero => exact fun _ => ⟨[], rfl, fun j x hj => by simp at hj⟩
    | succ m ih =>
     intro hm2
     obtain ⟨l, hll, hlc⟩ := ih (by omega)
     obtain ⟨x, c, h1, h2, h3, h4⟩ := each m (by omega)
     refine ⟨l ++ [x], by rw [List.length_append, hll]; rfl, fun j x' hj => ?_⟩
     by_cases hjl : j < l.length
     · rw [List.getElem?_append_left hjl] at hj
       exact hlc j x' hj
     · rw [List.getElem?_append_right (by omega)] at hj
       obtain ⟨e1, e2⟩ := List.getElem?_eq_some_iff.1 hj
       rw [List.getElem_singleton] at e2
       subst e2
       obtain rfl : j = m := by simp at e1; omega
       exact ⟨c, h1, h2, h3, h4⟩
   obtain ⟨l, hll, hlc⟩ := all len (Nat.le_refl _)
   subst hll
   refine ⟨l, ⟨some a, cap, rfl, hl, rfl, by unfold maxLen at hm; omega, fun _ => ⟨a, rfl, fun j p hj => ?_⟩⟩, fun x hx => ?_⟩
   · obtain ⟨c, h1, h2, _, h4⟩ := hlc j p hj
     exact ⟨c, h1, h2, h4⟩
   · obtain ⟨j, hj, rfl⟩ := List.mem_iff_getElem.1 hx
     obtain ⟨c, _, _, h3, _⟩ := hlc j _ (List.getElem?_eq_getElem hj)
     exact h3
set_option maxRecDepth 100000 in
theorem rd_ver : Rd k23 23 VI := by
 intro H enc W held fuel cs y h
 obtain ⟨xs, n, _, _, hl, hlen, hf⟩ := DataW.trod_struct Tryz.underlying23 h
 rw [show Tryz.prog.cellsOf 23 = 4 by kernel_rfl] at hl
 have f0 : DataW.trod enc Tryz.prog W 0 (fun _ => true) held n 3 ((cs.drop 0).take (Tryz.prog.cellsOf 3)) = xs[0]? := hf 0 _ rfl
 rw [show Tryz.prog.cellsOf 3 = 1 by kernel_rfl] at f0
 have f1 : DataW.trod enc Tryz.prog W 0 (fun _ => true) held n 3 ((cs.drop 1).take (Tryz.prog.cellsOf 3)) = xs[1]? := hf 1 _ rfl
 rw [show Tryz.prog.cellsOf 3 = 1 by kernel_rfl] at f1
 have f2 : DataW.trod enc Tryz.prog W 0 (fun _ => true) held n 3 ((cs.drop 2).take (Tryz.prog.cellsOf 3)) = xs[2]? := hf 2 _ rfl
 rw [show Tryz.prog.cellsOf 3 = 1 by kernel_rfl] at f2
 have f3 : DataW.trod enc Tryz.prog W 0 (fun _ => true) held n 9 ((cs.drop 3).take (Tryz.prog.cellsOf 9)) = xs[3]? := hf 3 _ rfl
 rw [show Tryz.prog.cellsOf 9 = 1 by kernel_rfl] at f3
 match xs, hlen with
 | [x0, x1, x2, x3], _ =>
  match cs, hl with
  | [c0, c1, c2, c3], _ =>
   obtain ⟨a0, k0, g0⟩ := rd_int enc W held n [c0] x0 f0
   obtain rfl : c0 = .int .i64 a0 := by have e : [c0] = [.int .i64 a0] := k0; injection e
   obtain ⟨a1, k1, g1⟩ := rd_int enc W held n [c1] x1 f1
   obtain rfl : c1 = .int .i64 a1 := by have e : [c1] = [.int .i64 a1] := k1; injection e
   obtain ⟨a2, k2, g2⟩ := rd_int enc W held n [c2] x2 f2
   obtain rfl : c2 = .int .i64 a2 := by have e : [c2] = [.int .i64 a2] := k2; injection e
   obtain ⟨a3, k3, g3⟩ := rd_string enc W held n [c3] x3 f3
   obtain rfl : c3 = .string a3 := by have e : [c3] = [.string a3] := k3; injection e
   exact ⟨⟨a0, a1, a2, a3⟩, k23_mk W ⟨a0, a1, a2, a3⟩, g0, g1, g2⟩
set_option maxRecDepth 100000 in
theorem rd_bound : Rd k112 112 (fun b => VI b.f1) := by
 intro H enc W held fuel cs y h
 obtain ⟨xs, n, _, _, hl, hlen, hf⟩ := DataW.trod_struct Tryz.underlying112 h
 rw [show Tryz.prog.cellsOf 112 = 5 by kernel_rfl] at hl
 have f0 : DataW.trod enc Tryz.prog W 0 (fun _ => true) held n 110 ((cs.drop 0).take (Tryz.prog.cellsOf 110)) = xs[0]? := hf 0 _ rfl
 rw [show Tryz.prog.cellsOf 110 = 1 by kernel_rfl] at f0
 have f1 : DataW.trod enc Tryz.prog W 0 (fun _ => true) held n 23 ((cs.drop 1).take (Tryz.prog.cellsOf 23)) = xs[1]? := hf 1 _ rfl
 rw [show Tryz.prog.cellsOf 23 = 4 by kernel_rfl] at f1
 match xs, hlen with
 | [x0, x1], _ =>
  match cs, hl with
  | [c0, c1, c2, c3, c4], _ =>
   obtain ⟨a0, k0, g0⟩ := rd_op enc W held n [c0] x0 f0
   obtain rfl : c0 = .int .i64 a0 := by have e : [c0] = [.int .i64 a0] := k0; injection e
   obtain ⟨a1, k1, g1⟩ := rd_ver enc W held n [c1, c2, c3, c4] x1 f1
   have e1 := k23_open k1
   simp only [List.cons.injEq, and_true] at e1
   obtain ⟨rfl, rfl, rfl, rfl⟩ := e1
   exact ⟨⟨a0, a1⟩, k112_mk W ⟨a0, a1⟩, g1⟩
theorem rd_alt : Rd (Kd.slice 112 k112) 109 (fun l => ∀ b ∈ l, VI b.f1) := rd_slice Tryz.underlying109 (by kernel_rfl) rd_bound
theorem rd_any : Rd (Kd.slice 109 (Kd.slice 112 k112)) 71 RI := rd_slice Tryz.underlying71 (by kernel_rfl) rd_alt
set_option maxRecDepth 100000 in
theorem rd_range : Rd k73 73 (fun r => RI r.f0) := by
 intro H enc W held fuel cs y h
 obtain ⟨xs, n, _, _, hl, hlen, hf⟩ := DataW.trod_struct Tryz.underlying73 h
 rw [show Tryz.prog.cellsOf 73 = 1 by kernel_rfl] at hl
 have f0 : DataW.trod enc Tryz.prog W 0 (fun _ => true) held n 71 ((cs.drop 0).take (Tryz.prog.cellsOf 71)) = xs[0]? := hf 0 _ rfl
 rw [show Tryz.prog.cellsOf 71 = 1 by kernel_rfl] at f0
 match xs, hlen with
 | [x0], _ =>
  match cs, hl with
  | [c0], _ =>
   obtain ⟨a0, k0, g0⟩ := rd_any enc W held n [c0] x0 f0
   obtain ⟨A0, d0, e0, l0, r0⟩ := k0
   obtain rfl : c0 = .slice A0 a0.length d0 := by injection e0
   exact ⟨⟨a0⟩, k73_mk W ⟨a0⟩ l0 r0, g0⟩
set_option maxRecDepth 100000 in
theorem rd_dep : Rd k75 75 (fun d => IntOk d.f0 ∧ RI d.f2.f0) := by
 intro H enc W held fuel cs y h
 obtain ⟨xs, n, _, _, hl, hlen, hf⟩ := DataW.trod_struct Tryz.underlying75 h
 rw [show Tryz.prog.cellsOf 75 = 3 by kernel_rfl] at hl
 have f0 : DataW.trod enc Tryz.prog W 0 (fun _ => true) held n 70 ((cs.drop 0).take (Tryz.prog.cellsOf 70)) = xs[0]? := hf 0 _ rfl
 rw [show Tryz.prog.cellsOf 70 = 1 by kernel_rfl] at f0
 have f1 : DataW.trod enc Tryz.prog W 0 (fun _ => true) held n 9 ((cs.drop 1).take (Tryz.prog.cellsOf 9)) = xs[1]? := hf 1 _ rfl
 rw [show Tryz.prog.cellsOf 9 = 1 by kernel_rfl] at f1
 have f2 : DataW.trod enc Tryz.prog W 0 (fun _ => true) held n 73 ((cs.drop 2).take (Tryz.prog.cellsOf 73)) = xs[2]? := hf 2 _ rfl
 rw [show Tryz.prog.cellsOf 73 = 1 by kernel_rfl] at f2
 match xs, hlen with
 | [x0, x1, x2], _ =>
  match cs, hl with
  | [c0, c1, c2], _ =>
   obtain ⟨a0, k0, g0⟩ := rd_kind enc W held n [c0] x0 f0
   obtain rfl : c0 = .int .i64 a0 := by have e : [c0] = [.int .i64 a0] := k0; injection e
   obtain ⟨a1, k1, g1⟩ := rd_string enc W held n [c1] x1 f1
   obtain rfl : c1 = .string a1 := by have e : [c1] = [.string a1] := k1; injection e
   obtain ⟨a2, k2, g2⟩ := rd_range enc W held n [c2] x2 f2
   obtain ⟨A2, d2, e2, l2, r2⟩ := k73_open k2
   obtain rfl : c2 = .slice A2 a2.f0.length d2 := by injection e2
   exact ⟨⟨a0, a1, a2⟩, k75_mk W ⟨a0, a1, a2⟩ l2 r2, g0, g2⟩
set_option maxRecDepth 100000 in
theorem rd_rule : Rd k78 78 (fun r => RI r.f1.f0) := by
 intro H enc W held fuel cs y h
 obtain ⟨xs, n, _, _, hl, hlen, hf⟩ := DataW.trod_struct Tryz.underlying78 h
 rw [show Tryz.prog.cellsOf 78 = 2 by kernel_rfl] at hl
 have f0 : DataW.trod enc Tryz.prog W 0 (fun _ => true) held n 9 ((cs.drop 0).take (Tryz.prog.cellsOf 9)) = xs[0]? := hf 0 _ rfl
 rw [show Tryz.prog.cellsOf 9 = 1 by kernel_rfl] at f0
 have f1 : DataW.trod enc Tryz.prog W 0 (fun _ => true) held n 73 ((cs.drop 1).take (Tryz.prog.cellsOf 73)) = xs[1]? := hf 1 _ rfl
 rw [show Tryz.prog.cellsOf 73 = 1 by kernel_rfl] at f1
 match xs, hlen with
 | [x0, x1], _ =>
  match cs, hl with
  | [c0, c1], _ =>
   obtain ⟨a0, k0, g0⟩ := rd_string enc W held n [c0] x0 f0
   obtain rfl : c0 = .string a0 := by have e : [c0] = [.string a0] := k0; injection e
   obtain ⟨a1, k1, g1⟩ := rd_range enc W held n [c1] x1 f1
   obtain ⟨A1, d1, e1, l1, r1⟩ := k73_open k1
   obtain rfl : c1 = .slice A1 a1.f0.length d1 := by injection e1
   exact ⟨⟨a0, a1⟩, k78_mk W ⟨a0, a1⟩ l1 r1, g1⟩
theorem rd_deps : Rd (Kd.slice 75 k75) 24 (fun l => ∀ d ∈ l, IntOk d.f0 ∧ RI d.f2.f0) := rd_slice Tryz.underlying24 (by kernel_rfl) rd_dep
theorem rd_rules : Rd (Kd.slice 78 k78) 25 (fun l => ∀ r ∈ l, RI r.f1.f0) := rd_slice Tryz.underlying25 (by kernel_rfl) rd_rule
set_option maxRecDepth 100000 in
theorem rd_man : Rd k27 27 MI := by
 intro H enc W held fuel cs y h
 obtain ⟨xs, n, _, _, hl, hlen, hf⟩ := DataW.trod_struct Tryz.underlying27 h
 rw [show Tryz.prog.cellsOf 27 = 7 by kernel_rfl] at hl
 have f0 : DataW.trod enc Tryz.prog W 0 (fun _ => true) held n 9 ((cs.drop 0).take (Tryz.prog.cellsOf 9)) = xs[0]? := hf 0 _ rfl
 rw [show Tryz.prog.cellsOf 9 = 1 by kernel_rfl] at f0
 have f1 : DataW.trod enc Tryz.prog W 0 (fun _ => true) held n 23 ((cs.drop 1).take (Tryz.prog.cellsOf 23)) = xs[1]? := hf 1 _ rfl
 rw [show Tryz.prog.cellsOf 23 = 4 by kernel_rfl] at f1
 have f2 : DataW.trod enc Tryz.prog W 0 (fun _ => true) held n 24 ((cs.drop 5).take (Tryz.prog.cellsOf 24)) = xs[2]? := hf 2 _ rfl
 rw [show Tryz.prog.cellsOf 24 = 1 by kernel_rfl] at f2
 have f3 : DataW.trod enc Tryz.prog W 0 (fun _ => true) held n 25 ((cs.drop 6).take (Tryz.prog.cellsOf 25)) = xs[3]? := hf 3 _ rfl
 rw [show Tryz.prog.cellsOf 25 = 1 by kernel_rfl] at f3
 match xs, hlen with
 | [x0, x1, x2, x3], _ =>
  match cs, hl with
  | [c0, c1, c2, c3, c4, c5, c6], _ =>
   obtain ⟨a0, k0, g0⟩ := rd_string enc W held n [c0] x0 f0
   obtain rfl : c0 = .string a0 := by have e : [c0] = [.string a0] := k0; injection e
   obtain ⟨a1, k1, g1⟩ := rd_ver enc W held n [c1, c2, c3, c4] x1 f1
   have e1 := k23_open k1
   simp only [List.cons.injEq, and_true] at e1
   obtain ⟨rfl, rfl, rfl, rfl⟩ := e1
   obtain ⟨a2, k2, g2⟩ := rd_deps enc W held n [c5] x2 f2
   obtain ⟨A2, d2, e2, l2, r2⟩ := k2
   obtain rfl : c5 = .slice A2 a2.length d2 := by injection e2
   obtain ⟨a3, k3, g3⟩ := rd_rules enc W held n [c6] x3 f3
   obtain ⟨A3, d3, e3, l3, r3⟩ := k3
   obtain rfl : c6 = .slice A3 a3.length d3 := by injection e3
   exact ⟨⟨a0, a1, a2, a3⟩, k27_mk W ⟨a0, a1, a2, a3⟩ l2 r2 l3 r3, g1, g2, g3⟩
theorem rd_mans : Rd (Kd.slice 27 k27) 28 (fun l => ∀ m ∈ l, MI m) := rd_slice Tryz.underlying28 (by kernel_rfl) rd_man
end Go.Proofs.YteinkjhimceljaaGreatDoor.J
