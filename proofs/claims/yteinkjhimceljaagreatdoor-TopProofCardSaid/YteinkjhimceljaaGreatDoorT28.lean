/- index.Names, walked. -/
import Derived.Test.YteinkjhimceljaaGreatDoorT01
import Derived.Test.YteinkjhimceljaaGreatDoorT18
import Derived.Shelf.Slices.Cells
import Derived.Shelf.Slices.CompactS
import Derived.Lib.SortBridge
import Derived.Lib.LazyBuf
namespace Go.Proofs.YteinkjhimceljaaGreatDoor.J
open Go Go.RowKit Go.Shelf Go.Proofs.YteinkjhimceljaaGreatDoorW.PrintWords Go.Proofs.YteinkjhimceljaaGreatDoorW.PrintLast Go.Proofs.YteinkjhimceljaaGreatDoorW.PrintMore
set_option linter.unusedVariables false
set_option linter.unusedSimpArgs false
theorem row_put {W w5 : World} {b g cap n m q : Nat} {l vs : List ByteArray} (h : Kd.R Kd.string 9 w5 b (fun _ => True) (.slice (some ⟨g, 0, none⟩) l.length cap) l) (hb : RowKit.Below b W w5)
 (hn : l.length = n) (hy : vs.length = n) (hm : m ≤ n) :
 Kd.R Kd.string 9 ((w5.drewN q).setCells g 0 (vs.map Value.string)) b (fun _ => True) (.slice (some ⟨g, 0, none⟩) m cap) (vs.take m) ∧ RowKit.Below b W ((w5.drewN q).setCells g 0 (vs.map Value.string)) := by
 have ho : w5.ownsRow b 9 1 (.slice (some ⟨g, 0, none⟩) l.length cap) l.length (encs Value.string l) := Kd.own_of_R h
 obtain ⟨e1, ⟨e2, _⟩ | ⟨g', cap', cur, e2, e3, e4, e5, e6, e7, e8⟩⟩ := ho
 · exact absurd e2 (by simp)
 · injection e2 with e21 e22 e23
   injection e21 with e21
   injection e21 with e21
   subst e21
   subst e23
   obtain ⟨cur1, a1, a2, a3⟩ := setCells_row (vs.map Value.string) 0 (w5.drewN q) cur (by rw [← e4]; rfl) (by rw [List.length_map]; omega)
   have hs1 : ((w5.drewN q).setCells g 0 (vs.map Value.string)).heap.size = w5.heap.size := (setCells_same g _ 0 _).2.2.2
   refine ⟨?_, Go.below_setCells e3 _ 0 _ (pw_below_drewN hb q)⟩
   have hl : (vs.take m).length = m := by rw [List.length_take]; omega
   exact Kd.R_of_own (w := (w5.drewN q).setCells g 0 (vs.map Value.string)) (e := 9) (base := b) (ok := fun _ => True) (v := .slice (some ⟨g, 0, none⟩) m cap) (xs := vs.take m) (enc := Value.string) (h1 := fun _ => rfl) ⟨by rw [encs_length, Nat.mul_one], .inr ⟨g, cap, cur1, by rw [hl], e3, a1, by omega, e6, by omega, by
    rw [a3, hl, Nat.mul_one, List.take_zero, List.nil_append, List.take_append_of_le_length (by rw [List.length_map]; omega), encs, List.map_take]⟩⟩ (fun _ _ => trivial)
theorem strs_of (l : List ByteArray) : Lib.strsOf (fun i => l.getD i default) l.length = l.map (fun s => s.data.toList) := by
 unfold Lib.strsOf
 apply List.ext_getElem
 · simp
 · intro i h1 h2
   simp at h2
   simp [h2]
theorem compactS_walk (l : List ByteArray) (b : Nat) (v : Value) (W w : World) (hl : l.length ≤ 100000) (h : Kd.R Kd.string 9 w b (fun _ => True) v l) (hb : RowKit.Below b W w) :
 Calls Tryz.prog 47 #[v] w fun e w' => ∃ v', e = .returned v' ∧ Kd.R Kd.string 9 w' b (fun _ => True) v' ((Lib.compact (l.map (fun s => s.data.toList))).map (fun b => ⟨b.toArray⟩)) ∧ RowKit.Below b W w' := by
 by_cases h0 : l.length = 0
 · obtain rfl : l = [] := List.eq_nil_of_length_eq_zero h0
   obtain ⟨A, c, rfl⟩ := Kd.R_slice h
   refine (Any.slices_Compact_string_empty Tryz.compactS A c w).mono ?_
   rintro e w' ⟨rfl, rfl⟩
   exact ⟨_, rfl, h, hb⟩
 · obtain ⟨g, cap, rfl, _, hg, _⟩ := Kd.R_form h (by omega)
   obtain ⟨_, hc, hC⟩ := Kd.R_reads' h
   have h2 := Any.slices_Compact_string_cells Tryz.compactS g 0 l.length cap (fun i => l.getD i default) w (by omega) hc
    (fun j hj => by
     obtain ⟨h1, h2⟩ := Kd.R_cell default h (j : Int) (by omega) (by omega)
     rw [Int.toNat_natCast] at h1
     rw [Nat.zero_add, h1]
     simp [rdOf, hj])
    (fun j hj => by
     obtain ⟨h1, h2⟩ := Kd.R_cell default h (j : Int) (by omega) (by omega)
     rw [Int.toNat_natCast] at h2
     rw [Nat.zero_add]
     exact h2)
   rw [strs_of] at h2
   refine Calls.mono (show Calls Tryz.prog 47 _ _ _ from h2) ?_
   rintro e w' ⟨he, q, hw⟩
   generalize hz : Lib.compact (l.map (fun s => s.data.toList)) = zs at he hw ⊢
   have hle : zs.length ≤ l.length := by rw [← hz]; exact Nat.le_trans (Lib.compact_length_le _) (by simp)
   have hr := row_put (q := q) (m := zs.length) (n := l.length) (vs := (zs ++ List.replicate (l.length - zs.length) []).map (fun b : List UInt8 => (⟨b.toArray⟩ : ByteArray))) h hb rfl (by rw [List.length_map, List.length_append, List.length_replicate]; omega) hle
   rw [List.map_map, show (Value.string ∘ fun b : List UInt8 => (⟨b.toArray⟩ : ByteArray)) = encStr from rfl, ← hw] at hr
   refine ⟨_, he, ?_, hr.2⟩
   have e3 : ((zs ++ List.replicate (l.length - zs.length) []).map (fun b : List UInt8 => (⟨b.toArray⟩ : ByteArray))).take zs.length = zs.map (fun b : List UInt8 => (⟨b.toArray⟩ : ByteArray)) := by rw [← List.map_take, List.take_left]
   rw [e3] at hr
   exact hr.1
theorem info_str2 : (Tryz.prog.info? 9).map (fun i => (i.zero, i.size, i.bytes)) = some (some (.string ⟨#[]⟩), Kd.string.sz, 16) := by kernel_rfl
set_option maxRecDepth 100000 in
set_option maxHeartbeats 4000000 in
theorem names_walk (A : Option Addr) (c : Nat) (x : List S27) (hx : x.length ≤ 1000) (w : World) (hr : Kd.C k27 w A x.length x) :
 Calls Tryz.prog 24 #[.slice A x.length c] w fun e w' => ∃ v, e = .returned v ∧ Kd.R Kd.string 9 w' w.heap.size (fun _ => True) v (namesX x) ∧ Below w.heap.size w w' := by
 have HR := Aside0.mk hr
 clear hr
 go_enter Tryz.func24, Tryz.ntmps24
 go_wp2
 go_loopg [3, 8] (x.length + 1) (fun gg s3 s8 wq => ∃ j : Nat, j ≤ x.length ∧ x.length - j < gg ∧ s8 = .int .i64 (j : Int) ∧ Aside0 (Kd.R Kd.string 9 wq w.heap.size (fun _ => True) s3 ((x.take j).map (·.f0))) ∧ Aside0 (Below w.heap.size w wq))
 case atStart => exact ⟨0, Nat.zero_le _, by omega, rfl, ⟨Kd.R_nil _ _ _ _ _⟩, ⟨Below.refl _ _⟩⟩
 case round =>
  obtain ⟨j, hj1, hjg, rfl, HV, HB⟩ := hrel
  obtain ⟨A3, c3, rfl⟩ := Kd.R_slice HV.out
  have hl3 : ((x.take j).map (·.f0)).length = j := by rw [List.length_map, List.length_take]; omega
  generalize hys : (x.take j).map (·.f0) = ys at HV hl3
  have HL3 := Aside0.mk hl3
  have HYS := Aside0.mk hys
  clear hys hl3
  by_cases hlt : j < x.length
  · obtain ⟨ad, A5, c5, A6, c6, rfl, ⟨m0, m1, m2, m3, m4, m5, m6⟩, hmc⟩ := man_at HR.out HB.out j hlt
    have ja : (j : Int) < (x.length : Int) := by omega
    have HTK := Aside0.mk (show (x.take (j + 1)).map (·.f0) = ys ++ [x[j].f0] by rw [List.take_succ_eq_append_getElem hlt, List.map_append, HYS.out]; rfl)
    generalize x[j] = m at m0 m1 m2 m3 m4 m5 m6 hmc HTK
    clear hmc
    go_wp2_with (at_builtin; refine Kd.R_append Kd.string (w0 := w) (W := wr.alloc (.cells #[.string m.f0, .int .i64 m.f1.f0, .int .i64 m.f1.f1, .int .i64 m.f1.f2, .string m.f1.f3, .slice A5 m.f2.length c5, .slice A6 m.f3.length c6] 27)) w.heap.size rfl (.tmp 12) (.tmp 15) 83 9 (.string ⟨#[]⟩) 16 rfl Tryz.underlying83 info_str2 rfl (by decide) (by decide) (.slice A3 ys.length c3) ys m.f0 [.string m.f0] (fun _ => True) (fun _ => False) rfl ?aX rfl (fun _ h => h.elim) (fun _ _ => trivial) (Kd.R_below HV.out (below_alloc (Below.refl _ _) _)) (below_alloc HB.out _) (Nat.le_trans HB.out.size (by rw [World.size_alloc]; omega)) (by have := HL3.out; omega) ?_; (case aX => rw [World.size_alloc]; rfl); intro v1 w5 hr5 hb5 hg5 _; have HR5 := Aside0.mk hr5; have HB5 := Aside0.mk hb5; clear hr5 hb5 hg5)
    go_roundg (x.length - (j + 1) + 1)
    case measure => omega
    case rel => exact ⟨j + 1, by omega, by omega, by go_num, ⟨by rw [HTK.out]; exact HR5.out⟩, HB5⟩
  · have hje : j = x.length := by omega
    have HL := Aside0.mk (show ys.length ≤ 100000 by have := HL3.out; omega)
    have HE := Aside0.mk (show namesX x = (Lib.compact (ys.map (fun s => s.data.toList))).map (fun b => ⟨b.toArray⟩) by
     have h := HYS.out
     rw [hje, List.take_length] at h
     rw [← h]; unfold namesX; rw [List.map_map]; rfl)
    clear HYS
    go_wp2_with (go_at_call 47; refine (compactS_walk ys w.heap.size _ w _ HL.out HV.out HB.out).mono ?_; rintro e w6 ⟨v', rfl, hr6, hb6⟩; have HR6 := Aside0.mk hr6; have HB6 := Aside0.mk hb6; clear hr6 hb6)
    go_ret
    exact ⟨_, rfl, by rw [HE.out]; exact HR6.out, HB6.out⟩
end Go.Proofs.YteinkjhimceljaaGreatDoor.J
