/- What the layers call of Go's library, by the shelf's contracts, and the package-level variables that it reads. version.number, walked. The walks of stringslite_HasPrefix, stringslite_CutPrefix, strings_CutPrefix, names_plain, names_Good, by the print over this seat. -/
import Derived.Test.YteinkjhimceljaaGreatDoorT01
import Derived.Test.YteinkjhimceljaaGreatDoorT05
import Derived.Lib.AppendIntMem
namespace Go.Proofs.YteinkjhimceljaaGreatDoor.J
open Go.RowKit Go.Shelf Go.Proofs.YteinkjhimceljaaGreatDoorW.PrintWords Go.Proofs.YteinkjhimceljaaGreatDoorW.PrintLast Go.Proofs.YteinkjhimceljaaGreatDoorW.PrintMore
set_option linter.unusedVariables false
set_option linter.unusedSimpArgs false
structure Glob (w : World) : Prop where
 maxLen : ∃ m, w.cell? ⟨1, 0, none⟩ = some (.int .i64 m)
 ten : ∃ t fr, w.heap[2]? = some (.cells (Lib.pow10Tab.map fun z => Value.int .u64 z).toArray t fr)
 errS : ∃ te pe, w.cell? ⟨5, 0, none⟩ = some (.iface te pe)
 errR : ∃ te pe, w.cell? ⟨6, 0, none⟩ = some (.iface te pe)
 signs : ∃ t fr, w.heap[0]? = some (.cells #[.int .i64 3, .string ⟨#[60, 61]⟩, .int .i64 5, .string ⟨#[62, 61]⟩, .int .i64 2, .string ⟨#[60]⟩, .int .i64 4, .string ⟨#[62]⟩, .int .i64 1, .string ⟨#[61]⟩] t fr)
theorem Glob.below {w w' : World} (h : Glob w) (hb : Below w.heap.size w w') : Glob w' := by
 obtain ⟨⟨m, h1⟩, ⟨t2, f2, h2⟩, ⟨a5, b5, h5⟩, ⟨a6, b6, h6⟩, ⟨t0, f0, h0⟩⟩ := h
 exact ⟨⟨m, pw_cell_below hb h1⟩, ⟨t2, f2, (hb.block 2 (blk_lt h2)).trans h2⟩, ⟨a5, b5, pw_cell_below hb h5⟩, ⟨a6, b6, pw_cell_below hb h6⟩, ⟨t0, f0, (hb.block 0 (blk_lt h0)).trans h0⟩⟩
theorem Glob.tab {w : World} (h : Glob w) : Lib.TabIs Tryz.prog w "internal/strconv.uint64pow10" .u64 Lib.pow10Tab := by
 obtain ⟨t, fr, h2⟩ := h.ten
 have hg : Tryz.prog.globalNamed "internal/strconv.uint64pow10" = some 2 := by kernel_rfl
 unfold Lib.TabIs World.var?
 rw [hg]
 show (match w.heap[2]? with | some (.cells cs _ _) => some cs | _ => none) = _
 rw [h2]
def strings_IndexByte.f (a0 : ByteArray) (a1 : Int) : Option (Int) := some (Lib.indexByte a0.data.toList a1.toNat.toUInt8)
theorem strings_IndexByte.calls (a0 : ByteArray) (a1 : Int) (r : Int) (w : World) (h : strings_IndexByte.f a0 a1 = some r) :
 Calls Tryz.prog 126 #[.string a0, .int .u8 a1] w fun e w' => e = .returned (.int .i64 r) ∧ Below w.heap.size w w' := by
 obtain rfl := Option.some.inj h
 refine Calls.mono (Any.strings_IndexByte Tryz.indexByteL a0 a1 w) ?_
 rintro e w' ⟨rfl, rfl⟩
 exact ⟨rfl, Below.refl _ _⟩
def cutOf (s sep : ByteArray) : ByteArray × ByteArray × Bool := (⟨(Lib.cut s.data.toList sep.data.toList).1.toArray⟩, ⟨(Lib.cut s.data.toList sep.data.toList).2.1.toArray⟩, (Lib.cut s.data.toList sep.data.toList).2.2)
def strings_Cut.f (a0 : ByteArray) (a1 : ByteArray) : Option (ByteArray × ByteArray × Bool) := if a0.size < 4294967281 then some (cutOf a0 a1) else none
theorem strings_Cut.calls (a0 : ByteArray) (a1 : ByteArray) (r1 : ByteArray) (r2 : ByteArray) (r3 : Bool) (w : World) (h : strings_Cut.f a0 a1 = some (r1, r2, r3)) (HGL : Glob w) :
 Calls Tryz.prog 97 #[.string a0, .string a1] w fun e w' => e = .returned (.tuple #[.string r1, .string r2, .bool r3]) ∧ Below w.heap.size w w' := by
 unfold strings_Cut.f at h
 by_cases hs : a0.size < 4294967281
 · rw [if_pos hs] at h
   injection h with h
   unfold cutOf at h
   injection h with h1 h
   injection h with h2 h3
   subst h1 h2 h3
   obtain ⟨m, hm⟩ := HGL.maxLen
   refine Calls.mono (Any.strings_Cut Tryz.cutL a0 a1 m w hs hm) ?_
   rintro e w' ⟨rfl, n, rfl⟩
   exact ⟨rfl, pw_below_drewN (Below.refl _ _) n⟩
 · rw [if_neg hs] at h
   cases h
theorem itoa_walk (n : Int) (h0 : -9223372036854775808 ≤ n) (h1 : n ≤ 9223372036854775807) (w : World) (HGL : Glob w) :
 Calls Tryz.prog 94 #[.int .i64 n] w fun e w' => e = .returned (.string ⟨(Lib.itoa n).toArray⟩) ∧ Below w.heap.size w w' := by
 refine Calls.mono (Any.strconv_Itoa Tryz.itoaL n h0 h1 w HGL.tab) ?_
 rintro e w' ⟨rfl, k, os, rfl⟩
 exact ⟨rfl, Lib.below_grow _ w (Nat.le_refl _) k os⟩
def atoiN (s : ByteArray) : Int := match Lib.atoiAll s.data.toList with | .ok v => v | .range => Lib.atoiSat s.data.toList | _ => 0
theorem atoi_walk (s : ByteArray) (hs : s.size ≤ 281474976710656) (w : World) (HGL : Glob w) :
 Calls Tryz.prog 156 #[.string s] w fun e w' => ∃ v, e = .returned (.tuple #[.int .i64 (atoiN s), v]) ∧ Below w.heap.size w w' := by
 unfold atoiN
 cases h : Lib.atoiAll s.data.toList with
 | ok v =>
  refine Calls.mono (Any.strconv_Atoi_ok Tryz.atoiL s (by omega) v h w) ?_
  rintro e w' ⟨rfl, rfl | ⟨t, rfl⟩⟩
  · exact ⟨_, rfl, Below.refl _ _⟩
  · exact ⟨_, rfl, Lib.bytesWorld_below _ _ _⟩
 | range =>
  obtain ⟨te, pe, he⟩ := HGL.errR
  refine Calls.mono (Any.strconv_Atoi_range Tryz.atoiL s hs h _ w he (.inr ⟨te, pe, rfl⟩)) ?_
  rintro e w' ⟨N, rfl, _, _, hb⟩
  exact ⟨_, rfl, hb⟩
 | _ =>
  obtain ⟨te, pe, he⟩ := HGL.errS
  refine Calls.mono (Any.strconv_Atoi_syntax Tryz.atoiL s hs h _ w he (.inr ⟨te, pe, rfl⟩)) ?_
  rintro e w' ⟨N, rfl, _, _, hb⟩
  exact ⟨_, rfl, hb⟩
def digitsB : ByteArray := ⟨#[48, 49, 50, 51, 52, 53, 54, 55, 56, 57]⟩
theorem trim_walk (s : ByteArray) (hs : s.size ≤ 9223372036854775807) (w : World) :
 Calls Tryz.prog 155 #[.string s, .string ⟨#[48, 49, 50, 51, 52, 53, 54, 55, 56, 57]⟩] w fun e w' => e = .returned (.string ⟨(Lib.trimS s.data.toList digitsB.data.toList).toArray⟩) ∧ Below w.heap.size w w' :=
 Any.strings_Trim_laid Tryz.trimL (by kernel_rfl) s ⟨#[48, 49, 50, 51, 52, 53, 54, 55, 56, 57]⟩ w hs (by decide) (by
  intro j b hj
  have : b ∈ ([48, 49, 50, 51, 52, 53, 54, 55, 56, 57] : List UInt8) := List.mem_of_getElem? hj
  simp only [List.mem_cons, List.not_mem_nil, or_false] at this
  rcases this with rfl | rfl | rfl | rfl | rfl | rfl | rfl | rfl | rfl | rfl <;> decide)
def trimD (s : ByteArray) : ByteArray := ⟨(Lib.trimS s.data.toList digitsB.data.toList).toArray⟩
def numPlain (s : ByteArray) : Bool := s.toList != [] && (trimD s).toList == []
def numOk (s : ByteArray) : Bool := numPlain s && (decide ((s.size : Int) ≤ 6) && (bt s 0 != 48 || s.toList == [48]))
def version_number.f (a0 : ByteArray) : Option (Int × Bool × Bool) := if a0.size ≤ 281474976710656 then some (atoiN a0, numPlain a0, numOk a0) else none
theorem toList_nil_of_size {s : ByteArray} (h : s.size = 0) : s.toList = [] := by
 rw [ByteArray.toList_eq]
 have : s.data.toList.length = 0 := by simpa using h
 exact List.length_eq_zero_iff.1 this
set_option maxRecDepth 100000 in
set_option maxHeartbeats 1000000 in
theorem number_walk (s : ByteArray) (hs : s.size ≤ 281474976710656) (w : World) (HGL : Glob w) :
 Calls Tryz.prog 131 #[.string s] w fun e w' => e = .returned (.tuple #[.int .i64 (atoiN s), .bool (numPlain s), .bool (numOk s)]) ∧ Below w.heap.size w w' := by
 have HT := Aside0.mk (trim_walk s (by omega))
 have HA := Aside0.mk (fun W h => atoi_walk s hs W h)
 obtain ⟨t, ht⟩ : ∃ t, t = trimD s := ⟨_, rfl⟩
 have HT2 := Aside0.mk (show ∀ W, Calls Tryz.prog 155 #[.string s, .string ⟨#[48, 49, 50, 51, 52, 53, 54, 55, 56, 57]⟩] W fun e w' => e = .returned (.string t) ∧ Below W.heap.size W w' by rw [ht]; exact HT.out)
 clear HT
 unfold numOk numPlain
 rw [← ht]
 clear ht
 have HB := Aside0.mk (Below.refl w.heap.size w)
 by_cases h0 : s.toList = []
 · have e0 : (s.toList == ([] : List UInt8)) = true := beq_iff_eq.mpr h0
   have e1 : (s.toList != ([] : List UInt8)) = false := bne_eq_false_iff_eq.mpr h0
   clear h0
   go_enter Tryz.func131, Tryz.ntmps131
   go_wp2_with (go_at_call 156; refine (HA.out _ (HGL.below (by repeat (first | (with_reducible first | exact HB.out | apply below_alloc | apply pw_below_drewN | apply below_drew1) | exact HB.out)))).mono ?_; rintro e w2 ⟨v, rfl, hb2⟩; have HB2 := Aside0.mk (below_step (by repeat (first | (with_reducible first | exact HB.out | apply below_alloc | apply pw_below_drewN | apply below_drew1) | exact HB.out)) hb2); clear HA hb2)
   go_ret3
   exact ⟨by first | rfl | (simp [*]; done), HB2.out⟩
 · have e0 : (s.toList == ([] : List UInt8)) = false := beq_eq_false_iff_ne.mpr h0
   have e1 : (s.toList != ([] : List UInt8)) = true := bne_iff_ne.mpr h0
   have hp : 0 < s.size := by
    rcases Nat.eq_zero_or_pos s.size with h | h
    · exact absurd (toList_nil_of_size h) h0
    · exact h
   clear h0
   have hx : ((s[0]'hp).toNat : Int) = bt s 0 := bt_at s 0 hp
   by_cases h2 : t.toList = []
   · have e2 : (t.toList == ([] : List UInt8)) = true := beq_iff_eq.mpr h2
     clear h2
     by_cases h3 : (s.size : Int) ≤ 6
     · have e3 : decide ((s.size : Int) ≤ 6) = true := decide_eq_true h3
       by_cases h4 : bt s 0 = 48
       · have e4 : (bt s 0 != 48) = false := bne_eq_false_iff_eq.mpr h4
         by_cases h5 : s.toList = [48]
         · have e5 : (s.toList == ([48] : List UInt8)) = true := beq_iff_eq.mpr h5
           go_enter Tryz.func131, Tryz.ntmps131
           go_wp2_with (first
            | (go_at_call 155; refine (HT2.out _).mono ?_; rintro e w1 ⟨rfl, hb1⟩; have HB1 := Aside0.mk (below_step HB.out hb1); have HB := HB1; clear HT2 hb1)
            | (go_at_call 156; refine (HA.out _ (HGL.below (by repeat (first | (with_reducible first | exact HB.out | apply below_alloc | apply pw_below_drewN | apply below_drew1) | exact HB.out)))).mono ?_; rintro e w2 ⟨v, rfl, hb2⟩; have HB2 := Aside0.mk (below_step (by repeat (first | (with_reducible first | exact HB.out | apply below_alloc | apply pw_below_drewN | apply below_drew1) | exact HB.out)) hb2); clear HA hb2))
           go_ret3
           exact ⟨by first | rfl | (simp [*]; done), HB2.out⟩
         · have e5 : (s.toList == ([48] : List UInt8)) = false := beq_eq_false_iff_ne.mpr h5
           go_enter Tryz.func131, Tryz.ntmps131
           go_wp2_with (first
            | (go_at_call 155; refine (HT2.out _).mono ?_; rintro e w1 ⟨rfl, hb1⟩; have HB1 := Aside0.mk (below_step HB.out hb1); have HB := HB1; clear HT2 hb1)
            | (go_at_call 156; refine (HA.out _ (HGL.below (by repeat (first | (with_reducible first | exact HB.out | apply below_alloc | apply pw_below_drewN | apply below_drew1) | exact HB.out)))).mono ?_; rintro e w2 ⟨v, rfl, hb2⟩; have HB2 := Aside0.mk (below_step (by repeat (first | (with_reducible first | exact HB.out | apply below_alloc | apply pw_below_drewN | apply below_drew1) | exact HB.out)) hb2); clear HA hb2))
           go_ret3
           exact ⟨by first | rfl | (simp [*]; done), HB2.out⟩
       · have e4 : (bt s 0 != 48) = true := bne_iff_ne.mpr h4
         go_enter Tryz.func131, Tryz.ntmps131
         go_wp2_with (first
          | (go_at_call 155; refine (HT2.out _).mono ?_; rintro e w1 ⟨rfl, hb1⟩; have HB1 := Aside0.mk (below_step HB.out hb1); have HB := HB1; clear HT2 hb1)
          | (go_at_call 156; refine (HA.out _ (HGL.below (by repeat (first | (with_reducible first | exact HB.out | apply below_alloc | apply pw_below_drewN | apply below_drew1) | exact HB.out)))).mono ?_; rintro e w2 ⟨v, rfl, hb2⟩; have HB2 := Aside0.mk (below_step (by repeat (first | (with_reducible first | exact HB.out | apply below_alloc | apply pw_below_drewN | apply below_drew1) | exact HB.out)) hb2); clear HA hb2))
         go_ret3
         exact ⟨by first | rfl | (simp [*]; done), HB2.out⟩
     · have e3 : decide ((s.size : Int) ≤ 6) = false := decide_eq_false h3
       go_enter Tryz.func131, Tryz.ntmps131
       go_wp2_with (first
        | (go_at_call 155; refine (HT2.out _).mono ?_; rintro e w1 ⟨rfl, hb1⟩; have HB1 := Aside0.mk (below_step HB.out hb1); have HB := HB1; clear HT2 hb1)
        | (go_at_call 156; refine (HA.out _ (HGL.below (by repeat (first | (with_reducible first | exact HB.out | apply below_alloc | apply pw_below_drewN | apply below_drew1) | exact HB.out)))).mono ?_; rintro e w2 ⟨v, rfl, hb2⟩; have HB2 := Aside0.mk (below_step (by repeat (first | (with_reducible first | exact HB.out | apply below_alloc | apply pw_below_drewN | apply below_drew1) | exact HB.out)) hb2); clear HA hb2))
       go_ret3
       exact ⟨by first | rfl | (simp [*]; done), HB2.out⟩
   · have e2 : (t.toList == ([] : List UInt8)) = false := beq_eq_false_iff_ne.mpr h2
     clear h2
     go_enter Tryz.func131, Tryz.ntmps131
     go_wp2_with (first
      | (go_at_call 155; refine (HT2.out _).mono ?_; rintro e w1 ⟨rfl, hb1⟩; have HB1 := Aside0.mk (below_step HB.out hb1); have HB := HB1; clear HT2 hb1)
      | (go_at_call 156; refine (HA.out _ (HGL.below (by repeat (first | (with_reducible first | exact HB.out | apply below_alloc | apply pw_below_drewN | apply below_drew1) | exact HB.out)))).mono ?_; rintro e w2 ⟨v, rfl, hb2⟩; have HB2 := Aside0.mk (below_step (by repeat (first | (with_reducible first | exact HB.out | apply below_alloc | apply pw_below_drewN | apply below_drew1) | exact HB.out)) hb2); clear HA hb2))
     go_ret3
     exact ⟨by first | rfl | (simp [*]; done), HB2.out⟩
theorem version_number.calls (a0 : ByteArray) (r1 : Int) (r2 : Bool) (r3 : Bool) (w : World) (h : version_number.f a0 = some (r1, r2, r3)) (HGL : Glob w) :
 Calls Tryz.prog 131 #[.string a0] w fun e w' => e = .returned (.tuple #[.int .i64 r1, .bool r2, .bool r3]) ∧ Below w.heap.size w w' := by
 unfold version_number.f at h
 by_cases hs : a0.size ≤ 281474976710656
 · rw [if_pos hs] at h
   injection h with h
   injection h with h1 h
   injection h with h2 h3
   subst h1 h2 h3
   exact number_walk a0 hs w HGL
 · rw [if_neg hs] at h
   cases h
end Go.Proofs.YteinkjhimceljaaGreatDoor.J
namespace Go.Proofs.YteinkjhimceljaaGreatDoor.J
open Go.RowKit Go.Proofs.YteinkjhimceljaaGreatDoorW.PrintWords Go.Proofs.YteinkjhimceljaaGreatDoorW.PrintLast Go.Proofs.YteinkjhimceljaaGreatDoorW.PrintMore
set_option linter.unusedVariables false
set_option linter.unusedSimpArgs false
noncomputable def stringslite_HasPrefix.f (a0 : ByteArray) (a1 : ByteArray) : Option (Bool) := if (a0.size : Int) ≥ (a1.size : Int) then (if 0 ≤ (a1.size : Int) then (if (a1.size : Int) ≤ (a0.size : Int) then (some ((a0.extract 0 ((a1.size : Int) : Int).toNat).toList == a1.toList)) else (none)) else (none)) else (some false)
set_option maxHeartbeats 8000000 in
set_option maxRecDepth 100000 in
theorem stringslite_HasPrefix.calls (a0 : ByteArray) (a1 : ByteArray) (r : Bool) (w : World) (h : stringslite_HasPrefix.f a0 a1 = some r) :
 Calls Tryz.prog 146 #[.string a0, .string a1] w fun e w' => e = .returned (.bool r) ∧ Drawn0 w w' := by
 have H : (if (a0.size : Int) ≥ (a1.size : Int) then (if 0 ≤ (a1.size : Int) then (if (a1.size : Int) ≤ (a0.size : Int) then (some ((a0.extract 0 ((a1.size : Int) : Int).toNat).toList == a1.toList)) else (none)) else (none)) else (some false)) = some r := h
 clear h
 by_cases c3 : (a0.size : Int) ≥ (a1.size : Int)
 · rw [if_pos c3] at H
   have c3b0 : decide ((a1.size : Int) ≤ (a0.size : Int)) = true := decide_eq_true c3
   have c3b1 : decide (a1.size ≤ a0.size) = true := decide_eq_true (Int.ofNat_le.mp c3)
   clear c3
   by_cases c4 : 0 ≤ (a1.size : Int)
   · rw [if_pos c4] at H
     have c4b0 := eq_true c4
     have c4b1 : decide (0 ≤ (a1.size : Int)) = true := decide_eq_true c4
     clear c4
     by_cases c5 : (a1.size : Int) ≤ (a0.size : Int)
     · rw [if_pos c5] at H
       have c5b0 := eq_true c5
       have c5b1 : decide ((a1.size : Int) ≤ (a0.size : Int)) = true := decide_eq_true c5
       clear c5
       obtain rfl := Option.some.inj H
       go_enter Tryz.func146, Tryz.ntmps146
       go_wp2
       go_ret
       exact ⟨by first | rfl | (simp; done) | (simp [*]; done), by repeat (first | exact Drawn0.refl _ | apply Drawn0.step)⟩
     · rw [if_neg c5] at H
       exact absurd H (by simp)
   · rw [if_neg c4] at H
     exact absurd H (by simp)
 · rw [if_neg c3] at H
   have c3b0 : decide ((a1.size : Int) ≤ (a0.size : Int)) = false := decide_eq_false c3
   have c3b1 : decide (a1.size ≤ a0.size) = false := decide_eq_false (fun h => c3 (Int.ofNat_le.mpr h))
   clear c3
   obtain rfl := Option.some.inj H
   go_enter Tryz.func146, Tryz.ntmps146
   go_wp2
   go_ret
   exact ⟨by first | rfl | (simp; done) | (simp [*]; done), by repeat (first | exact Drawn0.refl _ | apply Drawn0.step)⟩
noncomputable def stringslite_CutPrefix.f (a0 : ByteArray) (a1 : ByteArray) : Option (ByteArray × Bool) := (stringslite_HasPrefix.f a0 a1).bind fun t187 => (if t187 = true then (if 0 ≤ (a1.size : Int) then (if (a1.size : Int) ≤ (a0.size : Int) then (some (a0.extract ((a1.size : Int) : Int).toNat a0.size, true)) else (none)) else (none)) else (some (a0, false)))
set_option maxHeartbeats 8000000 in
set_option maxRecDepth 100000 in
theorem stringslite_CutPrefix.calls (a0 : ByteArray) (a1 : ByteArray) (r1 : ByteArray) (r2 : Bool) (w : World) (h : stringslite_CutPrefix.f a0 a1 = some (r1, r2)) :
 Calls Tryz.prog 125 #[.string a0, .string a1] w fun e w' => e = .returned (.tuple #[.string r1, .bool r2]) ∧ Drawn0 w w' := by
 have H : ((stringslite_HasPrefix.f a0 a1).bind fun t187 => (if t187 = true then (if 0 ≤ (a1.size : Int) then (if (a1.size : Int) ≤ (a0.size : Int) then (some (a0.extract ((a1.size : Int) : Int).toNat a0.size, true)) else (none)) else (none)) else (some (a0, false)))) = some (r1, r2) := h
 clear h
 replace H := Option.bind_eq_some_iff.mp H
 obtain ⟨t187, A30, H⟩ := H
 replace H : (if t187 = true then (if 0 ≤ (a1.size : Int) then (if (a1.size : Int) ≤ (a0.size : Int) then (some (a0.extract ((a1.size : Int) : Int).toNat a0.size, true)) else (none)) else (none)) else (some (a0, false))) = some (r1, r2) := H
 have A3 := Aside0.mk A30
 clear A30
 by_cases c4 : t187 = true
 · subst c4
   have H1 : (if 0 ≤ (a1.size : Int) then (if (a1.size : Int) ≤ (a0.size : Int) then (some (a0.extract ((a1.size : Int) : Int).toNat a0.size, true)) else (none)) else (none)) = some (r1, r2) := by rw [if_pos rfl] at H; exact H
   clear H
   have H := H1
   clear H1
   by_cases c5 : 0 ≤ (a1.size : Int)
   · rw [if_pos c5] at H
     have c5b0 := eq_true c5
     have c5b1 : decide (0 ≤ (a1.size : Int)) = true := decide_eq_true c5
     clear c5
     by_cases c6 : (a1.size : Int) ≤ (a0.size : Int)
     · rw [if_pos c6] at H
       have c6b0 := eq_true c6
       have c6b1 : decide ((a1.size : Int) ≤ (a0.size : Int)) = true := decide_eq_true c6
       clear c6
       simp only [Option.some.injEq, Prod.mk.injEq] at H
       obtain ⟨rfl, rfl⟩ := H
       go_enter Tryz.func125, Tryz.ntmps125
       go_wp2_with (first | ((with_reducible refine gate_callee (f := 146) rfl ?_); refine goesL_ (some 8) rfl rfl Tryz.func146 (by kernel_rfl) rfl #[.string a0, .string a1] rfl (by (try simp only [List.map_toArray, List.map_cons, List.map_nil]); first | done | rfl | (simp only [List.length_drop, List.length_take]; rfl)) ?_; (with_reducible refine (stringslite_HasPrefix.calls a0 a1 true _ A3.out).mono ?_); rintro e w' ⟨rfl, ⟨nd, rfl⟩⟩; refine ⟨_, rfl, ?_⟩))
       go_ret2
       exact ⟨by first | rfl | (simp; done) | (simp [*]; done), by repeat (first | exact Drawn0.refl _ | apply Drawn0.step)⟩
     · rw [if_neg c6] at H
       exact absurd H (by simp)
   · rw [if_neg c5] at H
     exact absurd H (by simp)
 · replace c4 := Bool.eq_false_iff.mpr c4
   subst c4
   have H1 : (some (a0, false)) = some (r1, r2) := by rw [if_neg (show ¬ (false = true) by decide)] at H; exact H
   clear H
   have H := H1
   clear H1
   simp only [Option.some.injEq, Prod.mk.injEq] at H
   obtain ⟨rfl, rfl⟩ := H
   go_enter Tryz.func125, Tryz.ntmps125
   go_wp2_with (first | ((with_reducible refine gate_callee (f := 146) rfl ?_); refine goesL_ (some 8) rfl rfl Tryz.func146 (by kernel_rfl) rfl #[.string a0, .string a1] rfl (by (try simp only [List.map_toArray, List.map_cons, List.map_nil]); first | done | rfl | (simp only [List.length_drop, List.length_take]; rfl)) ?_; (with_reducible refine (stringslite_HasPrefix.calls a0 a1 false _ A3.out).mono ?_); rintro e w' ⟨rfl, ⟨nd, rfl⟩⟩; refine ⟨_, rfl, ?_⟩))
   go_ret2
   exact ⟨by first | rfl | (simp; done) | (simp [*]; done), by repeat (first | exact Drawn0.refl _ | apply Drawn0.step)⟩
noncomputable def strings_CutPrefix.f (a0 : ByteArray) (a1 : ByteArray) : Option (ByteArray × Bool) := (stringslite_CutPrefix.f a0 a1).bind fun bt188 => (some (bt188.1, bt188.2))
set_option maxHeartbeats 8000000 in
set_option maxRecDepth 100000 in
theorem strings_CutPrefix.calls (a0 : ByteArray) (a1 : ByteArray) (r1 : ByteArray) (r2 : Bool) (w : World) (h : strings_CutPrefix.f a0 a1 = some (r1, r2)) :
 Calls Tryz.prog 95 #[.string a0, .string a1] w fun e w' => e = .returned (.tuple #[.string r1, .bool r2]) ∧ Drawn0 w w' := by
 have H : ((stringslite_CutPrefix.f a0 a1).bind fun bt188 => (some (bt188.1, bt188.2))) = some (r1, r2) := h
 clear h
 replace H := Option.bind_eq_some_iff.mp H
 obtain ⟨⟨t188, t189⟩, A30, H⟩ := H
 replace H : (some (t188, t189)) = some (r1, r2) := H
 have A3 := Aside0.mk A30
 clear A30
 simp only [Option.some.injEq, Prod.mk.injEq] at H
 obtain ⟨rfl, rfl⟩ := H
 go_enter Tryz.func95, Tryz.ntmps95
 go_wp2_with (first | ((with_reducible refine gate_callee (f := 125) rfl ?_); refine goesL_ (some 8) rfl rfl Tryz.func125 (by kernel_rfl) rfl #[.string a0, .string a1] rfl (by (try simp only [List.map_toArray, List.map_cons, List.map_nil]); first | done | rfl | (simp only [List.length_drop, List.length_take]; rfl)) ?_; (with_reducible refine (stringslite_CutPrefix.calls a0 a1 t188 t189 _ A3.out).mono ?_); rintro e w' ⟨rfl, ⟨nd, rfl⟩⟩; refine ⟨_, rfl, ?_⟩))
 go_ret2
 exact ⟨by first | rfl | (simp; done) | (simp [*]; done), by repeat (first | exact Drawn0.refl _ | apply Drawn0.step)⟩
noncomputable def names_plain.l0 : Nat → ByteArray → Int → Int → Option (Bool)
 | 0, _, _, _ => none
 | k + 1, x0, x7, x8 => if x8 < x7 then (if 0 ≤ x8 then (if x8 < (x0.size : Int) then (if (bt x0 x8) ≥ 97 then (if (bt x0 x8) ≤ 122 then (names_plain.l0 k x0 x7 (wrap64 (x8 + 1))) else (if (bt x0 x8) ≥ 48 then (if ((bt x0 x8) ≤ 57) then (names_plain.l0 k x0 x7 (wrap64 (x8 + 1))) else (if x8 = 0 then (some false) else ((strings_IndexByte.f (⟨#[45, 95, 46]⟩ : ByteArray) (bt x0 x8)).bind fun t190 => (if t190 < 0 then (some false) else (names_plain.l0 k x0 x7 (wrap64 (x8 + 1))))))) else (if x8 = 0 then (some false) else ((strings_IndexByte.f (⟨#[45, 95, 46]⟩ : ByteArray) (bt x0 x8)).bind fun t191 => (if t191 < 0 then (some false) else (names_plain.l0 k x0 x7 (wrap64 (x8 + 1)))))))) else (if (bt x0 x8) ≥ 48 then (if ((bt x0 x8) ≤ 57) then (names_plain.l0 k x0 x7 (wrap64 (x8 + 1))) else (if x8 = 0 then (some false) else ((strings_IndexByte.f (⟨#[45, 95, 46]⟩ : ByteArray) (bt x0 x8)).bind fun t192 => (if t192 < 0 then (some false) else (names_plain.l0 k x0 x7 (wrap64 (x8 + 1))))))) else (if x8 = 0 then (some false) else ((strings_IndexByte.f (⟨#[45, 95, 46]⟩ : ByteArray) (bt x0 x8)).bind fun t193 => (if t193 < 0 then (some false) else (names_plain.l0 k x0 x7 (wrap64 (x8 + 1)))))))) else (none)) else (none)) else (some (x0.toList != ([] : List UInt8)))
noncomputable def names_plain.f (k : Nat) (a0 : ByteArray) : Option (Bool) := names_plain.l0 k a0 (a0.size : Int) 0
set_option maxHeartbeats 8000000 in
set_option maxRecDepth 100000 in
theorem names_plain.calls (k : Nat) (a0 : ByteArray) (r : Bool) (w : World) (h : names_plain.f k a0 = some r) :
 Calls Tryz.prog 96 #[.string a0] w fun e w' => e = .returned (.bool r) ∧ Below w.heap.size w w' := by
 have HB := Aside0.mk (Below.refl w.heap.size w)
 have H : (names_plain.l0 k a0 (a0.size : Int) 0) = some r := h
 clear h
 have H' := Aside0.mk H
 clear H
 go_enter Tryz.func96, Tryz.ntmps96
 go_wp2
 go_loopg [8] k (fun kq v8 w' => ∃ (x8_1 : Int), v8 = .int .i64 x8_1 ∧ Aside0 (names_plain.l0 kq a0 (a0.size : Int) x8_1 = some r) ∧ Aside0 (kq ≤ k) ∧ Aside0 (Below w.heap.size w w'))
 case atStart => exact ⟨(0), (by first | rfl | (simp; done) | (simp [*]; done)), H', ⟨Nat.le_refl _⟩, ⟨by repeat (first | (with_reducible first | exact HB.out | apply below_alloc | apply pw_below_drewN | apply below_drew1) | exact HB.out)⟩⟩
 case round =>
  clear H'
  obtain ⟨x8_1, rfl, HA, HK1, HB⟩ := hrel
  cases gk with
  | zero => exact absurd HA.out (by simp [names_plain.l0])
  | succ k1 =>
   have H := HA.out
   clear HA
   simp only [names_plain.l0] at H
   by_cases c2 : x8_1 < (a0.size : Int)
   · rw [if_pos c2] at H
     have c2b0 : decide (x8_1 < (a0.size : Int)) = true := decide_eq_true c2
     clear c2
     by_cases c3 : 0 ≤ x8_1
     · rw [if_pos c3] at H
       have c3b0 : decide (0 ≤ x8_1) = true := decide_eq_true c3
       clear c3
       by_cases c4 : x8_1 < (a0.size : Int)
       · rw [if_pos c4] at H
         have c4b0 : decide (x8_1 < (a0.size : Int)) = true := decide_eq_true c4
         clear c4
         by_cases c6 : (bt a0 x8_1) ≥ 97
         · rw [if_pos c6] at H
           have c6b0 : decide (97 ≤ (bt a0 x8_1)) = true := decide_eq_true c6
           clear c6
           by_cases c7 : (bt a0 x8_1) ≤ 122
           · rw [if_pos c7] at H
             have c7b0 : decide ((bt a0 x8_1) ≤ 122) = true := decide_eq_true c7
             clear c7
             have H' := Aside0.mk H
             clear H
             have p5 : 0 ≤ (x8_1 : Int) := of_decide_eq_true (by first | (with_reducible assumption) | assumption)
             have q5 : x8_1 < (a0.size : Int) := of_decide_eq_true (by first | (with_reducible assumption) | assumption)
             have hx5 := bt_at a0 x8_1
             replace p5 := eq_true p5
             replace q5 := eq_true q5
             go_wp2
             go_roundg k1
             case measure => have := HK1.out; omega
             case rel => exact ⟨(wrap64 (x8_1 + 1)), (by first | rfl | (simp; done) | (simp [*]; done)), H', ⟨by have := HK1.out; omega⟩, ⟨by repeat (first | (with_reducible first | exact HB.out | apply below_alloc | apply pw_below_drewN | apply below_drew1) | exact HB.out)⟩⟩
           · rw [if_neg c7] at H
             have c7b0 : decide ((bt a0 x8_1) ≤ 122) = false := decide_eq_false c7
             clear c7
             by_cases c8 : (bt a0 x8_1) ≥ 48
             · rw [if_pos c8] at H
               have c8b0 : decide (48 ≤ (bt a0 x8_1)) = true := decide_eq_true c8
               clear c8
               by_cases c9 : ((bt a0 x8_1) ≤ 57)
               · rw [if_pos c9] at H
                 have c9b0 : decide ((bt a0 x8_1) ≤ 57) = true := decide_eq_true c9
                 clear c9
                 have H' := Aside0.mk H
                 clear H
                 have p5 : 0 ≤ (x8_1 : Int) := of_decide_eq_true (by first | (with_reducible assumption) | assumption)
                 have q5 : x8_1 < (a0.size : Int) := of_decide_eq_true (by first | (with_reducible assumption) | assumption)
                 have hx5 := bt_at a0 x8_1
                 replace p5 := eq_true p5
                 replace q5 := eq_true q5
                 go_wp2
                 go_roundg k1
                 case measure => have := HK1.out; omega
                 case rel => exact ⟨(wrap64 (x8_1 + 1)), (by first | rfl | (simp; done) | (simp [*]; done)), H', ⟨by have := HK1.out; omega⟩, ⟨by repeat (first | (with_reducible first | exact HB.out | apply below_alloc | apply pw_below_drewN | apply below_drew1) | exact HB.out)⟩⟩
               · rw [if_neg c9] at H
                 have c9b0 : decide ((bt a0 x8_1) ≤ 57) = false := decide_eq_false c9
                 clear c9
                 by_cases c10 : x8_1 = 0
                 · rw [if_pos c10] at H
                   have c10b0 : (x8_1 == 0) = true := beq_iff_eq.mpr c10
                   have c10b1 : (x8_1 != 0) = false := bne_eq_false_iff_eq.mpr c10
                   clear c10
                   obtain rfl := Option.some.inj H
                   have p5 : 0 ≤ (x8_1 : Int) := of_decide_eq_true (by first | (with_reducible assumption) | assumption)
                   have q5 : x8_1 < (a0.size : Int) := of_decide_eq_true (by first | (with_reducible assumption) | assumption)
                   have hx5 := bt_at a0 x8_1
                   replace p5 := eq_true p5
                   replace q5 := eq_true q5
                   go_wp2
                   go_ret
                   exact ⟨by first | rfl | (simp [errW_none, errW_some] <;> rfl) | (simp [*, errW_none, errW_some] <;> rfl) | (simp [errW_none, errW_some]; cases a0.toList <;> rfl), by repeat (first | (with_reducible first | exact HB.out | apply below_alloc | apply pw_below_drewN | apply below_drew1) | exact HB.out)⟩
                 · rw [if_neg c10] at H
                   have c10b0 : (x8_1 == 0) = false := beq_eq_false_iff_ne.mpr c10
                   have c10b1 : (x8_1 != 0) = true := bne_iff_ne.mpr c10
                   replace H := Option.bind_eq_some_iff.mp H
                   obtain ⟨t190, A110, H⟩ := H
                   replace H : (if t190 < 0 then (some false) else (names_plain.l0 k1 a0 (a0.size : Int) (wrap64 (x8_1 + 1)))) = some r := H
                   have A11 := Aside0.mk A110
                   clear A110
                   by_cases c12 : t190 < 0
                   · rw [if_pos c12] at H
                     have c12b0 : decide (t190 < 0) = true := decide_eq_true c12
                     clear c12
                     obtain rfl := Option.some.inj H
                     have p5 : 0 ≤ (x8_1 : Int) := of_decide_eq_true (by first | (with_reducible assumption) | assumption)
                     have q5 : x8_1 < (a0.size : Int) := of_decide_eq_true (by first | (with_reducible assumption) | assumption)
                     have hx5 := bt_at a0 x8_1
                     replace p5 := eq_true p5
                     replace q5 := eq_true q5
                     go_wp2_with (first | (go_at_call 126; (with_reducible refine (strings_IndexByte.calls (⟨#[45, 95, 46]⟩ : ByteArray) (bt a0 x8_1) t190 _ A11.out).mono ?_); rintro e w13 ⟨rfl, hb⟩; have n0_ := Aside0.mk (below_step (by repeat (first | (with_reducible first | exact HB.out | apply below_alloc | apply pw_below_drewN | apply below_drew1) | exact HB.out)) hb); clear HB; have HB := n0_; clear n0_; (try clear hb); (try clear hb2); (try clear hk); (try clear hi)))
                     go_ret
                     exact ⟨by first | rfl | (simp [errW_none, errW_some] <;> rfl) | (simp [*, errW_none, errW_some] <;> rfl) | (simp [errW_none, errW_some]; cases a0.toList <;> rfl), by repeat (first | (with_reducible first | exact HB.out | apply below_alloc | apply pw_below_drewN | apply below_drew1) | exact HB.out)⟩
                   · rw [if_neg c12] at H
                     have c12b0 : decide (t190 < 0) = false := decide_eq_false c12
                     clear c12
                     have H' := Aside0.mk H
                     clear H
                     have p5 : 0 ≤ (x8_1 : Int) := of_decide_eq_true (by first | (with_reducible assumption) | assumption)
                     have q5 : x8_1 < (a0.size : Int) := of_decide_eq_true (by first | (with_reducible assumption) | assumption)
                     have hx5 := bt_at a0 x8_1
                     replace p5 := eq_true p5
                     replace q5 := eq_true q5
                     go_wp2_with (first | (go_at_call 126; (with_reducible refine (strings_IndexByte.calls (⟨#[45, 95, 46]⟩ : ByteArray) (bt a0 x8_1) t190 _ A11.out).mono ?_); rintro e w14 ⟨rfl, hb⟩; have n0_ := Aside0.mk (below_step (by repeat (first | (with_reducible first | exact HB.out | apply below_alloc | apply pw_below_drewN | apply below_drew1) | exact HB.out)) hb); clear HB; have HB := n0_; clear n0_; (try clear hb); (try clear hb2); (try clear hk); (try clear hi)))
                     go_roundg k1
                     case measure => have := HK1.out; omega
                     case rel => exact ⟨(wrap64 (x8_1 + 1)), (by first | rfl | (simp; done) | (simp [*]; done)), H', ⟨by have := HK1.out; omega⟩, ⟨by repeat (first | (with_reducible first | exact HB.out | apply below_alloc | apply pw_below_drewN | apply below_drew1) | exact HB.out)⟩⟩
             · rw [if_neg c8] at H
               have c8b0 : decide (48 ≤ (bt a0 x8_1)) = false := decide_eq_false c8
               clear c8
               by_cases c15 : x8_1 = 0
               · rw [if_pos c15] at H
                 have c15b0 : (x8_1 == 0) = true := beq_iff_eq.mpr c15
                 have c15b1 : (x8_1 != 0) = false := bne_eq_false_iff_eq.mpr c15
                 clear c15
                 obtain rfl := Option.some.inj H
                 have p5 : 0 ≤ (x8_1 : Int) := of_decide_eq_true (by first | (with_reducible assumption) | assumption)
                 have q5 : x8_1 < (a0.size : Int) := of_decide_eq_true (by first | (with_reducible assumption) | assumption)
                 have hx5 := bt_at a0 x8_1
                 replace p5 := eq_true p5
                 replace q5 := eq_true q5
                 go_wp2
                 go_ret
                 exact ⟨by first | rfl | (simp [errW_none, errW_some] <;> rfl) | (simp [*, errW_none, errW_some] <;> rfl) | (simp [errW_none, errW_some]; cases a0.toList <;> rfl), by repeat (first | (with_reducible first | exact HB.out | apply below_alloc | apply pw_below_drewN | apply below_drew1) | exact HB.out)⟩
               · rw [if_neg c15] at H
                 have c15b0 : (x8_1 == 0) = false := beq_eq_false_iff_ne.mpr c15
                 have c15b1 : (x8_1 != 0) = true := bne_iff_ne.mpr c15
                 replace H := Option.bind_eq_some_iff.mp H
                 obtain ⟨t191, A160, H⟩ := H
                 replace H : (if t191 < 0 then (some false) else (names_plain.l0 k1 a0 (a0.size : Int) (wrap64 (x8_1 + 1)))) = some r := H
                 have A16 := Aside0.mk A160
                 clear A160
                 by_cases c17 : t191 < 0
                 · rw [if_pos c17] at H
                   have c17b0 : decide (t191 < 0) = true := decide_eq_true c17
                   clear c17
                   obtain rfl := Option.some.inj H
                   have p5 : 0 ≤ (x8_1 : Int) := of_decide_eq_true (by first | (with_reducible assumption) | assumption)
                   have q5 : x8_1 < (a0.size : Int) := of_decide_eq_true (by first | (with_reducible assumption) | assumption)
                   have hx5 := bt_at a0 x8_1
                   replace p5 := eq_true p5
                   replace q5 := eq_true q5
                   go_wp2_with (first | (go_at_call 126; (with_reducible refine (strings_IndexByte.calls (⟨#[45, 95, 46]⟩ : ByteArray) (bt a0 x8_1) t191 _ A16.out).mono ?_); rintro e w18 ⟨rfl, hb⟩; have n0_ := Aside0.mk (below_step (by repeat (first | (with_reducible first | exact HB.out | apply below_alloc | apply pw_below_drewN | apply below_drew1) | exact HB.out)) hb); clear HB; have HB := n0_; clear n0_; (try clear hb); (try clear hb2); (try clear hk); (try clear hi)))
                   go_ret
                   exact ⟨by first | rfl | (simp [errW_none, errW_some] <;> rfl) | (simp [*, errW_none, errW_some] <;> rfl) | (simp [errW_none, errW_some]; cases a0.toList <;> rfl), by repeat (first | (with_reducible first | exact HB.out | apply below_alloc | apply pw_below_drewN | apply below_drew1) | exact HB.out)⟩
                 · rw [if_neg c17] at H
                   have c17b0 : decide (t191 < 0) = false := decide_eq_false c17
                   clear c17
                   have H' := Aside0.mk H
                   clear H
                   have p5 : 0 ≤ (x8_1 : Int) := of_decide_eq_true (by first | (with_reducible assumption) | assumption)
                   have q5 : x8_1 < (a0.size : Int) := of_decide_eq_true (by first | (with_reducible assumption) | assumption)
                   have hx5 := bt_at a0 x8_1
                   replace p5 := eq_true p5
                   replace q5 := eq_true q5
                   go_wp2_with (first | (go_at_call 126; (with_reducible refine (strings_IndexByte.calls (⟨#[45, 95, 46]⟩ : ByteArray) (bt a0 x8_1) t191 _ A16.out).mono ?_); rintro e w19 ⟨rfl, hb⟩; have n0_ := Aside0.mk (below_step (by repeat (first | (with_reducible first | exact HB.out | apply below_alloc | apply pw_below_drewN | apply below_drew1) | exact HB.out)) hb); clear HB; have HB := n0_; clear n0_; (try clear hb); (try clear hb2); (try clear hk); (try clear hi)))
                   go_roundg k1
                   case measure => have := HK1.out; omega
                   case rel => exact ⟨(wrap64 (x8_1 + 1)), (by first | rfl | (simp; done) | (simp [*]; done)), H', ⟨by have := HK1.out; omega⟩, ⟨by repeat (first | (with_reducible first | exact HB.out | apply below_alloc | apply pw_below_drewN | apply below_drew1) | exact HB.out)⟩⟩
         · rw [if_neg c6] at H
           have c6b0 : decide (97 ≤ (bt a0 x8_1)) = false := decide_eq_false c6
           clear c6
           by_cases c20 : (bt a0 x8_1) ≥ 48
           · rw [if_pos c20] at H
             have c20b0 : decide (48 ≤ (bt a0 x8_1)) = true := decide_eq_true c20
             clear c20
             by_cases c21 : ((bt a0 x8_1) ≤ 57)
             · rw [if_pos c21] at H
               have c21b0 : decide ((bt a0 x8_1) ≤ 57) = true := decide_eq_true c21
               clear c21
               have H' := Aside0.mk H
               clear H
               have p5 : 0 ≤ (x8_1 : Int) := of_decide_eq_true (by first | (with_reducible assumption) | assumption)
               have q5 : x8_1 < (a0.size : Int) := of_decide_eq_true (by first | (with_reducible assumption) | assumption)
               have hx5 := bt_at a0 x8_1
               replace p5 := eq_true p5
               replace q5 := eq_true q5
               go_wp2
               go_roundg k1
               case measure => have := HK1.out; omega
               case rel => exact ⟨(wrap64 (x8_1 + 1)), (by first | rfl | (simp; done) | (simp [*]; done)), H', ⟨by have := HK1.out; omega⟩, ⟨by repeat (first | (with_reducible first | exact HB.out | apply below_alloc | apply pw_below_drewN | apply below_drew1) | exact HB.out)⟩⟩
             · rw [if_neg c21] at H
               have c21b0 : decide ((bt a0 x8_1) ≤ 57) = false := decide_eq_false c21
               clear c21
               by_cases c22 : x8_1 = 0
               · rw [if_pos c22] at H
                 have c22b0 : (x8_1 == 0) = true := beq_iff_eq.mpr c22
                 have c22b1 : (x8_1 != 0) = false := bne_eq_false_iff_eq.mpr c22
                 clear c22
                 obtain rfl := Option.some.inj H
                 have p5 : 0 ≤ (x8_1 : Int) := of_decide_eq_true (by first | (with_reducible assumption) | assumption)
                 have q5 : x8_1 < (a0.size : Int) := of_decide_eq_true (by first | (with_reducible assumption) | assumption)
                 have hx5 := bt_at a0 x8_1
                 replace p5 := eq_true p5
                 replace q5 := eq_true q5
                 go_wp2
                 go_ret
                 exact ⟨by first | rfl | (simp [errW_none, errW_some] <;> rfl) | (simp [*, errW_none, errW_some] <;> rfl) | (simp [errW_none, errW_some]; cases a0.toList <;> rfl), by repeat (first | (with_reducible first | exact HB.out | apply below_alloc | apply pw_below_drewN | apply below_drew1) | exact HB.out)⟩
               · rw [if_neg c22] at H
                 have c22b0 : (x8_1 == 0) = false := beq_eq_false_iff_ne.mpr c22
                 have c22b1 : (x8_1 != 0) = true := bne_iff_ne.mpr c22
                 replace H := Option.bind_eq_some_iff.mp H
                 obtain ⟨t192, A230, H⟩ := H
                 replace H : (if t192 < 0 then (some false) else (names_plain.l0 k1 a0 (a0.size : Int) (wrap64 (x8_1 + 1)))) = some r := H
                 have A23 := Aside0.mk A230
                 clear A230
                 by_cases c24 : t192 < 0
                 · rw [if_pos c24] at H
                   have c24b0 : decide (t192 < 0) = true := decide_eq_true c24
                   clear c24
                   obtain rfl := Option.some.inj H
                   have p5 : 0 ≤ (x8_1 : Int) := of_decide_eq_true (by first | (with_reducible assumption) | assumption)
                   have q5 : x8_1 < (a0.size : Int) := of_decide_eq_true (by first | (with_reducible assumption) | assumption)
                   have hx5 := bt_at a0 x8_1
                   replace p5 := eq_true p5
                   replace q5 := eq_true q5
                   go_wp2_with (first | (go_at_call 126; (with_reducible refine (strings_IndexByte.calls (⟨#[45, 95, 46]⟩ : ByteArray) (bt a0 x8_1) t192 _ A23.out).mono ?_); rintro e w25 ⟨rfl, hb⟩; have n0_ := Aside0.mk (below_step (by repeat (first | (with_reducible first | exact HB.out | apply below_alloc | apply pw_below_drewN | apply below_drew1) | exact HB.out)) hb); clear HB; have HB := n0_; clear n0_; (try clear hb); (try clear hb2); (try clear hk); (try clear hi)))
                   go_ret
                   exact ⟨by first | rfl | (simp [errW_none, errW_some] <;> rfl) | (simp [*, errW_none, errW_some] <;> rfl) | (simp [errW_none, errW_some]; cases a0.toList <;> rfl), by repeat (first | (with_reducible first | exact HB.out | apply below_alloc | apply pw_below_drewN | apply below_drew1) | exact HB.out)⟩
                 · rw [if_neg c24] at H
                   have c24b0 : decide (t192 < 0) = false := decide_eq_false c24
                   clear c24
                   have H' := Aside0.mk H
                   clear H
                   have p5 : 0 ≤ (x8_1 : Int) := of_decide_eq_true (by first | (with_reducible assumption) | assumption)
                   have q5 : x8_1 < (a0.size : Int) := of_decide_eq_true (by first | (with_reducible assumption) | assumption)
                   have hx5 := bt_at a0 x8_1
                   replace p5 := eq_true p5
                   replace q5 := eq_true q5
                   go_wp2_with (first | (go_at_call 126; (with_reducible refine (strings_IndexByte.calls (⟨#[45, 95, 46]⟩ : ByteArray) (bt a0 x8_1) t192 _ A23.out).mono ?_); rintro e w26 ⟨rfl, hb⟩; have n0_ := Aside0.mk (below_step (by repeat (first | (with_reducible first | exact HB.out | apply below_alloc | apply pw_below_drewN | apply below_drew1) | exact HB.out)) hb); clear HB; have HB := n0_; clear n0_; (try clear hb); (try clear hb2); (try clear hk); (try clear hi)))
                   go_roundg k1
                   case measure => have := HK1.out; omega
                   case rel => exact ⟨(wrap64 (x8_1 + 1)), (by first | rfl | (simp; done) | (simp [*]; done)), H', ⟨by have := HK1.out; omega⟩, ⟨by repeat (first | (with_reducible first | exact HB.out | apply below_alloc | apply pw_below_drewN | apply below_drew1) | exact HB.out)⟩⟩
           · rw [if_neg c20] at H
             have c20b0 : decide (48 ≤ (bt a0 x8_1)) = false := decide_eq_false c20
             clear c20
             by_cases c27 : x8_1 = 0
             · rw [if_pos c27] at H
               have c27b0 : (x8_1 == 0) = true := beq_iff_eq.mpr c27
               have c27b1 : (x8_1 != 0) = false := bne_eq_false_iff_eq.mpr c27
               clear c27
               obtain rfl := Option.some.inj H
               have p5 : 0 ≤ (x8_1 : Int) := of_decide_eq_true (by first | (with_reducible assumption) | assumption)
               have q5 : x8_1 < (a0.size : Int) := of_decide_eq_true (by first | (with_reducible assumption) | assumption)
               have hx5 := bt_at a0 x8_1
               replace p5 := eq_true p5
               replace q5 := eq_true q5
               go_wp2
               go_ret
               exact ⟨by first | rfl | (simp [errW_none, errW_some] <;> rfl) | (simp [*, errW_none, errW_some] <;> rfl) | (simp [errW_none, errW_some]; cases a0.toList <;> rfl), by repeat (first | (with_reducible first | exact HB.out | apply below_alloc | apply pw_below_drewN | apply below_drew1) | exact HB.out)⟩
             · rw [if_neg c27] at H
               have c27b0 : (x8_1 == 0) = false := beq_eq_false_iff_ne.mpr c27
               have c27b1 : (x8_1 != 0) = true := bne_iff_ne.mpr c27
               replace H := Option.bind_eq_some_iff.mp H
               obtain ⟨t193, A280, H⟩ := H
               replace H : (if t193 < 0 then (some false) else (names_plain.l0 k1 a0 (a0.size : Int) (wrap64 (x8_1 + 1)))) = some r := H
               have A28 := Aside0.mk A280
               clear A280
               by_cases c29 : t193 < 0
               · rw [if_pos c29] at H
                 have c29b0 : decide (t193 < 0) = true := decide_eq_true c29
                 clear c29
                 obtain rfl := Option.some.inj H
                 have p5 : 0 ≤ (x8_1 : Int) := of_decide_eq_true (by first | (with_reducible assumption) | assumption)
                 have q5 : x8_1 < (a0.size : Int) := of_decide_eq_true (by first | (with_reducible assumption) | assumption)
                 have hx5 := bt_at a0 x8_1
                 replace p5 := eq_true p5
                 replace q5 := eq_true q5
                 go_wp2_with (first | (go_at_call 126; (with_reducible refine (strings_IndexByte.calls (⟨#[45, 95, 46]⟩ : ByteArray) (bt a0 x8_1) t193 _ A28.out).mono ?_); rintro e w30 ⟨rfl, hb⟩; have n0_ := Aside0.mk (below_step (by repeat (first | (with_reducible first | exact HB.out | apply below_alloc | apply pw_below_drewN | apply below_drew1) | exact HB.out)) hb); clear HB; have HB := n0_; clear n0_; (try clear hb); (try clear hb2); (try clear hk); (try clear hi)))
                 go_ret
                 exact ⟨by first | rfl | (simp [errW_none, errW_some] <;> rfl) | (simp [*, errW_none, errW_some] <;> rfl) | (simp [errW_none, errW_some]; cases a0.toList <;> rfl), by repeat (first | (with_reducible first | exact HB.out | apply below_alloc | apply pw_below_drewN | apply below_drew1) | exact HB.out)⟩
               · rw [if_neg c29] at H
                 have c29b0 : decide (t193 < 0) = false := decide_eq_false c29
                 clear c29
                 have H' := Aside0.mk H
                 clear H
                 have p5 : 0 ≤ (x8_1 : Int) := of_decide_eq_true (by first | (with_reducible assumption) | assumption)
                 have q5 : x8_1 < (a0.size : Int) := of_decide_eq_true (by first | (with_reducible assumption) | assumption)
                 have hx5 := bt_at a0 x8_1
                 replace p5 := eq_true p5
                 replace q5 := eq_true q5
                 go_wp2_with (first | (go_at_call 126; (with_reducible refine (strings_IndexByte.calls (⟨#[45, 95, 46]⟩ : ByteArray) (bt a0 x8_1) t193 _ A28.out).mono ?_); rintro e w31 ⟨rfl, hb⟩; have n0_ := Aside0.mk (below_step (by repeat (first | (with_reducible first | exact HB.out | apply below_alloc | apply pw_below_drewN | apply below_drew1) | exact HB.out)) hb); clear HB; have HB := n0_; clear n0_; (try clear hb); (try clear hb2); (try clear hk); (try clear hi)))
                 go_roundg k1
                 case measure => have := HK1.out; omega
                 case rel => exact ⟨(wrap64 (x8_1 + 1)), (by first | rfl | (simp; done) | (simp [*]; done)), H', ⟨by have := HK1.out; omega⟩, ⟨by repeat (first | (with_reducible first | exact HB.out | apply below_alloc | apply pw_below_drewN | apply below_drew1) | exact HB.out)⟩⟩
       · rw [if_neg c4] at H
         exact absurd H (by simp)
     · rw [if_neg c3] at H
       exact absurd H (by simp)
   · rw [if_neg c2] at H
     have c2b0 : decide (x8_1 < (a0.size : Int)) = false := decide_eq_false c2
     clear c2
     obtain rfl := Option.some.inj H
     go_wp2
     go_ret
     exact ⟨by first | rfl | (simp [errW_none, errW_some] <;> rfl) | (simp [*, errW_none, errW_some] <;> rfl) | (simp [errW_none, errW_some]; cases a0.toList <;> rfl), by repeat (first | (with_reducible first | exact HB.out | apply below_alloc | apply pw_below_drewN | apply below_drew1) | exact HB.out)⟩
noncomputable def names_Good.j0 : Nat → ByteArray → Bool → Option (Bool)
 | 0, _, _ => none
 | k + 1, x0, x14 => if x14 = true then (some false) else ((strings_CutPrefix.f x0 (⟨#[64]⟩ : ByteArray)).bind fun bt199 => (if bt199.2 = true then ((strings_Cut.f bt199.1 (⟨#[47]⟩ : ByteArray)).bind fun bt201 => (if bt201.2.2 = true then ((names_plain.f k bt201.1).bind fun t204 => (if t204 = true then ((names_plain.f k bt201.2.1).bind fun t205 => (some t205)) else (some false))) else (some false))) else ((names_plain.f k x0).bind fun t206 => (some t206))))
noncomputable def names_Good.f (k : Nat) (a0 : ByteArray) : Option (Bool) := if (a0.size : Int) > 40 then (names_Good.j0 k a0 true) else (names_Good.j0 k a0 (a0.toList == ([110, 111, 100, 101, 95, 109, 111, 100, 117, 108, 101, 115] : List UInt8)))
set_option maxHeartbeats 8000000 in
set_option maxRecDepth 100000 in
theorem names_Good.calls (k : Nat) (a0 : ByteArray) (r : Bool) (w : World) (h : names_Good.f k a0 = some r) (HGL : Glob w) :
 Calls Tryz.prog 68 #[.string a0] w fun e w' => e = .returned (.bool r) ∧ Below w.heap.size w w' := by
 have HB := Aside0.mk (Below.refl w.heap.size w)
 have H : (if (a0.size : Int) > 40 then (names_Good.j0 k a0 true) else (names_Good.j0 k a0 (a0.toList == ([110, 111, 100, 101, 95, 109, 111, 100, 117, 108, 101, 115] : List UInt8)))) = some r := h
 clear h
 have HC2 := Aside0.mk H
 clear H
 go_enter Tryz.func68, Tryz.ntmps68
 go_upto_region 1 with (fail)
 go_cut [14] (fun v14 wc => ∃ (kq : Nat) (x14_1 : Bool), v14 = .bool x14_1 ∧ Aside0 (names_Good.j0 kq a0 x14_1 = some r) ∧ Aside0 (kq ≤ k) ∧ Aside0 (Below w.heap.size w wc))
 case first =>
  have H := HC2.out
  clear HC2
  by_cases c3 : (a0.size : Int) > 40
  · rw [if_pos c3] at H
    have c3b0 : decide (40 < (a0.size : Int)) = true := decide_eq_true c3
    have c3b1 : decide (40 < a0.size) = true := decide_eq_true (by omega)
    clear c3
    (first | rw [c3b0] | (simp only [i64_w, i32_w]; rw [c3b0]) | skip)
    have H' := Aside0.mk H
    clear H
    go_wp2
    go_meet
    case rel => exact ⟨_, (true), (by first | rfl | (simp; done) | (simp [*]; done)), H', ⟨by first | omega | exact Nat.le_refl _⟩, ⟨by repeat (first | (with_reducible first | exact HB.out | apply below_alloc | apply pw_below_drewN | apply below_drew1) | exact HB.out)⟩⟩
  · rw [if_neg c3] at H
    have c3b0 : decide (40 < (a0.size : Int)) = false := decide_eq_false c3
    have c3b1 : decide (40 < a0.size) = false := decide_eq_false (by omega)
    clear c3
    (first | rw [c3b0] | (simp only [i64_w, i32_w]; rw [c3b0]) | skip)
    have H' := Aside0.mk H
    clear H
    go_wp2
    go_meet
    case rel => exact ⟨_, ((a0.toList == ([110, 111, 100, 101, 95, 109, 111, 100, 117, 108, 101, 115] : List UInt8))), (by first | rfl | (simp; done) | (simp [*]; done)), H', ⟨by first | omega | exact Nat.le_refl _⟩, ⟨by repeat (first | (with_reducible first | exact HB.out | apply below_alloc | apply pw_below_drewN | apply below_drew1) | exact HB.out)⟩⟩
 case rest =>
  clear HC2
  try clear p2
  try clear c3
  try clear c3b0
  try clear c3b1
  obtain ⟨kq, x14_1, rfl, HA, HJ1, HB⟩ := hcut
  cases kq with
  | zero => exact absurd HA.out (by simp [names_Good.j0])
  | succ kj1 =>
   have H := HA.out
   clear HA
   simp only [names_Good.j0] at H
   by_cases c4 : x14_1 = true
   · subst c4
     have H1 : (some false) = some r := by rw [if_pos rfl] at H; exact H
     clear H
     have H := H1
     clear H1
     obtain rfl := Option.some.inj H
     go_wp2
     go_ret
     exact ⟨by first | rfl | (simp [errW_none, errW_some] <;> rfl) | (simp [*, errW_none, errW_some] <;> rfl), by repeat (first | (with_reducible first | exact HB.out | apply below_alloc | apply pw_below_drewN | apply below_drew1) | exact HB.out)⟩
   · replace c4 := Bool.eq_false_iff.mpr c4
     subst c4
     have H1 : ((strings_CutPrefix.f a0 (⟨#[64]⟩ : ByteArray)).bind fun bt199 => (if bt199.2 = true then ((strings_Cut.f bt199.1 (⟨#[47]⟩ : ByteArray)).bind fun bt201 => (if bt201.2.2 = true then ((names_plain.f kj1 bt201.1).bind fun t204 => (if t204 = true then ((names_plain.f kj1 bt201.2.1).bind fun t205 => (some t205)) else (some false))) else (some false))) else ((names_plain.f kj1 a0).bind fun t206 => (some t206)))) = some r := by rw [if_neg (show ¬ (false = true) by decide)] at H; exact H
     clear H
     have H := H1
     clear H1
     replace H := Option.bind_eq_some_iff.mp H
     obtain ⟨⟨t199, t200⟩, A50, H⟩ := H
     replace H : (if t200 = true then ((strings_Cut.f t199 (⟨#[47]⟩ : ByteArray)).bind fun bt201 => (if bt201.2.2 = true then ((names_plain.f kj1 bt201.1).bind fun t204 => (if t204 = true then ((names_plain.f kj1 bt201.2.1).bind fun t205 => (some t205)) else (some false))) else (some false))) else ((names_plain.f kj1 a0).bind fun t206 => (some t206))) = some r := H
     have A5 := Aside0.mk A50
     clear A50
     by_cases c6 : t200 = true
     · subst c6
       have H1 : ((strings_Cut.f t199 (⟨#[47]⟩ : ByteArray)).bind fun bt201 => (if bt201.2.2 = true then ((names_plain.f kj1 bt201.1).bind fun t204 => (if t204 = true then ((names_plain.f kj1 bt201.2.1).bind fun t205 => (some t205)) else (some false))) else (some false))) = some r := by rw [if_pos rfl] at H; exact H
       clear H
       have H := H1
       clear H1
       replace H := Option.bind_eq_some_iff.mp H
       obtain ⟨⟨t201, t202, t203⟩, A70, H⟩ := H
       replace H : (if t203 = true then ((names_plain.f kj1 t201).bind fun t204 => (if t204 = true then ((names_plain.f kj1 t202).bind fun t205 => (some t205)) else (some false))) else (some false)) = some r := H
       have A7 := Aside0.mk A70
       clear A70
       by_cases c8 : t203 = true
       · subst c8
         have H1 : ((names_plain.f kj1 t201).bind fun t204 => (if t204 = true then ((names_plain.f kj1 t202).bind fun t205 => (some t205)) else (some false))) = some r := by rw [if_pos rfl] at H; exact H
         clear H
         have H := H1
         clear H1
         replace H := Option.bind_eq_some_iff.mp H
         obtain ⟨t204, A90, H⟩ := H
         replace H : (if t204 = true then ((names_plain.f kj1 t202).bind fun t205 => (some t205)) else (some false)) = some r := H
         have A9 := Aside0.mk A90
         clear A90
         by_cases c10 : t204 = true
         · subst c10
           have H1 : ((names_plain.f kj1 t202).bind fun t205 => (some t205)) = some r := by rw [if_pos rfl] at H; exact H
           clear H
           have H := H1
           clear H1
           replace H := Option.bind_eq_some_iff.mp H
           obtain ⟨t205, A110, H⟩ := H
           replace H : (some t205) = some r := H
           have A11 := Aside0.mk A110
           clear A110
           obtain rfl := Option.some.inj H
           go_wp2_with (first | ((with_reducible refine gate_callee (f := 95) rfl ?_); refine goesL_ (some 17) rfl rfl Tryz.func95 (by kernel_rfl) rfl #[.string a0, .string (⟨#[64]⟩ : ByteArray)] rfl (by (try simp only [List.map_toArray, List.map_cons, List.map_nil]); first | done | rfl | (simp only [List.length_drop, List.length_take]; rfl)) ?_; (with_reducible refine (strings_CutPrefix.calls a0 (⟨#[64]⟩ : ByteArray) t199 true _ A5.out).mono ?_); rintro e w' ⟨rfl, ⟨nd, rfl⟩⟩; refine ⟨_, rfl, ?_⟩) | ((with_reducible refine gate_callee (f := 97) rfl ?_); refine goesL_ (some 26) rfl rfl Tryz.func97 (by kernel_rfl) rfl #[.string t199, .string (⟨#[47]⟩ : ByteArray)] rfl (by (try simp only [List.map_toArray, List.map_cons, List.map_nil]); first | done | rfl | (simp only [List.length_drop, List.length_take]; rfl)) ?_; (with_reducible refine (strings_Cut.calls t199 (⟨#[47]⟩ : ByteArray) t201 t202 true _ A7.out (HGL.below (by repeat (first | (with_reducible first | exact HB.out | apply below_alloc | apply pw_below_drewN | apply below_drew1) | exact HB.out)))).mono ?_); rintro e w12 ⟨rfl, hb⟩; refine ⟨_, rfl, ?_⟩; have n0_ := Aside0.mk (below_step (by repeat (first | (with_reducible first | exact HB.out | apply below_alloc | apply pw_below_drewN | apply below_drew1) | exact HB.out)) hb); clear HB; have HB := n0_; clear n0_; (try clear hb); (try clear hb2); (try clear hk); (try clear hi)) | (go_at_call 96; (with_reducible refine (names_plain.calls kj1 t201 true _ A9.out).mono ?_); rintro e w13 ⟨rfl, hb⟩; have n0_ := Aside0.mk (below_step (by repeat (first | (with_reducible first | exact HB.out | apply below_alloc | apply pw_below_drewN | apply below_drew1) | exact HB.out)) hb); clear HB; have HB := n0_; clear n0_; (try clear hb); (try clear hb2); (try clear hk); (try clear hi)) | (go_at_call 96; (with_reducible refine (names_plain.calls kj1 t202 t205 _ A11.out).mono ?_); rintro e w14 ⟨rfl, hb⟩; have n0_ := Aside0.mk (below_step (by repeat (first | (with_reducible first | exact HB.out | apply below_alloc | apply pw_below_drewN | apply below_drew1) | exact HB.out)) hb); clear HB; have HB := n0_; clear n0_; (try clear hb); (try clear hb2); (try clear hk); (try clear hi)))
           go_ret
           exact ⟨by first | rfl | (simp [errW_none, errW_some] <;> rfl) | (simp [*, errW_none, errW_some] <;> rfl), by repeat (first | (with_reducible first | exact HB.out | apply below_alloc | apply pw_below_drewN | apply below_drew1) | exact HB.out)⟩
         · replace c10 := Bool.eq_false_iff.mpr c10
           subst c10
           have H1 : (some false) = some r := by rw [if_neg (show ¬ (false = true) by decide)] at H; exact H
           clear H
           have H := H1
           clear H1
           obtain rfl := Option.some.inj H
           go_wp2_with (first | ((with_reducible refine gate_callee (f := 95) rfl ?_); refine goesL_ (some 17) rfl rfl Tryz.func95 (by kernel_rfl) rfl #[.string a0, .string (⟨#[64]⟩ : ByteArray)] rfl (by (try simp only [List.map_toArray, List.map_cons, List.map_nil]); first | done | rfl | (simp only [List.length_drop, List.length_take]; rfl)) ?_; (with_reducible refine (strings_CutPrefix.calls a0 (⟨#[64]⟩ : ByteArray) t199 true _ A5.out).mono ?_); rintro e w' ⟨rfl, ⟨nd, rfl⟩⟩; refine ⟨_, rfl, ?_⟩) | ((with_reducible refine gate_callee (f := 97) rfl ?_); refine goesL_ (some 26) rfl rfl Tryz.func97 (by kernel_rfl) rfl #[.string t199, .string (⟨#[47]⟩ : ByteArray)] rfl (by (try simp only [List.map_toArray, List.map_cons, List.map_nil]); first | done | rfl | (simp only [List.length_drop, List.length_take]; rfl)) ?_; (with_reducible refine (strings_Cut.calls t199 (⟨#[47]⟩ : ByteArray) t201 t202 true _ A7.out (HGL.below (by repeat (first | (with_reducible first | exact HB.out | apply below_alloc | apply pw_below_drewN | apply below_drew1) | exact HB.out)))).mono ?_); rintro e w15 ⟨rfl, hb⟩; refine ⟨_, rfl, ?_⟩; have n0_ := Aside0.mk (below_step (by repeat (first | (with_reducible first | exact HB.out | apply below_alloc | apply pw_below_drewN | apply below_drew1) | exact HB.out)) hb); clear HB; have HB := n0_; clear n0_; (try clear hb); (try clear hb2); (try clear hk); (try clear hi)) | (go_at_call 96; (with_reducible refine (names_plain.calls kj1 t201 false _ A9.out).mono ?_); rintro e w16 ⟨rfl, hb⟩; have n0_ := Aside0.mk (below_step (by repeat (first | (with_reducible first | exact HB.out | apply below_alloc | apply pw_below_drewN | apply below_drew1) | exact HB.out)) hb); clear HB; have HB := n0_; clear n0_; (try clear hb); (try clear hb2); (try clear hk); (try clear hi)))
           go_ret
           exact ⟨by first | rfl | (simp [errW_none, errW_some] <;> rfl) | (simp [*, errW_none, errW_some] <;> rfl), by repeat (first | (with_reducible first | exact HB.out | apply below_alloc | apply pw_below_drewN | apply below_drew1) | exact HB.out)⟩
       · replace c8 := Bool.eq_false_iff.mpr c8
         subst c8
         have H1 : (some false) = some r := by rw [if_neg (show ¬ (false = true) by decide)] at H; exact H
         clear H
         have H := H1
         clear H1
         obtain rfl := Option.some.inj H
         go_wp2_with (first | ((with_reducible refine gate_callee (f := 95) rfl ?_); refine goesL_ (some 17) rfl rfl Tryz.func95 (by kernel_rfl) rfl #[.string a0, .string (⟨#[64]⟩ : ByteArray)] rfl (by (try simp only [List.map_toArray, List.map_cons, List.map_nil]); first | done | rfl | (simp only [List.length_drop, List.length_take]; rfl)) ?_; (with_reducible refine (strings_CutPrefix.calls a0 (⟨#[64]⟩ : ByteArray) t199 true _ A5.out).mono ?_); rintro e w' ⟨rfl, ⟨nd, rfl⟩⟩; refine ⟨_, rfl, ?_⟩) | ((with_reducible refine gate_callee (f := 97) rfl ?_); refine goesL_ (some 26) rfl rfl Tryz.func97 (by kernel_rfl) rfl #[.string t199, .string (⟨#[47]⟩ : ByteArray)] rfl (by (try simp only [List.map_toArray, List.map_cons, List.map_nil]); first | done | rfl | (simp only [List.length_drop, List.length_take]; rfl)) ?_; (with_reducible refine (strings_Cut.calls t199 (⟨#[47]⟩ : ByteArray) t201 t202 false _ A7.out (HGL.below (by repeat (first | (with_reducible first | exact HB.out | apply below_alloc | apply pw_below_drewN | apply below_drew1) | exact HB.out)))).mono ?_); rintro e w17 ⟨rfl, hb⟩; refine ⟨_, rfl, ?_⟩; have n0_ := Aside0.mk (below_step (by repeat (first | (with_reducible first | exact HB.out | apply below_alloc | apply pw_below_drewN | apply below_drew1) | exact HB.out)) hb); clear HB; have HB := n0_; clear n0_; (try clear hb); (try clear hb2); (try clear hk); (try clear hi)))
         go_ret
         exact ⟨by first | rfl | (simp [errW_none, errW_some] <;> rfl) | (simp [*, errW_none, errW_some] <;> rfl), by repeat (first | (with_reducible first | exact HB.out | apply below_alloc | apply pw_below_drewN | apply below_drew1) | exact HB.out)⟩
     · replace c6 := Bool.eq_false_iff.mpr c6
       subst c6
       have H1 : ((names_plain.f kj1 a0).bind fun t206 => (some t206)) = some r := by rw [if_neg (show ¬ (false = true) by decide)] at H; exact H
       clear H
       have H := H1
       clear H1
       replace H := Option.bind_eq_some_iff.mp H
       obtain ⟨t206, A180, H⟩ := H
       replace H : (some t206) = some r := H
       have A18 := Aside0.mk A180
       clear A180
       obtain rfl := Option.some.inj H
       go_wp2_with (first | ((with_reducible refine gate_callee (f := 95) rfl ?_); refine goesL_ (some 17) rfl rfl Tryz.func95 (by kernel_rfl) rfl #[.string a0, .string (⟨#[64]⟩ : ByteArray)] rfl (by (try simp only [List.map_toArray, List.map_cons, List.map_nil]); first | done | rfl | (simp only [List.length_drop, List.length_take]; rfl)) ?_; (with_reducible refine (strings_CutPrefix.calls a0 (⟨#[64]⟩ : ByteArray) t199 false _ A5.out).mono ?_); rintro e w' ⟨rfl, ⟨nd, rfl⟩⟩; refine ⟨_, rfl, ?_⟩) | ((with_reducible refine gate_callee (f := 96) rfl ?_); refine goesL_ (some 23) rfl rfl Tryz.func96 (by kernel_rfl) rfl #[.string a0] rfl (by (try simp only [List.map_toArray, List.map_cons, List.map_nil]); first | done | rfl | (simp only [List.length_drop, List.length_take]; rfl)) ?_; (with_reducible refine (names_plain.calls kj1 a0 t206 _ A18.out).mono ?_); rintro e w19 ⟨rfl, hb⟩; refine ⟨_, rfl, ?_⟩; have n0_ := Aside0.mk (below_step (by repeat (first | (with_reducible first | exact HB.out | apply below_alloc | apply pw_below_drewN | apply below_drew1) | exact HB.out)) hb); clear HB; have HB := n0_; clear n0_; (try clear hb); (try clear hb2); (try clear hk); (try clear hi)))
       go_ret
       exact ⟨by first | rfl | (simp [errW_none, errW_some] <;> rfl) | (simp [*, errW_none, errW_some] <;> rfl), by repeat (first | (with_reducible first | exact HB.out | apply below_alloc | apply pw_below_drewN | apply below_drew1) | exact HB.out)⟩
end Go.Proofs.YteinkjhimceljaaGreatDoor.J
