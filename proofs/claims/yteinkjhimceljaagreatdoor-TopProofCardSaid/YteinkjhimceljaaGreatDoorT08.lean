/- cmp.Compare at strings, at whole numbers and at a dependency's kind. -/
import Derived.Test.YteinkjhimceljaaGreatDoorT05
import Derived.Laws.Cover1
namespace Go.Proofs.YteinkjhimceljaaGreatDoor.J
open Go.RowKit Go.Proofs.YteinkjhimceljaaGreatDoorW.PrintWords Go.Proofs.YteinkjhimceljaaGreatDoorW.PrintLast Go.Proofs.YteinkjhimceljaaGreatDoorW.PrintMore
set_option linter.unusedVariables false
set_option linter.unusedSimpArgs false
def cmpS (a b : ByteArray) : Int := if Op.bytesLess a.toList b.toList = true then -1 else if a.toList = b.toList then 0 else 1
def cmpI (a b : Int) : Int := if a < b then -1 else if a > b then 1 else 0
theorem isNaN_string (s : ByteArray) (w : World) : Calls Tryz.prog 100 #[.string s] w fun e w' => e = .returned (.bool false) ∧ w' = w := by
 have h1 : (s.toList != s.toList) = false := bne_self_eq_false _
 go_enter Tryz.func100, Tryz.ntmps100
 go_wp2
 go_ret
 exact ⟨by first | rfl | simp [h1], rfl⟩
theorem isNaN_int (s : Int) (w : World) : Calls Tryz.prog 129 #[.int .i64 s] w fun e w' => e = .returned (.bool false) ∧ w' = w := by
 have h1 : (s != s) = false := bne_self_eq_false _
 go_enter Tryz.func129, Tryz.ntmps129
 go_wp2
 go_ret
 exact ⟨by first | rfl | simp [h1], rfl⟩
theorem isNaN_kind (s : Int) (w : World) : Calls Tryz.prog 99 #[.int .i64 s] w fun e w' => e = .returned (.bool false) ∧ w' = w := by
 have h1 : (s != s) = false := bne_self_eq_false _
 go_enter Tryz.func99, Tryz.ntmps99
 go_wp2
 go_ret
 exact ⟨by first | rfl | simp [h1], rfl⟩
def cmp_Compare_string.f (a0 a1 : ByteArray) : Option (Int) := some (cmpS a0 a1)
def cmp_Compare_int.f (a0 a1 : Int) : Option (Int) := some (cmpI a0 a1)
def api_DepKind_71.f (a0 a1 : Int) : Option (Int) := some (cmpI a0 a1)
theorem cmp_Compare_string.calls (a0 : ByteArray) (a1 : ByteArray) (r : Int) (w : World) (h : cmp_Compare_string.f a0 a1 = some r) :
 Calls Tryz.prog 72 #[.string a0, .string a1] w fun e w' => e = .returned (.int .i64 r) ∧ Drawn0 w w' := by
 obtain rfl := Option.some.inj h
 unfold cmpS
 by_cases c1 : Op.bytesLess a0.toList a1.toList = true
 · rw [if_pos c1]
   go_enter Tryz.func72, Tryz.ntmps72
   go_wp2_with (go_at_call 100; refine (isNaN_string _ _).mono ?_; rintro e w' ⟨rfl, rfl⟩)
   go_ret
   exact ⟨rfl, Drawn0.refl _⟩
 · rw [if_neg c1]
   have c1b : Op.bytesLess a0.toList a1.toList = false := by simpa using c1
   clear c1
   by_cases c2 : a0.toList = a1.toList
   · rw [if_pos c2]
     have c2b : (a0.toList == a1.toList) = true := beq_iff_eq.mpr c2
     clear c2
     go_enter Tryz.func72, Tryz.ntmps72
     go_wp2_with (go_at_call 100; refine (isNaN_string _ _).mono ?_; rintro e w' ⟨rfl, rfl⟩)
     go_ret
     exact ⟨rfl, Drawn0.refl _⟩
   · rw [if_neg c2]
     have c2b : (a0.toList == a1.toList) = false := beq_eq_false_iff_ne.mpr c2
     clear c2
     go_enter Tryz.func72, Tryz.ntmps72
     go_wp2_with (go_at_call 100; refine (isNaN_string _ _).mono ?_; rintro e w' ⟨rfl, rfl⟩)
     go_ret
     exact ⟨rfl, Drawn0.refl _⟩
theorem cmp_Compare_int.calls (a0 : Int) (a1 : Int) (r : Int) (w : World) (h : cmp_Compare_int.f a0 a1 = some r) : Calls Tryz.prog 101 #[.int .i64 a0, .int .i64 a1] w fun e w' => e = .returned (.int .i64 r) ∧ Drawn0 w w' := by
 obtain rfl := Option.some.inj h
 unfold cmpI
 by_cases c1 : a0 < a1
 · rw [if_pos c1]
   (go_enter Tryz.func101, Tryz.ntmps101; go_wp2_with (go_at_call 129; refine (isNaN_int _ _).mono ?_; rintro e w' ⟨rfl, rfl⟩); go_ret; exact ⟨rfl, Drawn0.refl _⟩)
 · rw [if_neg c1]
   by_cases c2 : a0 > a1
   · rw [if_pos c2]
     (go_enter Tryz.func101, Tryz.ntmps101; go_wp2_with (go_at_call 129; refine (isNaN_int _ _).mono ?_; rintro e w' ⟨rfl, rfl⟩); go_ret; exact ⟨rfl, Drawn0.refl _⟩)
   · rw [if_neg c2]
     (go_enter Tryz.func101, Tryz.ntmps101; go_wp2_with (go_at_call 129; refine (isNaN_int _ _).mono ?_; rintro e w' ⟨rfl, rfl⟩); go_ret; exact ⟨rfl, Drawn0.refl _⟩)
theorem api_DepKind_71.calls (a0 : Int) (a1 : Int) (r : Int) (w : World) (h : api_DepKind_71.f a0 a1 = some r) : Calls Tryz.prog 71 #[.int .i64 a0, .int .i64 a1] w fun e w' => e = .returned (.int .i64 r) ∧ Drawn0 w w' := by
 obtain rfl := Option.some.inj h
 unfold cmpI
 by_cases c1 : a0 < a1
 · rw [if_pos c1]
   (go_enter Tryz.func71, Tryz.ntmps71; go_wp2_with (go_at_call 99; refine (isNaN_kind _ _).mono ?_; rintro e w' ⟨rfl, rfl⟩); go_ret; exact ⟨rfl, Drawn0.refl _⟩)
 · rw [if_neg c1]
   by_cases c2 : a0 > a1
   · rw [if_pos c2]
     (go_enter Tryz.func71, Tryz.ntmps71; go_wp2_with (go_at_call 99; refine (isNaN_kind _ _).mono ?_; rintro e w' ⟨rfl, rfl⟩); go_ret; exact ⟨rfl, Drawn0.refl _⟩)
   · rw [if_neg c2]
     (go_enter Tryz.func71, Tryz.ntmps71; go_wp2_with (go_at_call 99; refine (isNaN_kind _ _).mono ?_; rintro e w' ⟨rfl, rfl⟩); go_ret; exact ⟨rfl, Drawn0.refl _⟩)
end Go.Proofs.YteinkjhimceljaaGreatDoor.J
