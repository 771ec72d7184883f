/- The walks of version_part, version_within, version_parts, by the print over this seat. The printed functions of names and versions answer: so many rounds are enough. -/
import Derived.Test.YteinkjhimceljaaGreatDoorT05
import Derived.Test.YteinkjhimceljaaGreatDoorT08
import Derived.Test.YteinkjhimceljaaGreatDoorT06
namespace Go.Proofs.YteinkjhimceljaaGreatDoor.J
open Go.RowKit Go.Proofs.YteinkjhimceljaaGreatDoorW.PrintWords Go.Proofs.YteinkjhimceljaaGreatDoorW.PrintLast Go.Proofs.YteinkjhimceljaaGreatDoorW.PrintMore
set_option linter.unusedVariables false
set_option linter.unusedSimpArgs false
noncomputable def version_part.l0 : Nat → ByteArray → Int → Int → Option (Bool)
 | 0, _, _, _ => none
 | k + 1, x0, x10, x11 => if x11 < x10 then (if 0 ≤ x11 then (if x11 < (x0.size : Int) then (if (Go.bits .or .u8 (bt x0 x11) 32) ≥ 97 then (if ((Go.bits .or .u8 (bt x0 x11) 32) ≤ 122) then (version_part.l0 k x0 x10 (wrap64 (x11 + 1))) else (if (bt x0 x11) < 48 then (if (bt x0 x11) = 45 then (version_part.l0 k x0 x10 (wrap64 (x11 + 1))) else (some false)) else (if (bt x0 x11) > 57 then (if (bt x0 x11) = 45 then (version_part.l0 k x0 x10 (wrap64 (x11 + 1))) else (some false)) else (version_part.l0 k x0 x10 (wrap64 (x11 + 1)))))) else (if (bt x0 x11) < 48 then (if (bt x0 x11) = 45 then (version_part.l0 k x0 x10 (wrap64 (x11 + 1))) else (some false)) else (if (bt x0 x11) > 57 then (if (bt x0 x11) = 45 then (version_part.l0 k x0 x10 (wrap64 (x11 + 1))) else (some false)) else (version_part.l0 k x0 x10 (wrap64 (x11 + 1)))))) else (none)) else (none)) else ((version_number.f x0).bind fun bt170 => (if x0.toList = ([] : List UInt8) then (some false) else (if (x0.size : Int) ≤ 10 then (some (bt170.2.1 == bt170.2.2)) else (some false))))
noncomputable def version_part.f (k : Nat) (a0 : ByteArray) : Option (Bool) := version_part.l0 k a0 (a0.size : Int) 0
set_option maxHeartbeats 8000000 in
set_option maxRecDepth 100000 in
theorem version_part.calls (k : Nat) (a0 : ByteArray) (r : Bool) (w : World) (h : version_part.f k a0 = some r) (HGL : Glob w) :
 Calls Tryz.prog 122 #[.string a0] w fun e w' => e = .returned (.bool r) ∧ Below w.heap.size w w' := by
 have HB := Aside0.mk (Below.refl w.heap.size w)
 have H : (version_part.l0 k a0 (a0.size : Int) 0) = some r := h
 clear h
 have H' := Aside0.mk H
 clear H
 go_enter Tryz.func122, Tryz.ntmps122
 go_wp2
 go_loopg [11] k (fun kq v11 w' => ∃ (x11_1 : Int), v11 = .int .i64 x11_1 ∧ Aside0 (version_part.l0 kq a0 (a0.size : Int) x11_1 = some r) ∧ Aside0 (kq ≤ k) ∧ Aside0 (Below w.heap.size w w'))
 case atStart => exact ⟨(0), (by first | rfl | (simp; done) | (simp [*]; done)), H', ⟨Nat.le_refl _⟩, ⟨by repeat (first | (with_reducible first | exact HB.out | apply below_alloc | apply pw_below_drewN | apply below_drew1) | exact HB.out)⟩⟩
 case round =>
  clear H'
  try clear c1
  obtain ⟨x11_1, rfl, HA, HK1, HB⟩ := hrel
  cases gk with
  | zero => exact absurd HA.out (by simp [version_part.l0])
  | succ k1 =>
   have H := HA.out
   clear HA
   simp only [version_part.l0] at H
   by_cases c2 : x11_1 < (a0.size : Int)
   · rw [if_pos c2] at H
     have c2b0 : decide (x11_1 < (a0.size : Int)) = true := decide_eq_true c2
     clear c2
     by_cases c3 : 0 ≤ x11_1
     · rw [if_pos c3] at H
       have c3b0 : decide (0 ≤ x11_1) = true := decide_eq_true c3
       clear c3
       by_cases c4 : x11_1 < (a0.size : Int)
       · rw [if_pos c4] at H
         have c4b0 : decide (x11_1 < (a0.size : Int)) = true := decide_eq_true c4
         clear c4
         by_cases c6 : (Go.bits .or .u8 (bt a0 x11_1) 32) ≥ 97
         · rw [if_pos c6] at H
           have c6b0 : decide (97 ≤ (Go.bits .or .u8 (bt a0 x11_1) 32)) = true := decide_eq_true c6
           clear c6
           by_cases c7 : ((Go.bits .or .u8 (bt a0 x11_1) 32) ≤ 122)
           · rw [if_pos c7] at H
             have c7b0 : decide ((Go.bits .or .u8 (bt a0 x11_1) 32) ≤ 122) = true := decide_eq_true c7
             clear c7
             have H' := Aside0.mk H
             clear H
             have p5 : 0 ≤ (x11_1 : Int) := of_decide_eq_true (by first | (with_reducible assumption) | assumption)
             have q5 : x11_1 < (a0.size : Int) := of_decide_eq_true (by first | (with_reducible assumption) | assumption)
             have hx5 := bt_at a0 x11_1
             replace p5 := eq_true p5
             replace q5 := eq_true q5
             go_wp2
             go_roundg k1
             case measure => have := HK1.out; omega
             case rel => exact ⟨(wrap64 (x11_1 + 1)), (by first | rfl | (simp; done) | (simp [*]; done)), H', ⟨by have := HK1.out; omega⟩, ⟨by repeat (first | (with_reducible first | exact HB.out | apply below_alloc | apply pw_below_drewN | apply below_drew1) | exact HB.out)⟩⟩
           · rw [if_neg c7] at H
             have c7b0 : decide ((Go.bits .or .u8 (bt a0 x11_1) 32) ≤ 122) = false := decide_eq_false c7
             clear c7
             by_cases c8 : (bt a0 x11_1) < 48
             · rw [if_pos c8] at H
               have c8b0 : decide ((bt a0 x11_1) < 48) = true := decide_eq_true c8
               clear c8
               by_cases c9 : (bt a0 x11_1) = 45
               · rw [if_pos c9] at H
                 have c9b0 : ((bt a0 x11_1) == 45) = true := beq_iff_eq.mpr c9
                 have c9b1 : ((bt a0 x11_1) != 45) = false := bne_eq_false_iff_eq.mpr c9
                 clear c9
                 have H' := Aside0.mk H
                 clear H
                 have p5 : 0 ≤ (x11_1 : Int) := of_decide_eq_true (by first | (with_reducible assumption) | assumption)
                 have q5 : x11_1 < (a0.size : Int) := of_decide_eq_true (by first | (with_reducible assumption) | assumption)
                 have hx5 := bt_at a0 x11_1
                 replace p5 := eq_true p5
                 replace q5 := eq_true q5
                 go_wp2
                 go_roundg k1
                 case measure => have := HK1.out; omega
                 case rel => exact ⟨(wrap64 (x11_1 + 1)), (by first | rfl | (simp; done) | (simp [*]; done)), H', ⟨by have := HK1.out; omega⟩, ⟨by repeat (first | (with_reducible first | exact HB.out | apply below_alloc | apply pw_below_drewN | apply below_drew1) | exact HB.out)⟩⟩
               · rw [if_neg c9] at H
                 have c9b0 : ((bt a0 x11_1) == 45) = false := beq_eq_false_iff_ne.mpr c9
                 have c9b1 : ((bt a0 x11_1) != 45) = true := bne_iff_ne.mpr c9
                 obtain rfl := Option.some.inj H
                 have p5 : 0 ≤ (x11_1 : Int) := of_decide_eq_true (by first | (with_reducible assumption) | assumption)
                 have q5 : x11_1 < (a0.size : Int) := of_decide_eq_true (by first | (with_reducible assumption) | assumption)
                 have hx5 := bt_at a0 x11_1
                 replace p5 := eq_true p5
                 replace q5 := eq_true q5
                 go_wp2
                 go_ret
                 exact ⟨by first | rfl | (simp [errW_none, errW_some] <;> rfl) | (simp [*, errW_none, errW_some] <;> rfl), by repeat (first | (with_reducible first | exact HB.out | apply below_alloc | apply pw_below_drewN | apply below_drew1) | exact HB.out)⟩
             · rw [if_neg c8] at H
               have c8b0 : decide ((bt a0 x11_1) < 48) = false := decide_eq_false c8
               clear c8
               by_cases c10 : (bt a0 x11_1) > 57
               · rw [if_pos c10] at H
                 have c10b0 : decide (57 < (bt a0 x11_1)) = true := decide_eq_true c10
                 clear c10
                 by_cases c11 : (bt a0 x11_1) = 45
                 · rw [if_pos c11] at H
                   have c11b0 : ((bt a0 x11_1) == 45) = true := beq_iff_eq.mpr c11
                   have c11b1 : ((bt a0 x11_1) != 45) = false := bne_eq_false_iff_eq.mpr c11
                   clear c11
                   have H' := Aside0.mk H
                   clear H
                   have p5 : 0 ≤ (x11_1 : Int) := of_decide_eq_true (by first | (with_reducible assumption) | assumption)
                   have q5 : x11_1 < (a0.size : Int) := of_decide_eq_true (by first | (with_reducible assumption) | assumption)
                   have hx5 := bt_at a0 x11_1
                   replace p5 := eq_true p5
                   replace q5 := eq_true q5
                   go_wp2
                   go_roundg k1
                   case measure => have := HK1.out; omega
                   case rel => exact ⟨(wrap64 (x11_1 + 1)), (by first | rfl | (simp; done) | (simp [*]; done)), H', ⟨by have := HK1.out; omega⟩, ⟨by repeat (first | (with_reducible first | exact HB.out | apply below_alloc | apply pw_below_drewN | apply below_drew1) | exact HB.out)⟩⟩
                 · rw [if_neg c11] at H
                   have c11b0 : ((bt a0 x11_1) == 45) = false := beq_eq_false_iff_ne.mpr c11
                   have c11b1 : ((bt a0 x11_1) != 45) = true := bne_iff_ne.mpr c11
                   obtain rfl := Option.some.inj H
                   have p5 : 0 ≤ (x11_1 : Int) := of_decide_eq_true (by first | (with_reducible assumption) | assumption)
                   have q5 : x11_1 < (a0.size : Int) := of_decide_eq_true (by first | (with_reducible assumption) | assumption)
                   have hx5 := bt_at a0 x11_1
                   replace p5 := eq_true p5
                   replace q5 := eq_true q5
                   go_wp2
                   go_ret
                   exact ⟨by first | rfl | (simp [errW_none, errW_some] <;> rfl) | (simp [*, errW_none, errW_some] <;> rfl), by repeat (first | (with_reducible first | exact HB.out | apply below_alloc | apply pw_below_drewN | apply below_drew1) | exact HB.out)⟩
               · rw [if_neg c10] at H
                 have c10b0 : decide (57 < (bt a0 x11_1)) = false := decide_eq_false c10
                 clear c10
                 have H' := Aside0.mk H
                 clear H
                 have p5 : 0 ≤ (x11_1 : Int) := of_decide_eq_true (by first | (with_reducible assumption) | assumption)
                 have q5 : x11_1 < (a0.size : Int) := of_decide_eq_true (by first | (with_reducible assumption) | assumption)
                 have hx5 := bt_at a0 x11_1
                 replace p5 := eq_true p5
                 replace q5 := eq_true q5
                 go_wp2
                 go_roundg k1
                 case measure => have := HK1.out; omega
                 case rel => exact ⟨(wrap64 (x11_1 + 1)), (by first | rfl | (simp; done) | (simp [*]; done)), H', ⟨by have := HK1.out; omega⟩, ⟨by repeat (first | (with_reducible first | exact HB.out | apply below_alloc | apply pw_below_drewN | apply below_drew1) | exact HB.out)⟩⟩
         · rw [if_neg c6] at H
           have c6b0 : decide (97 ≤ (Go.bits .or .u8 (bt a0 x11_1) 32)) = false := decide_eq_false c6
           clear c6
           by_cases c12 : (bt a0 x11_1) < 48
           · rw [if_pos c12] at H
             have c12b0 : decide ((bt a0 x11_1) < 48) = true := decide_eq_true c12
             clear c12
             by_cases c13 : (bt a0 x11_1) = 45
             · rw [if_pos c13] at H
               have c13b0 : ((bt a0 x11_1) == 45) = true := beq_iff_eq.mpr c13
               have c13b1 : ((bt a0 x11_1) != 45) = false := bne_eq_false_iff_eq.mpr c13
               clear c13
               have H' := Aside0.mk H
               clear H
               have p5 : 0 ≤ (x11_1 : Int) := of_decide_eq_true (by first | (with_reducible assumption) | assumption)
               have q5 : x11_1 < (a0.size : Int) := of_decide_eq_true (by first | (with_reducible assumption) | assumption)
               have hx5 := bt_at a0 x11_1
               replace p5 := eq_true p5
               replace q5 := eq_true q5
               go_wp2
               go_roundg k1
               case measure => have := HK1.out; omega
               case rel => exact ⟨(wrap64 (x11_1 + 1)), (by first | rfl | (simp; done) | (simp [*]; done)), H', ⟨by have := HK1.out; omega⟩, ⟨by repeat (first | (with_reducible first | exact HB.out | apply below_alloc | apply pw_below_drewN | apply below_drew1) | exact HB.out)⟩⟩
             · rw [if_neg c13] at H
               have c13b0 : ((bt a0 x11_1) == 45) = false := beq_eq_false_iff_ne.mpr c13
               have c13b1 : ((bt a0 x11_1) != 45) = true := bne_iff_ne.mpr c13
               obtain rfl := Option.some.inj H
               have p5 : 0 ≤ (x11_1 : Int) := of_decide_eq_true (by first | (with_reducible assumption) | assumption)
               have q5 : x11_1 < (a0.size : Int) := of_decide_eq_true (by first | (with_reducible assumption) | assumption)
               have hx5 := bt_at a0 x11_1
               replace p5 := eq_true p5
               replace q5 := eq_true q5
               go_wp2
               go_ret
               exact ⟨by first | rfl | (simp [errW_none, errW_some] <;> rfl) | (simp [*, errW_none, errW_some] <;> rfl), by repeat (first | (with_reducible first | exact HB.out | apply below_alloc | apply pw_below_drewN | apply below_drew1) | exact HB.out)⟩
           · rw [if_neg c12] at H
             have c12b0 : decide ((bt a0 x11_1) < 48) = false := decide_eq_false c12
             clear c12
             by_cases c14 : (bt a0 x11_1) > 57
             · rw [if_pos c14] at H
               have c14b0 : decide (57 < (bt a0 x11_1)) = true := decide_eq_true c14
               clear c14
               by_cases c15 : (bt a0 x11_1) = 45
               · rw [if_pos c15] at H
                 have c15b0 : ((bt a0 x11_1) == 45) = true := beq_iff_eq.mpr c15
                 have c15b1 : ((bt a0 x11_1) != 45) = false := bne_eq_false_iff_eq.mpr c15
                 clear c15
                 have H' := Aside0.mk H
                 clear H
                 have p5 : 0 ≤ (x11_1 : Int) := of_decide_eq_true (by first | (with_reducible assumption) | assumption)
                 have q5 : x11_1 < (a0.size : Int) := of_decide_eq_true (by first | (with_reducible assumption) | assumption)
                 have hx5 := bt_at a0 x11_1
                 replace p5 := eq_true p5
                 replace q5 := eq_true q5
                 go_wp2
                 go_roundg k1
                 case measure => have := HK1.out; omega
                 case rel => exact ⟨(wrap64 (x11_1 + 1)), (by first | rfl | (simp; done) | (simp [*]; done)), H', ⟨by have := HK1.out; omega⟩, ⟨by repeat (first | (with_reducible first | exact HB.out | apply below_alloc | apply pw_below_drewN | apply below_drew1) | exact HB.out)⟩⟩
               · rw [if_neg c15] at H
                 have c15b0 : ((bt a0 x11_1) == 45) = false := beq_eq_false_iff_ne.mpr c15
                 have c15b1 : ((bt a0 x11_1) != 45) = true := bne_iff_ne.mpr c15
                 obtain rfl := Option.some.inj H
                 have p5 : 0 ≤ (x11_1 : Int) := of_decide_eq_true (by first | (with_reducible assumption) | assumption)
                 have q5 : x11_1 < (a0.size : Int) := of_decide_eq_true (by first | (with_reducible assumption) | assumption)
                 have hx5 := bt_at a0 x11_1
                 replace p5 := eq_true p5
                 replace q5 := eq_true q5
                 go_wp2
                 go_ret
                 exact ⟨by first | rfl | (simp [errW_none, errW_some] <;> rfl) | (simp [*, errW_none, errW_some] <;> rfl), by repeat (first | (with_reducible first | exact HB.out | apply below_alloc | apply pw_below_drewN | apply below_drew1) | exact HB.out)⟩
             · rw [if_neg c14] at H
               have c14b0 : decide (57 < (bt a0 x11_1)) = false := decide_eq_false c14
               clear c14
               have H' := Aside0.mk H
               clear H
               have p5 : 0 ≤ (x11_1 : Int) := of_decide_eq_true (by first | (with_reducible assumption) | assumption)
               have q5 : x11_1 < (a0.size : Int) := of_decide_eq_true (by first | (with_reducible assumption) | assumption)
               have hx5 := bt_at a0 x11_1
               replace p5 := eq_true p5
               replace q5 := eq_true q5
               go_wp2
               go_roundg k1
               case measure => have := HK1.out; omega
               case rel => exact ⟨(wrap64 (x11_1 + 1)), (by first | rfl | (simp; done) | (simp [*]; done)), H', ⟨by have := HK1.out; omega⟩, ⟨by repeat (first | (with_reducible first | exact HB.out | apply below_alloc | apply pw_below_drewN | apply below_drew1) | exact HB.out)⟩⟩
       · rw [if_neg c4] at H
         exact absurd H (by simp)
     · rw [if_neg c3] at H
       exact absurd H (by simp)
   · rw [if_neg c2] at H
     have c2b0 : decide (x11_1 < (a0.size : Int)) = false := decide_eq_false c2
     clear c2
     replace H := Option.bind_eq_some_iff.mp H
     obtain ⟨⟨t170, t171, t172⟩, A160, H⟩ := H
     replace H : (if a0.toList = ([] : List UInt8) then (some false) else (if (a0.size : Int) ≤ 10 then (some (t171 == t172)) else (some false))) = some r := H
     have A16 := Aside0.mk A160
     clear A160
     by_cases c17 : a0.toList = ([] : List UInt8)
     · rw [if_pos c17] at H
       have c17b0 : (a0.toList == ([] : List UInt8)) = true := beq_iff_eq.mpr c17
       have c17b1 : (a0.toList != ([] : List UInt8)) = false := bne_eq_false_iff_eq.mpr c17
       clear c17
       obtain rfl := Option.some.inj H
       go_wp2_with (first | ((with_reducible refine gate_callee (f := 131) rfl ?_); refine goesL_ (some 42) rfl rfl Tryz.func131 (by kernel_rfl) rfl #[.string a0] rfl (by (try simp only [List.map_toArray, List.map_cons, List.map_nil]); first | done | rfl | (simp only [List.length_drop, List.length_take]; rfl)) ?_; (with_reducible refine (version_number.calls a0 t170 t171 t172 _ A16.out (HGL.below (by repeat (first | (with_reducible first | exact HB.out | apply below_alloc | apply pw_below_drewN | apply below_drew1) | exact HB.out)))).mono ?_); rintro e w18 ⟨rfl, hb⟩; refine ⟨_, rfl, ?_⟩; have n0_ := Aside0.mk (below_step (by repeat (first | (with_reducible first | exact HB.out | apply below_alloc | apply pw_below_drewN | apply below_drew1) | exact HB.out)) hb); clear HB; have HB := n0_; clear n0_; (try clear hb); (try clear hb2); (try clear hk); (try clear hi)))
       go_ret
       exact ⟨by first | rfl | (simp [errW_none, errW_some] <;> rfl) | (simp [*, errW_none, errW_some] <;> rfl), by repeat (first | (with_reducible first | exact HB.out | apply below_alloc | apply pw_below_drewN | apply below_drew1) | exact HB.out)⟩
     · rw [if_neg c17] at H
       have c17b0 : (a0.toList == ([] : List UInt8)) = false := beq_eq_false_iff_ne.mpr c17
       have c17b1 : (a0.toList != ([] : List UInt8)) = true := bne_iff_ne.mpr c17
       by_cases c19 : (a0.size : Int) ≤ 10
       · rw [if_pos c19] at H
         have c19b0 : decide ((a0.size : Int) ≤ 10) = true := decide_eq_true c19
         have c19b1 : decide (a0.size ≤ 10) = true := decide_eq_true (by omega)
         clear c19
         obtain rfl := Option.some.inj H
         go_wp2_with (first | ((with_reducible refine gate_callee (f := 131) rfl ?_); refine goesL_ (some 42) rfl rfl Tryz.func131 (by kernel_rfl) rfl #[.string a0] rfl (by (try simp only [List.map_toArray, List.map_cons, List.map_nil]); first | done | rfl | (simp only [List.length_drop, List.length_take]; rfl)) ?_; (with_reducible refine (version_number.calls a0 t170 t171 t172 _ A16.out (HGL.below (by repeat (first | (with_reducible first | exact HB.out | apply below_alloc | apply pw_below_drewN | apply below_drew1) | exact HB.out)))).mono ?_); rintro e w20 ⟨rfl, hb⟩; refine ⟨_, rfl, ?_⟩; have n0_ := Aside0.mk (below_step (by repeat (first | (with_reducible first | exact HB.out | apply below_alloc | apply pw_below_drewN | apply below_drew1) | exact HB.out)) hb); clear HB; have HB := n0_; clear n0_; (try clear hb); (try clear hb2); (try clear hk); (try clear hi)))
         go_ret
         exact ⟨by first | rfl | (simp [errW_none, errW_some] <;> rfl) | (simp [*, errW_none, errW_some] <;> rfl), by repeat (first | (with_reducible first | exact HB.out | apply below_alloc | apply pw_below_drewN | apply below_drew1) | exact HB.out)⟩
       · rw [if_neg c19] at H
         have c19b0 : decide ((a0.size : Int) ≤ 10) = false := decide_eq_false c19
         have c19b1 : decide (a0.size ≤ 10) = false := decide_eq_false (by omega)
         clear c19
         obtain rfl := Option.some.inj H
         go_wp2_with (first | ((with_reducible refine gate_callee (f := 131) rfl ?_); refine goesL_ (some 42) rfl rfl Tryz.func131 (by kernel_rfl) rfl #[.string a0] rfl (by (try simp only [List.map_toArray, List.map_cons, List.map_nil]); first | done | rfl | (simp only [List.length_drop, List.length_take]; rfl)) ?_; (with_reducible refine (version_number.calls a0 t170 t171 t172 _ A16.out (HGL.below (by repeat (first | (with_reducible first | exact HB.out | apply below_alloc | apply pw_below_drewN | apply below_drew1) | exact HB.out)))).mono ?_); rintro e w21 ⟨rfl, hb⟩; refine ⟨_, rfl, ?_⟩; have n0_ := Aside0.mk (below_step (by repeat (first | (with_reducible first | exact HB.out | apply below_alloc | apply pw_below_drewN | apply below_drew1) | exact HB.out)) hb); clear HB; have HB := n0_; clear n0_; (try clear hb); (try clear hb2); (try clear hk); (try clear hi)))
         go_ret
         exact ⟨by first | rfl | (simp [errW_none, errW_some] <;> rfl) | (simp [*, errW_none, errW_some] <;> rfl), by repeat (first | (with_reducible first | exact HB.out | apply below_alloc | apply pw_below_drewN | apply below_drew1) | exact HB.out)⟩
noncomputable def version_within.l0 : Nat → List Int → Int → Int → Option (Bool)
 | 0, _, _, _ => none
 | k + 1, x5, x6, x7 => if x7 < x6 then (if 0 ≤ x7 then (if x7 < (x5.length : Int) then (if (rd x5 x7) < 0 then (some false) else (if (rd x5 x7) > 999999 then (some false) else (version_within.l0 k x5 x6 (wrap64 (x7 + 1))))) else (none)) else (none)) else (some true)
noncomputable def version_within.f (k : Nat) (l0 : List Int) : Option (Bool) := version_within.l0 k l0 (l0.length : Int) 0
set_option maxHeartbeats 8000000 in
set_option maxRecDepth 100000 in
theorem version_within.calls (k : Nat) (A0 : Option Addr) (c0 : Nat) (l0 : List Int) (r : Bool) (w : World) (hr0 : Kd.C (Kd.int .i64) w A0 l0.length l0) (hc0 : l0.length ≤ c0) (h : version_within.f k l0 = some r) :
 Calls Tryz.prog 123 #[.slice A0 l0.length c0] w fun e w' => e = .returned (.bool r) ∧ Drawn0 w w' := by
 have HR0 := Aside0.mk hr0
 have HC0 := Aside0.mk hc0
 clear hr0 hc0
 have H : (version_within.l0 k l0 (l0.length : Int) 0) = some r := h
 clear h
 have H' := Aside0.mk H
 clear H
 go_enter Tryz.func123, Tryz.ntmps123
 go_wp2
 go_loopg [7] k (fun kq v7 w' => ∃ (x7_1 : Int), v7 = .int .i64 x7_1 ∧ Aside0 (version_within.l0 kq l0 (l0.length : Int) x7_1 = some r) ∧ Aside0 (kq ≤ k) ∧ Drawn0 w w')
 case atStart => exact ⟨(0), (by first | rfl | (simp; done) | (simp [*]; done)), H', ⟨Nat.le_refl _⟩, by repeat (first | exact Drawn0.refl _ | apply Drawn0.step)⟩
 case round =>
  clear H'
  try clear c1
  obtain ⟨x7_1, rfl, HA, HK1, ⟨m1, rfl⟩⟩ := hrel
  cases gk with
  | zero => exact absurd HA.out (by simp [version_within.l0])
  | succ k1 =>
   have H := HA.out
   clear HA
   simp only [version_within.l0] at H
   by_cases c2 : x7_1 < (l0.length : Int)
   · rw [if_pos c2] at H
     have c2b0 : decide (x7_1 < (l0.length : Int)) = true := decide_eq_true c2
     clear c2
     by_cases c3 : 0 ≤ x7_1
     · rw [if_pos c3] at H
       have c3b0 : decide (0 ≤ x7_1) = true := decide_eq_true c3
       clear c3
       by_cases c4 : x7_1 < (l0.length : Int)
       · rw [if_pos c4] at H
         have c4b0 : decide (x7_1 < (l0.length : Int)) = true := decide_eq_true c4
         clear c4
         by_cases c5 : (rd l0 x7_1) < 0
         · rw [if_pos c5] at H
           have c5b0 : decide ((rd l0 x7_1) < 0) = true := decide_eq_true c5
           clear c5
           obtain rfl := Option.some.inj H
           have p173 : 0 ≤ (x7_1 : Int) := of_decide_eq_true (by first | (with_reducible assumption) | assumption)
           have q173 : x7_1 < (l0.length : Int) := of_decide_eq_true (by first | (with_reducible assumption) | assumption)
           obtain ⟨ad173, e173, hx173_0⟩ := Kd.at_int HR0.out x7_1 p173 q173
           cases e173
           replace p173 := eq_true p173
           replace q173 := eq_true q173
           go_wp2
           go_ret
           exact ⟨by first | rfl | (simp; done) | (simp [*]; done), by repeat (first | exact Drawn0.refl _ | apply Drawn0.step)⟩
         · rw [if_neg c5] at H
           have c5b0 : decide ((rd l0 x7_1) < 0) = false := decide_eq_false c5
           clear c5
           by_cases c6 : (rd l0 x7_1) > 999999
           · rw [if_pos c6] at H
             have c6b0 : decide (999999 < (rd l0 x7_1)) = true := decide_eq_true c6
             clear c6
             obtain rfl := Option.some.inj H
             have p173 : 0 ≤ (x7_1 : Int) := of_decide_eq_true (by first | (with_reducible assumption) | assumption)
             have q173 : x7_1 < (l0.length : Int) := of_decide_eq_true (by first | (with_reducible assumption) | assumption)
             obtain ⟨ad173, e173, hx173_0⟩ := Kd.at_int HR0.out x7_1 p173 q173
             cases e173
             replace p173 := eq_true p173
             replace q173 := eq_true q173
             go_wp2
             go_ret
             exact ⟨by first | rfl | (simp; done) | (simp [*]; done), by repeat (first | exact Drawn0.refl _ | apply Drawn0.step)⟩
           · rw [if_neg c6] at H
             have c6b0 : decide (999999 < (rd l0 x7_1)) = false := decide_eq_false c6
             clear c6
             have H' := Aside0.mk H
             clear H
             have p173 : 0 ≤ (x7_1 : Int) := of_decide_eq_true (by first | (with_reducible assumption) | assumption)
             have q173 : x7_1 < (l0.length : Int) := of_decide_eq_true (by first | (with_reducible assumption) | assumption)
             obtain ⟨ad173, e173, hx173_0⟩ := Kd.at_int HR0.out x7_1 p173 q173
             cases e173
             replace p173 := eq_true p173
             replace q173 := eq_true q173
             go_wp2
             go_roundg k1
             case measure => have := HK1.out; omega
             case rel => exact ⟨(wrap64 (x7_1 + 1)), (by first | rfl | (simp; done) | (simp [*]; done)), H', ⟨by have := HK1.out; omega⟩, by repeat (first | exact Drawn0.refl _ | apply Drawn0.step)⟩
       · rw [if_neg c4] at H
         exact absurd H (by simp)
     · rw [if_neg c3] at H
       exact absurd H (by simp)
   · rw [if_neg c2] at H
     have c2b0 : decide (x7_1 < (l0.length : Int)) = false := decide_eq_false c2
     clear c2
     obtain rfl := Option.some.inj H
     go_wp2
     go_ret
     exact ⟨by first | rfl | (simp; done) | (simp [*]; done), by repeat (first | exact Drawn0.refl _ | apply Drawn0.step)⟩
noncomputable def version_parts.j0 : Nat → ByteArray → ByteArray → Int → Bool → Int → Bool → Bool → Option (Int)
 | 0, _, _, _, _, _, _, _ => none
 | k + 1, x0, x1, x5, x6, x8, x9, x23 => if x23 = true then ((cmp_Compare_int.f x5 x8).bind fun t184 => (some t184)) else (if x6 = true then (some (-1)) else (if x9 = true then (some 1) else ((cmp_Compare_string.f x0 x1).bind fun t185 => (some t185))))
noncomputable def version_parts.f (k : Nat) (a0 : ByteArray) (a1 : ByteArray) : Option (Int) := (version_number.f a0).bind fun bt178 => ((version_number.f a1).bind fun bt181 => (if bt178.2.1 = true then (version_parts.j0 k a0 a1 bt178.1 bt178.2.1 bt181.1 bt181.2.1 bt181.2.1) else (version_parts.j0 k a0 a1 bt178.1 bt178.2.1 bt181.1 bt181.2.1 false)))
set_option maxHeartbeats 8000000 in
set_option maxRecDepth 100000 in
theorem version_parts.calls (k : Nat) (a0 : ByteArray) (a1 : ByteArray) (r : Int) (w : World) (h : version_parts.f k a0 a1 = some r) (HGL : Glob w) :
 Calls Tryz.prog 104 #[.string a0, .string a1] w fun e w' => e = .returned (.int .i64 r) ∧ Below w.heap.size w w' := by
 have HB := Aside0.mk (Below.refl w.heap.size w)
 have H : ((version_number.f a0).bind fun bt178 => ((version_number.f a1).bind fun bt181 => (if bt178.2.1 = true then (version_parts.j0 k a0 a1 bt178.1 bt178.2.1 bt181.1 bt181.2.1 bt181.2.1) else (version_parts.j0 k a0 a1 bt178.1 bt178.2.1 bt181.1 bt181.2.1 false)))) = some r := h
 clear h
 replace H := Option.bind_eq_some_iff.mp H
 obtain ⟨⟨t178, t179, t180⟩, A30, H⟩ := H
 replace H : ((version_number.f a1).bind fun bt181 => (if t179 = true then (version_parts.j0 k a0 a1 t178 t179 bt181.1 bt181.2.1 bt181.2.1) else (version_parts.j0 k a0 a1 t178 t179 bt181.1 bt181.2.1 false))) = some r := H
 have A3 := Aside0.mk A30
 clear A30
 replace H := Option.bind_eq_some_iff.mp H
 obtain ⟨⟨t181, t182, t183⟩, A40, H⟩ := H
 replace H : (if t179 = true then (version_parts.j0 k a0 a1 t178 t179 t181 t182 t182) else (version_parts.j0 k a0 a1 t178 t179 t181 t182 false)) = some r := H
 have A4 := Aside0.mk A40
 clear A40
 have HC5 := Aside0.mk H
 clear H
 go_enter Tryz.func104, Tryz.ntmps104
 go_upto_region 3 with (first | ((with_reducible refine gate_callee (f := 131) rfl ?_); refine goesL_ (some 13) rfl rfl Tryz.func131 (by kernel_rfl) rfl #[.string a0] rfl (by (try simp only [List.map_toArray, List.map_cons, List.map_nil]); first | done | rfl | (simp only [List.length_drop, List.length_take]; rfl)) ?_; (with_reducible refine (version_number.calls a0 t178 t179 t180 _ A3.out (HGL.below (by repeat (first | (with_reducible first | exact HB.out | apply below_alloc | apply pw_below_drewN | apply below_drew1) | exact HB.out)))).mono ?_); rintro e w6 ⟨rfl, hb⟩; refine ⟨_, rfl, ?_⟩; have n0_ := Aside0.mk (below_step (by repeat (first | (with_reducible first | exact HB.out | apply below_alloc | apply pw_below_drewN | apply below_drew1) | exact HB.out)) hb); clear HB; have HB := n0_; clear n0_; (try clear hb); (try clear hb2); (try clear hk); (try clear hi)) | ((with_reducible refine gate_callee (f := 131) rfl ?_); refine goesL_ (some 19) rfl rfl Tryz.func131 (by kernel_rfl) rfl #[.string a1] rfl (by (try simp only [List.map_toArray, List.map_cons, List.map_nil]); first | done | rfl | (simp only [List.length_drop, List.length_take]; rfl)) ?_; (with_reducible refine (version_number.calls a1 t181 t182 t183 _ A4.out (HGL.below (by repeat (first | (with_reducible first | exact HB.out | apply below_alloc | apply pw_below_drewN | apply below_drew1) | exact HB.out)))).mono ?_); rintro e w7 ⟨rfl, hb⟩; refine ⟨_, rfl, ?_⟩; have n0_ := Aside0.mk (below_step (by repeat (first | (with_reducible first | exact HB.out | apply below_alloc | apply pw_below_drewN | apply below_drew1) | exact HB.out)) hb); clear HB; have HB := n0_; clear n0_; (try clear hb); (try clear hb2); (try clear hk); (try clear hi)))
 (try simp only [Act.put, List.setIfInBounds_toArray, List.set_cons_zero, List.set_cons_succ])
 go_cut [23] (fun v23 wc => ∃ (kq : Nat) (x23_4 : Bool), v23 = .bool x23_4 ∧ Aside0 (version_parts.j0 kq a0 a1 t178 t179 t181 t182 x23_4 = some r) ∧ Aside0 (kq ≤ k) ∧ Aside0 (Below w.heap.size w wc))
 case first =>
  have H := HC5.out
  clear HC5
  by_cases c8 : t179 = true
  · subst c8
    have H1 : (version_parts.j0 k a0 a1 t178 true t181 t182 t182) = some r := by rw [if_pos rfl] at H; exact H
    clear H
    have H := H1
    clear H1
    have H' := Aside0.mk H
    clear H
    go_wp2
    go_meet
    case rel => exact ⟨_, (t182), (by first | rfl | (simp; done) | (simp [*]; done)), H', ⟨by first | omega | exact Nat.le_refl _⟩, ⟨by repeat (first | (with_reducible first | exact HB.out | apply below_alloc | apply pw_below_drewN | apply below_drew1) | exact HB.out)⟩⟩
  · replace c8 := Bool.eq_false_iff.mpr c8
    subst c8
    have H1 : (version_parts.j0 k a0 a1 t178 false t181 t182 false) = some r := by rw [if_neg (show ¬ (false = true) by decide)] at H; exact H
    clear H
    have H := H1
    clear H1
    have H' := Aside0.mk H
    clear H
    go_wp2
    go_meet
    case rel => exact ⟨_, (false), (by first | rfl | (simp; done) | (simp [*]; done)), H', ⟨by first | omega | exact Nat.le_refl _⟩, ⟨by repeat (first | (with_reducible first | exact HB.out | apply below_alloc | apply pw_below_drewN | apply below_drew1) | exact HB.out)⟩⟩
 case rest =>
  clear HC5
  try clear c1
  try clear p2
  try clear c8
  obtain ⟨kq, x23_4, rfl, HA, HJ4, HB⟩ := hcut
  cases kq with
  | zero => exact absurd HA.out (by simp [version_parts.j0])
  | succ kj4 =>
   have H := HA.out
   clear HA
   simp only [version_parts.j0] at H
   by_cases c9 : x23_4 = true
   · subst c9
     have H1 : ((cmp_Compare_int.f t178 t181).bind fun t184 => (some t184)) = some r := by rw [if_pos rfl] at H; exact H
     clear H
     have H := H1
     clear H1
     replace H := Option.bind_eq_some_iff.mp H
     obtain ⟨t184, A100, H⟩ := H
     replace H : (some t184) = some r := H
     have A10 := Aside0.mk A100
     clear A100
     obtain rfl := Option.some.inj H
     go_wp2_with (first | ((with_reducible refine gate_callee (f := 101) rfl ?_); refine goesL_ (some 30) rfl rfl Tryz.func101 (by kernel_rfl) rfl #[.int .i64 t178, .int .i64 t181] rfl (by (try simp only [List.map_toArray, List.map_cons, List.map_nil]); first | done | rfl | (simp only [List.length_drop, List.length_take]; rfl)) ?_; (with_reducible refine (cmp_Compare_int.calls t178 t181 t184 _ A10.out).mono ?_); rintro e w' ⟨rfl, ⟨nd, rfl⟩⟩; refine ⟨_, rfl, ?_⟩))
     go_ret
     exact ⟨by first | rfl | (simp [errW_none, errW_some] <;> rfl) | (simp [*, errW_none, errW_some] <;> rfl), by repeat (first | (with_reducible first | exact HB.out | apply below_alloc | apply pw_below_drewN | apply below_drew1) | exact HB.out)⟩
   · replace c9 := Bool.eq_false_iff.mpr c9
     subst c9
     have H1 : (if t179 = true then (some (-1)) else (if t182 = true then (some 1) else ((cmp_Compare_string.f a0 a1).bind fun t185 => (some t185)))) = some r := by rw [if_neg (show ¬ (false = true) by decide)] at H; exact H
     clear H
     have H := H1
     clear H1
     by_cases c11 : t179 = true
     · subst c11
       have H1 : (some (-1)) = some r := by rw [if_pos rfl] at H; exact H
       clear H
       have H := H1
       clear H1
       obtain rfl := Option.some.inj H
       go_wp2
       go_ret
       exact ⟨by first | rfl | (simp [errW_none, errW_some] <;> rfl) | (simp [*, errW_none, errW_some] <;> rfl), by repeat (first | (with_reducible first | exact HB.out | apply below_alloc | apply pw_below_drewN | apply below_drew1) | exact HB.out)⟩
     · replace c11 := Bool.eq_false_iff.mpr c11
       subst c11
       have H1 : (if t182 = true then (some 1) else ((cmp_Compare_string.f a0 a1).bind fun t185 => (some t185))) = some r := by rw [if_neg (show ¬ (false = true) by decide)] at H; exact H
       clear H
       have H := H1
       clear H1
       by_cases c12 : t182 = true
       · subst c12
         have H1 : (some 1) = some r := by rw [if_pos rfl] at H; exact H
         clear H
         have H := H1
         clear H1
         obtain rfl := Option.some.inj H
         go_wp2
         go_ret
         exact ⟨by first | rfl | (simp [errW_none, errW_some] <;> rfl) | (simp [*, errW_none, errW_some] <;> rfl), by repeat (first | (with_reducible first | exact HB.out | apply below_alloc | apply pw_below_drewN | apply below_drew1) | exact HB.out)⟩
       · replace c12 := Bool.eq_false_iff.mpr c12
         subst c12
         have H1 : ((cmp_Compare_string.f a0 a1).bind fun t185 => (some t185)) = some r := by rw [if_neg (show ¬ (false = true) by decide)] at H; exact H
         clear H
         have H := H1
         clear H1
         replace H := Option.bind_eq_some_iff.mp H
         obtain ⟨t185, A130, H⟩ := H
         replace H : (some t185) = some r := H
         have A13 := Aside0.mk A130
         clear A130
         obtain rfl := Option.some.inj H
         go_wp2_with (first | ((with_reducible refine gate_callee (f := 72) rfl ?_); refine goesL_ (some 37) rfl rfl Tryz.func72 (by kernel_rfl) rfl #[.string a0, .string a1] rfl (by (try simp only [List.map_toArray, List.map_cons, List.map_nil]); first | done | rfl | (simp only [List.length_drop, List.length_take]; rfl)) ?_; (with_reducible refine (cmp_Compare_string.calls a0 a1 t185 _ A13.out).mono ?_); rintro e w' ⟨rfl, ⟨nd, rfl⟩⟩; refine ⟨_, rfl, ?_⟩))
         go_ret
         exact ⟨by first | rfl | (simp [errW_none, errW_some] <;> rfl) | (simp [*, errW_none, errW_some] <;> rfl), by repeat (first | (with_reducible first | exact HB.out | apply below_alloc | apply pw_below_drewN | apply below_drew1) | exact HB.out)⟩
end Go.Proofs.YteinkjhimceljaaGreatDoor.J
namespace Go.Proofs.YteinkjhimceljaaGreatDoor.J
open Go.RowKit Go.Proofs.YteinkjhimceljaaGreatDoorW.PrintWords
set_option linter.unusedVariables false
theorem some_of {α : Type} {o : Option α} {d : α} (h : o.isSome = true) : o = some (o.getD d) := by
 cases o with
 | none => simp at h
 | some x => rfl
theorem part_tot (s : ByteArray) (hs : s.size ≤ 1000000) : ∀ (d i k : Nat), s.size - i = d → i ≤ s.size → d < k → (version_part.l0 k s (s.size : Int) (i : Int)).isSome = true := by
 intro d
 induction d with
 | zero =>
  intro i k hd hi hk
  obtain ⟨k, rfl⟩ : ∃ j, k = j + 1 := ⟨k - 1, by omega⟩
  have hn : version_number.f s = some (atoiN s, numPlain s, numOk s) := by unfold version_number.f; rw [if_pos (by omega)]
  simp only [version_part.l0]
  rw [if_neg (by omega), hn]
  simp only [Option.bind_some]
  repeat' split
  all_goals rfl
 | succ d ih =>
  intro i k hd hi hk
  obtain ⟨k, rfl⟩ : ∃ j, k = j + 1 := ⟨k - 1, by omega⟩
  have h := ih (i + 1) k (by omega) (by omega) (by omega)
  rw [← wrap_succ (n := s.size) (by omega) (by omega)] at h
  simp only [version_part.l0]
  rw [if_pos (by omega), if_pos (by omega), if_pos (by omega)]
  repeat' split
  all_goals first | exact h | rfl
noncomputable def partB (s : ByteArray) : Bool := (version_part.f 1200 s).getD false
theorem part_walk (s : ByteArray) (hs : s.size ≤ 1000) (w : World) (HGL : Glob w) :
 Calls Tryz.prog 122 #[.string s] w fun e w' => e = .returned (.bool (partB s)) ∧ Below w.heap.size w w' :=
 version_part.calls 1200 s (partB s) w (some_of (part_tot s (by omega) s.size 0 1200 (by omega) (by omega) (by omega))) HGL
theorem plain_tot (s : ByteArray) (hs : s.size ≤ 1000000) : ∀ (d i k : Nat), s.size - i = d → i ≤ s.size → d < k → (names_plain.l0 k s (s.size : Int) (i : Int)).isSome = true := by
 intro d
 induction d with
 | zero =>
  intro i k hd hi hk
  obtain ⟨k, rfl⟩ : ∃ j, k = j + 1 := ⟨k - 1, by omega⟩
  simp only [names_plain.l0]
  rw [if_neg (by omega)]
  rfl
 | succ d ih =>
  intro i k hd hi hk
  obtain ⟨k, rfl⟩ : ∃ j, k = j + 1 := ⟨k - 1, by omega⟩
  have h := ih (i + 1) k (by omega) (by omega) (by omega)
  rw [← wrap_succ (n := s.size) (by omega) (by omega)] at h
  simp only [names_plain.l0, strings_IndexByte.f, Option.bind_some]
  rw [if_pos (by omega), if_pos (by omega), if_pos (by omega)]
  repeat' split
  all_goals first | exact h | rfl
theorem plain_f (s : ByteArray) (hs : s.size ≤ 1000) (k : Nat) (hk : 1000 < k) : (names_plain.f k s).isSome = true := plain_tot s (by omega) s.size 0 k (by omega) (by omega) (by omega)
theorem cut_size (s sep : ByteArray) : (cutOf s sep).1.size ≤ s.size ∧ (cutOf s sep).2.1.size ≤ s.size := by
 unfold cutOf Lib.cut
 have : s.data.toList.length = s.size := by simp
 split
 · constructor
   · show ((s.data.toList.take _).toArray).size ≤ _
     simp; omega
   · show ((s.data.toList.drop _).toArray).size ≤ _
     simp
 · constructor
   · show (s.data.toList.toArray).size ≤ _
     simp
   · show (([] : List UInt8).toArray).size ≤ _
     simp
theorem prefix_f (s p : ByteArray) (hs : s.size ≤ 1000) (hp : p.size ≤ 1000) : ∃ t b, strings_CutPrefix.f s p = some (t, b) ∧ t.size ≤ s.size := by
 have hx : ∀ i j, (s.extract i j).size ≤ s.size := fun i j => by rw [ByteArray.size_extract]; omega
 have h1 : ∃ b, stringslite_HasPrefix.f s p = some b ∧ (b = true → p.size ≤ s.size) := by
  unfold stringslite_HasPrefix.f
  by_cases h : p.size ≤ s.size
  · rw [if_pos (by omega), if_pos (by omega), if_pos (by omega)]
    exact ⟨_, rfl, fun _ => h⟩
  · rw [if_neg (by omega)]
    exact ⟨_, rfl, fun h2 => by cases h2⟩
 obtain ⟨b, hb, hbs⟩ := h1
 unfold strings_CutPrefix.f stringslite_CutPrefix.f
 rw [hb]
 cases b with
 | true =>
  have h := hbs rfl
  simp only [Option.bind_some]
  rw [if_pos trivial, if_pos (by omega), if_pos (by omega)]
  exact ⟨_, _, rfl, hx _ _⟩
 | false => exact ⟨_, _, rfl, Nat.le_refl _⟩
theorem good_tot (s : ByteArray) (hs : s.size ≤ 1000) : (names_Good.f 1200 s).isSome = true := by
 have hj : ∀ b, (names_Good.j0 1200 s b).isSome = true := by
  intro b
  obtain ⟨t, c, he, ht⟩ := prefix_f s ⟨#[64]⟩ hs (by decide)
  have hc := cut_size t ⟨#[47]⟩
  have hcut : strings_Cut.f t ⟨#[47]⟩ = some (cutOf t ⟨#[47]⟩) := by unfold strings_Cut.f; rw [if_pos (by omega)]
  have h1 := plain_f (cutOf t ⟨#[47]⟩).1 (by omega) 1199 (by omega)
  have h2 := plain_f (cutOf t ⟨#[47]⟩).2.1 (by omega) 1199 (by omega)
  have h3 := plain_f s (by omega) 1199 (by omega)
  rw [Option.isSome_iff_exists] at h1 h2 h3
  obtain ⟨x1, h1⟩ := h1
  obtain ⟨x2, h2⟩ := h2
  obtain ⟨x3, h3⟩ := h3
  simp only [names_Good.j0, he, hcut, h1, h2, h3, Option.bind_some]
  repeat' split
  all_goals rfl
 unfold names_Good.f
 split
 · exact hj _
 · exact hj _
noncomputable def goodB (s : ByteArray) : Bool := (names_Good.f 1200 s).getD false
theorem good_walk (s : ByteArray) (hs : s.size ≤ 1000) (w : World) (HGL : Glob w) :
 Calls Tryz.prog 68 #[.string s] w fun e w' => e = .returned (.bool (goodB s)) ∧ Below w.heap.size w w' :=
 names_Good.calls 1200 s (goodB s) w (some_of (good_tot s hs)) HGL
noncomputable def partsI (a b : ByteArray) : Int := (version_parts.f 1 a b).getD 0
theorem parts_walk (a b : ByteArray) (ha : a.size ≤ 1000) (hb : b.size ≤ 1000) (w : World) (HGL : Glob w) :
 Calls Tryz.prog 104 #[.string a, .string b] w fun e w' => e = .returned (.int .i64 (partsI a b)) ∧ Below w.heap.size w w' := by
 refine version_parts.calls 1 a b (partsI a b) w (some_of ?_) HGL
 have h1 : version_number.f a = some (atoiN a, numPlain a, numOk a) := by unfold version_number.f; rw [if_pos (by omega)]
 have h2 : version_number.f b = some (atoiN b, numPlain b, numOk b) := by unfold version_number.f; rw [if_pos (by omega)]
 simp only [version_parts.f, version_parts.j0, h1, h2, Option.bind_some, cmp_Compare_int.f, cmp_Compare_string.f]
 repeat' split
 all_goals rfl
def withinB (l : List Int) : Bool := l.all (fun n => decide (0 ≤ n ∧ n ≤ 999999))
theorem within_tot (l : List Int) (hl : l.length ≤ 1000000) : ∀ (d i k : Nat), l.length - i = d → i ≤ l.length → d < k → version_within.l0 k l (l.length : Int) (i : Int) = some (withinB (l.drop i)) := by
 intro d
 induction d with
 | zero =>
  intro i k hd hi hk
  obtain ⟨k, rfl⟩ : ∃ j, k = j + 1 := ⟨k - 1, by omega⟩
  simp only [version_within.l0]
  rw [if_neg (by omega), List.drop_eq_nil_of_le (by omega)]
  rfl
 | succ d ih =>
  intro i k hd hi hk
  obtain ⟨k, rfl⟩ : ∃ j, k = j + 1 := ⟨k - 1, by omega⟩
  have h := ih (i + 1) k (by omega) (by omega) (by omega)
  have hlt : i < l.length := by omega
  rw [← wrap_succ (n := l.length) hlt (by omega)] at h
  simp only [version_within.l0]
  rw [if_pos (by omega), if_pos (by omega), if_pos (by omega), rd_at l i hlt, List.drop_eq_getElem_cons hlt, h]
  unfold withinB
  rw [List.all_cons]
  by_cases h1 : l[i] < 0
  · rw [if_pos h1, decide_eq_false (by omega)]; rfl
  · rw [if_neg h1]
    by_cases h2 : l[i] > 999999
    · rw [if_pos h2, decide_eq_false (by omega)]; rfl
    · rw [if_neg h2, decide_eq_true (by omega)]; rfl
theorem within_walk (A : Option Addr) (c : Nat) (l : List Int) (hl : l.length ≤ 1000) (w : World) (hr : Kd.C (Kd.int .i64) w A l.length l) (hc : l.length ≤ c) :
 Calls Tryz.prog 123 #[.slice A l.length c] w fun e w' => e = .returned (.bool (withinB l)) ∧ Below w.heap.size w w' := by
 refine (version_within.calls 1200 A c l (withinB l) w hr hc (within_tot l (by omega) l.length 0 1200 (by omega) (by omega) (by omega))).mono ?_
 rintro e w' ⟨rfl, n, rfl⟩
 exact ⟨rfl, pw_below_drewN (Below.refl _ _) n⟩
end Go.Proofs.YteinkjhimceljaaGreatDoor.J
