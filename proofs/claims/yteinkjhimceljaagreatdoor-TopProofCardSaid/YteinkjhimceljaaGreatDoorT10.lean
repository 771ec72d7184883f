/- slices.IndexFunc and slices.ContainsFunc at []int and at [][]int, under a predicate that may lay blocks of its own: the answer is whether some element has it. The functions of package clause that answer a bool or a kind of error, walked: what they compute is what Sp says. -/
import Derived.Test.YteinkjhimceljaaGreatDoorT05
import Derived.Shelf.Abstract
import Derived.Test.YteinkjhimceljaaGreatDoorT11
namespace Go.Proofs.YteinkjhimceljaaGreatDoor.J
open Go.RowKit Go.Shelf Go.Proofs.YteinkjhimceljaaGreatDoorW.PrintWords Go.Proofs.YteinkjhimceljaaGreatDoorW.PrintLast Go.Proofs.YteinkjhimceljaaGreatDoorW.PrintMore
set_option linter.unusedVariables false
set_option linter.unusedSimpArgs false
def PredI (g : Nat) (lb : Array Value) (p : Int → Bool) (l : List Int) (w : World) : Prop :=
 ∀ (W : World) (x : Int), x ∈ l → Below w.heap.size w W → Calls Tryz.prog g (#[.int .i64 x] ++ lb) W fun e w' => e = .returned (.bool (p x)) ∧ Below W.heap.size W w'
def PredR (g : Nat) (lb : Array Value) (p : List Int → Bool) (l : List (List Int)) (w : World) : Prop :=
 ∀ (W : World) (x : List Int) (A : Option Addr) (c : Nat), x ∈ l → Below w.heap.size w W → x.length ≤ c → (Kd.int .i64).C W A x.length x → Calls Tryz.prog g (#[.slice A x.length c] ++ lb) W fun e w' => e = .returned (.bool (p x)) ∧ Below W.heap.size W w'
def Finds (b : Bool) (w : World) (e : Ending) (w' : World) : Prop := ∃ i : Int, e = .returned (.int .i64 i) ∧ decide (0 ≤ i) = b ∧ Below w.heap.size w w'
theorem any_hit {α : Type} (p : α → Bool) (l : List α) (j : Nat) (h : j < l.length) (hp : p l[j] = true) : l.any p = true :=
 List.any_eq_true.2 ⟨l[j], List.getElem_mem h, hp⟩
theorem any_miss {α : Type} (p : α → Bool) (l : List α) (h : ∀ j (hj : j < l.length), p l[j] = false) : l.any p = false := by
 rw [List.any_eq_false]
 intro x hx
 obtain ⟨j, hj, rfl⟩ := List.mem_iff_getElem.1 hx
 simp [h j hj]
theorem rdL_get (l : List (List Int)) (k : Nat) (h : k < l.length) : rd_L14 l (k : Int) = l[k] := by simp [rd_L14, h]
theorem C_int_at {w : World} {A : Option Addr} {n : Nat} {l : List Int} (h : Kd.C (Kd.int .i64) w A n l) (k : Nat) (hk : k < l.length) : ∃ ad, A = some ad ∧ w.cell? (ad.add k) = some (.int .i64 l[k]) := by
 obtain ⟨ad, c, e, _, hK, hc⟩ := Kd.C_get h (0 : Int) (k : Int) (by omega) (by rw [← h.1]; omega)
 refine ⟨ad, e, ?_⟩
 have := hc 0 (.int .i64 l[k]) (by rw [hK]; simp [hk])
 simpa [Kd.int, Kd.scalar] using this
set_option maxHeartbeats 2000000 in
theorem indexFunc_int (g : Nat) (lb : Array Value) (p : Int → Bool) (eg : ∀ args w, (callFunc g args).run Tryz.prog w = .ok (.enter g args) w) (l : List Int) (A : Option Addr) (c : Nat) (w : World)
 (hr : Kd.C (Kd.int .i64) w A l.length l) (hp : PredI g lb p l w) :
 Calls Tryz.prog 92 #[.slice A l.length c, .func (.func g) #[] lb] w (Finds (l.any p) w) := by
 have HR := Aside0.mk hr
 have hbig : l.length ≤ 9223372036854775807 := hr.2.1
 clear hr
 have HP := Aside0.mk hp
 clear hp
 go_enter Tryz.func92, Tryz.ntmps92
 go_wp2
 go_loopg [5, 8] l.length (fun gg _ s8 wr => ∃ kk : Nat, kk ≤ l.length ∧ l.length - kk ≤ gg ∧ s8 = .int .i64 kk ∧ Aside0 (Below w.heap.size w wr) ∧ Aside0 (∀ j (hj : j < l.length), j < kk → p l[j] = false))
 case atStart => exact ⟨0, Nat.zero_le _, by omega, rfl, ⟨Below.refl _ w⟩, ⟨fun j hj h => absurd h (Nat.not_lt_zero _)⟩⟩
 case round =>
  obtain ⟨kk, hkk, hg, rfl, BW, AM⟩ := hrel
  by_cases hlt : kk < l.length
  · have hltz : (kk : Int) < (l.length : Int) := by omega
    obtain ⟨ad, e0, hcell⟩ := C_int_at (Kd.C_below HR.out BW.out) kk hlt
    subst e0
    have hcall := HP.out wr l[kk] (List.getElem_mem hlt) BW.out
    generalize hy : l[kk] = y at hcell hcall
    have B := Aside0.mk hy
    clear hy
    cases hq : p y with
    | true =>
     rw [hq] at hcall
     go_wp2_with (go_at_fn g; refine hcall.mono ?_; rintro e w' ⟨rfl, hb0⟩; have hb' := BW.out.trans (hb0.mono BW.out.size); clear hb0)
     go_ret
     exact ⟨_, rfl, by rw [any_hit p l kk hlt (by rw [B.out]; exact hq)]; simp, hb'⟩
    | false =>
     rw [hq] at hcall
     go_wp2_with (go_at_fn g; refine hcall.mono ?_; rintro e w' ⟨rfl, hb0⟩; have hb' := BW.out.trans (hb0.mono BW.out.size); clear hb0)
     go_roundg (l.length - (kk + 1))
     case measure => omega
     case rel =>
      refine ⟨kk + 1, by omega, by omega, by go_num, ⟨hb'⟩, ⟨fun j hj h => ?_⟩⟩
      by_cases e : j = kk
      · subst e
        rw [B.out]; exact hq
      · exact AM.out j hj (by omega)
  · have hltz : ¬ (kk : Int) < (l.length : Int) := by omega
    go_wp2
    go_ret
    exact ⟨_, rfl, by rw [any_miss p l (fun j hj => AM.out j hj (by omega))]; rfl, BW.out⟩
theorem containsFunc_int (g : Nat) (lb : Array Value) (p : Int → Bool) (eg : ∀ args w, (callFunc g args).run Tryz.prog w = .ok (.enter g args) w) (l : List Int) (A : Option Addr) (c : Nat) (w : World)
 (hr : Kd.C (Kd.int .i64) w A l.length l) (hp : PredI g lb p l w) :
 Calls Tryz.prog 65 #[.slice A l.length c, .func (.func g) #[] lb] w fun e w' => e = .returned (.bool (l.any p)) ∧ Below w.heap.size w w' := by
 have HR := Aside0.mk hr
 have HP := Aside0.mk hp
 clear hr hp
 go_enter Tryz.func65, Tryz.ntmps65
 go_wp2_with (go_at_call 92; refine (indexFunc_int g lb p eg l _ _ _ HR.out HP.out).mono ?_; rintro e w' ⟨i, rfl, hi, hb'⟩)
 go_ret
 exact ⟨by rw [← hi]; rfl, hb'⟩
set_option maxHeartbeats 2000000 in
theorem indexFunc_rows (g : Nat) (lb : Array Value) (p : List Int → Bool) (eg : ∀ args w, (callFunc g args).run Tryz.prog w = .ok (.enter g args) w) (l : List (List Int)) (A : Option Addr) (c : Nat) (w : World)
 (hr : Kd.C (Kd.slice 3 (Kd.int .i64)) w A l.length l) (hp : PredR g lb p l w) :
 Calls Tryz.prog 86 #[.slice A l.length c, .func (.func g) #[] lb] w (Finds (l.any p) w) := by
 have HR := Aside0.mk hr
 have hbig : l.length ≤ 9223372036854775807 := hr.2.1
 clear hr
 have HP := Aside0.mk hp
 clear hp
 go_enter Tryz.func86, Tryz.ntmps86
 go_wp2
 go_loopg [5, 8] l.length (fun gg _ s8 wr => ∃ kk : Nat, kk ≤ l.length ∧ l.length - kk ≤ gg ∧ s8 = .int .i64 kk ∧ Aside0 (Below w.heap.size w wr) ∧ Aside0 (∀ j (hj : j < l.length), j < kk → p l[j] = false))
 case atStart => exact ⟨0, Nat.zero_le _, by omega, rfl, ⟨Below.refl _ w⟩, ⟨fun j hj h => absurd h (Nat.not_lt_zero _)⟩⟩
 case round =>
  obtain ⟨kk, hkk, hg, rfl, BW, AM⟩ := hrel
  by_cases hlt : kk < l.length
  · have hltz : (kk : Int) < (l.length : Int) := by omega
    obtain ⟨ad, A1, c1, e0, hcell, hc1, hr1⟩ := at_L14 (Kd.C_below HR.out BW.out) kk (by omega) (by omega)
    rw [rdL_get l kk hlt] at hcell hc1 hr1
    rw [Int.toNat_natCast] at hcell
    subst e0
    have hcall := HP.out wr l[kk] A1 c1 (List.getElem_mem hlt) BW.out hc1 hr1
    clear hc1 hr1
    generalize hy : l[kk] = y at hcell hcall
    have B := Aside0.mk hy
    clear hy
    cases hq : p y with
    | true =>
     rw [hq] at hcall
     go_wp2_with (go_at_fn g; refine hcall.mono ?_; rintro e w' ⟨rfl, hb0⟩; have hb' := BW.out.trans (hb0.mono BW.out.size); clear hb0)
     go_ret
     exact ⟨_, rfl, by rw [any_hit p l kk hlt (by rw [B.out]; exact hq)]; simp, hb'⟩
    | false =>
     rw [hq] at hcall
     go_wp2_with (go_at_fn g; refine hcall.mono ?_; rintro e w' ⟨rfl, hb0⟩; have hb' := BW.out.trans (hb0.mono BW.out.size); clear hb0)
     go_roundg (l.length - (kk + 1))
     case measure => omega
     case rel =>
      refine ⟨kk + 1, by omega, by omega, by go_num, ⟨hb'⟩, ⟨fun j hj h => ?_⟩⟩
      by_cases e : j = kk
      · subst e
        rw [B.out]; exact hq
      · exact AM.out j hj (by omega)
  · have hltz : ¬ (kk : Int) < (l.length : Int) := by omega
    go_wp2
    go_ret
    exact ⟨_, rfl, by rw [any_miss p l (fun j hj => AM.out j hj (by omega))]; rfl, BW.out⟩
theorem containsFunc_rows (g : Nat) (lb : Array Value) (p : List Int → Bool) (eg : ∀ args w, (callFunc g args).run Tryz.prog w = .ok (.enter g args) w) (l : List (List Int)) (A : Option Addr) (c : Nat) (w : World)
 (hr : Kd.C (Kd.slice 3 (Kd.int .i64)) w A l.length l) (hp : PredR g lb p l w) :
 Calls Tryz.prog 57 #[.slice A l.length c, .func (.func g) #[] lb] w fun e w' => e = .returned (.bool (l.any p)) ∧ Below w.heap.size w w' := by
 have HR := Aside0.mk hr
 have HP := Aside0.mk hp
 clear hr hp
 go_enter Tryz.func57, Tryz.ntmps57
 go_wp2_with (go_at_call 86; refine (indexFunc_rows g lb p eg l _ _ _ HR.out HP.out).mono ?_; rintro e w' ⟨i, rfl, hi, hb'⟩)
 go_ret
 exact ⟨by rw [← hi]; rfl, hb'⟩
set_option maxHeartbeats 1000000 in
theorem literal_any (n vars : Int) (w : World) (h0 : 0 ≤ vars) (h1 : vars ≤ 60) :
 Calls Tryz.prog 62 #[.int .i64 n, .int .i64 vars] w fun e w' => e = .returned (.bool (Sp.lit vars n)) ∧ w = w' := by
 cases hq : Sp.lit vars n with
 | true =>
  obtain ⟨a, b, c⟩ := Sp.lit_iff.1 hq
  have c1 : (n != 0) = true := bne_iff_ne.2 a
  clear hq a
  go_enter Tryz.func62, Tryz.ntmps62
  go_wp2
  go_ret
  exact ⟨rfl, rfl⟩
 | false =>
  rcases Sp.lit_false.1 hq with h | h | h
  · subst h
    clear hq
    go_enter Tryz.func62, Tryz.ntmps62
    go_wp2
    go_ret
    exact ⟨rfl, rfl⟩
  · have c1 : (n != 0) = true := bne_iff_ne.2 (by omega)
    have c2 : ¬ (-vars ≤ n) := by omega
    have c3 : decide (-vars ≤ n) = false := decide_eq_false c2
    clear hq
    go_enter Tryz.func62, Tryz.ntmps62
    go_wp2
    go_ret
    exact ⟨rfl, rfl⟩
  · have c1 : (n != 0) = true := bne_iff_ne.2 (by omega)
    have c2 : -vars ≤ n := by omega
    have c3 : decide (n ≤ vars) = false := decide_eq_false (by omega)
    clear hq
    go_enter Tryz.func62, Tryz.ntmps62
    go_wp2
    go_ret
    exact ⟨rfl, rfl⟩
theorem enters_every_int : ∀ args w, (callFunc 87 args).run Tryz.prog w = .ok (.enter 87 args) w := enters_of Tryz.func87 (by kernel_rfl) rfl
theorem enters_every_rows : ∀ args w, (callFunc 58 args).run Tryz.prog w = .ok (.enter 58 args) w := enters_of Tryz.func58 (by kernel_rfl) rfl
set_option maxHeartbeats 1000000 in
theorem every_int (g : Nat) (lb : Array Value) (p : Int → Bool) (eg : ∀ args w, (callFunc g args).run Tryz.prog w = .ok (.enter g args) w) (l : List Int) (A : Option Addr) (c : Nat) (w : World)
 (hr : Kd.C (Kd.int .i64) w A l.length l) (hp : PredI g lb p l w) :
 Calls Tryz.prog 60 #[.slice A l.length c, .func (.func g) #[] lb] w fun e w' => e = .returned (.bool (l.all p)) ∧ Below w.heap.size w w' := by
 have HR := Aside0.mk hr
 have HP := Aside0.mk hp
 clear hr hp
 have HQ : Aside0 (PredI 87 #[.pointer (some ⟨w.heap.size, 0, none⟩)] (fun x => !p x) l (w.alloc (.cells #[.func (.func g) #[] lb] 137))) := by
  constructor
  intro W x hx hb
  have hc : W.cell? ⟨w.heap.size, 0, none⟩ = some (.func (.func g) #[] lb) := (hb.cell (p := ⟨w.heap.size, 0, none⟩) (by simp)).trans (by simp)
  have hcall := HP.out W x hx ((below_alloc (Below.refl _ w) _).trans (hb.mono (by simp)))
  clear HP HR hb
  go_enter Tryz.func87, Tryz.ntmps87
  go_wp2_with (go_at_fn g; refine hcall.mono ?_; rintro e w' ⟨rfl, hb'⟩)
  go_ret
  exact ⟨rfl, hb'⟩
 go_enter Tryz.func60, Tryz.ntmps60
 go_wp2_with (go_at_call 65; refine (containsFunc_int 87 _ (fun x => !p x) enters_every_int l _ _ _ (Kd.C_alloc HR.out _) HQ.out).mono ?_; rintro e w' ⟨rfl, hb'⟩)
 go_ret
 exact ⟨congrArg (fun b => Ending.returned (Value.bool b)) (Sp.all_not_any p l), (below_alloc (Below.refl _ w) _).trans (hb'.mono (by simp))⟩
set_option maxHeartbeats 1000000 in
theorem every_rows (g : Nat) (lb : Array Value) (p : List Int → Bool) (eg : ∀ args w, (callFunc g args).run Tryz.prog w = .ok (.enter g args) w) (l : List (List Int)) (A : Option Addr) (c : Nat) (w : World)
 (hr : Kd.C (Kd.slice 3 (Kd.int .i64)) w A l.length l) (hp : PredR g lb p l w) :
 Calls Tryz.prog 36 #[.slice A l.length c, .func (.func g) #[] lb] w fun e w' => e = .returned (.bool (l.all p)) ∧ Below w.heap.size w w' := by
 have HR := Aside0.mk hr
 have HP := Aside0.mk hp
 clear hr hp
 have HQ : Aside0 (PredR 58 #[.pointer (some ⟨w.heap.size, 0, none⟩)] (fun x => !p x) l (w.alloc (.cells #[.func (.func g) #[] lb] 69))) := by
  constructor
  intro W x A1 c1 hx hb hl hr1
  have hc : W.cell? ⟨w.heap.size, 0, none⟩ = some (.func (.func g) #[] lb) := (hb.cell (p := ⟨w.heap.size, 0, none⟩) (by simp)).trans (by simp)
  have hcall := HP.out W x A1 c1 hx ((below_alloc (Below.refl _ w) _).trans (hb.mono (by simp))) hl hr1
  clear HP HR hb hl hr1
  go_enter Tryz.func58, Tryz.ntmps58
  go_wp2_with (go_at_fn g; refine hcall.mono ?_; rintro e w' ⟨rfl, hb'⟩)
  go_ret
  exact ⟨rfl, hb'⟩
 go_enter Tryz.func36, Tryz.ntmps36
 go_wp2_with (go_at_call 57; refine (containsFunc_rows 58 _ (fun x => !p x) enters_every_rows l _ _ _ (Kd.C_alloc HR.out _) HQ.out).mono ?_; rintro e w' ⟨rfl, hb'⟩)
 go_ret
 exact ⟨congrArg (fun b => Ending.returned (Value.bool b)) (Sp.all_not_any p l), (below_alloc (Below.refl _ w) _).trans (hb'.mono (by simp))⟩
theorem enters_right1 : ∀ args w, (callFunc 59 args).run Tryz.prog w = .ok (.enter 59 args) w := enters_of Tryz.func59 (by kernel_rfl) rfl
theorem enters_right2 : ∀ args w, (callFunc 61 args).run Tryz.prog w = .ok (.enter 61 args) w := enters_of Tryz.func61 (by kernel_rfl) rfl
theorem right2_pred (b : Nat) (vars : Int) (h0 : 0 ≤ vars) (h1 : vars ≤ 60) (l : List Int) (w : World) (hb : b < w.heap.size) (hc : w.cell? ⟨b, 0, none⟩ = some (.int .i64 vars)) :
 PredI 61 #[.pointer (some ⟨b, 0, none⟩)] (Sp.lit vars) l w := by
 intro W x hx hbel
 have hc' : W.cell? ⟨b, 0, none⟩ = some (.int .i64 vars) := (hbel.cell (p := ⟨b, 0, none⟩) hb).trans hc
 clear hbel hc hx
 go_enter Tryz.func61, Tryz.ntmps61
 go_wp2_with (go_at_call 62; refine (literal_any x vars _ h0 h1).mono ?_; rintro e w' ⟨rfl, rfl⟩)
 go_ret
 exact ⟨rfl, Below.refl _ _⟩
theorem right1_pred (b : Nat) (vars : Int) (h0 : 0 ≤ vars) (h1 : vars ≤ 60) (l : List (List Int)) (w : World) (hb : b < w.heap.size) (hc : w.cell? ⟨b, 0, none⟩ = some (.int .i64 vars)) :
 PredR 59 #[.pointer (some ⟨b, 0, none⟩)] (fun c => c.all (Sp.lit vars)) l w := by
 intro W x A c hx hbel hl hr
 have hc' : W.cell? ⟨b, 0, none⟩ = some (.int .i64 vars) := (hbel.cell (p := ⟨b, 0, none⟩) hb).trans hc
 have HP := Aside0.mk (right2_pred b vars h0 h1 x W (Nat.lt_of_lt_of_le hb hbel.size) hc')
 have HR := Aside0.mk hr
 clear hbel hc hx hl hr hc'
 go_enter Tryz.func59, Tryz.ntmps59
 go_wp2_with (go_at_call 60; refine (every_int _ _ _ enters_right2 x _ _ _ HR.out HP.out).mono ?_; rintro e w' ⟨rfl, hb'⟩)
 go_ret
 exact ⟨rfl, hb'⟩
set_option maxHeartbeats 1000000 in
theorem right_any (vars : Int) (A : Option Addr) (c : Nat) (l : List (List Int)) (w : World) (hr : Kd.C (Kd.slice 3 (Kd.int .i64)) w A l.length l) :
 Calls Tryz.prog 38 #[.agg #[.int .i64 vars, .slice A l.length c]] w fun e w' => e = .returned (.bool (Sp.right vars l)) ∧ Below w.heap.size w w' := by
 by_cases h0 : 0 ≤ vars
 · by_cases h1 : vars ≤ 60
   · have HR := Aside0.mk (Kd.C_alloc hr (.cells #[.int .i64 vars, .slice A l.length c] 36))
     have HP := Aside0.mk (right1_pred w.heap.size vars h0 h1 l (w.alloc (.cells #[.int .i64 vars, .slice A l.length c] 36)) (by simp) (by simp))
     have HE : Aside0 (Sp.right vars l = l.all (fun c => c.all (Sp.lit vars))) := ⟨by simp [Sp.right, h0, h1]⟩
     clear hr
     go_enter Tryz.func38, Tryz.ntmps38
     go_wp2_with (go_at_call 36; refine (every_rows _ _ _ enters_right1 l _ _ _ HR.out HP.out).mono ?_; rintro e w' ⟨rfl, hb'⟩)
     go_ret
     exact ⟨by rw [HE.out]; rfl, (below_alloc (Below.refl _ w) _).trans (hb'.mono (by simp))⟩
   · have HE : Aside0 (Sp.right vars l = false) := ⟨by simp [Sp.right, h1]⟩
     have c1 : decide (vars ≤ 60) = false := decide_eq_false h1
     clear hr
     go_enter Tryz.func38, Tryz.ntmps38
     go_wp2
     go_ret
     exact ⟨by rw [HE.out]; rfl, below_alloc (Below.refl _ w) _⟩
 · have HE : Aside0 (Sp.right vars l = false) := ⟨by simp [Sp.right, h0]⟩
   have c1 : decide (0 ≤ vars) = false := decide_eq_false h0
   clear hr
   go_enter Tryz.func38, Tryz.ntmps38
   go_wp2
   go_ret
   exact ⟨by rw [HE.out]; rfl, below_alloc (Below.refl _ w) _⟩
theorem enters_check1 : ∀ args w, (callFunc 37 args).run Tryz.prog w = .ok (.enter 37 args) w := enters_of Tryz.func37 (by kernel_rfl) rfl
theorem check1_pred (l : List (List Int)) (w : World) : PredR 37 #[] (fun c => decide (c.length ≤ 30)) l w := by
 intro W x A c hx hbel hl hr
 clear hbel hx hl hr
 go_enter Tryz.func37, Tryz.ntmps37
 go_wp2
 go_ret
 exact ⟨congrArg (fun b => Ending.returned (Value.bool b)) (decide_eq_decide.2 (by omega)), Below.refl _ _⟩
set_option maxHeartbeats 1000000 in
theorem check_any (vars : Int) (A : Option Addr) (c : Nat) (l : List (List Int)) (w : World) (hr : Kd.C (Kd.slice 3 (Kd.int .i64)) w A l.length l) :
 Calls Tryz.prog 14 #[.agg #[.int .i64 vars, .slice A l.length c]] w fun e w' => e = .returned (.int .i64 (Sp.check vars l)) ∧ Below w.heap.size w w' := by
 have HR := Aside0.mk (Kd.C_alloc hr (.cells #[.int .i64 vars, .slice A l.length c] 36))
 have HP := Aside0.mk (check1_pred l (w.alloc (.cells #[.int .i64 vars, .slice A l.length c] 36)))
 have HB := Aside0.mk (below_alloc (Below.refl _ w) (.cells #[.int .i64 vars, .slice A l.length c] 36))
 have hsz : (w.alloc (.cells #[.int .i64 vars, .slice A l.length c] 36)).heap.size = w.heap.size + 1 := by simp
 have HS := Aside0.mk hsz
 clear hr hsz
 have hw : ∀ w1, Below (w.heap.size + 1) (w.alloc (.cells #[.int .i64 vars, .slice A l.length c] 36)) w1 → w1.cell? ⟨w.heap.size, 0, none⟩ = some (.int .i64 vars) ∧ w1.cell? ⟨w.heap.size, 1, none⟩ = some (.slice A l.length c) := fun w1 hb =>
  ⟨(hb.cell (p := ⟨w.heap.size, 0, none⟩) (by simp)).trans (by simp), (hb.cell (p := ⟨w.heap.size, 1, none⟩) (by simp)).trans (by simp)⟩
 have HW := Aside0.mk hw
 clear hw
 obtain ⟨nb, hnb⟩ : ∃ b, l.all (fun c => decide (c.length ≤ 30)) = b := ⟨_, rfl⟩
 obtain ⟨rb, hrb⟩ : ∃ b, Sp.right vars l = b := ⟨_, rfl⟩
 have HE : Aside0 (Sp.check vars l = if 60 < vars ∨ 3000 < l.length ∨ nb = false then 2 else if rb = false then 100 else 0) := ⟨by unfold Sp.check Sp.narrow; rw [hnb, hrb]⟩
 have HN := Aside0.mk hnb
 have HQ := Aside0.mk hrb
 clear hnb hrb
 rw [HE.out]
 clear HE
 by_cases h1 : 60 < vars
 · rw [if_pos (.inl h1)]
   go_enter Tryz.func14, Tryz.ntmps14
   go_wp2_with (go_at_call 36; refine (every_rows _ _ _ enters_check1 l _ _ _ HR.out HP.out).mono ?_; rintro e w1 ⟨rfl, hb1⟩; rw [HN.out]; obtain ⟨q0, q1⟩ := HW.out w1 (by rw [HS.out] at hb1; exact hb1); have HB1 := Aside0.mk hb1; clear hb1)
   go_ret
   exact ⟨rfl, HB.out.trans (HB1.out.mono (by simp))⟩
 · have h1b : decide (60 < vars) = false := decide_eq_false h1
   by_cases h2 : 3000 < l.length
   · rw [if_pos (.inr (.inl h2))]
     have h2b : decide (3000 < (l.length : Int)) = true := decide_eq_true (by omega)
     go_enter Tryz.func14, Tryz.ntmps14
     go_wp2_with (go_at_call 36; refine (every_rows _ _ _ enters_check1 l _ _ _ HR.out HP.out).mono ?_; rintro e w1 ⟨rfl, hb1⟩; rw [HN.out]; obtain ⟨q0, q1⟩ := HW.out w1 (by rw [HS.out] at hb1; exact hb1); have HB1 := Aside0.mk hb1; clear hb1)
     go_ret
     exact ⟨rfl, HB.out.trans (HB1.out.mono (by simp))⟩
   · have h2b : decide (3000 < (l.length : Int)) = false := decide_eq_false (by omega)
     cases nb with
     | false =>
      rw [if_pos (.inr (.inr rfl))]
      go_enter Tryz.func14, Tryz.ntmps14
      go_wp2_with (go_at_call 36; refine (every_rows _ _ _ enters_check1 l _ _ _ HR.out HP.out).mono ?_; rintro e w1 ⟨rfl, hb1⟩; rw [HN.out]; obtain ⟨q0, q1⟩ := HW.out w1 (by rw [HS.out] at hb1; exact hb1); have HB1 := Aside0.mk hb1; clear hb1)
      go_ret
      exact ⟨rfl, HB.out.trans (HB1.out.mono (by simp))⟩
     | true =>
      rw [if_neg (by simp [h1, h2])]
      cases rb with
      | false =>
       rw [if_pos rfl]
       go_enter Tryz.func14, Tryz.ntmps14
       go_wp2_with (first | (go_at_call 36; refine (every_rows _ _ _ enters_check1 l _ _ _ HR.out HP.out).mono ?_; rintro e w1 ⟨rfl, hb1⟩; rw [HN.out]; obtain ⟨q0, q1⟩ := HW.out w1 (by rw [HS.out] at hb1; exact hb1); have HB1 := Aside0.mk hb1; clear hb1) | (go_at_call 38; refine (right_any vars _ c l _ (Kd.C_below HR.out HB1.out)).mono ?_; rintro e w2 ⟨rfl, hb2⟩; rw [HQ.out]; have HB2 := Aside0.mk hb2; clear hb2))
       go_ret
       exact ⟨rfl, (HB.out.trans (HB1.out.mono (by simp))).trans (HB2.out.mono (HB.out.trans (HB1.out.mono (by simp))).size)⟩
      | true =>
       rw [if_neg (by simp)]
       go_enter Tryz.func14, Tryz.ntmps14
       go_wp2_with (first | (go_at_call 36; refine (every_rows _ _ _ enters_check1 l _ _ _ HR.out HP.out).mono ?_; rintro e w1 ⟨rfl, hb1⟩; rw [HN.out]; obtain ⟨q0, q1⟩ := HW.out w1 (by rw [HS.out] at hb1; exact hb1); have HB1 := Aside0.mk hb1; clear hb1) | (go_at_call 38; refine (right_any vars _ c l _ (Kd.C_below HR.out HB1.out)).mono ?_; rintro e w2 ⟨rfl, hb2⟩; rw [HQ.out]; have HB2 := Aside0.mk hb2; clear hb2))
       go_ret
       exact ⟨rfl, (HB.out.trans (HB1.out.mono (by simp))).trans (HB2.out.mono (HB.out.trans (HB1.out.mono (by simp))).size)⟩
theorem C_bool_at {w : World} {A : Option Addr} {n : Nat} {l : List Bool} (h : Kd.C Kd.bool w A n l) (k : Nat) (hk : k < l.length) : ∃ ad, A = some ad ∧ w.cell? (ad.add k) = some (.bool (l.getD k false)) := by
 obtain ⟨ad, c, e, _, hK, hc⟩ := Kd.C_get h false (k : Int) (by omega) (by rw [← h.1]; omega)
 refine ⟨ad, e, ?_⟩
 have := hc 0 (.bool (l.getD k false)) (by rw [hK]; simp)
 simpa [Kd.bool, Kd.scalar] using this
theorem enters_holds1 : ∀ args w, (callFunc 66 args).run Tryz.prog w = .ok (.enter 66 args) w := enters_of Tryz.func66 (by kernel_rfl) rfl
set_option maxHeartbeats 1000000 in
theorem holds1_pred (b : Nat) (A0 : Option Addr) (c0 : Nat) (m : List Bool) (l : List Int) (w : World) (hb : b < w.heap.size) (hc : w.cell? ⟨b, 0, none⟩ = some (.slice A0 m.length c0)) (hm : Kd.C Kd.bool w A0 m.length m) :
 PredI 66 #[.pointer (some ⟨b, 0, none⟩)] (Sp.trueIn m) l w := by
 intro W x hx hbel
 have hc' : W.cell? ⟨b, 0, none⟩ = some (.slice A0 m.length c0) := (hbel.cell (p := ⟨b, 0, none⟩) hb).trans hc
 have HM := Aside0.mk (Kd.C_below hm hbel)
 clear hbel hc hx hm
 cases hq : Sp.lit 60 x with
 | false =>
  have HE : Aside0 (Sp.trueIn m x = false) := ⟨by simp [Sp.trueIn, hq]⟩
  have HQ := Aside0.mk hq
  clear hq
  go_enter Tryz.func66, Tryz.ntmps66
  go_wp2_with (go_at_call 62; refine (literal_any x 60 _ (by omega) (by omega)).mono ?_; rintro e w' ⟨rfl, rfl⟩; rw [HQ.out])
  all_goals
   go_ret
   exact ⟨by rw [HE.out]; rfl, Below.refl _ _⟩
 | true =>
  obtain ⟨a1, a2, a3⟩ := Sp.lit_iff.1 hq
  have HQ := Aside0.mk hq
  by_cases hp : 0 < x
  · obtain ⟨v, rfl⟩ := Int.eq_ofNat_of_zero_le (show 0 ≤ x by omega)
    by_cases hl : v ≤ m.length
    · obtain ⟨ad, e0, hcell⟩ := C_bool_at HM.out (v - 1) (by omega)
      subst e0
      have HE : Aside0 (Sp.trueIn m v = (m.getD (v - 1) false == decide (0 < v))) := ⟨by simp [Sp.trueIn, hq, hl]⟩
      rw [HE.out]
      clear HE hq
      have e1 : ((v : Int) - 1).toNat = v - 1 := by omega
      have i1 : (0 : Int) ≤ (v : Int) - 1 := by omega
      have i2 : (v : Int) - 1 < (m.length : Int) := by omega
      have t1 : decide ((v : Int) ≤ (m.length : Int)) = true := decide_eq_true (by omega)
      generalize m.getD (v - 1) false = y at hcell ⊢
      go_enter Tryz.func66, Tryz.ntmps66
      go_wp2_with (go_at_call 62; refine (literal_any _ 60 _ (by omega) (by omega)).mono ?_; rintro e w' ⟨rfl, rfl⟩; rw [HQ.out])
      go_ret
      exact ⟨rfl, Below.refl _ _⟩
    · have HE : Aside0 (Sp.trueIn m v = false) := ⟨by simp [Sp.trueIn, hl]⟩
      rw [HE.out]
      clear HE hq
      have t1 : decide ((v : Int) ≤ (m.length : Int)) = false := decide_eq_false (by omega)
      go_enter Tryz.func66, Tryz.ntmps66
      go_wp2_with (go_at_call 62; refine (literal_any _ 60 _ (by omega) (by omega)).mono ?_; rintro e w' ⟨rfl, rfl⟩; rw [HQ.out])
      go_ret
      exact ⟨rfl, Below.refl _ _⟩
  · obtain ⟨v, hv⟩ := Int.eq_ofNat_of_zero_le (show 0 ≤ -x by omega)
    obtain rfl : x = -(v : Int) := by omega
    clear hv
    have hn : (-(v : Int)).natAbs = v := by omega
    by_cases hl : v ≤ m.length
    · obtain ⟨ad, e0, hcell⟩ := C_bool_at HM.out (v - 1) (by omega)
      subst e0
      have HE : Aside0 (Sp.trueIn m (-(v : Int)) = (m.getD (v - 1) false == decide (0 < -(v : Int)))) := ⟨by unfold Sp.trueIn; rw [hq, hn, decide_eq_true hl]; rfl⟩
      rw [HE.out]
      clear HE hq hn
      have e1 : ((v : Int) - 1).toNat = v - 1 := by omega
      have i1 : (0 : Int) ≤ (v : Int) - 1 := by omega
      have i2 : (v : Int) - 1 < (m.length : Int) := by omega
      have t1 : decide ((v : Int) ≤ (m.length : Int)) = true := decide_eq_true (by omega)
      generalize m.getD (v - 1) false = y at hcell ⊢
      go_enter Tryz.func66, Tryz.ntmps66
      go_wp2_with (go_at_call 62; refine (literal_any _ 60 _ (by omega) (by omega)).mono ?_; rintro e w' ⟨rfl, rfl⟩; rw [HQ.out])
      go_ret
      exact ⟨congrArg (fun z => Ending.returned (Value.bool (y == z))) (decide_eq_decide.2 (by omega)), Below.refl _ _⟩
    · have HE : Aside0 (Sp.trueIn m (-(v : Int)) = false) := ⟨by unfold Sp.trueIn; rw [hn, decide_eq_false hl]; simp⟩
      rw [HE.out]
      clear HE hq hn
      have t1 : decide ((v : Int) ≤ (m.length : Int)) = false := decide_eq_false (by omega)
      go_enter Tryz.func66, Tryz.ntmps66
      go_wp2_with (go_at_call 62; refine (literal_any _ 60 _ (by omega) (by omega)).mono ?_; rintro e w' ⟨rfl, rfl⟩; rw [HQ.out])
      go_ret
      exact ⟨rfl, Below.refl _ _⟩
theorem holds_any (A0 : Option Addr) (c0 : Nat) (l0 : List Int) (A1 : Option Addr) (c1 : Nat) (l1 : List Bool) (w : World) (hr0 : Kd.C (Kd.int .i64) w A0 l0.length l0) (hr1 : Kd.C Kd.bool w A1 l1.length l1) :
 Calls Tryz.prog 43 #[.slice A0 l0.length c0, .slice A1 l1.length c1] w fun e w' => e = .returned (.bool (Sp.holds l0 l1)) ∧ Below w.heap.size w w' := by
 have HR := Aside0.mk (Kd.C_alloc hr0 (.cells #[.slice A1 l1.length c1] 39))
 have HP := Aside0.mk (holds1_pred w.heap.size A1 c1 l1 l0 (w.alloc (.cells #[.slice A1 l1.length c1] 39)) (by simp) (by simp) (Kd.C_alloc hr1 _))
 clear hr0 hr1
 go_enter Tryz.func43, Tryz.ntmps43
 go_wp2_with (go_at_call 65; refine (containsFunc_int _ _ _ enters_holds1 l0 _ _ _ HR.out HP.out).mono ?_; rintro e w' ⟨rfl, hb'⟩)
 go_ret
 exact ⟨rfl, (below_alloc (Below.refl _ w) _).trans (hb'.mono (by simp))⟩
theorem enters_sat1 : ∀ args w, (callFunc 42 args).run Tryz.prog w = .ok (.enter 42 args) w := enters_of Tryz.func42 (by kernel_rfl) rfl
theorem sat1_pred (b : Nat) (A0 : Option Addr) (c0 : Nat) (m : List Bool) (l : List (List Int)) (w : World) (hb : b < w.heap.size) (hc : w.cell? ⟨b, 0, none⟩ = some (.slice A0 m.length c0)) (hm : Kd.C Kd.bool w A0 m.length m) :
 PredR 42 #[.pointer (some ⟨b, 0, none⟩)] (fun c => Sp.holds c m) l w := by
 intro W x A c hx hbel hl hr
 have hc' : W.cell? ⟨b, 0, none⟩ = some (.slice A0 m.length c0) := (hbel.cell (p := ⟨b, 0, none⟩) hb).trans hc
 have HM := Aside0.mk (Kd.C_below hm hbel)
 have HR := Aside0.mk hr
 clear hbel hc hx hm hl hr
 go_enter Tryz.func42, Tryz.ntmps42
 go_wp2_with (go_at_call 43; refine (holds_any _ _ x _ _ m _ HR.out HM.out).mono ?_; rintro e w' ⟨rfl, hb'⟩)
 go_ret
 exact ⟨rfl, hb'⟩
set_option maxHeartbeats 1000000 in
theorem sat_any (vars : Int) (A : Option Addr) (c : Nat) (l : List (List Int)) (A1 : Option Addr) (c1 : Nat) (m : List Bool) (w : World) (hr : Kd.C (Kd.slice 3 (Kd.int .i64)) w A l.length l) (hm : Kd.C Kd.bool w A1 m.length m) :
 Calls Tryz.prog 20 #[.agg #[.int .i64 vars, .slice A l.length c], .slice A1 m.length c1] w fun e w' => e = .returned (.bool (Sp.sat vars l m)) ∧ Below w.heap.size w w' := by
 obtain ⟨W0, hW0⟩ : ∃ W0, W0 = (w.alloc (.cells #[.int .i64 vars, .slice A l.length c] 36)).alloc (.cells #[.slice A1 m.length c1] 39) := ⟨_, rfl⟩
 have HB := Aside0.mk (show Below w.heap.size w W0 by rw [hW0]; exact below_alloc (below_alloc (Below.refl _ w) _) _)
 have HS := Aside0.mk (show W0.heap.size = w.heap.size + 2 by rw [hW0]; simp)
 have HR := Aside0.mk (Kd.C_below hr HB.out)
 have HM := Aside0.mk (Kd.C_below hm HB.out)
 have HW := Aside0.mk (show ∀ w1, Below W0.heap.size W0 w1 → w1.cell? ⟨w.heap.size, 0, none⟩ = some (.int .i64 vars) ∧ w1.cell? ⟨w.heap.size, 1, none⟩ = some (.slice A l.length c) ∧ w1.cell? ⟨w.heap.size + 1, 0, none⟩ = some (.slice A1 m.length c1) from fun w1 hb =>
  ⟨(hb.cell (p := ⟨w.heap.size, 0, none⟩) (by rw [HS.out]; simp)).trans (by rw [hW0]; simp), (hb.cell (p := ⟨w.heap.size, 1, none⟩) (by rw [HS.out]; simp)).trans (by rw [hW0]; simp), (hb.cell (p := ⟨w.heap.size + 1, 0, none⟩) (by rw [HS.out]; simp)).trans (by rw [hW0]; simp)⟩)
 obtain ⟨rb, hrb⟩ : ∃ b, Sp.right vars l = b := ⟨_, rfl⟩
 have HE : Aside0 (Sp.sat vars l m = (rb && (decide ((m.length : Int) = vars) && l.all (fun c => Sp.holds c m)))) := ⟨by unfold Sp.sat; rw [hrb]⟩
 rw [HE.out]
 have HQ := Aside0.mk hrb
 clear HE hrb hr hm
 cases rb with
 | false =>
  go_enter Tryz.func20, Tryz.ntmps20
  go_wp2_with fail
  rw [← hW0]
  clear hW0
  refine (right_any vars _ c l _ HR.out).mono ?_
  rintro e w1 ⟨rfl, hb1⟩
  rw [HQ.out]
  obtain ⟨q0, q1, q2⟩ := HW.out w1 hb1
  have HB1 := Aside0.mk (HB.out.trans (hb1.mono HB.out.size))
  have HB2 := Aside0.mk hb1
  clear hb1
  go_wp2
  go_ret
  exact ⟨rfl, HB1.out⟩
 | true =>
  by_cases hl : (m.length : Int) = vars
  · have t1 : ((m.length : Int) == vars) = true := beq_iff_eq.2 hl
    rw [decide_eq_true hl]
    clear hl
    go_enter Tryz.func20, Tryz.ntmps20
    go_wp2_with fail
    rw [← hW0]
    clear hW0
    refine (right_any vars _ c l _ HR.out).mono ?_
    rintro e w1 ⟨rfl, hb1⟩
    rw [HQ.out]
    obtain ⟨q0, q1, q2⟩ := HW.out w1 hb1
    have HB1 := Aside0.mk (HB.out.trans (hb1.mono HB.out.size))
    have HB2 := Aside0.mk hb1
    clear hb1
    have HP := Aside0.mk (sat1_pred (w.heap.size + 1) A1 c1 m l w1 (Nat.lt_of_lt_of_le (by rw [HS.out]; omega) HB2.out.size) q2 (Kd.C_below HM.out HB2.out))
    go_wp2_with (go_at_call 36; refine (every_rows _ _ _ enters_sat1 l _ _ _ (Kd.C_below HR.out HB2.out) HP.out).mono ?_; rintro e w2 ⟨rfl, hb2⟩)
    go_ret
    exact ⟨rfl, HB1.out.trans (hb2.mono HB1.out.size)⟩
  · have t1 : ((m.length : Int) == vars) = false := beq_eq_false_iff_ne.2 hl
    rw [decide_eq_false hl]
    clear hl
    go_enter Tryz.func20, Tryz.ntmps20
    go_wp2_with fail
    rw [← hW0]
    clear hW0
    refine (right_any vars _ c l _ HR.out).mono ?_
    rintro e w1 ⟨rfl, hb1⟩
    rw [HQ.out]
    obtain ⟨q0, q1, q2⟩ := HW.out w1 hb1
    have HB1 := Aside0.mk (HB.out.trans (hb1.mono HB.out.size))
    have HB2 := Aside0.mk hb1
    clear hb1
    go_wp2
    go_ret
    exact ⟨rfl, HB1.out⟩
end Go.Proofs.YteinkjhimceljaaGreatDoor.J
