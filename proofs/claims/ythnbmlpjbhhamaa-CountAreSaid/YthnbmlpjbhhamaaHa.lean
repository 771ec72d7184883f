/- slices.IndexFunc and slices.ContainsFunc at []int and at [][]int, under a predicate that may lay blocks of its own: the answer is whether some element has it. -/
import Derived.Test.YthnbmlpjbhhamaaJ0
import Derived.Shelf.Abstract
namespace Go.Proofs.Ythnbmlpjbhhamaa.J
open Go.RowKit Go.Shelf Go.Proofs.YthnbmlpjbhhamaaW.PrintWords Go.Proofs.YthnbmlpjbhhamaaW.PrintLast Go.Proofs.YthnbmlpjbhhamaaW.PrintMore
set_option linter.unusedVariables false
set_option linter.unusedSimpArgs false

/-- A closure that is handed to every and ContainsFunc, at whole numbers. -/
def PredI (g : Nat) (lb : Array Value) (p : Int → Bool) (l : List Int) (w : World) : Prop :=
  ∀ (W : World) (x : Int), x ∈ l → Below w.heap.size w W → Calls Try.prog g (#[.int .i64 x] ++ lb) W fun e w' => e = .returned (.bool (p x)) ∧ Below W.heap.size W w'
/-- The like at rows of whole numbers. -/
def PredR (g : Nat) (lb : Array Value) (p : List Int → Bool) (l : List (List Int)) (w : World) : Prop :=
  ∀ (W : World) (x : List Int) (A : Option Addr) (c : Nat), x ∈ l → Below w.heap.size w W → x.length ≤ c → (Kd.int .i64).C W A x.length x → Calls Try.prog g (#[.slice A x.length c] ++ lb) W fun e w' => e = .returned (.bool (p x)) ∧ Below W.heap.size W w'

/-- What IndexFunc tells: a number that is not below 0 just if some element has it. -/
def Finds (b : Bool) (w : World) (e : Ending) (w' : World) : Prop := ∃ i : Int, e = .returned (.int .i64 i) ∧ decide (0 ≤ i) = b ∧ Below w.heap.size w w'

theorem any_hit {α : Type} (p : α → Bool) (l : List α) (j : Nat) (h : j < l.length) (hp : p l[j] = true) : l.any p = true :=
  List.any_eq_true.2 ⟨l[j], List.getElem_mem h, hp⟩
theorem any_miss {α : Type} (p : α → Bool) (l : List α) (h : ∀ j (hj : j < l.length), p l[j] = false) : l.any p = false := by
  rw [List.any_eq_false]
  intro x hx
  obtain ⟨j, hj, rfl⟩ := List.mem_iff_getElem.1 hx
  simp [h j hj]
theorem rd_get (l : List Int) (k : Nat) (h : k < l.length) : rd l (k : Int) = l[k] := by simp [rd, h]
theorem rdL_get (l : List (List Int)) (k : Nat) (h : k < l.length) : rd_L1 l (k : Int) = l[k] := by simp [rd_L1, h]

/-- One element of a row of whole numbers, where it lies. -/
theorem C_int_at {w : World} {A : Option Addr} {n : Nat} {l : List Int} (h : Kd.C (Kd.int .i64) w A n l) (k : Nat) (hk : k < l.length) : ∃ ad, A = some ad ∧ w.cell? (ad.add k) = some (.int .i64 l[k]) := by
  obtain ⟨ad, c, e, _, hK, hc⟩ := Kd.C_get h (0 : Int) (k : Int) (by omega) (by rw [← h.1]; omega)
  refine ⟨ad, e, ?_⟩
  have := hc 0 (.int .i64 l[k]) (by rw [hK]; simp [hk])
  simpa [Kd.int, Kd.scalar] using this

set_option maxHeartbeats 2000000 in
theorem indexFunc_int (g : Nat) (lb : Array Value) (p : Int → Bool) (eg : ∀ args w, (callFunc g args).run Try.prog w = .ok (.enter g args) w) (l : List Int) (A : Option Addr) (c : Nat) (w : World)
    (hr : Kd.C (Kd.int .i64) w A l.length l) (hp : PredI g lb p l w) :
    Calls Try.prog 122 #[.slice A l.length c, .func (.func g) #[] lb] w (Finds (l.any p) w) := by
  have HR := Aside0.mk hr
  have hbig : l.length ≤ 9223372036854775807 := hr.2.1
  clear hr
  have HP := Aside0.mk hp
  clear hp
  go_enter Try.func122, Try.ntmps122
  go_wp2
  go_loopg [5, 8] l.length (fun gg _ s8 wr => ∃ kk : Nat, kk ≤ l.length ∧ l.length - kk ≤ gg ∧ s8 = .int .i64 kk ∧ Aside0 (Below w.heap.size w wr) ∧ Aside0 (∀ j (hj : j < l.length), j < kk → p l[j] = false))
  case atStart => exact ⟨0, Nat.zero_le _, by omega, rfl, ⟨Below.refl _ w⟩, ⟨fun j hj h => absurd h (Nat.not_lt_zero _)⟩⟩
  case round =>
    obtain ⟨kk, hkk, hg, rfl, BW, AM⟩ := hrel
    by_cases hlt : kk < l.length
    · have hltz : (kk : Int) < (l.length : Int) := by omega
      obtain ⟨ad, e0, hcell⟩ := C_int_at (Kd.C_below HR.out BW.out) kk hlt
      subst e0
      have hcall := HP.out wr l[kk] (List.getElem_mem hlt) BW.out
      generalize hy : l[kk] = y at hcell hcall
      have B := Aside0.mk hy
      clear hy
      cases hq : p y with
      | true =>
        rw [hq] at hcall
        go_wp2_with (go_at_fn g; refine hcall.mono ?_; rintro e w' ⟨rfl, hb0⟩; have hb' := BW.out.trans (hb0.mono BW.out.size); clear hb0)
        go_ret
        exact ⟨_, rfl, by rw [any_hit p l kk hlt (by rw [B.out]; exact hq)]; simp, hb'⟩
      | false =>
        rw [hq] at hcall
        go_wp2_with (go_at_fn g; refine hcall.mono ?_; rintro e w' ⟨rfl, hb0⟩; have hb' := BW.out.trans (hb0.mono BW.out.size); clear hb0)
        go_roundg (l.length - (kk + 1))
        case measure => omega
        case rel =>
          refine ⟨kk + 1, by omega, by omega, by go_num, ⟨hb'⟩, ⟨fun j hj h => ?_⟩⟩
          by_cases e : j = kk
          · subst e
            rw [B.out]; exact hq
          · exact AM.out j hj (by omega)
    · have hltz : ¬ (kk : Int) < (l.length : Int) := by omega
      go_wp2
      go_ret
      exact ⟨_, rfl, by rw [any_miss p l (fun j hj => AM.out j hj (by omega))]; rfl, BW.out⟩

theorem containsFunc_int (g : Nat) (lb : Array Value) (p : Int → Bool) (eg : ∀ args w, (callFunc g args).run Try.prog w = .ok (.enter g args) w) (l : List Int) (A : Option Addr) (c : Nat) (w : World)
    (hr : Kd.C (Kd.int .i64) w A l.length l) (hp : PredI g lb p l w) :
    Calls Try.prog 90 #[.slice A l.length c, .func (.func g) #[] lb] w fun e w' => e = .returned (.bool (l.any p)) ∧ Below w.heap.size w w' := by
  have HR := Aside0.mk hr
  have HP := Aside0.mk hp
  clear hr hp
  go_enter Try.func90, Try.ntmps90
  go_wp2_with (go_at_call 122; refine (indexFunc_int g lb p eg l _ _ _ HR.out HP.out).mono ?_; rintro e w' ⟨i, rfl, hi, hb'⟩)
  go_ret
  exact ⟨by rw [← hi]; rfl, hb'⟩

set_option maxHeartbeats 2000000 in
theorem indexFunc_rows (g : Nat) (lb : Array Value) (p : List Int → Bool) (eg : ∀ args w, (callFunc g args).run Try.prog w = .ok (.enter g args) w) (l : List (List Int)) (A : Option Addr) (c : Nat) (w : World)
    (hr : Kd.C (Kd.slice 3 (Kd.int .i64)) w A l.length l) (hp : PredR g lb p l w) :
    Calls Try.prog 134 #[.slice A l.length c, .func (.func g) #[] lb] w (Finds (l.any p) w) := by
  have HR := Aside0.mk hr
  have hbig : l.length ≤ 9223372036854775807 := hr.2.1
  clear hr
  have HP := Aside0.mk hp
  clear hp
  go_enter Try.func134, Try.ntmps134
  go_wp2
  go_loopg [5, 8] l.length (fun gg _ s8 wr => ∃ kk : Nat, kk ≤ l.length ∧ l.length - kk ≤ gg ∧ s8 = .int .i64 kk ∧ Aside0 (Below w.heap.size w wr) ∧ Aside0 (∀ j (hj : j < l.length), j < kk → p l[j] = false))
  case atStart => exact ⟨0, Nat.zero_le _, by omega, rfl, ⟨Below.refl _ w⟩, ⟨fun j hj h => absurd h (Nat.not_lt_zero _)⟩⟩
  case round =>
    obtain ⟨kk, hkk, hg, rfl, BW, AM⟩ := hrel
    by_cases hlt : kk < l.length
    · have hltz : (kk : Int) < (l.length : Int) := by omega
      obtain ⟨ad, A1, c1, e0, hcell, hc1, hr1⟩ := at_L1 (Kd.C_below HR.out BW.out) kk (by omega) (by omega)
      rw [rdL_get l kk hlt] at hcell hc1 hr1
      rw [Int.toNat_natCast] at hcell
      subst e0
      have hcall := HP.out wr l[kk] A1 c1 (List.getElem_mem hlt) BW.out hc1 hr1
      clear hc1 hr1
      generalize hy : l[kk] = y at hcell hcall
      have B := Aside0.mk hy
      clear hy
      cases hq : p y with
      | true =>
        rw [hq] at hcall
        go_wp2_with (go_at_fn g; refine hcall.mono ?_; rintro e w' ⟨rfl, hb0⟩; have hb' := BW.out.trans (hb0.mono BW.out.size); clear hb0)
        go_ret
        exact ⟨_, rfl, by rw [any_hit p l kk hlt (by rw [B.out]; exact hq)]; simp, hb'⟩
      | false =>
        rw [hq] at hcall
        go_wp2_with (go_at_fn g; refine hcall.mono ?_; rintro e w' ⟨rfl, hb0⟩; have hb' := BW.out.trans (hb0.mono BW.out.size); clear hb0)
        go_roundg (l.length - (kk + 1))
        case measure => omega
        case rel =>
          refine ⟨kk + 1, by omega, by omega, by go_num, ⟨hb'⟩, ⟨fun j hj h => ?_⟩⟩
          by_cases e : j = kk
          · subst e
            rw [B.out]; exact hq
          · exact AM.out j hj (by omega)
    · have hltz : ¬ (kk : Int) < (l.length : Int) := by omega
      go_wp2
      go_ret
      exact ⟨_, rfl, by rw [any_miss p l (fun j hj => AM.out j hj (by omega))]; rfl, BW.out⟩

theorem containsFunc_rows (g : Nat) (lb : Array Value) (p : List Int → Bool) (eg : ∀ args w, (callFunc g args).run Try.prog w = .ok (.enter g args) w) (l : List (List Int)) (A : Option Addr) (c : Nat) (w : World)
    (hr : Kd.C (Kd.slice 3 (Kd.int .i64)) w A l.length l) (hp : PredR g lb p l w) :
    Calls Try.prog 120 #[.slice A l.length c, .func (.func g) #[] lb] w fun e w' => e = .returned (.bool (l.any p)) ∧ Below w.heap.size w w' := by
  have HR := Aside0.mk hr
  have HP := Aside0.mk hp
  clear hr hp
  go_enter Try.func120, Try.ntmps120
  go_wp2_with (go_at_call 134; refine (indexFunc_rows g lb p eg l _ _ _ HR.out HP.out).mono ?_; rintro e w' ⟨i, rfl, hi, hb'⟩)
  go_ret
  exact ⟨by rw [← hi]; rfl, hb'⟩

end Go.Proofs.Ythnbmlpjbhhamaa.J
