/- The functions of package clause that answer a bool or a kind of error, walked: what they compute is what Sp says. -/
import Derived.Test.YthnbmlpjbhhamaaHa
import Derived.Test.YthnbmlpjbhhamaaSp
namespace Go.Proofs.Ythnbmlpjbhhamaa.J
open Go.RowKit Go.Shelf Go.Proofs.YthnbmlpjbhhamaaW.PrintWords Go.Proofs.YthnbmlpjbhhamaaW.PrintLast Go.Proofs.YthnbmlpjbhhamaaW.PrintMore
set_option linter.unusedVariables false
set_option linter.unusedSimpArgs false

set_option maxHeartbeats 1000000 in
theorem literal_any (n vars : Int) (w : World) (h0 : 0 ≤ vars) (h1 : vars ≤ 60) :
    Calls Try.prog 92 #[.int .i64 n, .int .i64 vars] w fun e w' => e = .returned (.bool (Sp.lit vars n)) ∧ w = w' := by
  cases hq : Sp.lit vars n with
  | true =>
    obtain ⟨a, b, c⟩ := Sp.lit_iff.1 hq
    have c1 : (n != 0) = true := bne_iff_ne.2 a
    clear hq a
    go_enter Try.func92, Try.ntmps92
    go_wp2
    go_ret
    exact ⟨rfl, rfl⟩
  | false =>
    rcases Sp.lit_false.1 hq with h | h | h
    · subst h
      clear hq
      go_enter Try.func92, Try.ntmps92
      go_wp2
      go_ret
      exact ⟨rfl, rfl⟩
    · have c1 : (n != 0) = true := bne_iff_ne.2 (by omega)
      have c2 : ¬ (-vars ≤ n) := by omega
      have c3 : decide (-vars ≤ n) = false := decide_eq_false c2
      clear hq
      go_enter Try.func92, Try.ntmps92
      go_wp2
      go_ret
      exact ⟨rfl, rfl⟩
    · have c1 : (n != 0) = true := bne_iff_ne.2 (by omega)
      have c2 : -vars ≤ n := by omega
      have c3 : decide (n ≤ vars) = false := decide_eq_false (by omega)
      clear hq
      go_enter Try.func92, Try.ntmps92
      go_wp2
      go_ret
      exact ⟨rfl, rfl⟩


/-! ### every: it hands ContainsFunc the closure that asks the other way round; the function value lies in a box -/
theorem enters_every_int : ∀ args w, (callFunc 126 args).run Try.prog w = .ok (.enter 126 args) w := enters_of Try.func126 (by kernel_rfl) rfl
theorem enters_every_rows : ∀ args w, (callFunc 121 args).run Try.prog w = .ok (.enter 121 args) w := enters_of Try.func121 (by kernel_rfl) rfl

set_option maxHeartbeats 1000000 in
theorem every_int (g : Nat) (lb : Array Value) (p : Int → Bool) (eg : ∀ args w, (callFunc g args).run Try.prog w = .ok (.enter g args) w) (l : List Int) (A : Option Addr) (c : Nat) (w : World)
    (hr : Kd.C (Kd.int .i64) w A l.length l) (hp : PredI g lb p l w) :
    Calls Try.prog 100 #[.slice A l.length c, .func (.func g) #[] lb] w fun e w' => e = .returned (.bool (l.all p)) ∧ Below w.heap.size w w' := by
  have HR := Aside0.mk hr
  have HP := Aside0.mk hp
  clear hr hp
  have HQ : Aside0 (PredI 126 #[.pointer (some ⟨w.heap.size, 0, none⟩)] (fun x => !p x) l (w.alloc (.cells #[.func (.func g) #[] lb] 85))) := by
    constructor
    intro W x hx hb
    have hc : W.cell? ⟨w.heap.size, 0, none⟩ = some (.func (.func g) #[] lb) := (hb.cell (p := ⟨w.heap.size, 0, none⟩) (by simp)).trans (by simp)
    have hcall := HP.out W x hx ((below_alloc (Below.refl _ w) _).trans (hb.mono (by simp)))
    clear HP HR hb
    go_enter Try.func126, Try.ntmps126
    go_wp2_with (go_at_fn g; refine hcall.mono ?_; rintro e w' ⟨rfl, hb'⟩)
    go_ret
    exact ⟨rfl, hb'⟩
  go_enter Try.func100, Try.ntmps100
  go_wp2_with (go_at_call 90; refine (containsFunc_int 126 _ (fun x => !p x) enters_every_int l _ _ _ (Kd.C_alloc HR.out _) HQ.out).mono ?_; rintro e w' ⟨rfl, hb'⟩)
  go_ret
  exact ⟨congrArg (fun b => Ending.returned (Value.bool b)) (Sp.all_not_any p l), (below_alloc (Below.refl _ w) _).trans (hb'.mono (by simp))⟩

set_option maxHeartbeats 1000000 in
theorem every_rows (g : Nat) (lb : Array Value) (p : List Int → Bool) (eg : ∀ args w, (callFunc g args).run Try.prog w = .ok (.enter g args) w) (l : List (List Int)) (A : Option Addr) (c : Nat) (w : World)
    (hr : Kd.C (Kd.slice 3 (Kd.int .i64)) w A l.length l) (hp : PredR g lb p l w) :
    Calls Try.prog 87 #[.slice A l.length c, .func (.func g) #[] lb] w fun e w' => e = .returned (.bool (l.all p)) ∧ Below w.heap.size w w' := by
  have HR := Aside0.mk hr
  have HP := Aside0.mk hp
  clear hr hp
  have HQ : Aside0 (PredR 121 #[.pointer (some ⟨w.heap.size, 0, none⟩)] (fun x => !p x) l (w.alloc (.cells #[.func (.func g) #[] lb] 68))) := by
    constructor
    intro W x A1 c1 hx hb hl hr1
    have hc : W.cell? ⟨w.heap.size, 0, none⟩ = some (.func (.func g) #[] lb) := (hb.cell (p := ⟨w.heap.size, 0, none⟩) (by simp)).trans (by simp)
    have hcall := HP.out W x A1 c1 hx ((below_alloc (Below.refl _ w) _).trans (hb.mono (by simp))) hl hr1
    clear HP HR hb hl hr1
    go_enter Try.func121, Try.ntmps121
    go_wp2_with (go_at_fn g; refine hcall.mono ?_; rintro e w' ⟨rfl, hb'⟩)
    go_ret
    exact ⟨rfl, hb'⟩
  go_enter Try.func87, Try.ntmps87
  go_wp2_with (go_at_call 120; refine (containsFunc_rows 121 _ (fun x => !p x) enters_every_rows l _ _ _ (Kd.C_alloc HR.out _) HQ.out).mono ?_; rintro e w' ⟨rfl, hb'⟩)
  go_ret
  exact ⟨congrArg (fun b => Ending.returned (Value.bool b)) (Sp.all_not_any p l), (below_alloc (Below.refl _ w) _).trans (hb'.mono (by simp))⟩


/-! ### right -/
theorem enters_right1 : ∀ args w, (callFunc 118 args).run Try.prog w = .ok (.enter 118 args) w := enters_of Try.func118 (by kernel_rfl) rfl
theorem enters_right2 : ∀ args w, (callFunc 119 args).run Try.prog w = .ok (.enter 119 args) w := enters_of Try.func119 (by kernel_rfl) rfl

theorem right2_pred (b : Nat) (vars : Int) (h0 : 0 ≤ vars) (h1 : vars ≤ 60) (l : List Int) (w : World) (hb : b < w.heap.size) (hc : w.cell? ⟨b, 0, none⟩ = some (.int .i64 vars)) :
    PredI 119 #[.pointer (some ⟨b, 0, none⟩)] (Sp.lit vars) l w := by
  intro W x hx hbel
  have hc' : W.cell? ⟨b, 0, none⟩ = some (.int .i64 vars) := (hbel.cell (p := ⟨b, 0, none⟩) hb).trans hc
  clear hbel hc hx
  go_enter Try.func119, Try.ntmps119
  go_wp2_with (go_at_call 92; refine (literal_any x vars _ h0 h1).mono ?_; rintro e w' ⟨rfl, rfl⟩)
  go_ret
  exact ⟨rfl, Below.refl _ _⟩

theorem right1_pred (b : Nat) (vars : Int) (h0 : 0 ≤ vars) (h1 : vars ≤ 60) (l : List (List Int)) (w : World) (hb : b < w.heap.size) (hc : w.cell? ⟨b, 0, none⟩ = some (.int .i64 vars)) :
    PredR 118 #[.pointer (some ⟨b, 0, none⟩)] (fun c => c.all (Sp.lit vars)) l w := by
  intro W x A c hx hbel hl hr
  have hc' : W.cell? ⟨b, 0, none⟩ = some (.int .i64 vars) := (hbel.cell (p := ⟨b, 0, none⟩) hb).trans hc
  have HP := Aside0.mk (right2_pred b vars h0 h1 x W (Nat.lt_of_lt_of_le hb hbel.size) hc')
  have HR := Aside0.mk hr
  clear hbel hc hx hl hr hc'
  go_enter Try.func118, Try.ntmps118
  go_wp2_with (go_at_call 100; refine (every_int _ _ _ enters_right2 x _ _ _ HR.out HP.out).mono ?_; rintro e w' ⟨rfl, hb'⟩)
  go_ret
  exact ⟨rfl, hb'⟩

set_option maxHeartbeats 1000000 in
theorem right_any (vars : Int) (A : Option Addr) (c : Nat) (l : List (List Int)) (w : World) (hr : Kd.C (Kd.slice 3 (Kd.int .i64)) w A l.length l) :
    Calls Try.prog 86 #[.agg #[.int .i64 vars, .slice A l.length c]] w fun e w' => e = .returned (.bool (Sp.right vars l)) ∧ Below w.heap.size w w' := by
  by_cases h0 : 0 ≤ vars
  · by_cases h1 : vars ≤ 60
    · have HR := Aside0.mk (Kd.C_alloc hr (.cells #[.int .i64 vars, .slice A l.length c] 24))
      have HP := Aside0.mk (right1_pred w.heap.size vars h0 h1 l (w.alloc (.cells #[.int .i64 vars, .slice A l.length c] 24)) (by simp) (by simp))
      have HE : Aside0 (Sp.right vars l = l.all (fun c => c.all (Sp.lit vars))) := ⟨by simp [Sp.right, h0, h1]⟩
      clear hr
      go_enter Try.func86, Try.ntmps86
      go_wp2_with (go_at_call 87; refine (every_rows _ _ _ enters_right1 l _ _ _ HR.out HP.out).mono ?_; rintro e w' ⟨rfl, hb'⟩)
      go_ret
      exact ⟨by rw [HE.out]; rfl, (below_alloc (Below.refl _ w) _).trans (hb'.mono (by simp))⟩
    · have HE : Aside0 (Sp.right vars l = false) := ⟨by simp [Sp.right, h1]⟩
      have c1 : decide (vars ≤ 60) = false := decide_eq_false h1
      clear hr
      go_enter Try.func86, Try.ntmps86
      go_wp2
      go_ret
      exact ⟨by rw [HE.out]; rfl, below_alloc (Below.refl _ w) _⟩
  · have HE : Aside0 (Sp.right vars l = false) := ⟨by simp [Sp.right, h0]⟩
    have c1 : decide (0 ≤ vars) = false := decide_eq_false h0
    clear hr
    go_enter Try.func86, Try.ntmps86
    go_wp2
    go_ret
    exact ⟨by rw [HE.out]; rfl, below_alloc (Below.refl _ w) _⟩

/-! ### Check -/
theorem enters_check1 : ∀ args w, (callFunc 89 args).run Try.prog w = .ok (.enter 89 args) w := enters_of Try.func89 (by kernel_rfl) rfl
theorem check1_pred (l : List (List Int)) (w : World) : PredR 89 #[] (fun c => decide (c.length ≤ 30)) l w := by
  intro W x A c hx hbel hl hr
  clear hbel hx hl hr
  go_enter Try.func89, Try.ntmps89
  go_wp2
  go_ret
  exact ⟨congrArg (fun b => Ending.returned (Value.bool b)) (decide_eq_decide.2 (by omega)), Below.refl _ _⟩

def clause_Check.f (vars : Int) (l : List (List Int)) : Option Int := some (Sp.check vars l)

set_option maxHeartbeats 1000000 in
theorem check_any (vars : Int) (A : Option Addr) (c : Nat) (l : List (List Int)) (w : World) (hr : Kd.C (Kd.slice 3 (Kd.int .i64)) w A l.length l) :
    Calls Try.prog 44 #[.agg #[.int .i64 vars, .slice A l.length c]] w fun e w' => e = .returned (.int .i64 (Sp.check vars l)) ∧ Below w.heap.size w w' := by
  have HR := Aside0.mk (Kd.C_alloc hr (.cells #[.int .i64 vars, .slice A l.length c] 24))
  have HP := Aside0.mk (check1_pred l (w.alloc (.cells #[.int .i64 vars, .slice A l.length c] 24)))
  have HB := Aside0.mk (below_alloc (Below.refl _ w) (.cells #[.int .i64 vars, .slice A l.length c] 24))
  have hsz : (w.alloc (.cells #[.int .i64 vars, .slice A l.length c] 24)).heap.size = w.heap.size + 1 := by simp
  have HS := Aside0.mk hsz
  clear hr hsz
  have hw : ∀ w1, Below (w.heap.size + 1) (w.alloc (.cells #[.int .i64 vars, .slice A l.length c] 24)) w1 → w1.cell? ⟨w.heap.size, 0, none⟩ = some (.int .i64 vars) ∧ w1.cell? ⟨w.heap.size, 1, none⟩ = some (.slice A l.length c) := fun w1 hb =>
    ⟨(hb.cell (p := ⟨w.heap.size, 0, none⟩) (by simp)).trans (by simp), (hb.cell (p := ⟨w.heap.size, 1, none⟩) (by simp)).trans (by simp)⟩
  have HW := Aside0.mk hw
  clear hw
  obtain ⟨nb, hnb⟩ : ∃ b, l.all (fun c => decide (c.length ≤ 30)) = b := ⟨_, rfl⟩
  obtain ⟨rb, hrb⟩ : ∃ b, Sp.right vars l = b := ⟨_, rfl⟩
  have HE : Aside0 (Sp.check vars l = if 60 < vars ∨ 3000 < l.length ∨ nb = false then 2 else if rb = false then 100 else 0) := ⟨by unfold Sp.check Sp.narrow; rw [hnb, hrb]⟩
  have HN := Aside0.mk hnb
  have HQ := Aside0.mk hrb
  clear hnb hrb
  rw [HE.out]
  clear HE
  by_cases h1 : 60 < vars
  · rw [if_pos (.inl h1)]
    go_enter Try.func44, Try.ntmps44
    go_wp2_with (go_at_call 87; refine (every_rows _ _ _ enters_check1 l _ _ _ HR.out HP.out).mono ?_; rintro e w1 ⟨rfl, hb1⟩; rw [HN.out]; obtain ⟨q0, q1⟩ := HW.out w1 (by rw [HS.out] at hb1; exact hb1); have HB1 := Aside0.mk hb1; clear hb1)
    go_ret
    exact ⟨rfl, HB.out.trans (HB1.out.mono (by simp))⟩
  · have h1b : decide (60 < vars) = false := decide_eq_false h1
    by_cases h2 : 3000 < l.length
    · rw [if_pos (.inr (.inl h2))]
      have h2b : decide (3000 < (l.length : Int)) = true := decide_eq_true (by omega)
      go_enter Try.func44, Try.ntmps44
      go_wp2_with (go_at_call 87; refine (every_rows _ _ _ enters_check1 l _ _ _ HR.out HP.out).mono ?_; rintro e w1 ⟨rfl, hb1⟩; rw [HN.out]; obtain ⟨q0, q1⟩ := HW.out w1 (by rw [HS.out] at hb1; exact hb1); have HB1 := Aside0.mk hb1; clear hb1)
      go_ret
      exact ⟨rfl, HB.out.trans (HB1.out.mono (by simp))⟩
    · have h2b : decide (3000 < (l.length : Int)) = false := decide_eq_false (by omega)
      cases nb with
      | false =>
        rw [if_pos (.inr (.inr rfl))]
        go_enter Try.func44, Try.ntmps44
        go_wp2_with (go_at_call 87; refine (every_rows _ _ _ enters_check1 l _ _ _ HR.out HP.out).mono ?_; rintro e w1 ⟨rfl, hb1⟩; rw [HN.out]; obtain ⟨q0, q1⟩ := HW.out w1 (by rw [HS.out] at hb1; exact hb1); have HB1 := Aside0.mk hb1; clear hb1)
        go_ret
        exact ⟨rfl, HB.out.trans (HB1.out.mono (by simp))⟩
      | true =>
        rw [if_neg (by simp [h1, h2])]
        cases rb with
        | false =>
          rw [if_pos rfl]
          go_enter Try.func44, Try.ntmps44
          go_wp2_with (first | (go_at_call 87; refine (every_rows _ _ _ enters_check1 l _ _ _ HR.out HP.out).mono ?_; rintro e w1 ⟨rfl, hb1⟩; rw [HN.out]; obtain ⟨q0, q1⟩ := HW.out w1 (by rw [HS.out] at hb1; exact hb1); have HB1 := Aside0.mk hb1; clear hb1) | (go_at_call 86; refine (right_any vars _ c l _ (Kd.C_below HR.out HB1.out)).mono ?_; rintro e w2 ⟨rfl, hb2⟩; rw [HQ.out]; have HB2 := Aside0.mk hb2; clear hb2))
          go_ret
          exact ⟨rfl, (HB.out.trans (HB1.out.mono (by simp))).trans (HB2.out.mono (HB.out.trans (HB1.out.mono (by simp))).size)⟩
        | true =>
          rw [if_neg (by simp)]
          go_enter Try.func44, Try.ntmps44
          go_wp2_with (first | (go_at_call 87; refine (every_rows _ _ _ enters_check1 l _ _ _ HR.out HP.out).mono ?_; rintro e w1 ⟨rfl, hb1⟩; rw [HN.out]; obtain ⟨q0, q1⟩ := HW.out w1 (by rw [HS.out] at hb1; exact hb1); have HB1 := Aside0.mk hb1; clear hb1) | (go_at_call 86; refine (right_any vars _ c l _ (Kd.C_below HR.out HB1.out)).mono ?_; rintro e w2 ⟨rfl, hb2⟩; rw [HQ.out]; have HB2 := Aside0.mk hb2; clear hb2))
          go_ret
          exact ⟨rfl, (HB.out.trans (HB1.out.mono (by simp))).trans (HB2.out.mono (HB.out.trans (HB1.out.mono (by simp))).size)⟩

theorem clause_Check.calls (a0_0 : Int) (A0_1 : Option Addr) (c0_1 : Nat) (l0_1 : List (List Int)) (r : Int) (w : World) (hr0_1 : Kd.C (Kd.slice 3 (Kd.int .i64)) w A0_1 l0_1.length l0_1) (hc0_1 : l0_1.length ≤ c0_1) (h : clause_Check.f a0_0 l0_1 = some r) :
    Calls Try.prog 44 #[.agg #[.int .i64 a0_0, .slice A0_1 l0_1.length c0_1]] w fun e w' => e = .returned (.int .i64 r) ∧ Below w.heap.size w w' := by
  obtain rfl := Option.some.inj h
  exact check_any _ _ _ _ _ hr0_1


/-! ### Holds -/
theorem C_bool_at {w : World} {A : Option Addr} {n : Nat} {l : List Bool} (h : Kd.C Kd.bool w A n l) (k : Nat) (hk : k < l.length) : ∃ ad, A = some ad ∧ w.cell? (ad.add k) = some (.bool (l.getD k false)) := by
  obtain ⟨ad, c, e, _, hK, hc⟩ := Kd.C_get h false (k : Int) (by omega) (by rw [← h.1]; omega)
  refine ⟨ad, e, ?_⟩
  have := hc 0 (.bool (l.getD k false)) (by rw [hK]; simp)
  simpa [Kd.bool, Kd.scalar] using this

theorem enters_holds1 : ∀ args w, (callFunc 91 args).run Try.prog w = .ok (.enter 91 args) w := enters_of Try.func91 (by kernel_rfl) rfl

set_option maxHeartbeats 1000000 in
theorem holds1_pred (b : Nat) (A0 : Option Addr) (c0 : Nat) (m : List Bool) (l : List Int) (w : World) (hb : b < w.heap.size) (hc : w.cell? ⟨b, 0, none⟩ = some (.slice A0 m.length c0)) (hm : Kd.C Kd.bool w A0 m.length m) :
    PredI 91 #[.pointer (some ⟨b, 0, none⟩)] (Sp.trueIn m) l w := by
  intro W x hx hbel
  have hc' : W.cell? ⟨b, 0, none⟩ = some (.slice A0 m.length c0) := (hbel.cell (p := ⟨b, 0, none⟩) hb).trans hc
  have HM := Aside0.mk (Kd.C_below hm hbel)
  clear hbel hc hx hm
  cases hq : Sp.lit 60 x with
  | false =>
    have HE : Aside0 (Sp.trueIn m x = false) := ⟨by simp [Sp.trueIn, hq]⟩
    have HQ := Aside0.mk hq
    clear hq
    go_enter Try.func91, Try.ntmps91
    go_wp2_with (go_at_call 92; refine (literal_any x 60 _ (by omega) (by omega)).mono ?_; rintro e w' ⟨rfl, rfl⟩; rw [HQ.out])
    all_goals
      go_ret
      exact ⟨by rw [HE.out]; rfl, Below.refl _ _⟩
  | true =>
    obtain ⟨a1, a2, a3⟩ := Sp.lit_iff.1 hq
    have HQ := Aside0.mk hq
    by_cases hp : 0 < x
    · obtain ⟨v, rfl⟩ := Int.eq_ofNat_of_zero_le (show 0 ≤ x by omega)
      by_cases hl : v ≤ m.length
      · obtain ⟨ad, e0, hcell⟩ := C_bool_at HM.out (v - 1) (by omega)
        subst e0
        have HE : Aside0 (Sp.trueIn m v = (m.getD (v - 1) false == decide (0 < v))) := ⟨by simp [Sp.trueIn, hq, hl]⟩
        rw [HE.out]
        clear HE hq
        have e1 : ((v : Int) - 1).toNat = v - 1 := by omega
        have i1 : (0 : Int) ≤ (v : Int) - 1 := by omega
        have i2 : (v : Int) - 1 < (m.length : Int) := by omega
        have t1 : decide ((v : Int) ≤ (m.length : Int)) = true := decide_eq_true (by omega)
        generalize m.getD (v - 1) false = y at hcell ⊢
        go_enter Try.func91, Try.ntmps91
        go_wp2_with (go_at_call 92; refine (literal_any _ 60 _ (by omega) (by omega)).mono ?_; rintro e w' ⟨rfl, rfl⟩; rw [HQ.out])
        go_ret
        exact ⟨rfl, Below.refl _ _⟩
      · have HE : Aside0 (Sp.trueIn m v = false) := ⟨by simp [Sp.trueIn, hl]⟩
        rw [HE.out]
        clear HE hq
        have t1 : decide ((v : Int) ≤ (m.length : Int)) = false := decide_eq_false (by omega)
        go_enter Try.func91, Try.ntmps91
        go_wp2_with (go_at_call 92; refine (literal_any _ 60 _ (by omega) (by omega)).mono ?_; rintro e w' ⟨rfl, rfl⟩; rw [HQ.out])
        go_ret
        exact ⟨rfl, Below.refl _ _⟩
    · obtain ⟨v, hv⟩ := Int.eq_ofNat_of_zero_le (show 0 ≤ -x by omega)
      obtain rfl : x = -(v : Int) := by omega
      clear hv
      have hn : (-(v : Int)).natAbs = v := by omega
      by_cases hl : v ≤ m.length
      · obtain ⟨ad, e0, hcell⟩ := C_bool_at HM.out (v - 1) (by omega)
        subst e0
        have HE : Aside0 (Sp.trueIn m (-(v : Int)) = (m.getD (v - 1) false == decide (0 < -(v : Int)))) := ⟨by unfold Sp.trueIn; rw [hq, hn, decide_eq_true hl]; rfl⟩
        rw [HE.out]
        clear HE hq hn
        have e1 : ((v : Int) - 1).toNat = v - 1 := by omega
        have i1 : (0 : Int) ≤ (v : Int) - 1 := by omega
        have i2 : (v : Int) - 1 < (m.length : Int) := by omega
        have t1 : decide ((v : Int) ≤ (m.length : Int)) = true := decide_eq_true (by omega)
        generalize m.getD (v - 1) false = y at hcell ⊢
        go_enter Try.func91, Try.ntmps91
        go_wp2_with (go_at_call 92; refine (literal_any _ 60 _ (by omega) (by omega)).mono ?_; rintro e w' ⟨rfl, rfl⟩; rw [HQ.out])
        go_ret
        exact ⟨congrArg (fun z => Ending.returned (Value.bool (y == z))) (decide_eq_decide.2 (by omega)), Below.refl _ _⟩
      · have HE : Aside0 (Sp.trueIn m (-(v : Int)) = false) := ⟨by unfold Sp.trueIn; rw [hn, decide_eq_false hl]; simp⟩
        rw [HE.out]
        clear HE hq hn
        have t1 : decide ((v : Int) ≤ (m.length : Int)) = false := decide_eq_false (by omega)
        go_enter Try.func91, Try.ntmps91
        go_wp2_with (go_at_call 92; refine (literal_any _ 60 _ (by omega) (by omega)).mono ?_; rintro e w' ⟨rfl, rfl⟩; rw [HQ.out])
        go_ret
        exact ⟨rfl, Below.refl _ _⟩


def clause_Holds.f (l0 : List Int) (l1 : List Bool) : Option Bool := some (Sp.holds l0 l1)

theorem holds_any (A0 : Option Addr) (c0 : Nat) (l0 : List Int) (A1 : Option Addr) (c1 : Nat) (l1 : List Bool) (w : World) (hr0 : Kd.C (Kd.int .i64) w A0 l0.length l0) (hr1 : Kd.C Kd.bool w A1 l1.length l1) :
    Calls Try.prog 45 #[.slice A0 l0.length c0, .slice A1 l1.length c1] w fun e w' => e = .returned (.bool (Sp.holds l0 l1)) ∧ Below w.heap.size w w' := by
  have HR := Aside0.mk (Kd.C_alloc hr0 (.cells #[.slice A1 l1.length c1] 38))
  have HP := Aside0.mk (holds1_pred w.heap.size A1 c1 l1 l0 (w.alloc (.cells #[.slice A1 l1.length c1] 38)) (by simp) (by simp) (Kd.C_alloc hr1 _))
  clear hr0 hr1
  go_enter Try.func45, Try.ntmps45
  go_wp2_with (go_at_call 90; refine (containsFunc_int _ _ _ enters_holds1 l0 _ _ _ HR.out HP.out).mono ?_; rintro e w' ⟨rfl, hb'⟩)
  go_ret
  exact ⟨rfl, (below_alloc (Below.refl _ w) _).trans (hb'.mono (by simp))⟩

theorem clause_Holds.calls (A0 : Option Addr) (c0 : Nat) (l0 : List Int) (A1 : Option Addr) (c1 : Nat) (l1 : List Bool) (r : Bool) (w : World) (hr0 : Kd.C (Kd.int .i64) w A0 l0.length l0) (hc0 : l0.length ≤ c0) (hr1 : Kd.C Kd.bool w A1 l1.length l1) (hc1 : l1.length ≤ c1) (h : clause_Holds.f l0 l1 = some r) :
    Calls Try.prog 45 #[.slice A0 l0.length c0, .slice A1 l1.length c1] w fun e w' => e = .returned (.bool r) ∧ Below w.heap.size w w' := by
  obtain rfl := Option.some.inj h
  exact holds_any _ _ _ _ _ _ _ hr0 hr1

/-! ### Sat -/
theorem enters_sat1 : ∀ args w, (callFunc 88 args).run Try.prog w = .ok (.enter 88 args) w := enters_of Try.func88 (by kernel_rfl) rfl
theorem sat1_pred (b : Nat) (A0 : Option Addr) (c0 : Nat) (m : List Bool) (l : List (List Int)) (w : World) (hb : b < w.heap.size) (hc : w.cell? ⟨b, 0, none⟩ = some (.slice A0 m.length c0)) (hm : Kd.C Kd.bool w A0 m.length m) :
    PredR 88 #[.pointer (some ⟨b, 0, none⟩)] (fun c => Sp.holds c m) l w := by
  intro W x A c hx hbel hl hr
  have hc' : W.cell? ⟨b, 0, none⟩ = some (.slice A0 m.length c0) := (hbel.cell (p := ⟨b, 0, none⟩) hb).trans hc
  have HM := Aside0.mk (Kd.C_below hm hbel)
  have HR := Aside0.mk hr
  clear hbel hc hx hm hl hr
  go_enter Try.func88, Try.ntmps88
  go_wp2_with (go_at_call 45; refine (holds_any _ _ x _ _ m _ HR.out HM.out).mono ?_; rintro e w' ⟨rfl, hb'⟩)
  go_ret
  exact ⟨rfl, hb'⟩

def clause_Sat.f (a0_0 : Int) (l0_1 : List (List Int)) (l1 : List Bool) : Option Bool := some (Sp.sat a0_0 l0_1 l1)

set_option maxHeartbeats 1000000 in
theorem sat_any (vars : Int) (A : Option Addr) (c : Nat) (l : List (List Int)) (A1 : Option Addr) (c1 : Nat) (m : List Bool) (w : World) (hr : Kd.C (Kd.slice 3 (Kd.int .i64)) w A l.length l) (hm : Kd.C Kd.bool w A1 m.length m) :
    Calls Try.prog 43 #[.agg #[.int .i64 vars, .slice A l.length c], .slice A1 m.length c1] w fun e w' => e = .returned (.bool (Sp.sat vars l m)) ∧ Below w.heap.size w w' := by
  obtain ⟨W0, hW0⟩ : ∃ W0, W0 = (w.alloc (.cells #[.int .i64 vars, .slice A l.length c] 24)).alloc (.cells #[.slice A1 m.length c1] 38) := ⟨_, rfl⟩
  have HB := Aside0.mk (show Below w.heap.size w W0 by rw [hW0]; exact below_alloc (below_alloc (Below.refl _ w) _) _)
  have HS := Aside0.mk (show W0.heap.size = w.heap.size + 2 by rw [hW0]; simp)
  have HR := Aside0.mk (Kd.C_below hr HB.out)
  have HM := Aside0.mk (Kd.C_below hm HB.out)
  have HW := Aside0.mk (show ∀ w1, Below W0.heap.size W0 w1 → w1.cell? ⟨w.heap.size, 0, none⟩ = some (.int .i64 vars) ∧ w1.cell? ⟨w.heap.size, 1, none⟩ = some (.slice A l.length c) ∧ w1.cell? ⟨w.heap.size + 1, 0, none⟩ = some (.slice A1 m.length c1) from fun w1 hb =>
    ⟨(hb.cell (p := ⟨w.heap.size, 0, none⟩) (by rw [HS.out]; simp)).trans (by rw [hW0]; simp), (hb.cell (p := ⟨w.heap.size, 1, none⟩) (by rw [HS.out]; simp)).trans (by rw [hW0]; simp), (hb.cell (p := ⟨w.heap.size + 1, 0, none⟩) (by rw [HS.out]; simp)).trans (by rw [hW0]; simp)⟩)
  obtain ⟨rb, hrb⟩ : ∃ b, Sp.right vars l = b := ⟨_, rfl⟩
  have HE : Aside0 (Sp.sat vars l m = (rb && (decide ((m.length : Int) = vars) && l.all (fun c => Sp.holds c m)))) := ⟨by unfold Sp.sat; rw [hrb]⟩
  rw [HE.out]
  have HQ := Aside0.mk hrb
  clear HE hrb hr hm
  cases rb with
  | false =>
    go_enter Try.func43, Try.ntmps43
    go_wp2_with fail
    rw [← hW0]
    clear hW0
    refine (right_any vars _ c l _ HR.out).mono ?_
    rintro e w1 ⟨rfl, hb1⟩
    rw [HQ.out]
    obtain ⟨q0, q1, q2⟩ := HW.out w1 hb1
    have HB1 := Aside0.mk (HB.out.trans (hb1.mono HB.out.size))
    have HB2 := Aside0.mk hb1
    clear hb1
    go_wp2
    go_ret
    exact ⟨rfl, HB1.out⟩
  | true =>
    by_cases hl : (m.length : Int) = vars
    · have t1 : ((m.length : Int) == vars) = true := beq_iff_eq.2 hl
      rw [decide_eq_true hl]
      clear hl
      go_enter Try.func43, Try.ntmps43
      go_wp2_with fail
      rw [← hW0]
      clear hW0
      refine (right_any vars _ c l _ HR.out).mono ?_
      rintro e w1 ⟨rfl, hb1⟩
      rw [HQ.out]
      obtain ⟨q0, q1, q2⟩ := HW.out w1 hb1
      have HB1 := Aside0.mk (HB.out.trans (hb1.mono HB.out.size))
      have HB2 := Aside0.mk hb1
      clear hb1
      have HP := Aside0.mk (sat1_pred (w.heap.size + 1) A1 c1 m l w1 (Nat.lt_of_lt_of_le (by rw [HS.out]; omega) HB2.out.size) q2 (Kd.C_below HM.out HB2.out))
      go_wp2_with (go_at_call 87; refine (every_rows _ _ _ enters_sat1 l _ _ _ (Kd.C_below HR.out HB2.out) HP.out).mono ?_; rintro e w2 ⟨rfl, hb2⟩)
      go_ret
      exact ⟨rfl, HB1.out.trans (hb2.mono HB1.out.size)⟩
    · have t1 : ((m.length : Int) == vars) = false := beq_eq_false_iff_ne.2 hl
      rw [decide_eq_false hl]
      clear hl
      go_enter Try.func43, Try.ntmps43
      go_wp2_with fail
      rw [← hW0]
      clear hW0
      refine (right_any vars _ c l _ HR.out).mono ?_
      rintro e w1 ⟨rfl, hb1⟩
      rw [HQ.out]
      obtain ⟨q0, q1, q2⟩ := HW.out w1 hb1
      have HB1 := Aside0.mk (HB.out.trans (hb1.mono HB.out.size))
      have HB2 := Aside0.mk hb1
      clear hb1
      go_wp2
      go_ret
      exact ⟨rfl, HB1.out⟩

theorem clause_Sat.calls (a0_0 : Int) (A0_1 : Option Addr) (c0_1 : Nat) (l0_1 : List (List Int)) (A1 : Option Addr) (c1 : Nat) (l1 : List Bool) (r : Bool) (w : World) (hr0_1 : Kd.C (Kd.slice 3 (Kd.int .i64)) w A0_1 l0_1.length l0_1) (hc0_1 : l0_1.length ≤ c0_1) (hr1 : Kd.C Kd.bool w A1 l1.length l1) (hc1 : l1.length ≤ c1) (h : clause_Sat.f a0_0 l0_1 l1 = some r) :
    Calls Try.prog 43 #[.agg #[.int .i64 a0_0, .slice A0_1 l0_1.length c0_1], .slice A1 l1.length c1] w fun e w' => e = .returned (.bool r) ∧ Below w.heap.size w w' := by
  obtain rfl := Option.some.inj h
  exact sat_any _ _ _ _ _ _ _ _ hr0_1 hr1

end Go.Proofs.Ythnbmlpjbhhamaa.J
