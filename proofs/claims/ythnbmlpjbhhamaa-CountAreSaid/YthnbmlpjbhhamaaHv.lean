/- unit.run, unit.Propagate, unit.Free, walked. -/
import Derived.Test.YthnbmlpjbhhamaaHu
import Derived.Test.YthnbmlpjbhhamaaUk
namespace Go.Proofs.Ythnbmlpjbhhamaa.J
open Go.RowKit Go.Shelf Go.Proofs.YthnbmlpjbhhamaaW.PrintWords Go.Proofs.YthnbmlpjbhhamaaW.PrintLast Go.Proofs.YthnbmlpjbhhamaaW.PrintMore
set_option linter.unusedVariables false
set_option linter.unusedSimpArgs false

/-- What run comes to. -/
def RunEnds (w : World) (vars : Int) (A : Option Addr) (c : Nat) (cls : List (List Int)) (r : Int × List Int) (e : Ending) (w' : World) : Prop :=
  (r.1 ≠ 0 ∧ e = .returned (.tuple #[.pointer none, .int .i64 r.1]) ∧ Below w.heap.size w w') ∨
  (r.1 = 0 ∧ ∃ g v ws, e = .returned (.tuple #[.pointer (some ⟨g, 0, none⟩), .int .i64 0]) ∧ St w w' g v vars A c cls r.2 ws)

/-- The world behind the box that holds the formula, and what a later one still holds. -/
theorem boxed_formula (w : World) (vars : Int) (A : Option Addr) (c n : Nat) :
    ∃ W0 : World, W0 = w.alloc (.cells #[.int .i64 vars, .slice A n c] 24) ∧ Below w.heap.size w W0 ∧ w.heap.size < W0.heap.size ∧
      ∀ w1, Below W0.heap.size W0 w1 → Below w.heap.size w w1 ∧ w1.cell? ⟨w.heap.size, 0, none⟩ = some (.int .i64 vars) ∧ w1.cell? ⟨w.heap.size, 1, none⟩ = some (.slice A n c) := by
  refine ⟨_, rfl, below_alloc (Below.refl _ w) _, by simp, fun w1 hb => ⟨(below_alloc (Below.refl _ w) _).trans (hb.mono (by simp)), ?_, ?_⟩⟩
  · exact (hb.cell (p := ⟨w.heap.size, 0, none⟩) (by simp)).trans (by simp)
  · exact (hb.cell (p := ⟨w.heap.size, 1, none⟩) (by simp)).trans (by simp)

set_option maxHeartbeats 2000000 in
set_option maxRecDepth 100000 in
theorem run_bad (vars : Int) (A : Option Addr) (c : Nat) (cls : List (List Int)) (A1 : Option Addr) (c1 : Nat) (fixed : List Int) (w : World) (hr : Kd.C (Kd.slice 3 (Kd.int .i64)) w A cls.length cls) (hc : Sp.check vars cls ≠ 0) :
    Calls Try.prog 80 #[.agg #[.int .i64 vars, .slice A cls.length c], .slice A1 fixed.length c1] w (RunEnds w vars A c cls (Sp.check vars cls, [])) := by
  obtain ⟨W0, hW0, hb0, hs0, hw0⟩ := boxed_formula w vars A c cls.length
  have HB0 := Aside0.mk hb0
  have HW := Aside0.mk hw0
  have HR := Aside0.mk (Kd.C_below hr hb0)
  have HC := Aside0.mk hc
  have t1 : (Sp.check vars cls != 0) = true := bne_iff_ne.2 hc
  have HCK := Aside0.mk (fun W => check_any vars A c cls W)
  generalize Sp.check vars cls = y at HC t1 HCK ⊢
  clear hb0 hs0 hw0 hr hc
  go_enter Try.func80, Try.ntmps80
  go_wp2_with fail
  rw [← hW0]
  clear hW0
  refine (HCK.out W0 HR.out).mono ?_
  rintro e w1 ⟨rfl, hb1⟩
  obtain ⟨q0, q1, q2⟩ := HW.out w1 hb1
  have HB1 := Aside0.mk q0
  clear hb1 q0
  go_wp2
  go_ret2
  exact .inl ⟨HC.out, rfl, HB1.out⟩


theorem make_vals (m : Nat) (hm : m ≤ 1000) : ∀ W : World, (Instr.makeSlice 25 (.int .i64 ((m : Int) + 1)) (.int .i64 ((m : Int) + 1))).run Try.prog W = .ok (.slice (some ⟨W.heap.size, 0, none⟩) (m + 1) (m + 1)) (W.alloc (.cells (madeCells #[.int .i64 0] (m + 1)) 3)) := by
  have h := print_make (P := Try.prog) 25 3 .i64 8 Try.underlying25 info_int (by omega) (m + 1) (by omega)
  intro W
  have e : (((m + 1 : Nat)) : Int) = (m : Int) + 1 := by omega
  rw [← e]
  exact h W

theorem madeCells_list (m : Nat) : madeCells #[.int .i64 0] m = ((List.replicate m (0 : Int)).map (Value.int .i64)).toArray := by
  rw [List.map_replicate]
  refine Array.ext (by simp [madeCells]) (fun i h1 h2 => ?_)
  simp [madeCells, Nat.mod_one]
/-- The state as run makes it. -/
theorem st_new (w w1 : World) (hb : Below w.heap.size w w1) (nv : Nat) (hv : (nv : Int) ≤ 60) (A : Option Addr) (c : Nat) (cls : List (List Int)) (hr : Kd.C (Kd.slice 3 (Kd.int .i64)) w A cls.length cls) :
    StQ w ((w1.alloc (.cells (madeCells #[.int .i64 0] (nv + 1)) 3)).alloc (.cells #[.int .i64 nv, .slice A cls.length c, .slice (some ⟨w1.heap.size, 0, none⟩) (nv + 1) (nv + 1), .slice none 0 0] 78)) (w1.heap.size + 1) w1.heap.size nv A c cls (List.replicate (nv + 1) 0) [] (.slice none 0 0) where
  hg := by
    have := heap_alloc_new (w1.alloc (.cells (madeCells #[.int .i64 0] (nv + 1)) 3)) (.cells #[.int .i64 nv, .slice A cls.length c, .slice (some ⟨w1.heap.size, 0, none⟩) (nv + 1) (nv + 1), .slice none 0 0] 78)
    rw [World.size_alloc] at this
    simpa using this
  hv := by
    rw [Below.heap_alloc _ _ _ (by simp), heap_alloc_new, madeCells_list]
  hq := q_of_own (own_nil _ _ _ _)
  ne := by simp [Value.ownBlock]
  bg := by have := hb.size; omega
  bv := hb.size
  hl := by simp; omega
  hx := fun x hx => by rw [(List.mem_replicate.1 hx).2]; omega
  hb := (hb.alloc hb.size _).alloc (by have := hb.size; simp; omega) _
  hr := hr

/-- next, whatever waits. -/
def Popped (w0 : World) (g v : Nat) (vars : Int) (A : Option Addr) (c : Nat) (cls : List (List Int)) (vals ws : List Int) (e : Ending) (w' : World) : Prop :=
  ∃ (n : Int) (more : Bool) (ws' : List Int), e = .returned (.tuple #[.int .i64 n, .bool more]) ∧ St w0 w' g v vars A c cls vals ws' ∧ ws = (if more = true then n :: ws' else []) ∧ (more = false → n = 0)
theorem next_any {w0 W : World} {g v : Nat} {vars : Int} {A : Option Addr} {c : Nat} {cls : List (List Int)} {vals ws : List Int} (h : St w0 W g v vars A c cls vals ws) :
    Calls Try.prog 116 #[.pointer (some ⟨g, 3, none⟩)] W (Popped w0 g v vars A c cls vals ws) := by
  cases ws with
  | nil =>
    refine (next_none h).mono ?_
    rintro e w' ⟨rfl, rfl⟩
    exact ⟨0, false, [], rfl, h, rfl, fun _ => rfl⟩
  | cons n ws =>
    refine (next_some h).mono ?_
    rintro e w' ⟨rfl, hs⟩
    exact ⟨n, true, ws, rfl, hs, rfl, fun h => absurd h (by decide)⟩
theorem St.below {w0 W : World} {g v : Nat} {vars : Int} {A : Option Addr} {c : Nat} {cls : List (List Int)} {vals ws : List Int} (h : St w0 W g v vars A c cls vals ws) : Below w0.heap.size w0 W := by
  obtain ⟨qv, h⟩ := h; exact h.hb
theorem St.range {w0 W : World} {g v : Nat} {vars : Int} {A : Option Addr} {c : Nat} {cls : List (List Int)} {vals ws : List Int} (h : St w0 W g v vars A c cls vals ws) : ∀ x ∈ vals, -1 ≤ x ∧ x ≤ 1 := by
  obtain ⟨qv, h⟩ := h; exact h.hx
set_option maxHeartbeats 4000000 in
set_option maxRecDepth 100000 in
theorem run_good (k : Nat) (vars : Int) (A : Option Addr) (c : Nat) (cls : List (List Int)) (A1 : Option Addr) (c1 : Nat) (fixed : List Int) (r : Int × List Int) (w : World) (hr : Kd.C (Kd.slice 3 (Kd.int .i64)) w A cls.length cls) (hr1 : Kd.C (Kd.int .i64) w A1 fixed.length fixed)
    (hc : Sp.check vars cls = 0) (h : Un.run k vars cls fixed = some r) :
    Calls Try.prog 80 #[.agg #[.int .i64 vars, .slice A cls.length c], .slice A1 fixed.length c1] w (RunEnds w vars A c cls r) := by
  obtain ⟨v0, v1, hL⟩ := Sp.check_ok hc
  obtain ⟨nv, rfl⟩ := Int.eq_ofNat_of_zero_le v0
  obtain ⟨W0, hW0, hb0, hs0, hw0⟩ := boxed_formula w nv A c cls.length
  have HB0 := Aside0.mk hb0
  have HW := Aside0.mk hw0
  have HR := Aside0.mk hr
  have HR1 := Aside0.mk hr1
  have HC := Aside0.mk hc
  have HCK := Aside0.mk (check_any nv A c cls W0 (Kd.C_below hr hb0))
  rw [hc] at HCK
  have HL := Aside0.mk hL
  have HH := Aside0.mk h
  have hbig : fixed.length ≤ 9223372036854775807 := hr1.2.1
  have hmk := make_vals nv (by omega)
  clear hb0 hs0 hw0 hr hr1 hc hL h v0
  go_enter Try.func80, Try.ntmps80
  go_wp2_with fail
  rw [← hW0]
  clear hW0
  refine HCK.out.mono ?_
  rintro e w1 ⟨rfl, hb1⟩
  obtain ⟨q0, q1, q2⟩ := HW.out w1 hb1
  have HB1 := Aside0.mk q0
  clear hb1 q0
  go_wp2
  go_upto_region 4 with (fail)
  go_cut [7] (fun s7 wc => ∃ g v ws, s7 = .pointer (some ⟨g, 0, none⟩) ∧ Aside0 (StQ w wc g v nv A c cls (List.replicate (nv + 1) 0) [] ws) ∧ Aside0 (wc.cell? ⟨w.heap.size, 0, none⟩ = some (.int .i64 nv)))
  case first =>
    have hwr : IntKind.i64.wrap ((nv : Int) + 1) = (nv : Int) + 1 := IntWalk.i64_in _ (by omega)
    have q3 : ∀ o, (w1.alloc o).cell? ⟨w.heap.size, 0, none⟩ = some (.int .i64 nv) := fun o => pw_cell_below (below_alloc (Below.refl _ w1) o) q1
    have q4 : ∀ o, (w1.alloc o).cell? ⟨w.heap.size, 1, none⟩ = some (.slice A cls.length c) := fun o => pw_cell_below (below_alloc (Below.refl _ w1) o) q2
    go_region
    go_wp2
    go_meet
    case rel => exact ⟨_, _, _, rfl, ⟨(st_new w w1 HB1.out nv v1 A c cls HR.out).drewN 1⟩, ⟨pw_cell_below (below_alloc (Below.refl _ _) _) (q3 _)⟩⟩
  case rest =>
    obtain ⟨g, v, qv, rfl, HS, HF⟩ := hcut
    clear q1 q2 hmk
    have hq1 := HF.out
    go_wp2_with fail
    go_loopg [9, 29] fixed.length (fun gg _ s29 wq => ∃ j : Nat, j ≤ fixed.length ∧ fixed.length - j ≤ gg ∧ s29 = .int .i64 j ∧ Aside0 (∀ i (hi : i < fixed.length), i < j → Sp.lit nv fixed[i] = true) ∧ Aside0 (StQ w wq g v nv A c cls (List.replicate (nv + 1) 0) [] qv) ∧ Aside0 (wq.cell? ⟨w.heap.size, 0, none⟩ = some (.int .i64 nv)))
    case atStart => exact ⟨0, Nat.zero_le _, by omega, rfl, ⟨fun i hi h => absurd h (Nat.not_lt_zero _)⟩, HS, HF⟩
    case round =>
      clear hq1
      obtain ⟨j, hj, hg, rfl, HJ, HS2, HF2⟩ := hrel
      have hq2 := HF2.out
      by_cases hjl : j < fixed.length
      · have hjlz : (j : Int) < (fixed.length : Int) := by omega
        obtain ⟨p0, e0, z0⟩ := C_int_at (Kd.C_below HR1.out HS2.out.hb) j hjl
        subst e0
        generalize hm : fixed[j] = m at z0
        have HM := Aside0.mk hm
        clear hm
        cases hq : Sp.lit nv m with
        | true =>
          obtain ⟨a1, a2, a3⟩ := Sp.lit_iff.1 hq
          have HQ := Aside0.mk hq
          have t1 : (m == 0) = false := beq_eq_false_iff_ne.2 a1
          have t2 : decide (m < -(nv : Int)) = false := decide_eq_false (by omega)
          have t3 : decide ((nv : Int) < m) = false := decide_eq_false (by omega)
          clear hq a1
          go_wp2
          go_roundg (fixed.length - (j + 1))
          case measure => omega
          case rel =>
            refine ⟨j + 1, by omega, by omega, by go_num, ⟨fun i hi h => ?_⟩, HS2, HF2⟩
            by_cases e : i = j
            · subst e; rw [HM.out]; exact HQ.out
            · exact HJ.out i hi (by omega)
        | false =>
          have HE := Aside0.mk (show r = (100, []) by
            have := HH.out
            unfold Un.run at this
            rw [if_neg (by rw [HC.out]; simp), if_pos] at this
            · exact (Option.some.inj this).symm
            · rw [Bool.eq_false_iff]; intro hall
              have := List.all_eq_true.1 hall fixed[j] (List.getElem_mem hjl)
              rw [HM.out, hq] at this; exact absurd this (by decide))
          rcases Sp.lit_false.1 hq with h0 | h0 | h0
          · subst h0
            clear hq
            go_wp2
            go_ret2
            rw [HE.out]
            exact .inl ⟨by decide, rfl, HS2.out.hb⟩
          · have t1 : (m == 0) = false := beq_eq_false_iff_ne.2 (by omega)
            have t2 : decide (m < -(nv : Int)) = true := decide_eq_true (by omega)
            clear hq
            go_wp2
            go_ret2
            rw [HE.out]
            exact .inl ⟨by decide, rfl, HS2.out.hb⟩
          · have t1 : (m == 0) = false := beq_eq_false_iff_ne.2 (by omega)
            have t2 : decide (m < -(nv : Int)) = false := decide_eq_false (by omega)
            have t3 : decide ((nv : Int) < m) = true := decide_eq_true (by omega)
            clear hq
            go_wp2
            go_ret2
            rw [HE.out]
            exact .inl ⟨by decide, rfl, HS2.out.hb⟩
      · have hjlz : ¬ (j : Int) < (fixed.length : Int) := by omega
        have hlit : ∀ m ∈ fixed, Sp.lit nv m = true := by
          intro m hm
          obtain ⟨i, hi, rfl⟩ := List.mem_iff_getElem.1 hm
          exact HJ.out i hi (by omega)
        have hlen : (List.replicate (nv + 1) (0 : Int)).length = nv + 1 := by simp
        have HLIT := Aside0.mk (show ∀ m ∈ fixed, m.natAbs < nv + 1 from fun m hm => by have := Sp.lit_iff.1 (hlit m hm); omega)
        have HP := Aside0.mk (Un.run_parts HC.out (List.all_eq_true.2 hlit) HH.out)
        have HCL := Aside0.mk (show ∀ cl ∈ cls, ∀ m ∈ cl, m.natAbs < nv + 1 from fun cl hcl m hm => by have := Sp.lit_iff.1 (HL.out cl hcl m hm); omega)
        have hfr := Un.free_replicate (nv + 1)
        have HI0 := Aside0.mk (show (List.replicate (nv + 1) (0 : Int)).length = nv + 1 ∧ ([] : List Int).length + Un.free (List.replicate (nv + 1) 0) = nv + 1 from ⟨hlen, by rw [hfr]; simp⟩)
        have HS4 := Aside0.mk (show St w _ g v nv A c cls (List.replicate (nv + 1) 0) [] from ⟨_, HS2.out⟩)
        clear hlit hlen hfr HJ HS HS2 HF HF2 hq2
        have HW0 := Aside0.mk (show ∀ x ∈ ([] : List Int), x.natAbs < nv + 1 from fun x hx => by cases hx)
        generalize List.replicate (nv + 1) (0 : Int) = vals0 at HI0 HS4 HP
        generalize ([] : List Int) = ws0 at HI0 HS4 HP HW0
        obtain ⟨FX, hFX⟩ : ∃ F, F = Un.fix fixed vals0 ws0 := ⟨_, rfl⟩
        rw [← hFX] at HP
        go_wp2_with fail
        go_loopg [11, 51] fixed.length (fun gg _ s51 wq => ∃ (i : Nat) (vs ws : List Int), i ≤ fixed.length ∧ fixed.length - i ≤ gg ∧ s51 = .int .i64 i ∧ Aside0 (St w wq g v nv A c cls vs ws) ∧ Aside0 (vs.length = nv + 1 ∧ ws.length + Un.free vs = nv + 1) ∧ Aside0 (∀ x ∈ ws, x.natAbs < nv + 1) ∧ Aside0 (Un.fix (fixed.drop i) vs ws = FX))
        case atStart => exact ⟨0, vals0, ws0, Nat.zero_le _, by omega, rfl, HS4, HI0, HW0, ⟨by rw [hFX]; rfl⟩⟩
        case round =>
          clear HS4 HI0 HW0 hFX hg hj hjl hjlz
          obtain ⟨i, vs, ws, hi, hg, rfl, HS5, HI5, HW5, HX⟩ := hrel
          by_cases hil : i < fixed.length
          · have hilz : (i : Int) < (fixed.length : Int) := by omega
            obtain ⟨p0, e0, z0⟩ := C_int_at (Kd.C_below HR1.out (St.below HS5.out)) i hil
            subst e0
            have hmb := HLIT.out _ (List.getElem_mem hil)
            have HSA := Aside0.mk (set_any HS5.out fixed[i] (by rw [HI5.out.1]; exact hmb) (by have := HI5.out.2; omega))
            have HI6 := Aside0.mk (Un.set_inv vs ws fixed[i] (St.range HS5.out) (by rw [HI5.out.1]; exact hmb))
            have HW6 := Aside0.mk (Un.set_ws vs ws fixed[i] (nv + 1) HW5.out hmb)
            cases hb : (Un.set vs ws fixed[i]).1 with
            | false =>
              have HE := Aside0.mk (show r.1 = 110 by
                rcases HP.out with ⟨_, e⟩ | ⟨e, _⟩
                · rw [e]
                · rw [← HX.out, Un.fix_false fixed vs ws i hil hb] at e; exact absurd e (by decide))
              rw [hb] at HSA
              clear hb
              generalize fixed[i] = m at z0 HSA HI6 HW6 hmb
              go_wp2_with (go_at_call 114; refine HSA.out.mono ?_; rintro e w' ⟨rfl, hst'⟩; have HST := Aside0.mk hst'; clear hst')
              go_ret2
              exact .inl ⟨by rw [HE.out]; decide, by rw [HE.out]; rfl, St.below HST.out⟩
            | true =>
              have HE := Aside0.mk (show Un.fix (fixed.drop (i + 1)) (Un.set vs ws fixed[i]).2.1 (Un.set vs ws fixed[i]).2.2 = FX by rw [← Un.fix_true fixed vs ws i hil hb]; exact HX.out)
              rw [hb] at HSA
              clear hb
              generalize fixed[i] = m at z0 HSA HI6 HW6 hmb HE
              go_wp2_with (go_at_call 114; refine HSA.out.mono ?_; rintro e w' ⟨rfl, hst'⟩; have HST := Aside0.mk hst'; clear hst')
              go_roundg (fixed.length - (i + 1))
              case measure => omega
              case rel => exact ⟨i + 1, (Un.set vs ws m).2.1, (Un.set vs ws m).2.2, by omega, by omega, by go_num, HST, ⟨by rw [HI6.out.1, HI5.out.1], by rw [HI6.out.2.1, HI5.out.2]⟩, HW6, HE⟩
          · have hilz : ¬ (i : Int) < (fixed.length : Int) := by omega
            have hFX : FX = (true, vs, ws) := by rw [← HX.out, List.drop_eq_nil_of_le (by omega)]; rfl
            obtain ⟨L, okF, vF, hLK, hLP, hr⟩ : ∃ L okF vF, Un.look 0 cls vs ws = L ∧ Un.loop cls k L.1 L.2.1 L.2.2 = some (okF, vF) ∧ r = if okF = true then (0, vF) else (110, ws0) := by
              rcases HP.out with ⟨e, _⟩ | ⟨_, v2, w2, L, okF, vF, e, hlk, hlp, hr⟩
              · rw [hFX] at e; exact absurd e (by simp)
              · rw [hFX] at e
                injection e with _ e
                injection e with e1 e2
                subst e1; subst e2
                exact ⟨L, okF, vF, hlk, hlp, hr⟩
            have HLA := Aside0.mk (look_any HS5.out 0 (by rw [HI5.out.1]; exact Nat.succ_pos _) (fun cl h m hm => by rw [HI5.out.1]; exact HCL.out cl h m hm) (nv + 1) HI5.out.2 (by omega))
            have HI7 := Aside0.mk (Un.look_inv 0 cls vs ws (St.range HS5.out) (fun cl h m hm => by rw [HI5.out.1]; exact HCL.out cl h m hm))
            have HW7 := Aside0.mk (Un.look_ws 0 (nv + 1) cls vs ws HW5.out HCL.out)
            rw [hLK] at HLA HI7 HW7
            have HRF := Aside0.mk hr
            have HLP := Aside0.mk hLP
            obtain ⟨ok1, vs1, ws1⟩ := L
            have HI8 := Aside0.mk (show vs1.length = nv + 1 ∧ ws1.length + Un.free vs1 = nv + 1 from ⟨HI7.out.1.trans HI5.out.1, HI7.out.2.1.trans HI5.out.2⟩)
            clear hr hLP hLK hFX
            have hlook := HLA.out
            clear HLA
            simp only at hlook HW7 HLP
            go_wp2_with (first | (go_at_call 115; refine hlook.mono ?_; rintro e w2 ⟨rfl, hst2⟩; have HN := Aside0.mk (next_any hst2); clear hst2) | (go_at_call 116; refine HN.out.mono ?_; rintro e w3 ⟨n, more, ws2, rfl, hst3, hws, hmo⟩; have HS6 := Aside0.mk hst3; have HWS := Aside0.mk hws; have HMO := Aside0.mk hmo; clear hst3 hws hmo HN))
            rw [HWS.out] at HLP HI8 HW7
            have HW9 := Aside0.mk HW7.out
            go_loopg [12, 13, 14] k (fun gg s12 s13 s14 wq => ∃ (ok more : Bool) (n : Int) (vs ws : List Int), s12 = .bool ok ∧ s13 = .int .i64 n ∧ s14 = .bool more ∧ Aside0 (St w wq g v nv A c cls vs ws) ∧ Aside0 (Un.loop cls gg ok vs (if more = true then n :: ws else []) = some (okF, vF)) ∧ Aside0 (vs.length = nv + 1 ∧ (if more = true then n :: ws else []).length + Un.free vs ≤ nv + 1) ∧ Aside0 (∀ x ∈ (if more = true then n :: ws else []), x.natAbs < nv + 1))
            case atStart => exact ⟨ok1, more, n, vs1, ws2, rfl, rfl, rfl, HS6, HLP, ⟨HI8.out.1, Nat.le_of_eq HI8.out.2⟩, HW9⟩
            case round =>
              clear HS6 HLP HI8 HW9 HW7 HWS HMO HS5 HI5 HW5 HX hilz hg hi HI7
              obtain ⟨ok, more, n, vs, ws, rfl, rfl, rfl, HS7, HLO, HI9, HWA⟩ := hrel
              cases gk with
              | zero => exact absurd HLO.out (by simp [Un.loop])
              | succ gk =>
                have hlo := HLO.out
                clear HLO
                cases more with
                | false =>
                  simp only [Bool.false_eq_true, if_false, Un.loop] at hlo
                  injection hlo with e
                  injection e with e1 e2
                  subst e1; subst e2
                  cases ok with
                  | false =>
                    go_wp2
                    go_ret2
                    refine .inl ⟨?_, ?_, St.below HS7.out⟩
                    · rw [HRF.out]; simp
                    · rw [HRF.out]; rfl
                  | true =>
                    go_wp2
                    go_ret2
                    refine .inr ⟨?_, g, v, ws, rfl, ?_⟩
                    · rw [HRF.out]; rfl
                    · rw [HRF.out]; exact HS7.out
                | true =>
                  simp only [if_true, Un.loop] at hlo
                  cases ok with
                  | false =>
                    simp only [if_true] at hlo
                    injection hlo with e
                    injection e with e1 e2
                    subst e1; subst e2
                    go_wp2
                    go_ret2
                    refine .inl ⟨?_, ?_, St.below HS7.out⟩
                    · rw [HRF.out]; simp
                    · rw [HRF.out]; rfl
                  | true =>
                    simp only [Bool.true_eq_false, if_false] at hlo
                    simp only [if_true] at HI9 HWA
                    have hn := HWA.out n List.mem_cons_self
                    have HWB := Aside0.mk (show ∀ x ∈ ws, x.natAbs < nv + 1 from fun x hx => HWA.out x (List.mem_cons_of_mem _ hx))
                    have hB : ws.length + Un.free vs ≤ nv := by have := HI9.out.2; simp only [List.length_cons] at this; omega
                    have HLA := Aside0.mk (look_any HS7.out n (by rw [HI9.out.1]; exact hn) (fun cl h m hm => by rw [HI9.out.1]; exact HCL.out cl h m hm) _ rfl (by omega))
                    have HI7 := Aside0.mk (Un.look_inv n cls vs ws (St.range HS7.out) (fun cl h m hm => by rw [HI9.out.1]; exact HCL.out cl h m hm))
                    have HW7 := Aside0.mk (Un.look_ws n (nv + 1) cls vs ws HWB.out HCL.out)
                    clear HWA HWB
                    rcases hLK : Un.look n cls vs ws with ⟨ok2, vs2, ws2⟩
                    rw [hLK] at hlo HLA HI7 HW7
                    have HLO2 := Aside0.mk hlo
                    have HI8 := Aside0.mk (show vs2.length = nv + 1 ∧ ws2.length + Un.free vs2 ≤ nv from ⟨HI7.out.1.trans HI9.out.1, by have := HI7.out.2.1; simp only at this; omega⟩)
                    have hlook := HLA.out
                    clear HLA hLK hlo HI9 HI7 hB HS7
                    simp only at hlook HW7 HLO2
                    go_wp2_with (first | (go_at_call 115; refine hlook.mono ?_; rintro e w2 ⟨rfl, hst2⟩; have HN := Aside0.mk (next_any hst2); clear hst2) | (go_at_call 116; refine HN.out.mono ?_; rintro e w3 ⟨n2, more2, ws3, rfl, hst3, hws, hmo⟩; have HS6 := Aside0.mk hst3; have HWS := Aside0.mk hws; clear hst3 hws hmo HN))
                    rw [HWS.out] at HLO2 HI8 HW7
                    go_roundg gk
                    case measure => omega
                    case rel => exact ⟨ok2, more2, n2, vs2, ws3, rfl, rfl, rfl, HS6, HLO2, ⟨HI8.out.1, by have := HI8.out.2; omega⟩, HW7⟩


theorem run_any (k : Nat) (vars : Int) (A : Option Addr) (c : Nat) (cls : List (List Int)) (A1 : Option Addr) (c1 : Nat) (fixed : List Int) (r : Int × List Int) (w : World) (hr : Kd.C (Kd.slice 3 (Kd.int .i64)) w A cls.length cls) (hr1 : Kd.C (Kd.int .i64) w A1 fixed.length fixed) (h : Un.run k vars cls fixed = some r) :
    Calls Try.prog 80 #[.agg #[.int .i64 vars, .slice A cls.length c], .slice A1 fixed.length c1] w (RunEnds w vars A c cls r) := by
  by_cases hc : Sp.check vars cls = 0
  · exact run_good k vars A c cls A1 c1 fixed r w hr hr1 hc h
  · unfold Un.run at h
    rw [if_pos hc] at h
    obtain rfl := Option.some.inj h
    exact run_bad vars A c cls A1 c1 fixed w hr hc

/-- What Propagate tells, given what run comes to. -/
def prop (r : Int × List Int) : List Int × Int := if r.1 ≠ 0 then ([], r.1) else (Un.tell r.2, 0)

def PropEnds (w : World) (r : List Int × Int) (e : Ending) (w' : World) : Prop :=
  ∃ v0_ : Value, e = .returned (.tuple #[v0_, .int .i64 r.2]) ∧ Kd.R (Kd.int .i64) 3 w' w.heap.size (fun _ => True) v0_ r.1 ∧ Below w.heap.size w w'

set_option maxHeartbeats 4000000 in
set_option maxRecDepth 100000 in
theorem propagate_any (k : Nat) (vars : Int) (A : Option Addr) (c : Nat) (cls : List (List Int)) (A1 : Option Addr) (c1 : Nat) (fixed : List Int) (r : Int × List Int) (w : World) (hr : Kd.C (Kd.slice 3 (Kd.int .i64)) w A cls.length cls) (hr1 : Kd.C (Kd.int .i64) w A1 fixed.length fixed) (h : Un.run k vars cls fixed = some r) :
    Calls Try.prog 35 #[.agg #[.int .i64 vars, .slice A cls.length c], .slice A1 fixed.length c1] w (PropEnds w (prop r)) := by
  obtain ⟨re, vals⟩ := r
  obtain ⟨W0, hW0, hb0, hs0, hw0⟩ := boxed_formula w vars A c cls.length
  have HB0 := Aside0.mk hb0
  have HRN := Aside0.mk (run_any k vars A c cls A1 c1 fixed (re, vals) W0 (Kd.C_below hr hb0) (Kd.C_below hr1 hb0) h)
  clear hb0 hs0 hw0 hr hr1 h
  by_cases h0 : re = 0
  · have HE := Aside0.mk (show prop (re, vals) = (Un.tell vals, 0) by unfold prop; rw [if_neg (by simp [h0])])
    rw [HE.out]
    clear HE
    go_enter Try.func35, Try.ntmps35
    go_wp2_with fail
    rw [← hW0]
    clear hW0
    refine HRN.out.mono ?_
    rintro e w1 (⟨e1, _⟩ | ⟨_, g, v, ws, rfl, hst⟩)
    · exact absurd h0 e1
    obtain ⟨qv, hs⟩ := hst
    obtain ⟨f0, f1, f2, f3⟩ := hs.fld
    have HS := Aside0.mk hs
    have hl := hs.hl
    have HB1 := Aside0.mk (HB0.out.trans (hs.hb.mono HB0.out.size))
    have HX := Aside0.mk (fun j => vals_range hs.hx j)
    have HV := Aside0.mk hs.hv
    have HVL := Aside0.mk (Array.getElem?_eq_some_iff.1 hs.hv).1
    clear hs f0 f1 f3
    simp only at HS hl HX HV f2
    go_wp2_with fail
    go_loopg [8, 25] vals.length (fun gg s8 s25 wq => ∃ j : Nat, j ≤ vals.length ∧ vals.length - j ≤ gg ∧ s25 = .int .i64 j ∧ Aside0 (Kd.R (Kd.int .i64) 3 wq w.heap.size (fun b => b ≠ v) s8 (Un.upto vals j)) ∧ Aside0 (Below w.heap.size w wq) ∧ Aside0 (wq.heap[v]? = some (.cells (vals.map (Value.int .i64)).toArray 3 (0, 0))))
    case atStart => exact ⟨0, Nat.zero_le _, by omega, rfl, ⟨Kd.R_nil _ _ _ _ _⟩, HB1, HV⟩
    case round =>
      clear HV HVL HS f2
      obtain ⟨j, hj, hg, rfl, HR, HB, HV⟩ := hrel
      by_cases hjl : j < vals.length
      · have hjlz : (j : Int) < (vals.length : Int) := by omega
        have hcell : wr.cell? ⟨v, j, none⟩ = some (.int .i64 (vals.getD j 0)) := by rw [blk_cell HV.out j]; simp [hjl]
        have hxr := HX.out j
        have HLE := Aside0.mk (Un.upto_length vals j)
        have HVL := Aside0.mk (Array.getElem?_eq_some_iff.1 HV.out).1
        by_cases hx0 : vals.getD j 0 = 0
        · have HU := Aside0.mk (Un.upto_zero vals j hx0)
          rw [hx0] at hcell
          clear hx0 hxr
          go_wp2
          go_roundg (vals.length - (j + 1))
          case measure => omega
          case rel => exact ⟨j + 1, by omega, by omega, by go_num, ⟨by rw [HU.out]; exact HR.out⟩, HB, HV⟩
        · have HU := Aside0.mk (Un.upto_some vals j hx0)
          by_cases hx1 : vals.getD j 0 = 1
          · rw [hx1] at hcell HU
            clear hx0 hxr hx1
            have e1 : (j : Int) * 1 = j := by omega
            rw [e1] at HU
            clear e1
            go_wp2_with (at_builtin; refine Kd.R_append (Kd.int .i64) (w0 := w) w.heap.size rfl (.tmp 32) (.tmp 36) 25 3 (.int .i64 0) 8 rfl Try.underlying25 info_int rfl (by decide) (by omega) u8 (Un.upto vals j) (j : Int) [.int .i64 (j : Int)] (fun b => b ≠ v) (fun _ => False) rfl rfl ?aP (fun _ hk => hk.elim) ?aF ?aO ?aB ?aS ?aL ?_; (case aP => exact rfl); (case aB => exact HB.out); (case aF => exact (fun b hb e => by have := HVL.out; omega)); (case aO => exact HR.out); (case aS => exact HB.out.size); (case aL => have := HLE.out; omega); intro v1 w2 hR2 hB2 hg2 hat2; have HR2 := Aside0.mk hR2; have HB2 := Aside0.mk hB2; have HG2 := Aside0.mk hg2; clear hR2 hB2 hg2 hat2)
            go_roundg (vals.length - (j + 1))
            case measure => omega
            case rel => exact ⟨j + 1, by omega, by omega, by go_num, ⟨by rw [HU.out]; exact HR2.out⟩, HB2, ⟨(HG2.out.block v HVL.out (fun e => HR.out.1 v e.symm rfl)).trans HV.out⟩⟩
          · have hx2 : vals.getD j 0 = -1 := by omega
            rw [hx2] at hcell HU
            clear hx0 hxr hx1 hx2
            have e1 : (j : Int) * -1 = -(j : Int) := by omega
            rw [e1] at HU
            clear e1
            go_wp2_with (at_builtin; refine Kd.R_append (Kd.int .i64) (w0 := w) w.heap.size rfl (.tmp 32) (.tmp 36) 25 3 (.int .i64 0) 8 rfl Try.underlying25 info_int rfl (by decide) (by omega) u8 (Un.upto vals j) (-(j : Int)) [.int .i64 (-(j : Int))] (fun b => b ≠ v) (fun _ => False) rfl rfl ?aP (fun _ hk => hk.elim) ?aF ?aO ?aB ?aS ?aL ?_; (case aP => exact rfl); (case aB => exact HB.out); (case aF => exact (fun b hb e => by have := HVL.out; omega)); (case aO => exact HR.out); (case aS => exact HB.out.size); (case aL => have := HLE.out; omega); intro v1 w2 hR2 hB2 hg2 hat2; have HR2 := Aside0.mk hR2; have HB2 := Aside0.mk hB2; have HG2 := Aside0.mk hg2; clear hR2 hB2 hg2 hat2)
            go_roundg (vals.length - (j + 1))
            case measure => omega
            case rel => exact ⟨j + 1, by omega, by omega, by go_num, ⟨by rw [HU.out]; exact HR2.out⟩, HB2, ⟨(HG2.out.block v HVL.out (fun e => HR.out.1 v e.symm rfl)).trans HV.out⟩⟩
      · have hjlz : ¬ (j : Int) < (vals.length : Int) := by omega
        have hjv : j = vals.length := by omega
        subst hjv
        go_wp2
        go_ret2
        exact ⟨_, rfl, Kd.R_mono HR.out (fun _ _ => trivial), HB.out⟩
  · have HE := Aside0.mk (show prop (re, vals) = ([], re) by unfold prop; rw [if_pos (by simpa using h0)])
    rw [HE.out]
    have t1 : (re != 0) = true := bne_iff_ne.2 h0
    clear HE
    go_enter Try.func35, Try.ntmps35
    go_wp2_with fail
    rw [← hW0]
    clear hW0
    refine HRN.out.mono ?_
    rintro e w1 (⟨_, rfl, hb1⟩ | ⟨e1, _⟩)
    · have HB1 := Aside0.mk (HB0.out.trans (hb1.mono HB0.out.size))
      clear hb1 h0
      go_wp2
      go_ret2
      exact ⟨_, rfl, Kd.R_nil _ _ _ _ _, HB1.out⟩
    · exact absurd e1 h0


theorem freeVar_idx (vals : List Int) : Un.freeVar vals = Idx (vals.drop 1) 0 + 1 := by
  unfold Un.freeVar Idx
  cases (vals.drop 1).findIdx? (fun x => 0 == x) <;> rfl
theorem idx_range (l : List Int) (x : Int) : -1 ≤ Idx l x ∧ Idx l x < l.length := by
  unfold Idx
  cases h : l.findIdx? (fun y => x == y) with
  | none => exact ⟨Int.le_refl _, by show (-1 : Int) < _; omega⟩
  | some i =>
    rw [List.findIdx?_eq_some_iff_getElem] at h
    obtain ⟨hi, _⟩ := h
    exact ⟨by simp only; omega, by simp only; omega⟩
theorem C_tail {W : World} {v : Nat} {vals : List Int} (h : W.heap[v]? = some (.cells (vals.map (Value.int .i64)).toArray 3 (0, 0))) (hl : vals.length ≤ 100) : Kd.C (Kd.int .i64) W (some ⟨v, 1, none⟩) (vals.drop 1).length (vals.drop 1) := by
  refine Kd.C_of_reads (d := (0 : Int)) (h1 := fun _ => rfl) ⟨rfl, by simp; omega, fun _ => ⟨_, rfl, fun j hj => ?_⟩⟩
  have hj' : 1 + j < vals.length := by simp at hj; omega
  rw [add_at, Nat.add_comm 1 j, blk_cell h (j + 1)]
  simp [show j + 1 < vals.length by omega]

def free (r : Int × List Int) : Int := if r.1 ≠ 0 then 0 else Un.freeVar r.2

set_option maxHeartbeats 4000000 in
set_option maxRecDepth 100000 in
theorem free_any (k : Nat) (vars : Int) (A : Option Addr) (c : Nat) (cls : List (List Int)) (A1 : Option Addr) (c1 : Nat) (fixed : List Int) (r : Int × List Int) (w : World) (hr : Kd.C (Kd.slice 3 (Kd.int .i64)) w A cls.length cls) (hr1 : Kd.C (Kd.int .i64) w A1 fixed.length fixed) (h : Un.run k vars cls fixed = some r) :
    Calls Try.prog 39 #[.agg #[.int .i64 vars, .slice A cls.length c], .slice A1 fixed.length c1] w fun e w' => e = .returned (.int .i64 (free r)) ∧ Below w.heap.size w w' := by
  obtain ⟨re, vals⟩ := r
  obtain ⟨W0, hW0, hb0, hs0, hw0⟩ := boxed_formula w vars A c cls.length
  have HB0 := Aside0.mk hb0
  have HRN := Aside0.mk (run_any k vars A c cls A1 c1 fixed (re, vals) W0 (Kd.C_below hr hb0) (Kd.C_below hr1 hb0) h)
  clear hb0 hs0 hw0 hr hr1
  by_cases h0 : re = 0
  · have HE := Aside0.mk (show free (re, vals) = Idx (vals.drop 1) 0 + 1 by unfold free; rw [if_neg (by simp [h0])]; exact freeVar_idx vals)
    rw [HE.out]
    subst h0
    have hvl := Un.run_length h
    obtain ⟨z, hz⟩ : ∃ z, Idx (vals.drop 1) 0 + 1 = z := ⟨_, rfl⟩
    rw [hz]
    have HZ := Aside0.mk hz
    clear HE h hz
    go_enter Try.func39, Try.ntmps39
    go_wp2_with fail
    rw [← hW0]
    clear hW0
    refine HRN.out.mono ?_
    rintro e w1 (⟨e1, _⟩ | ⟨_, g, v, ws, rfl, hst⟩)
    · exact absurd rfl e1
    obtain ⟨qv, hs⟩ := hst
    obtain ⟨f0, f1, f2, f3⟩ := hs.fld
    have hl := hs.hl
    have HB1 := Aside0.mk (HB0.out.trans (hs.hb.mono HB0.out.size))
    have HV := Aside0.mk hs.hv
    have HT := Aside0.mk (C_tail hs.hv hs.hl)
    obtain ⟨y1, y2⟩ := idx_range (vals.drop 1) 0
    have hdl : (vals.drop 1).length = vals.length - 1 := by simp
    clear hs f0 f1 f3
    simp only at hl HV HT f2
    obtain ⟨y, hy⟩ : ∃ y, Idx (vals.drop 1) 0 = y := ⟨_, rfl⟩
    have HY := Aside0.mk hy
    by_cases hv1 : vals.length = 1
    · have HIX := Aside0.mk (index_int 0 [] (some ⟨v, 0, none⟩) 0 w1 (Kd.C_of_reads (d := (0 : Int)) (h1 := fun _ => rfl) ⟨rfl, by simp, fun h => absurd h (by simp)⟩))
      have hd : vals.drop 1 = [] := List.drop_eq_nil_of_le (by omega)
      rw [hd] at hy
      rw [hy] at HIX
      have hy0 : y = -1 := by rw [← hy]; rfl
      rw [hv1] at f2
      clear hdl hvl hd hy y1 y2 hl
      subst hy0
      go_wp2_with (go_at_call 85; refine HIX.out.mono ?_; rintro e w' ⟨rfl, rfl⟩)
      go_ret
      exact ⟨by rw [show z = 0 from by have := HZ.out; have := HY.out; omega]; rfl, HB1.out⟩
    · have hv2 : 1 < vals.length := by omega
      have HIX := Aside0.mk (index_int 0 (vals.drop 1) (some ⟨v, 1, none⟩) (vals.length - 1) w1 HT.out)
      rw [hdl] at HIX y2
      rw [hy] at HIX y1 y2
      clear hdl hvl hy hv1
      go_wp2_with (go_at_call 85; refine HIX.out.mono ?_; rintro e w' ⟨rfl, rfl⟩)
      · go_ret
        exact ⟨by rw [show z = y + 1 from by have := HZ.out; have := HY.out; omega]; rfl, HB1.out⟩
      · go_ret
        exact ⟨by rw [show z = 0 from by have := HZ.out; have := HY.out; omega]; rfl, HB1.out⟩
  · have HE := Aside0.mk (show free (re, vals) = 0 by unfold free; rw [if_pos (by simpa using h0)])
    rw [HE.out]
    have t1 : (re != 0) = true := bne_iff_ne.2 h0
    clear HE h
    go_enter Try.func39, Try.ntmps39
    go_wp2_with fail
    rw [← hW0]
    clear hW0
    refine HRN.out.mono ?_
    rintro e w1 (⟨_, rfl, hb1⟩ | ⟨e1, _⟩)
    · have HB1 := Aside0.mk (HB0.out.trans (hb1.mono HB0.out.size))
      clear hb1 h0
      go_wp2
      go_ret
      exact ⟨rfl, HB1.out⟩
    · exact absurd e1 h0


/-! ### the contracts, in the print's own form -/
noncomputable def unit_Propagate.f (a0_0 : Int) (l0_1 : List (List Int)) (l1 : List Int) : Option (List Int × Int) := some (Uk.prop a0_0 l0_1 l1)
theorem unit_Propagate.calls (a0_0 : Int) (A0_1 : Option Addr) (c0_1 : Nat) (l0_1 : List (List Int)) (A1 : Option Addr) (c1 : Nat) (l1 : List Int) (r1 : List Int) (r2 : Int) (w : World) (hr0_1 : Kd.C (Kd.slice 3 (Kd.int .i64)) w A0_1 l0_1.length l0_1) (hc0_1 : l0_1.length ≤ c0_1) (hr1 : Kd.C (Kd.int .i64) w A1 l1.length l1) (hc1 : l1.length ≤ c1) (h : unit_Propagate.f a0_0 l0_1 l1 = some (r1, r2)) :
    Calls Try.prog 35 #[.agg #[.int .i64 a0_0, .slice A0_1 l0_1.length c0_1], .slice A1 l1.length c1] w fun e w' => ∃ v0_ : Value, e = .returned (.tuple #[v0_, .int .i64 r2]) ∧ Kd.R (Kd.int .i64) 3 w' w.heap.size (fun _ => True) v0_ r1 ∧ Below w.heap.size w w' := by
  obtain ⟨k, r, h1, h2, _⟩ := Uk.run_prop a0_0 l0_1 l1
  have e : prop r = (r1, r2) := h2.trans (Option.some.inj h)
  have := propagate_any k a0_0 A0_1 c0_1 l0_1 A1 c1 l1 r w hr0_1 hr1 h1
  rw [e] at this
  exact this
noncomputable def unit_Free.f (a0_0 : Int) (l0_1 : List (List Int)) (l1 : List Int) : Option Int := some (Uk.free a0_0 l0_1 l1)
theorem unit_Free.calls (a0_0 : Int) (A0_1 : Option Addr) (c0_1 : Nat) (l0_1 : List (List Int)) (A1 : Option Addr) (c1 : Nat) (l1 : List Int) (r : Int) (w : World) (hr0_1 : Kd.C (Kd.slice 3 (Kd.int .i64)) w A0_1 l0_1.length l0_1) (hc0_1 : l0_1.length ≤ c0_1) (hr1 : Kd.C (Kd.int .i64) w A1 l1.length l1) (hc1 : l1.length ≤ c1) (h : unit_Free.f a0_0 l0_1 l1 = some r) :
    Calls Try.prog 39 #[.agg #[.int .i64 a0_0, .slice A0_1 l0_1.length c0_1], .slice A1 l1.length c1] w fun e w' => e = .returned (.int .i64 r) ∧ Below w.heap.size w w' := by
  obtain ⟨k, q, h1, _, h2⟩ := Uk.run_prop a0_0 l0_1 l1
  have e : free q = r := h2.trans (Option.some.inj h)
  rw [← e]
  exact free_any k a0_0 A0_1 c0_1 l0_1 A1 c1 l1 q w hr0_1 hr1 h1

end Go.Proofs.Ythnbmlpjbhhamaa.J
