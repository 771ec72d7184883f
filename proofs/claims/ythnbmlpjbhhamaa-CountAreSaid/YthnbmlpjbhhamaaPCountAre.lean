/- CountAre: it is true. -/
import Derived.Test.YthnbmlpjbhhamaaPz
import Derived.Test.YthnbmlpjbhhamaaP14
import Derived.Test.YthnbmlpjbhhamaaHq
namespace Go.Proofs.Ythnbmlpjbhhamaa.J
open Go.RowKit Go.Shelf Go.Proofs.YthnbmlpjbhhamaaW.PrintWords Go.Proofs.YthnbmlpjbhhamaaW.PrintLast Go.Proofs.YthnbmlpjbhhamaaW.PrintMore
set_option linter.unusedVariables false
set_option linter.unusedSimpArgs false

set_option maxHeartbeats 4000000 in
set_option maxRecDepth 100000 in
theorem smudge_any {W : World} {base : Nat} {ok : Nat → Prop} {v : Value} {xs : List (List Int)} (hs : Kd.S (Kd.slice 3 (Kd.int .i64)) 25 W base ok v xs) (hl : xs.length ≤ 1000000) (hw : ∀ c ∈ xs, c.length ≤ 1000000) :
    Calls Try.prog 76 #[v] W fun e w' => e = .returned (.tuple #[]) ∧ Only ok W w' := by
  by_cases h0 : xs.length = 0
  · obtain ⟨A, c, e⟩ := Kd.S_slice hs
    subst e
    rw [h0]
    clear hs hl hw
    go_enter Try.func76, Try.ntmps76
    go_wp2
    go_loopg [2] 0 (fun gg s2 wq => s2 = .int .i64 0 ∧ Aside0 (Only ok W wq))
    case atStart => exact ⟨rfl, ⟨Only.refl _ _⟩⟩
    case round =>
      obtain ⟨rfl, HO⟩ := hrel
      go_wp2
      go_end0
      exact ⟨rfl, HO.out⟩
  · obtain ⟨g, cap, e, _⟩ := Kd.S_form hs (by omega)
    subst e
    exact smudge_some hs hl hw
theorem never_two {a : Int} {l : List Int} : ∀ c ∈ Ct.never a l, c.length = 2 := by
  intro c hc
  unfold Ct.never at hc
  obtain ⟨n, _, rfl⟩ := List.mem_map.1 hc
  rfl
/-- How large the answers are. -/
theorem most_size {l : List Int} {ps : List (List Int)} {e : Int} (hl : l.length ≤ 60) (h : Ct.atMost l = (ps, e)) : ps.length ≤ 1000000 ∧ ∀ c ∈ ps, c.length ≤ 1000000 := by
  unfold Ct.atMost at h
  split at h <;> injection h with h1 h2 <;> subst h1
  · exact ⟨Ct.pairs_le l (by omega), fun c hc => by rw [Ct.pairs_two l c hc]; omega⟩
  · simp
theorem exactly_size {l : List Int} {ps : List (List Int)} {e : Int} (hl : l.length ≤ 60) (h : Ct.exactly l = (ps, e)) : ps.length ≤ 1000000 ∧ ∀ c ∈ ps, c.length ≤ 1000000 := by
  unfold Ct.exactly at h
  split at h <;> injection h with h1 h2 <;> subst h1
  · have h1 := Ct.pairs_len l
    have h60 : l.length * (l.length - 1) ≤ 60 * 60 := Nat.mul_le_mul hl (by omega)
    refine ⟨by rw [List.length_cons]; omega, fun c hc => ?_⟩
    rcases List.mem_cons.1 hc with rfl | hc
    · omega
    · rw [Ct.pairs_two l c hc]; omega
  · simp
theorem implies_size {a : Int} {l : List Int} {ts : List Int} {e : Int} (hl : l.length ≤ 60) (h : Ct.implies a l = (ts, e)) : ts.length ≤ 1000000 := by
  unfold Ct.implies at h
  split at h <;> injection h with h1 h2 <;> subst h1
  · rw [List.length_cons]; omega
  · simp
theorem never_size {a : Int} {l : List Int} {ps : List (List Int)} {e : Int} (hl : l.length ≤ 60) (h : Ct.neverF a l = (ps, e)) : ps.length ≤ 1000000 ∧ ∀ c ∈ ps, c.length ≤ 1000000 := by
  unfold Ct.neverF at h
  split at h <;> injection h with h1 h2 <;> subst h1
  · exact ⟨by unfold Ct.never; rw [List.length_map]; omega, fun c hc => by rw [never_two c hc]; omega⟩
  · simp
set_option maxHeartbeats 8000000 in
set_option maxRecDepth 100000 in
theorem CountAre_walk {W : World} (a0 : Int) (w0 : (Lit.int .i64 a0).wf = true) (A1 : Option Addr) (c1 : Nat) (l1 : List Int) (hr1 : Kd.C (Kd.int .i64) W A1 l1.length l1) (hc1 : l1.length ≤ c1) (wl1 : ∀ n ∈ l1, (Lit.int .i64 n).wf = true) :
    Calls Try.prog 26 #[.int .i64 a0, .slice A1 l1.length c1] W fun e w' => e = .returned (.bool true) ∧ Below W.heap.size W w' := by
  clear w0 wl1
  by_cases hl60 : 60 < (l1.length : Int)
  · clear hr1
    go_enter Try.func26, Try.ntmps26
    go_wp2
    go_ret
    exact ⟨rfl, Below.refl _ _⟩
  have hl : l1.length ≤ 60 := by omega
  obtain ⟨ps, e1, h1⟩ : ∃ ps e1, Ct.atMost l1 = (ps, e1) := ⟨_, _, rfl⟩
  obtain ⟨xs, e2, h2⟩ : ∃ xs e2, Ct.exactly l1 = (xs, e2) := ⟨_, _, rfl⟩
  obtain ⟨ts, e3, h3⟩ : ∃ ts e3, Ct.implies a0 l1 = (ts, e3) := ⟨_, _, rfl⟩
  obtain ⟨vs, e4, h4⟩ : ∃ vs e4, Ct.neverF a0 l1 = (vs, e4) := ⟨_, _, rfl⟩
  obtain ⟨sp1, sp2⟩ := most_size hl h1
  obtain ⟨sx1, sx2⟩ := exactly_size hl h2
  have st1 := implies_size hl h3
  obtain ⟨sv1, sv2⟩ := never_size hl h4
  have HF1 := Aside0.mk (show count_AtMost.f l1 = some (ps, e1) by rw [count_AtMost.f_eq l1 (by omega), h1])
  have HF2 := Aside0.mk (show count_Exactly.f l1 = some (xs, e2) by rw [count_Exactly.f_eq l1 (by omega), h2])
  have HF3 := Aside0.mk (show count_Implies.f a0 l1 = some (ts, e3) by rw [count_Implies.f_eq a0 l1 (by omega), h3])
  have HF4 := Aside0.mk (show count_Never.f a0 l1 = some (vs, e4) by rw [count_Never.f_eq a0 l1 (by omega), h4])
  obtain ⟨k1, hk1⟩ := (most14_ev l1 (by omega)).rounds
  obtain ⟨k2, hk2⟩ := (exactly14_ev l1 (by omega)).rounds
  obtain ⟨k3, hk3⟩ := (implies14_ev a0 l1 (by omega)).rounds
  obtain ⟨k4, hk4⟩ := (never14_ev a0 l1 (by omega)).rounds
  rw [h1] at hk1
  rw [h2] at hk2
  rw [h3] at hk3
  rw [h4] at hk4
  have HG1 := Aside0.mk hk1
  have HG2 := Aside0.mk hk2
  have HG3 := Aside0.mk hk3
  have HG4 := Aside0.mk hk4
  obtain ⟨kp, hkp⟩ := (clauses_same ps sp1 (fun c hc => by have := sp2 c hc; omega)).rounds
  obtain ⟨kr, hkr⟩ := (clauses_same xs sx1 (fun c hc => by have := sx2 c hc; omega)).rounds
  obtain ⟨kt, hkt⟩ := (ints_same ts (by omega)).rounds
  obtain ⟨kv, hkv⟩ := (clauses_same vs sv1 (fun c hc => by have := sv2 c hc; omega)).rounds
  obtain ⟨kI, hkI⟩ := (ints_same l1 (by omega)).rounds
  obtain ⟨kS, hkS⟩ := counts_ev.rounds
  have HKp := Aside0.mk hkp
  have HKr := Aside0.mk hkr
  have HKt := Aside0.mk hkt
  have HKv := Aside0.mk hkv
  have HKI := Aside0.mk hkI
  have HS := Aside0.mk hkS
  have HPL := Aside0.mk sp1
  have HPW := Aside0.mk sp2
  have HXL := Aside0.mk sx1
  have HXW := Aside0.mk sx2
  have HTW := Aside0.mk (show ∀ c ∈ ([ts] : List (List Int)), c.length ≤ 1000000 from fun c hc => by rw [List.mem_singleton] at hc; subst hc; exact st1)
  have HVL := Aside0.mk sv1
  have HVW := Aside0.mk sv2
  have HOW := Aside0.mk (own_f l1 (by omega))
  have HR := Aside0.mk hr1
  have HC := Aside0.mk hc1
  clear h1 h2 h3 h4 sp1 sp2 sx1 sx2 st1 sv1 sv2 hk1 hk2 hk3 hk4 hkp hkr hkt hkv hkI hkS hr1 hc1
  go_enter Try.func26, Try.ntmps26
  go_upto_region 12 with (first | (go_at_call 34; refine (hoggetref10_Own.calls _ _ l1 l1 _ HR.out HC.out HOW.out).mono ?_; rintro e w1 ⟨v0, rfl, hn, hb⟩; obtain ⟨Ao, co, eo⟩ := Kd.R_slice hn; subst eo; have HO1 := Aside0.mk (Kd.R_reads' hn).2.2; have HOC := Aside0.mk (Kd.R_reads' hn).2.1; have HB1 := Aside0.mk hb; have HD1 := Aside0.mk (Below.refl w1.heap.size w1); clear hn hb) | (go_at_call 68; refine (count_AtMost.calls _ _ l1 ps e1 _ (Kd.C_below HR.out HB1.out) HC.out HF1.out).mono ?_; rintro e w2 ⟨v0, rfl, hn, hb⟩; obtain ⟨Ap, cp, ep⟩ := Kd.S_slice hn; subst ep; have Hp2 := Aside0.mk (Kd.S_mono (ok' := fun k => w1.heap.size ≤ k ∧ k < w2.heap.size) (Kd.S_lower (Kd.S_bound hn) (Nat.zero_le _)) (fun k hk => ⟨hk.2.1, hk.2.2.1⟩)); have HO2 := Aside0.mk (Kd.C_below HO1.out hb); have HD2 := Aside0.mk (below_step HD1.out hb); have HB2 := Aside0.mk (below_step HB1.out hb); have HZ2 := Aside0.mk hb.size; clear hn hb) | (go_at_call 69; refine (hoggetref14_AtMost.calls k1 _ _ l1 ps e1 _ HO2.out HOC.out HG1.out).mono ?_; rintro e w3 ⟨v0, rfl, hn, hb⟩; obtain ⟨Aq, cq, eq⟩ := Kd.S_slice hn; subst eq; have Hq3 := Aside0.mk (Kd.S_mono (ok' := fun k => w2.heap.size ≤ k ∧ k < w3.heap.size) (Kd.S_lower (Kd.S_bound hn) (Nat.zero_le _)) (fun k hk => ⟨hk.2.1, hk.2.2.1⟩)); have HO3 := Aside0.mk (Kd.C_below HO2.out hb); have HD3 := Aside0.mk (below_step HD2.out hb); have HB3 := Aside0.mk (below_step HB2.out hb); have Hp3 := Aside0.mk (Kd.S_below Hp2.out hb); have HZ3 := Aside0.mk hb.size; clear hn hb) | (go_at_call 70; refine (count_Exactly.calls _ _ l1 xs e2 _ (Kd.C_below HR.out HB3.out) HC.out HF2.out).mono ?_; rintro e w4 ⟨v0, rfl, hn, hb⟩; obtain ⟨Ar, cr, er⟩ := Kd.S_slice hn; subst er; have Hr4 := Aside0.mk (Kd.S_mono (ok' := fun k => w3.heap.size ≤ k ∧ k < w4.heap.size) (Kd.S_lower (Kd.S_bound hn) (Nat.zero_le _)) (fun k hk => ⟨hk.2.1, hk.2.2.1⟩)); have HO4 := Aside0.mk (Kd.C_below HO3.out hb); have HD4 := Aside0.mk (below_step HD3.out hb); have HB4 := Aside0.mk (below_step HB3.out hb); have Hp4 := Aside0.mk (Kd.S_below Hp3.out hb); have Hq4 := Aside0.mk (Kd.S_below Hq3.out hb); have HZ4 := Aside0.mk hb.size; clear hn hb) | (go_at_call 71; refine (hoggetref14_Exactly.calls k2 _ _ l1 xs e2 _ HO4.out HOC.out HG2.out).mono ?_; rintro e w5 ⟨v0, rfl, hn, hb⟩; obtain ⟨As, cs, es⟩ := Kd.N_slice hn; subst es; have Hs5 := Aside0.mk hn; have HO5 := Aside0.mk (Kd.C_below HO4.out hb); have HD5 := Aside0.mk (below_step HD4.out hb); have HB5 := Aside0.mk (below_step HB4.out hb); have Hp5 := Aside0.mk (Kd.S_below Hp4.out hb); have Hq5 := Aside0.mk (Kd.S_below Hq4.out hb); have Hr5 := Aside0.mk (Kd.S_below Hr4.out hb); have HZ5 := Aside0.mk hb.size; clear hn hb) | (go_at_call 72; refine (count_Implies.calls a0 _ _ l1 ts e3 _ (Kd.C_below HR.out HB5.out) HC.out HF3.out).mono ?_; rintro e w6 ⟨v0, rfl, hn, hb⟩; obtain ⟨At, ct, et⟩ := Kd.R_slice hn; subst et; have Ht6 := Aside0.mk (Kd.R_mono (ok' := fun k => w5.heap.size ≤ k ∧ k < w6.heap.size) (Kd.R_lower (Kd.R_bound hn) (Nat.zero_le _)) (fun k hk => ⟨hk.2.1, hk.2.2.1⟩)); have HO6 := Aside0.mk (Kd.C_below HO5.out hb); have HD6 := Aside0.mk (below_step HD5.out hb); have HB6 := Aside0.mk (below_step HB5.out hb); have Hp6 := Aside0.mk (Kd.S_below Hp5.out hb); have Hq6 := Aside0.mk (Kd.S_below Hq5.out hb); have Hr6 := Aside0.mk (Kd.S_below Hr5.out hb); have Hs6 := Aside0.mk (Kd.N_below Hs5.out hb); have HZ6 := Aside0.mk hb.size; clear hn hb) | (go_at_call 73; refine (hoggetref14_Implies.calls k3 a0 _ _ l1 ts e3 _ HO6.out HOC.out HG3.out).mono ?_; rintro e w7 ⟨v0, rfl, hn, hb⟩; obtain ⟨Au, cu, eu⟩ := Kd.R_slice hn; subst eu; have Hu7 := Aside0.mk (Kd.R_mono (ok' := fun k => w6.heap.size ≤ k ∧ k < w7.heap.size) (Kd.R_lower (Kd.R_bound hn) (Nat.zero_le _)) (fun k hk => ⟨hk.2.1, hk.2.2.1⟩)); have HO7 := Aside0.mk (Kd.C_below HO6.out hb); have HD7 := Aside0.mk (below_step HD6.out hb); have HB7 := Aside0.mk (below_step HB6.out hb); have Hp7 := Aside0.mk (Kd.S_below Hp6.out hb); have Hq7 := Aside0.mk (Kd.S_below Hq6.out hb); have Hr7 := Aside0.mk (Kd.S_below Hr6.out hb); have Hs7 := Aside0.mk (Kd.N_below Hs6.out hb); have Ht7 := Aside0.mk (Kd.R_below Ht6.out hb); have HZ7 := Aside0.mk hb.size; clear hn hb) | (go_at_call 74; refine (count_Never.calls a0 _ _ l1 vs e4 _ (Kd.C_below HR.out HB7.out) HC.out HF4.out).mono ?_; rintro e w8 ⟨v0, rfl, hn, hb⟩; obtain ⟨Av, cv, ev⟩ := Kd.S_slice hn; subst ev; have Hv8 := Aside0.mk (Kd.S_mono (ok' := fun k => w7.heap.size ≤ k ∧ k < w8.heap.size) (Kd.S_lower (Kd.S_bound hn) (Nat.zero_le _)) (fun k hk => ⟨hk.2.1, hk.2.2.1⟩)); have HO8 := Aside0.mk (Kd.C_below HO7.out hb); have HD8 := Aside0.mk (below_step HD7.out hb); have HB8 := Aside0.mk (below_step HB7.out hb); have Hp8 := Aside0.mk (Kd.S_below Hp7.out hb); have Hq8 := Aside0.mk (Kd.S_below Hq7.out hb); have Hr8 := Aside0.mk (Kd.S_below Hr7.out hb); have Hs8 := Aside0.mk (Kd.N_below Hs7.out hb); have Ht8 := Aside0.mk (Kd.R_below Ht7.out hb); have Hu8 := Aside0.mk (Kd.R_below Hu7.out hb); have HZ8 := Aside0.mk hb.size; clear hn hb) | (go_at_call 75; refine (hoggetref14_Never.calls k4 a0 _ _ l1 vs e4 _ HO8.out HOC.out HG4.out).mono ?_; rintro e w9 ⟨v0, rfl, hn, hb⟩; obtain ⟨Ax, cx, ex⟩ := Kd.S_slice hn; subst ex; have Hx9 := Aside0.mk (Kd.S_mono (ok' := fun k => w8.heap.size ≤ k ∧ k < w9.heap.size) (Kd.S_lower (Kd.S_bound hn) (Nat.zero_le _)) (fun k hk => ⟨hk.2.1, hk.2.2.1⟩)); have HO9 := Aside0.mk (Kd.C_below HO8.out hb); have HD9 := Aside0.mk (below_step HD8.out hb); have HB9 := Aside0.mk (below_step HB8.out hb); have Hp9 := Aside0.mk (Kd.S_below Hp8.out hb); have Hq9 := Aside0.mk (Kd.S_below Hq8.out hb); have Hr9 := Aside0.mk (Kd.S_below Hr8.out hb); have Hs9 := Aside0.mk (Kd.N_below Hs8.out hb); have Ht9 := Aside0.mk (Kd.R_below Ht8.out hb); have Hu9 := Aside0.mk (Kd.R_below Hu8.out hb); have Hv9 := Aside0.mk (Kd.S_below Hv8.out hb); have HZ9 := Aside0.mk hb.size; clear hn hb))
  go_upto_region 13 with (first | (go_at_call 41; refine (hoggetref10_Clauses.calls kp _ _ ps _ _ ps true _ (Kd.S_reads' Hp9.out).2.2 (Kd.S_reads' Hp9.out).2.1 (Kd.S_reads' Hq9.out).2.2 (Kd.S_reads' Hq9.out).2.1 HKp.out).mono ?_; clear HKp; rintro e w10 ⟨rfl, hb0⟩; have hb := hb0.below; have HO10 := Aside0.mk (Kd.C_below HO9.out hb); have HD10 := Aside0.mk (below_step HD9.out hb); have HB10 := Aside0.mk (below_step HB9.out hb); have Hp10 := Aside0.mk (Kd.S_below Hp9.out hb); have Hq10 := Aside0.mk (Kd.S_below Hq9.out hb); have Hr10 := Aside0.mk (Kd.S_below Hr9.out hb); have Hs10 := Aside0.mk (Kd.N_below Hs9.out hb); have Ht10 := Aside0.mk (Kd.R_below Ht9.out hb); have Hu10 := Aside0.mk (Kd.R_below Hu9.out hb); have Hv10 := Aside0.mk (Kd.S_below Hv9.out hb); have Hx10 := Aside0.mk (Kd.S_below Hx9.out hb); have HZ10 := Aside0.mk hb.size; clear hb hb0) | (go_at_call 41; refine (hoggetref10_Clauses.calls kr _ _ xs _ _ xs true _ (Kd.S_reads' Hr10.out).2.2 (Kd.S_reads' Hr10.out).2.1 (Kd.N_reads' Hs10.out).2.2 (Kd.N_reads' Hs10.out).2.1 HKr.out).mono ?_; clear HKr; rintro e w11 ⟨rfl, hb0⟩; have hb := hb0.below; have HO11 := Aside0.mk (Kd.C_below HO10.out hb); have HD11 := Aside0.mk (below_step HD10.out hb); have HB11 := Aside0.mk (below_step HB10.out hb); have Hp11 := Aside0.mk (Kd.S_below Hp10.out hb); have Hq11 := Aside0.mk (Kd.S_below Hq10.out hb); have Hr11 := Aside0.mk (Kd.S_below Hr10.out hb); have Hs11 := Aside0.mk (Kd.N_below Hs10.out hb); have Ht11 := Aside0.mk (Kd.R_below Ht10.out hb); have Hu11 := Aside0.mk (Kd.R_below Hu10.out hb); have Hv11 := Aside0.mk (Kd.S_below Hv10.out hb); have Hx11 := Aside0.mk (Kd.S_below Hx10.out hb); have HZ11 := Aside0.mk hb.size; clear hb hb0) | (go_at_call 38; refine (hoggetref10_Ints.calls kt _ _ ts _ _ ts true _ (Kd.R_reads' Ht11.out).2.2 (Kd.R_reads' Ht11.out).2.1 (Kd.R_reads' Hu11.out).2.2 (Kd.R_reads' Hu11.out).2.1 HKt.out).mono ?_; clear HKt; rintro e w12 ⟨rfl, hb0⟩; have hb := hb0.below; have HO12 := Aside0.mk (Kd.C_below HO11.out hb); have HD12 := Aside0.mk (below_step HD11.out hb); have HB12 := Aside0.mk (below_step HB11.out hb); have Hp12 := Aside0.mk (Kd.S_below Hp11.out hb); have Hq12 := Aside0.mk (Kd.S_below Hq11.out hb); have Hr12 := Aside0.mk (Kd.S_below Hr11.out hb); have Hs12 := Aside0.mk (Kd.N_below Hs11.out hb); have Ht12 := Aside0.mk (Kd.R_below Ht11.out hb); have Hu12 := Aside0.mk (Kd.R_below Hu11.out hb); have Hv12 := Aside0.mk (Kd.S_below Hv11.out hb); have Hx12 := Aside0.mk (Kd.S_below Hx11.out hb); have HZ12 := Aside0.mk hb.size; clear hb hb0) | (go_at_call 41; refine (hoggetref10_Clauses.calls kv _ _ vs _ _ vs true _ (Kd.S_reads' Hv12.out).2.2 (Kd.S_reads' Hv12.out).2.1 (Kd.S_reads' Hx12.out).2.2 (Kd.S_reads' Hx12.out).2.1 HKv.out).mono ?_; clear HKv; rintro e w13 ⟨rfl, hb0⟩; have hb := hb0.below; have HO13 := Aside0.mk (Kd.C_below HO12.out hb); have HD13 := Aside0.mk (below_step HD12.out hb); have HB13 := Aside0.mk (below_step HB12.out hb); have Hp13 := Aside0.mk (Kd.S_below Hp12.out hb); have Hq13 := Aside0.mk (Kd.S_below Hq12.out hb); have Hr13 := Aside0.mk (Kd.S_below Hr12.out hb); have Hs13 := Aside0.mk (Kd.N_below Hs12.out hb); have Ht13 := Aside0.mk (Kd.R_below Ht12.out hb); have Hu13 := Aside0.mk (Kd.R_below Hu12.out hb); have Hv13 := Aside0.mk (Kd.S_below Hv12.out hb); have Hx13 := Aside0.mk (Kd.S_below Hx12.out hb); have HZ13' := Aside0.mk hb.size; clear hb hb0))
  have HZ13 := Aside0.mk (show w9.heap.size ≤ w13.heap.size from Nat.le_trans (Nat.le_trans HZ10.out HZ11.out) (Nat.le_trans HZ12.out HZ13'.out))
  clear Hq13 Hs13 Hu13 Hx13
  go_upto_region 14 with ((go_at_call 76; refine (smudge_any Hp13.out (by have := HPL.out; omega) HPW.out).mono ?_; clear Hp13; rintro e w14 ⟨rfl, ho⟩; have HD14 := Aside0.mk (HD13.out.trans (ho.below (b := w1.heap.size) (fun k hk => hk.1))); have Hr14 := Aside0.mk (Kd.S_move Hr13.out (fun k hk => ho.same k (fun h => by have h2 := HZ2.out; have h3 := HZ3.out; have h4 := HZ4.out; have h5 := HZ5.out; have h6 := HZ6.out; have h7 := HZ7.out; have h8 := HZ8.out; have h9 := HZ9.out; omega))); have Ht14 := Aside0.mk (Kd.R_step Ht13.out (fun k hk _ => ho.same k (fun h => by have h2 := HZ2.out; have h3 := HZ3.out; have h4 := HZ4.out; have h5 := HZ5.out; have h6 := HZ6.out; have h7 := HZ7.out; have h8 := HZ8.out; have h9 := HZ9.out; omega))); have Hv14 := Aside0.mk (Kd.S_move Hv13.out (fun k hk => ho.same k (fun h => by have h2 := HZ2.out; have h3 := HZ3.out; have h4 := HZ4.out; have h5 := HZ5.out; have h6 := HZ6.out; have h7 := HZ7.out; have h8 := HZ8.out; have h9 := HZ9.out; omega))); have HZ14 := Aside0.mk ho.quiet.size; clear ho))
  go_upto_region 15 with ((go_at_call 76; refine (smudge_any Hr14.out (by have := HXL.out; omega) HXW.out).mono ?_; clear Hr14; rintro e w15 ⟨rfl, ho⟩; have HD15 := Aside0.mk (HD14.out.trans (ho.below (b := w1.heap.size) (fun k hk => by have h2 := HZ2.out; have h3 := HZ3.out; have h4 := HZ4.out; have h5 := HZ5.out; have h6 := HZ6.out; have h7 := HZ7.out; have h8 := HZ8.out; have h9 := HZ9.out; omega))); have Ht15 := Aside0.mk (Kd.R_step Ht14.out (fun k hk _ => ho.same k (fun h => by have h2 := HZ2.out; have h3 := HZ3.out; have h4 := HZ4.out; have h5 := HZ5.out; have h6 := HZ6.out; have h7 := HZ7.out; have h8 := HZ8.out; have h9 := HZ9.out; omega))); have Hv15 := Aside0.mk (Kd.S_move Hv14.out (fun k hk => ho.same k (fun h => by have h2 := HZ2.out; have h3 := HZ3.out; have h4 := HZ4.out; have h5 := HZ5.out; have h6 := HZ6.out; have h7 := HZ7.out; have h8 := HZ8.out; have h9 := HZ9.out; omega))); have HZ15 := Aside0.mk ho.quiet.size; clear ho))
  go_upto_region 16 with ((go_at_call 76; refine (smudge_any (S_one (ok := (fun k => w5.heap.size ≤ k ∧ k < w6.heap.size)) (Nat.zero_le _) Ht15.out (fun k hk => by have h2 := HZ2.out; have h3 := HZ3.out; have h4 := HZ4.out; have h5 := HZ5.out; have h6 := HZ6.out; have h7 := HZ7.out; have h8 := HZ8.out; have h9 := HZ9.out; have h13 := HZ13.out; have h14 := HZ14.out; have h15 := HZ15.out; omega)) (by simp) HTW.out).mono ?_; clear Ht15; rintro e w16 ⟨rfl, ho⟩; have HD16 := Aside0.mk ((below_step HD15.out (below_alloc (Below.refl _ w15) _)).trans (ho.below (b := w1.heap.size) (fun k hk => by have h2 := HZ2.out; have h3 := HZ3.out; have h4 := HZ4.out; have h5 := HZ5.out; have h6 := HZ6.out; have h7 := HZ7.out; have h8 := HZ8.out; have h9 := HZ9.out; have h13 := HZ13.out; have h14 := HZ14.out; have h15 := HZ15.out; rcases hk with hk | hk <;> omega))); have Hv16 := Aside0.mk (Kd.S_move (Kd.S_alloc Hv15.out _) (fun k hk => ho.same k (fun h => by have h2 := HZ2.out; have h3 := HZ3.out; have h4 := HZ4.out; have h5 := HZ5.out; have h6 := HZ6.out; have h7 := HZ7.out; have h8 := HZ8.out; have h9 := HZ9.out; have h13 := HZ13.out; have h14 := HZ14.out; have h15 := HZ15.out; rcases h with h | h <;> omega))); clear ho))
  go_upto_region 17 with ((go_at_call 76; refine (smudge_any Hv16.out (by have := HVL.out; omega) HVW.out).mono ?_; clear Hv16; rintro e w17 ⟨rfl, ho⟩; have HD17 := Aside0.mk (HD16.out.trans (ho.below (b := w1.heap.size) (fun k hk => by have h2 := HZ2.out; have h3 := HZ3.out; have h4 := HZ4.out; have h5 := HZ5.out; have h6 := HZ6.out; have h7 := HZ7.out; have h8 := HZ8.out; have h9 := HZ9.out; omega))); clear ho))
  go_wp2_with (first | (go_at_call 77; refine (hoggetlaw14_counts.calls kS true _ HS.out).mono ?_; clear HS; rintro e w18 ⟨rfl, hb⟩; have HD18 := Aside0.mk (below_step HD17.out hb); clear hb) | (go_at_call 38; refine (hoggetref10_Ints.calls kI _ _ l1 _ _ l1 true _ (Kd.C_below HR.out (below_step HB1.out HD18.out)) HC.out (Kd.C_below HO1.out HD18.out) HOC.out HKI.out).mono ?_; rintro e w19 ⟨rfl, hb0⟩; have HB19 := Aside0.mk (below_step (below_step HB1.out HD18.out) hb0.below); clear hb0))
  go_ret
  exact ⟨rfl, HB19.out⟩
end Go.Proofs.Ythnbmlpjbhhamaa.J
