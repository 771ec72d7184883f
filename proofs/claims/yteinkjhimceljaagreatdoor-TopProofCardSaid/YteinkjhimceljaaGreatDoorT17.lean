/- version.Compare, walked. (Printed by genXj.py.) -/
import Derived.Test.YteinkjhimceljaaGreatDoorT16
import Derived.Test.YteinkjhimceljaaGreatDoorT05
import Derived.Test.YteinkjhimceljaaGreatDoorT08
import Derived.Lib.SplitLaws
namespace Go.Proofs.YteinkjhimceljaaGreatDoor.J
open Go Go.RowKit Go.Shelf Go.Proofs.YteinkjhimceljaaGreatDoorW.PrintWords Go.Proofs.YteinkjhimceljaaGreatDoorW.PrintLast Go.Proofs.YteinkjhimceljaaGreatDoorW.PrintMore
set_option linter.unusedVariables false
set_option linter.unusedSimpArgs false
theorem goesT_ {P : Program} {ops : Array Oper} {Q : Exit → Act → World → Prop} {oi : Oper} {N : Option Tmp} {a : Act} {w : World} {K : Act → World → Prop} {f : FuncId} {fn : Func} {t : Tmp} {xs : Array Operand} {ts : Array TypeId} (hf : P.funcs[f]? = some fn) (hname : (fn.name == "runtime.NumGoroutine") = false) (hb : fn.body.isSome = true) (args : Array Value)
 (hw : Region.wanted oi (yielded ops a.tmps) = true) (hN : oi.dst = N) (hop : oi.op = .call { callee := .value (.tmp t), args := xs, argTypes := ts }) (ht : a.eval (.tmp t) = .func (.func f) #[] #[]) (hargs : xs.map a.eval = args)
 (h : Calls P f args w fun e w' => ∃ v, e = .returned v ∧ K (a.put N v) w') : if Region.wanted oi (yielded ops a.tmps) = true then Oper.wp P oi a w K Q else K (a.put N undef) w := by
 refine call_ f args hw hN ?_ h
 have he := enters_ hf hname hb args w
 unfold execOp
 simp [hop, resolve, Deferred.ofValue, invoke, ht, hargs, he]
def orI : List Int → Int
 | [] => 0
 | x :: l => if x = 0 then orI l else x
theorem or_from (l : List Int) (hl : l.length ≤ 1000000) : ∀ (d i k : Nat), l.length - i = d → i ≤ l.length → d < k → cmp_Or_int.l0 k 0 l (l.length : Int) (i : Int) = some (orI (l.drop i)) := by
 intro d
 induction d with
 | zero =>
  intro i k hd hi hk
  obtain ⟨k, rfl⟩ : ∃ j, k = j + 1 := ⟨k - 1, by omega⟩
  simp only [cmp_Or_int.l0]
  rw [if_neg (by omega), List.drop_eq_nil_of_le (by omega)]
  rfl
 | succ d ih =>
  intro i k hd hi hk
  obtain ⟨k, rfl⟩ : ∃ j, k = j + 1 := ⟨k - 1, by omega⟩
  have h := ih (i + 1) k (by omega) (by omega) (by omega)
  have hlt : i < l.length := by omega
  rw [← wrap_succ (n := l.length) hlt (by omega)] at h
  simp only [cmp_Or_int.l0]
  rw [if_pos (by omega), if_pos (by omega), if_pos (by omega), rd_at l i hlt, List.drop_eq_getElem_cons hlt, h]
  show _ = some (if l[i] = 0 then orI (l.drop (i + 1)) else l[i])
  split <;> rfl
theorem or_walk (A : Option Addr) (c : Nat) (l : List Int) (hl : l.length ≤ 1000) (w : World) (h : l.length ≤ c ∧ Kd.C (Kd.int .i64) w A l.length l) :
 Calls Tryz.prog 70 #[.slice A l.length c] w fun e w' => e = .returned (.int .i64 (orI l)) ∧ Below w.heap.size w w' := by
 refine (cmp_Or_int.calls 1200 A c l (orI l) w h.2 h.1 (or_from l (by omega) l.length 0 1200 (by omega) (by omega) (by omega))).mono ?_
 rintro e w' ⟨rfl, n, rfl⟩
 exact ⟨rfl, pw_below_drewN (Below.refl _ _) n⟩
theorem below_of_drawn {w w' : World} (h : Drawn0 w w') : Below w.heap.size w w' := by
 obtain ⟨n, rfl⟩ := h
 exact pw_below_drewN (Below.refl _ _) n
theorem cmpI_walk (a b : Int) (w : World) : Calls Tryz.prog 101 #[.int .i64 a, .int .i64 b] w fun e w' => e = .returned (.int .i64 (cmpI a b)) ∧ Below w.heap.size w w' :=
 (cmp_Compare_int.calls a b (cmpI a b) w rfl).mono fun e w' h => ⟨h.1, below_of_drawn h.2⟩
theorem cmpS_walk (a b : ByteArray) (w : World) : Calls Tryz.prog 72 #[.string a, .string b] w fun e w' => e = .returned (.int .i64 (cmpS a b)) ∧ Below w.heap.size w w' :=
 (cmp_Compare_string.calls a b (cmpS a b) w rfl).mono fun e w' h => ⟨h.1, below_of_drawn h.2⟩
theorem cmpK_walk (a b : Int) (w : World) : Calls Tryz.prog 71 #[.int .i64 a, .int .i64 b] w fun e w' => e = .returned (.int .i64 (cmpI a b)) ∧ Below w.heap.size w w' :=
 (api_DepKind_71.calls a b (cmpI a b) w rfl).mono fun e w' h => ⟨h.1, below_of_drawn h.2⟩
def splitD (s : ByteArray) : List ByteArray := Lib.splitB ⟨#[46]⟩ 0 (Lib.countB s ⟨#[46]⟩) s
theorem splitD_size (s : ByteArray) : ∀ x ∈ splitD s, x.size ≤ s.size := by
 have key : ∀ (k : Nat) (s : ByteArray), ∀ x ∈ Lib.splitB ⟨#[46]⟩ 0 k s, x.size ≤ s.size := by
  intro k
  induction k with
  | zero =>
   intro s x hx
   rw [Lib.splitB_zero] at hx
   rw [List.mem_singleton.1 hx]
   exact Nat.le_refl _
  | succ k ih =>
   intro s x hx
   by_cases h : Lib.indexB s ⟨#[46]⟩ = -1
   · rw [Lib.splitB_miss _ _ _ _ h] at hx
     rw [List.mem_singleton.1 hx]
     exact Nat.le_refl _
   · have hr : -1 ≤ Lib.indexB s ⟨#[46]⟩ := Lib.index_ge _ _
     obtain ⟨i, hi⟩ : ∃ i : Nat, Lib.indexB s ⟨#[46]⟩ = i := ⟨(Lib.indexB s ⟨#[46]⟩).toNat, by omega⟩
     rw [Lib.splitB_hit _ _ _ _ i hi] at hx
     rcases List.mem_cons.1 hx with rfl | hx
     · rw [ByteArray.size_extract]; omega
     · have := ih _ x hx
       rw [ByteArray.size_extract] at this
       omega
 exact key _ s
theorem splitD_walk (s : ByteArray) (hs : s.size ≤ 1000) (w : World) (HGL : Glob w) :
 Calls Tryz.prog 103 #[.string s, .string ⟨#[46]⟩] w fun e w' => ∃ g, e = .returned (.slice (some ⟨g, 0, none⟩) (splitD s).length (splitD s).length) ∧ w'.heap[g]? = some (.cells ((splitD s).map Value.string).toArray 9 (0, 0)) ∧ Below w.heap.size w w' := by
 obtain ⟨m, hm⟩ := HGL.maxLen
 have hlen : (splitD s).length = Lib.countB s ⟨#[46]⟩ + 1 := Lib.splitB_all _ (by decide) _ _ _ rfl
 refine (Any.strings_Split Tryz.splitL (by kernel_rfl) s ⟨#[46]⟩ m w (by omega) hm (by decide)).mono ?_
 rintro e w' ⟨rfl, rfl⟩
 rw [hlen]
 exact ⟨_, rfl, heap_alloc_new _ _, below_alloc (Below.refl _ _) _⟩
noncomputable def rowsI (a b : List ByteArray) : Int := orI ((a.zip b).map (fun p => partsI p.1 p.2) ++ [cmpI a.length b.length])
theorem rows_step (a b : List ByteArray) (j : Nat) (ha : j < a.length) (hb : j < b.length) (c : Int) :
 orI (((a.zip b).map (fun p => partsI p.1 p.2)).drop j ++ [c]) = if partsI a[j] b[j] = 0 then orI (((a.zip b).map (fun p => partsI p.1 p.2)).drop (j + 1) ++ [c]) else partsI a[j] b[j] := by
 rw [List.drop_eq_getElem_cons (by simp; omega), List.cons_append]
 simp only [List.getElem_map, List.getElem_zip]
 rfl
theorem cell_str {w : World} {g : Nat} {l : List ByteArray} (h : w.heap[g]? = some (.cells (l.map Value.string).toArray 9 (0, 0))) {j : Nat} (hj : j < l.length) : w.cell? ⟨g, j, none⟩ = some (.string l[j]) := by
 rw [blk_cell h j]
 simp [hj]
set_option maxRecDepth 100000 in
set_option maxHeartbeats 4000000 in
theorem rows_walk (g1 g2 : Nat) (a b : List ByteArray) (la : a.length ≤ 100000) (lb : b.length ≤ 100000) (ha : ∀ x ∈ a, x.size ≤ 1000) (hb : ∀ x ∈ b, x.size ≤ 1000) (w : World) (HGL : Glob w)
 (h1 : w.heap[g1]? = some (.cells (a.map Value.string).toArray 9 (0, 0))) (h2 : w.heap[g2]? = some (.cells (b.map Value.string).toArray 9 (0, 0))) :
 Calls Tryz.prog 102 #[.slice (some ⟨g1, 0, none⟩) a.length a.length, .slice (some ⟨g2, 0, none⟩) b.length b.length, .func (.func 104) #[] #[]] w fun e w' => e = .returned (.int .i64 (rowsI a b)) ∧ Below w.heap.size w w' := by
 have BA := Aside0.mk h1
 have BB := Aside0.mk h2
 have HA := Aside0.mk ha
 have HBB := Aside0.mk hb
 clear h1 h2 ha hb
 obtain ⟨c, hc⟩ : ∃ c, c = cmpI a.length b.length := ⟨_, rfl⟩
 have HCC := Aside0.mk (show ∀ W, Calls Tryz.prog 101 #[.int .i64 (a.length : Int), .int .i64 (b.length : Int)] W fun e w' => e = .returned (.int .i64 c) ∧ Below W.heap.size W w' by rw [hc]; exact cmpI_walk _ _)
 obtain ⟨M, hM⟩ : ∃ M, M = min (a.length : Int) (b.length : Int) := ⟨_, rfl⟩
 go_enter Tryz.func102, Tryz.ntmps102
 go_wp2
 go_loopg [14] (a.length + 1) (fun gg s14 wq => ∃ j : Nat, j ≤ a.length ∧ j ≤ b.length ∧ a.length - j < gg ∧ s14 = .int .i64 (j : Int) ∧ Aside0 (rowsI a b = orI (((a.zip b).map (fun p => partsI p.1 p.2)).drop j ++ [c])) ∧ Aside0 (wq.heap[g1]? = some (.cells (a.map Value.string).toArray 9 (0, 0))) ∧ Aside0 (wq.heap[g2]? = some (.cells (b.map Value.string).toArray 9 (0, 0))) ∧ Aside0 (Below w.heap.size w wq))
 case atStart => exact ⟨0, Nat.zero_le _, Nat.zero_le _, by omega, rfl, ⟨by rw [List.drop_zero, hc]; rfl⟩, BA, BB, ⟨Below.refl _ _⟩⟩
 case round =>
  clear BA BB
  obtain ⟨j, hj1, hj2, hjg, rfl, HE, BA, BB, HB⟩ := hrel
  by_cases hlt : j < a.length ∧ j < b.length
  · have hm : (j : Int) < min (a.length : Int) (b.length : Int) := by omega
    have ja := hlt.1
    have jb := hlt.2
    have ja2 : (j : Int) < (a.length : Int) := by omega
    have jb2 : (j : Int) < (b.length : Int) := by omega
    have c1 := cell_str BA.out ja
    have c2 := cell_str BB.out jb
    have HP := Aside0.mk (fun W h => parts_walk a[j] b[j] (HA.out _ (List.getElem_mem ja)) (HBB.out _ (List.getElem_mem jb)) W h)
    have HS := Aside0.mk (rows_step a b j ja jb c)
    obtain ⟨p, hp⟩ : ∃ p, partsI a[j] b[j] = p := ⟨_, rfl⟩
    rw [hp] at HP HS
    clear hlt hp
    go_upto_region 4 with (fail)
    have n0_ := Aside0.mk (blk_drew BA.out)
    have n1_ := Aside0.mk (blk_drew BB.out)
    have n2_ := Aside0.mk (below_drew1 HB.out)
    clear BA BB HB
    have BA := n0_
    have BB := n1_
    have HB := n2_
    clear n0_ n1_ n2_
    refine start_ (n := 11) (S := fun w' => w'.cell? ⟨g1, j, none⟩ = some (.string a[j]) ∧ w'.cell? ⟨g2, j, none⟩ = some (.string b[j])) (ds := []) #[false, false, false, false, false, false, false, false, false, false, false] (by kernel_rfl) rfl rfl ⟨c1, c2⟩ (fun hHeld => ?_)
    generalize wr.drew = wdr1 at BA BB HB hHeld ⊢
    refine pure_ (i := 0) (N := some 17) (v := ?_) (a' := ?_) #[true, false, false, false, false, false, false, false, false, false, false] rfl rfl (by kernel_rfl) (fun _ _ _ h => h) (Or.inl ⟨by rfl, ?_⟩) ?_ ?_
    rotate_left
    · intro w'
      go_simp
      with_reducible rfl
    rotate_left
    · simp only [Act.put, List.setIfInBounds_toArray, List.set_cons_zero, List.set_cons_succ, i64_w, i32_w]
      rfl
    refine pure_ (i := 1) (N := some 18) (v := ?_) (a' := ?_) #[true, true, false, false, false, false, false, false, false, false, false] rfl rfl (by kernel_rfl) (fun _ _ _ h => h) (Or.inl ⟨by rfl, ?_⟩) ?_ ?_
    rotate_left
    · intro w'
      go_simp
      with_reducible rfl
    rotate_left
    · simp only [Act.put, List.setIfInBounds_toArray, List.set_cons_zero, List.set_cons_succ, i64_w, i32_w]
      rfl
    refine pure_ (i := 2) (N := some 19) (v := ?_) (a' := ?_) #[true, true, true, false, false, false, false, false, false, false, false] rfl rfl (by kernel_rfl) (fun _ _ _ h => h) (Or.inl ⟨by rfl, ?_⟩) ?_ ?_
    rotate_left
    · intro w'
      go_simp
      with_reducible rfl
    rotate_left
    · simp only [Act.put, List.setIfInBounds_toArray, List.set_cons_zero, List.set_cons_succ, i64_w, i32_w]
      rfl
    refine pure_ (i := 3) (N := some 20) (v := ?_) (a' := ?_) #[true, true, true, true, false, false, false, false, false, false, false] rfl rfl (by kernel_rfl) (fun _ _ _ h => h) (Or.inl ⟨by rfl, ?_⟩) ?_ ?_
    rotate_left
    · intro w'
      go_simp
      with_reducible rfl
    rotate_left
    · simp only [Act.put, List.setIfInBounds_toArray, List.set_cons_zero, List.set_cons_succ, i64_w, i32_w]
      rfl
    refine pure_ (i := 5) (N := some 22) (v := ?_) (a' := ?_) #[true, true, true, true, false, true, false, false, false, false, false] rfl rfl (by kernel_rfl) (fun _ _ _ h => h) (Or.inl ⟨by rfl, ?_⟩) ?_ ?_
    rotate_left
    · intro w'
      go_simp
      with_reducible rfl
    rotate_left
    · simp only [Act.put, List.setIfInBounds_toArray, List.set_cons_zero, List.set_cons_succ, i64_w, i32_w]
      rfl
    refine pure_ (i := 6) (N := some 23) (v := ?_) (a' := ?_) #[true, true, true, true, false, true, true, false, false, false, false] rfl rfl (by kernel_rfl) (fun _ _ _ h => h) (Or.inl ⟨by rfl, ?_⟩) ?_ ?_
    rotate_left
    · intro w'
      go_simp
      with_reducible rfl
    rotate_left
    · simp only [Act.put, List.setIfInBounds_toArray, List.set_cons_zero, List.set_cons_succ, i64_w, i32_w]
      rfl
    refine pure_ (i := 7) (N := some 24) (v := ?_) (a' := ?_) #[true, true, true, true, false, true, true, true, false, false, false] rfl rfl (by kernel_rfl) (fun _ _ _ h => h) (Or.inl ⟨by rfl, ?_⟩) ?_ ?_
    rotate_left
    · intro w'
      go_simp
      with_reducible rfl
    rotate_left
    · simp only [Act.put, List.setIfInBounds_toArray, List.set_cons_zero, List.set_cons_succ, i64_w, i32_w]
      rfl
    refine take_ (i := 4) (N := some 21) (v := ?_) (a' := ?_) #[true, true, true, true, true, true, true, true, false, false, false] rfl rfl (by kernel_rfl) (fun _ _ _ h => h) (Or.inl ⟨by rfl, ?_⟩) hHeld ?_ ?_
    rotate_left
    · intro w'
      rintro ⟨s0, s1⟩
      go_simp
      with_reducible rfl
    rotate_left
    · simp only [Act.put, List.setIfInBounds_toArray, List.set_cons_zero, List.set_cons_succ, i64_w, i32_w]
      rfl
    refine take_ (i := 8) (N := some 25) (v := ?_) (a' := ?_) #[true, true, true, true, true, true, true, true, true, false, false] rfl rfl (by kernel_rfl) (fun _ _ _ h => h) (Or.inl ⟨by rfl, ?_⟩) hHeld ?_ ?_
    rotate_left
    · intro w'
      rintro ⟨s0, s1⟩
      go_simp
      with_reducible rfl
    rotate_left
    · simp only [Act.put, List.setIfInBounds_toArray, List.set_cons_zero, List.set_cons_succ, i64_w, i32_w]
      rfl
    refine one_ (i := 9) (N := some 26) #[true, true, true, true, true, true, true, true, true, true, false] rfl rfl (by kernel_rfl) (by decide) (fun K hK => ?_)
    refine goesT_ Tryz.func104 (by kernel_rfl) rfl #[.string a[j], .string b[j]] (by rfl) rfl rfl rfl (by (try simp only [List.map_toArray, List.map_cons, List.map_nil]); first | done | rfl) ?_
    refine (HP.out _ (HGL.below HB.out)).mono ?_
    rintro e wdr2 ⟨rfl, hb⟩
    have c1 := cell_str (blk_below BA.out hb) ja
    have c2 := cell_str (blk_below BB.out hb) jb
    have n0_ := Aside0.mk (blk_below BA.out hb)
    have n1_ := Aside0.mk (blk_below BB.out hb)
    have n2_ := Aside0.mk (below_step HB.out hb)
    clear BA BB HB hb
    have BA := n0_
    have BB := n1_
    have HB := n2_
    clear n0_ n1_ n2_
    refine ⟨_, rfl, ?_⟩
    refine hK.out _ _ ⟨c1, c2⟩ (fun hHeld => ?_)
    clear hK K
    refine norm_ (a' := ?_) ?_ ?_
    rotate_left
    · show Act.put _ (some 26) _ = _
      simp only [Act.put, List.setIfInBounds_toArray, List.set_cons_zero, List.set_cons_succ, i64_w, i32_w]
      rfl
    refine pure_ (i := 10) (N := some 8) (v := ?_) (a' := ?_) #[true, true, true, true, true, true, true, true, true, true, true] rfl rfl (by kernel_rfl) (fun _ _ _ h => h) (Or.inl ⟨by rfl, ?_⟩) ?_ ?_
    rotate_left
    · intro w'
      go_simp
      with_reducible rfl
    rotate_left
    · simp only [Act.put, List.setIfInBounds_toArray, List.set_cons_zero, List.set_cons_succ, i64_w, i32_w]
      rfl
    refine done_ (by kernel_rfl) ?_
    by_cases hp0 : p = 0
    · have hb0 : (p != 0) = false := bne_eq_false_iff_eq.mpr hp0
      have HP0 := Aside0.mk hp0
      clear hp0
      go_wp2
      go_roundg (a.length - (j + 1) + 1)
      case measure => omega
      case rel => exact ⟨j + 1, by omega, by omega, by omega, by go_num, ⟨by rw [HE.out, HS.out, if_pos HP0.out]⟩, BA, BB, HB⟩
    · have hb0 : (p != 0) = true := bne_iff_ne.mpr hp0
      have HP0 := Aside0.mk hp0
      clear hp0
      go_wp2
      go_ret
      exact ⟨by rw [HE.out, HS.out, if_neg HP0.out]; rfl, by repeat (first | (with_reducible first | exact HB.out | apply below_alloc | apply pw_below_drewN | apply below_drew1) | exact HB.out)⟩
  · have hm : ¬ (j : Int) < min (a.length : Int) (b.length : Int) := by omega
    have HF := Aside0.mk (show rowsI a b = c by
     rw [HE.out, List.drop_eq_nil_of_le (by simp; omega), List.nil_append]
     unfold orI orI
     split <;> simp_all)
    clear hlt
    go_wp2_with (go_at_call 101; refine (HCC.out _).mono ?_; rintro e w4 ⟨rfl, hb4⟩; have HB4 := Aside0.mk (below_step (by repeat (first | (with_reducible first | exact HB.out | apply below_alloc | apply pw_below_drewN | apply below_drew1) | exact HB.out)) hb4); clear HCC hb4)
    go_ret
    exact ⟨by rw [HF.out, hc]; rfl, HB4.out⟩
noncomputable def compareI (a b : S23) : Int :=
 if (vright a && vright b) = false then 0
 else if orI [cmpI a.f0 b.f0, cmpI a.f1 b.f1, cmpI a.f2 b.f2] ≠ 0 ∨ a.f3.toList = b.f3.toList then orI [cmpI a.f0 b.f0, cmpI a.f1 b.f1, cmpI a.f2 b.f2]
 else if a.f3.toList = [] then 1 else if b.f3.toList = [] then -1 else rowsI (splitD a.f3) (splitD b.f3)
theorem splitD_len (s : ByteArray) (hs : s.size ≤ 1000) : (splitD s).length ≤ 100000 := by
 have h1 := Lib.splitB_length_le ⟨#[46]⟩ 0 (Lib.countB s ⟨#[46]⟩) s
 have h2 := Lib.countB_le ⟨#[46]⟩ (by decide) s.size s (Nat.le_refl _)
 unfold splitD
 omega
set_option maxRecDepth 100000 in
set_option maxHeartbeats 4000000 in
theorem compare_walk (a b : S23) (ha : a.f3.size ≤ 1000) (hb2 : b.f3.size ≤ 1000) (w : World) (HGL : Glob w) :
 Calls Tryz.prog 73 #[.agg #[.int .i64 a.f0, .int .i64 a.f1, .int .i64 a.f2, .string a.f3], .agg #[.int .i64 b.f0, .int .i64 b.f1, .int .i64 b.f2, .string b.f3]] w fun e w' => e = .returned (.int .i64 (compareI a b)) ∧ Below w.heap.size w w' := by
 have KA := Aside0.mk (blk_alloc (blk_new w (.cells #[.int .i64 a.f0, .int .i64 a.f1, .int .i64 a.f2, .string a.f3] 23)) (.cells #[.int .i64 b.f0, .int .i64 b.f1, .int .i64 b.f2, .string b.f3] 23))
 have KB := Aside0.mk (show (((w.alloc (.cells #[.int .i64 a.f0, .int .i64 a.f1, .int .i64 a.f2, .string a.f3] 23)).alloc (.cells #[.int .i64 b.f0, .int .i64 b.f1, .int .i64 b.f2, .string b.f3] 23))).heap[w.heap.size + 1]? = some (.cells #[.int .i64 b.f0, .int .i64 b.f1, .int .i64 b.f2, .string b.f3] 23 (0, 0)) by
  have h := blk_new (w.alloc (.cells #[.int .i64 a.f0, .int .i64 a.f1, .int .i64 a.f2, .string a.f3] 23)) (.cells #[.int .i64 b.f0, .int .i64 b.f1, .int .i64 b.f2, .string b.f3] 23)
  rw [World.size_alloc] at h
  exact h)
 have HB := Aside0.mk (below_alloc (below_alloc (Below.refl w.heap.size w) (.cells #[.int .i64 a.f0, .int .i64 a.f1, .int .i64 a.f2, .string a.f3] 23)) (.cells #[.int .i64 b.f0, .int .i64 b.f1, .int .i64 b.f2, .string b.f3] 23))
 have HVA := Aside0.mk (fun W h => right_walk a ha W h)
 have HVB := Aside0.mk (fun W h => right_walk b hb2 W h)
 cases hva : vright a with
 | false =>
  rw [hva] at HVA
  go_enter Tryz.func73, Tryz.ntmps73
  go_wp2_with (go_at_call 93; refine (HVA.out _ (HGL.below HB.out)).mono ?_; rintro e w4 ⟨rfl, hb4⟩; have HB4 := Aside0.mk (below_step HB.out hb4); clear HVA hb4)
  go_ret
  exact ⟨by unfold compareI; rw [hva]; rfl, HB4.out⟩
 | true =>
  rw [hva] at HVA
  cases hvb : vright b with
  | false =>
   rw [hvb] at HVB
   go_enter Tryz.func73, Tryz.ntmps73
   go_wp2_with (first | (go_at_call 93; refine (HVA.out _ (HGL.below HB.out)).mono ?_; rintro e w4 ⟨rfl, hb4⟩; clear HVA; have q0 := (blk_cell (blk_below KB.out hb4) 0).trans rfl; have q1 := (blk_cell (blk_below KB.out hb4) 1).trans rfl; have q2 := (blk_cell (blk_below KB.out hb4) 2).trans rfl; have q3 := (blk_cell (blk_below KB.out hb4) 3).trans rfl; have n0_ := Aside0.mk (blk_below KA.out hb4); have n1_ := Aside0.mk (blk_below KB.out hb4); have n2_ := Aside0.mk (below_step HB.out hb4); clear KA KB HB hb4; have KA := n0_; have KB := n1_; have HB := n2_; clear n0_ n1_ n2_) | (go_at_call 93; refine (HVB.out _ (HGL.below HB.out)).mono ?_; rintro e w5 ⟨rfl, hb4⟩; clear HVB; have n0_ := Aside0.mk (blk_below KA.out hb4); have n1_ := Aside0.mk (blk_below KB.out hb4); have n2_ := Aside0.mk (below_step HB.out hb4); clear KA KB HB hb4; have KA := n0_; have KB := n1_; have HB := n2_; clear n0_ n1_ n2_))
   go_ret
   exact ⟨by unfold compareI; rw [hva, hvb]; rfl, HB.out⟩
  | true =>
   rw [hvb] at HVB
   have he : (vright a && vright b) = true := by rw [hva, hvb]; rfl
   have HCM : compareI a b = if orI [cmpI a.f0 b.f0, cmpI a.f1 b.f1, cmpI a.f2 b.f2] ≠ 0 ∨ a.f3.toList = b.f3.toList then orI [cmpI a.f0 b.f0, cmpI a.f1 b.f1, cmpI a.f2 b.f2]
    else if a.f3.toList = [] then 1 else if b.f3.toList = [] then -1 else rowsI (splitD a.f3) (splitD b.f3) := by
    unfold compareI
    rw [he, if_neg (by simp)]
   clear he hva hvb
   obtain ⟨c0, h0⟩ : ∃ c, cmpI a.f0 b.f0 = c := ⟨_, rfl⟩
   obtain ⟨c1, h1⟩ : ∃ c, cmpI a.f1 b.f1 = c := ⟨_, rfl⟩
   obtain ⟨c2, h2⟩ : ∃ c, cmpI a.f2 b.f2 = c := ⟨_, rfl⟩
   have HC0 := Aside0.mk (fun W => cmpI_walk a.f0 b.f0 W)
   have HC1 := Aside0.mk (fun W => cmpI_walk a.f1 b.f1 W)
   have HC2 := Aside0.mk (fun W => cmpI_walk a.f2 b.f2 W)
   rw [h0] at HC0 HCM
   rw [h1] at HC1 HCM
   rw [h2] at HC2 HCM
   obtain ⟨o, ho⟩ : ∃ o, orI [c0, c1, c2] = o := ⟨_, rfl⟩
   have HO := Aside0.mk (fun A c W h => or_walk A c [c0, c1, c2] (by simp) W h)
   rw [ho] at HO HCM
   have HCA := Aside0.mk HCM
   clear h0 h1 h2 ho HCM
   go_enter Tryz.func73, Tryz.ntmps73
   go_upto_region 3 with (first | (go_at_call 93; refine (HVA.out _ (HGL.below HB.out)).mono ?_; rintro e w4 ⟨rfl, hb4⟩; clear HVA; have q0 := (blk_cell (blk_below KB.out hb4) 0).trans rfl; have q1 := (blk_cell (blk_below KB.out hb4) 1).trans rfl; have q2 := (blk_cell (blk_below KB.out hb4) 2).trans rfl; have q3 := (blk_cell (blk_below KB.out hb4) 3).trans rfl; have n0_ := Aside0.mk (blk_below KA.out hb4); have n1_ := Aside0.mk (blk_below KB.out hb4); have n2_ := Aside0.mk (below_step HB.out hb4); clear KA KB HB hb4; have KA := n0_; have KB := n1_; have HB := n2_; clear n0_ n1_ n2_) | (go_at_call 93; refine (HVB.out _ (HGL.below HB.out)).mono ?_; rintro e w5 ⟨rfl, hb4⟩; clear HVB; have n0_ := Aside0.mk (blk_below KA.out hb4); have n1_ := Aside0.mk (blk_below KB.out hb4); have n2_ := Aside0.mk (below_step HB.out hb4); clear KA KB HB hb4; have KA := n0_; have KB := n1_; have HB := n2_; clear n0_ n1_ n2_))
   have n0_ := Aside0.mk (blk_drew KA.out)
   have n1_ := Aside0.mk (blk_drew KB.out)
   have n2_ := Aside0.mk (below_drew1 HB.out)
   clear KA KB HB
   have KA := n0_
   have KB := n1_
   have HB := n2_
   clear n0_ n1_ n2_
   refine start_ (n := 18) (S := fun w' => w'.cell? ⟨w.heap.size, 0, none⟩ = some (.int .i64 a.f0) ∧ w'.cell? ⟨w.heap.size, 1, none⟩ = some (.int .i64 a.f1) ∧ w'.cell? ⟨w.heap.size, 2, none⟩ = some (.int .i64 a.f2) ∧ w'.cell? ⟨w.heap.size, 3, none⟩ = some (.string a.f3) ∧ w'.cell? ⟨w.heap.size + 1, 0, none⟩ = some (.int .i64 b.f0) ∧ w'.cell? ⟨w.heap.size + 1, 1, none⟩ = some (.int .i64 b.f1) ∧ w'.cell? ⟨w.heap.size + 1, 2, none⟩ = some (.int .i64 b.f2) ∧ w'.cell? ⟨w.heap.size + 1, 3, none⟩ = some (.string b.f3)) (ds := []) #[false, false, false, false, false, false, false, false, false, false, false, false, false, false, false, false, false, false] (by kernel_rfl) rfl rfl ⟨(blk_cell KA.out 0).trans rfl, (blk_cell KA.out 1).trans rfl, (blk_cell KA.out 2).trans rfl, (blk_cell KA.out 3).trans rfl, (blk_cell KB.out 0).trans rfl, (blk_cell KB.out 1).trans rfl, (blk_cell KB.out 2).trans rfl, (blk_cell KB.out 3).trans rfl⟩ (fun hHeld => ?_)
   generalize w5.drew = wdc1 at KA KB HB hHeld ⊢
   refine pure_ (i := 0) (N := some 14) (v := ?_) (a' := ?_) #[true, false, false, false, false, false, false, false, false, false, false, false, false, false, false, false, false, false] rfl rfl (by kernel_rfl) (fun _ _ _ h => h) (Or.inl ⟨by rfl, ?_⟩) ?_ ?_
   rotate_left
   · intro w'
     go_simp
     with_reducible rfl
   rotate_left
   · simp only [Act.put, List.setIfInBounds_toArray, List.set_cons_zero, List.set_cons_succ, i64_w, i32_w]
     rfl
   refine pure_ (i := 2) (N := some 16) (v := ?_) (a' := ?_) #[true, false, true, false, false, false, false, false, false, false, false, false, false, false, false, false, false, false] rfl rfl (by kernel_rfl) (fun _ _ _ h => h) (Or.inl ⟨by rfl, ?_⟩) ?_ ?_
   rotate_left
   · intro w'
     go_simp
     with_reducible rfl
   rotate_left
   · simp only [Act.put, List.setIfInBounds_toArray, List.set_cons_zero, List.set_cons_succ, i64_w, i32_w]
     rfl
   refine pure_ (i := 5) (N := some 19) (v := ?_) (a' := ?_) #[true, false, true, false, false, true, false, false, false, false, false, false, false, false, false, false, false, false] rfl rfl (by kernel_rfl) (fun _ _ _ h => h) (Or.inl ⟨by rfl, ?_⟩) ?_ ?_
   rotate_left
   · intro w'
     go_simp
     with_reducible rfl
   rotate_left
   · simp only [Act.put, List.setIfInBounds_toArray, List.set_cons_zero, List.set_cons_succ, i64_w, i32_w]
     rfl
   refine pure_ (i := 7) (N := some 21) (v := ?_) (a' := ?_) #[true, false, true, false, false, true, false, true, false, false, false, false, false, false, false, false, false, false] rfl rfl (by kernel_rfl) (fun _ _ _ h => h) (Or.inl ⟨by rfl, ?_⟩) ?_ ?_
   rotate_left
   · intro w'
     go_simp
     with_reducible rfl
   rotate_left
   · simp only [Act.put, List.setIfInBounds_toArray, List.set_cons_zero, List.set_cons_succ, i64_w, i32_w]
     rfl
   refine pure_ (i := 10) (N := some 24) (v := ?_) (a' := ?_) #[true, false, true, false, false, true, false, true, false, false, true, false, false, false, false, false, false, false] rfl rfl (by kernel_rfl) (fun _ _ _ h => h) (Or.inl ⟨by rfl, ?_⟩) ?_ ?_
   rotate_left
   · intro w'
     go_simp
     with_reducible rfl
   rotate_left
   · simp only [Act.put, List.setIfInBounds_toArray, List.set_cons_zero, List.set_cons_succ, i64_w, i32_w]
     rfl
   refine pure_ (i := 12) (N := some 26) (v := ?_) (a' := ?_) #[true, false, true, false, false, true, false, true, false, false, true, false, true, false, false, false, false, false] rfl rfl (by kernel_rfl) (fun _ _ _ h => h) (Or.inl ⟨by rfl, ?_⟩) ?_ ?_
   rotate_left
   · intro w'
     go_simp
     with_reducible rfl
   rotate_left
   · simp only [Act.put, List.setIfInBounds_toArray, List.set_cons_zero, List.set_cons_succ, i64_w, i32_w]
     rfl
   refine take_ (i := 1) (N := some 15) (v := ?_) (a' := ?_) #[true, true, true, false, false, true, false, true, false, false, true, false, true, false, false, false, false, false] rfl rfl (by kernel_rfl) (fun _ _ _ h => h) (Or.inl ⟨by rfl, ?_⟩) hHeld ?_ ?_
   rotate_left
   · intro w'
     rintro ⟨s0, s1, s2, s3, s4, s5, s6, s7⟩
     go_simp
     with_reducible rfl
   rotate_left
   · simp only [Act.put, List.setIfInBounds_toArray, List.set_cons_zero, List.set_cons_succ, i64_w, i32_w]
     rfl
   refine take_ (i := 3) (N := some 17) (v := ?_) (a' := ?_) #[true, true, true, true, false, true, false, true, false, false, true, false, true, false, false, false, false, false] rfl rfl (by kernel_rfl) (fun _ _ _ h => h) (Or.inl ⟨by rfl, ?_⟩) hHeld ?_ ?_
   rotate_left
   · intro w'
     rintro ⟨s0, s1, s2, s3, s4, s5, s6, s7⟩
     go_simp
     with_reducible rfl
   rotate_left
   · simp only [Act.put, List.setIfInBounds_toArray, List.set_cons_zero, List.set_cons_succ, i64_w, i32_w]
     rfl
   refine take_ (i := 6) (N := some 20) (v := ?_) (a' := ?_) #[true, true, true, true, false, true, true, true, false, false, true, false, true, false, false, false, false, false] rfl rfl (by kernel_rfl) (fun _ _ _ h => h) (Or.inl ⟨by rfl, ?_⟩) hHeld ?_ ?_
   rotate_left
   · intro w'
     rintro ⟨s0, s1, s2, s3, s4, s5, s6, s7⟩
     go_simp
     with_reducible rfl
   rotate_left
   · simp only [Act.put, List.setIfInBounds_toArray, List.set_cons_zero, List.set_cons_succ, i64_w, i32_w]
     rfl
   refine take_ (i := 8) (N := some 22) (v := ?_) (a' := ?_) #[true, true, true, true, false, true, true, true, true, false, true, false, true, false, false, false, false, false] rfl rfl (by kernel_rfl) (fun _ _ _ h => h) (Or.inl ⟨by rfl, ?_⟩) hHeld ?_ ?_
   rotate_left
   · intro w'
     rintro ⟨s0, s1, s2, s3, s4, s5, s6, s7⟩
     go_simp
     with_reducible rfl
   rotate_left
   · simp only [Act.put, List.setIfInBounds_toArray, List.set_cons_zero, List.set_cons_succ, i64_w, i32_w]
     rfl
   refine take_ (i := 11) (N := some 25) (v := ?_) (a' := ?_) #[true, true, true, true, false, true, true, true, true, false, true, true, true, false, false, false, false, false] rfl rfl (by kernel_rfl) (fun _ _ _ h => h) (Or.inl ⟨by rfl, ?_⟩) hHeld ?_ ?_
   rotate_left
   · intro w'
     rintro ⟨s0, s1, s2, s3, s4, s5, s6, s7⟩
     go_simp
     with_reducible rfl
   rotate_left
   · simp only [Act.put, List.setIfInBounds_toArray, List.set_cons_zero, List.set_cons_succ, i64_w, i32_w]
     rfl
   refine take_ (i := 13) (N := some 27) (v := ?_) (a' := ?_) #[true, true, true, true, false, true, true, true, true, false, true, true, true, true, false, false, false, false] rfl rfl (by kernel_rfl) (fun _ _ _ h => h) (Or.inl ⟨by rfl, ?_⟩) hHeld ?_ ?_
   rotate_left
   · intro w'
     rintro ⟨s0, s1, s2, s3, s4, s5, s6, s7⟩
     go_simp
     with_reducible rfl
   rotate_left
   · simp only [Act.put, List.setIfInBounds_toArray, List.set_cons_zero, List.set_cons_succ, i64_w, i32_w]
     rfl
   refine one_ (i := 4) (N := some 18) #[true, true, true, true, true, true, true, true, true, false, true, true, true, true, false, false, false, false] rfl rfl (by kernel_rfl) (by decide) (fun K hK => ?_)
   refine goes_ Tryz.func101 (by kernel_rfl) rfl #[.int .i64 a.f0, .int .i64 b.f0] (by rfl) rfl rfl (by (try simp only [List.map_toArray, List.map_cons, List.map_nil]); first | done | rfl) ?_
   refine (HC0.out _).mono ?_
   rintro e wdc2 ⟨rfl, hb⟩
   have n0_ := Aside0.mk (blk_below KA.out hb)
   have n1_ := Aside0.mk (blk_below KB.out hb)
   have n2_ := Aside0.mk (below_step HB.out hb)
   clear KA KB HB hb
   have KA := n0_
   have KB := n1_
   have HB := n2_
   clear n0_ n1_ n2_
   refine ⟨_, rfl, ?_⟩
   refine hK.out _ _ ⟨(blk_cell KA.out 0).trans rfl, (blk_cell KA.out 1).trans rfl, (blk_cell KA.out 2).trans rfl, (blk_cell KA.out 3).trans rfl, (blk_cell KB.out 0).trans rfl, (blk_cell KB.out 1).trans rfl, (blk_cell KB.out 2).trans rfl, (blk_cell KB.out 3).trans rfl⟩ (fun hHeld => ?_)
   clear hK K
   refine norm_ (a' := ?_) ?_ ?_
   rotate_left
   · show Act.put _ (some 18) _ = _
     simp only [Act.put, List.setIfInBounds_toArray, List.set_cons_zero, List.set_cons_succ, i64_w, i32_w]
     rfl
   refine one_ (i := 9) (N := some 23) #[true, true, true, true, true, true, true, true, true, true, true, true, true, true, false, false, false, false] rfl rfl (by kernel_rfl) (by decide) (fun K hK => ?_)
   refine goes_ Tryz.func101 (by kernel_rfl) rfl #[.int .i64 a.f1, .int .i64 b.f1] (by rfl) rfl rfl (by (try simp only [List.map_toArray, List.map_cons, List.map_nil]); first | done | rfl) ?_
   refine (HC1.out _).mono ?_
   rintro e wdc3 ⟨rfl, hb⟩
   have n0_ := Aside0.mk (blk_below KA.out hb)
   have n1_ := Aside0.mk (blk_below KB.out hb)
   have n2_ := Aside0.mk (below_step HB.out hb)
   clear KA KB HB hb
   have KA := n0_
   have KB := n1_
   have HB := n2_
   clear n0_ n1_ n2_
   refine ⟨_, rfl, ?_⟩
   refine hK.out _ _ ⟨(blk_cell KA.out 0).trans rfl, (blk_cell KA.out 1).trans rfl, (blk_cell KA.out 2).trans rfl, (blk_cell KA.out 3).trans rfl, (blk_cell KB.out 0).trans rfl, (blk_cell KB.out 1).trans rfl, (blk_cell KB.out 2).trans rfl, (blk_cell KB.out 3).trans rfl⟩ (fun hHeld => ?_)
   clear hK K
   refine norm_ (a' := ?_) ?_ ?_
   rotate_left
   · show Act.put _ (some 23) _ = _
     simp only [Act.put, List.setIfInBounds_toArray, List.set_cons_zero, List.set_cons_succ, i64_w, i32_w]
     rfl
   refine one_ (i := 14) (N := some 28) #[true, true, true, true, true, true, true, true, true, true, true, true, true, true, true, false, false, false] rfl rfl (by kernel_rfl) (by decide) (fun K hK => ?_)
   refine goes_ Tryz.func101 (by kernel_rfl) rfl #[.int .i64 a.f2, .int .i64 b.f2] (by rfl) rfl rfl (by (try simp only [List.map_toArray, List.map_cons, List.map_nil]); first | done | rfl) ?_
   refine (HC2.out _).mono ?_
   rintro e wdc4 ⟨rfl, hb⟩
   have n0_ := Aside0.mk (blk_below KA.out hb)
   have n1_ := Aside0.mk (blk_below KB.out hb)
   have n2_ := Aside0.mk (below_step HB.out hb)
   clear KA KB HB hb
   have KA := n0_
   have KB := n1_
   have HB := n2_
   clear n0_ n1_ n2_
   refine ⟨_, rfl, ?_⟩
   refine hK.out _ _ ⟨(blk_cell KA.out 0).trans rfl, (blk_cell KA.out 1).trans rfl, (blk_cell KA.out 2).trans rfl, (blk_cell KA.out 3).trans rfl, (blk_cell KB.out 0).trans rfl, (blk_cell KB.out 1).trans rfl, (blk_cell KB.out 2).trans rfl, (blk_cell KB.out 3).trans rfl⟩ (fun hHeld => ?_)
   clear hK K
   refine norm_ (a' := ?_) ?_ ?_
   rotate_left
   · show Act.put _ (some 28) _ = _
     simp only [Act.put, List.setIfInBounds_toArray, List.set_cons_zero, List.set_cons_succ, i64_w, i32_w]
     rfl
   refine one_ (i := 15) (N := some 29) #[true, true, true, true, true, true, true, true, true, true, true, true, true, true, true, true, false, false] rfl rfl (by kernel_rfl) (by decide) (fun K hK => ?_)
   refine Kd.R_lit_step (Kd.int .i64) _ 3 ?hg (N := 29) ?hd (xs := ([c0, c1, c2] : List Int)) (inner := [.int .i64 c0, .int .i64 c1, .int .i64 c2]) (ok := fun _ => True) (okp := fun _ => True) ?hr ?hp (fun _ hk => hk) trivial (Below.refl _ _) (Nat.le_refl _) (by simp) ?_; (case hd => rfl); (case hg => rfl); (case hr => first | (go_simp; done) | (go_simp; rfl)); (case hp => exact (Reps.one (show Kd.M (Kd.int .i64) _ _ _ c0 [.int .i64 c0] from rfl) (Reps.one (show Kd.M (Kd.int .i64) _ _ _ c1 [.int .i64 c1] from rfl) (Reps.one (show Kd.M (Kd.int .i64) _ _ _ c2 [.int .i64 c2] from rfl) (Reps.none _ _)))))
   intro v_ wdc5 ho_ hb hg_ hnew_
   clear hg_ hnew_
   obtain ⟨A_, c_, e_⟩ := Kd.R_slice ho_
   subst e_
   have HL := Aside0.mk (Kd.R_reads' ho_).2
   clear ho_
   have n0_ := Aside0.mk (blk_below KA.out hb)
   have n1_ := Aside0.mk (blk_below KB.out hb)
   have n2_ := Aside0.mk (below_step HB.out hb)
   clear KA KB HB hb
   have KA := n0_
   have KB := n1_
   have HB := n2_
   clear n0_ n1_ n2_
   refine hK.out _ _ ⟨(blk_cell KA.out 0).trans rfl, (blk_cell KA.out 1).trans rfl, (blk_cell KA.out 2).trans rfl, (blk_cell KA.out 3).trans rfl, (blk_cell KB.out 0).trans rfl, (blk_cell KB.out 1).trans rfl, (blk_cell KB.out 2).trans rfl, (blk_cell KB.out 3).trans rfl⟩ (fun hHeld => ?_)
   clear hK K
   refine norm_ (a' := ?_) ?_ ?_
   rotate_left
   · show Act.put _ (some 29) _ = _
     simp only [Act.put, List.setIfInBounds_toArray, List.set_cons_zero, List.set_cons_succ, i64_w, i32_w]
     rfl
   refine one_ (i := 16) (N := some 30) #[true, true, true, true, true, true, true, true, true, true, true, true, true, true, true, true, true, false] rfl rfl (by kernel_rfl) (by decide) (fun K hK => ?_)
   refine goes_ Tryz.func70 (by kernel_rfl) rfl #[.slice A_ 3 c_] (by rfl) rfl rfl (by (try simp only [List.map_toArray, List.map_cons, List.map_nil]); first | done | rfl) ?_
   refine (HO.out _ _ _ HL.out).mono ?_
   rintro e wdc6 ⟨rfl, hb⟩
   have n0_ := Aside0.mk (blk_below KA.out hb)
   have n1_ := Aside0.mk (blk_below KB.out hb)
   have n2_ := Aside0.mk ((⟨HL.out.1, Kd.C_below HL.out.2 hb⟩ : _ ∧ _))
   have n3_ := Aside0.mk (below_step HB.out hb)
   clear KA KB HL HB hb
   have KA := n0_
   have KB := n1_
   have HL := n2_
   have HB := n3_
   clear n0_ n1_ n2_ n3_
   refine ⟨_, rfl, ?_⟩
   refine hK.out _ _ ⟨(blk_cell KA.out 0).trans rfl, (blk_cell KA.out 1).trans rfl, (blk_cell KA.out 2).trans rfl, (blk_cell KA.out 3).trans rfl, (blk_cell KB.out 0).trans rfl, (blk_cell KB.out 1).trans rfl, (blk_cell KB.out 2).trans rfl, (blk_cell KB.out 3).trans rfl⟩ (fun hHeld => ?_)
   clear hK K
   refine norm_ (a' := ?_) ?_ ?_
   rotate_left
   · show Act.put _ (some 30) _ = _
     simp only [Act.put, List.setIfInBounds_toArray, List.set_cons_zero, List.set_cons_succ, i64_w, i32_w]
     rfl
   refine pure_ (i := 17) (N := some 5) (v := ?_) (a' := ?_) #[true, true, true, true, true, true, true, true, true, true, true, true, true, true, true, true, true, true] rfl rfl (by kernel_rfl) (fun _ _ _ h => h) (Or.inl ⟨by rfl, ?_⟩) ?_ ?_
   rotate_left
   · intro w'
     go_simp
     with_reducible rfl
   rotate_left
   · simp only [Act.put, List.setIfInBounds_toArray, List.set_cons_zero, List.set_cons_succ, i64_w, i32_w]
     rfl
   refine done_ (by kernel_rfl) ?_
   have p3 := (blk_cell KA.out 3).trans rfl
   have q3 := (blk_cell KB.out 3).trans rfl
   by_cases ho : o = 0
   · have o1 : (o != 0) = false := bne_eq_false_iff_eq.mpr ho
     have HO0 := Aside0.mk ho
     clear ho
     by_cases hab : a.f3.toList = b.f3.toList
     · have o2 : (a.f3.toList == b.f3.toList) = true := beq_iff_eq.mpr hab
       have HAB := Aside0.mk hab
       clear hab
       go_wp2
       go_ret
       exact ⟨by rw [HCA.out, if_pos (.inr HAB.out)]; rfl, by repeat (first | (with_reducible first | exact HB.out | apply below_alloc | apply pw_below_drewN | apply below_drew1) | exact HB.out)⟩
     · have o2 : (a.f3.toList == b.f3.toList) = false := beq_eq_false_iff_ne.mpr hab
       have HAB := Aside0.mk hab
       clear hab
       have HCB := Aside0.mk (HCA.out.trans (if_neg (fun h => h.elim (fun h => h HO0.out) HAB.out)))
       clear HCA
       by_cases hae : a.f3.toList = []
       · have o3 : (a.f3.toList == ([] : List UInt8)) = true := beq_iff_eq.mpr hae
         have o4 : a.f3.toList.isEmpty = true := List.isEmpty_iff.2 hae
         have HAE := Aside0.mk hae
         clear hae
         go_wp2
         go_ret
         exact ⟨by rw [HCB.out, if_pos HAE.out]; rfl, by repeat (first | (with_reducible first | exact HB.out | apply below_alloc | apply pw_below_drewN | apply below_drew1) | exact HB.out)⟩
       · have o3 : (a.f3.toList == ([] : List UInt8)) = false := beq_eq_false_iff_ne.mpr hae
         have o4 : a.f3.toList.isEmpty = false := by rw [Bool.eq_false_iff]; exact fun h => hae (List.isEmpty_iff.1 h)
         have HCC := Aside0.mk (HCB.out.trans (if_neg hae))
         clear HCB hae
         by_cases hbe : b.f3.toList = []
         · have o5 : (b.f3.toList == ([] : List UInt8)) = true := beq_iff_eq.mpr hbe
           have o6 : b.f3.toList.isEmpty = true := List.isEmpty_iff.2 hbe
           have HBE := Aside0.mk hbe
           clear hbe
           go_wp2
           go_ret
           exact ⟨by rw [HCC.out, if_pos HBE.out]; rfl, by repeat (first | (with_reducible first | exact HB.out | apply below_alloc | apply pw_below_drewN | apply below_drew1) | exact HB.out)⟩
         · have o5 : (b.f3.toList == ([] : List UInt8)) = false := beq_eq_false_iff_ne.mpr hbe
           have o6 : b.f3.toList.isEmpty = false := by rw [Bool.eq_false_iff]; exact fun h => hbe (List.isEmpty_iff.1 h)
           have HCD := Aside0.mk (HCC.out.trans (if_neg hbe))
           clear HCC hbe
           go_upto_region 10 with (fail)
           have n0_ := Aside0.mk (blk_drew KA.out)
           have n1_ := Aside0.mk (blk_drew KB.out)
           have n2_ := Aside0.mk (below_drew1 HB.out)
           clear KA KB HB
           have KA := n0_
           have KB := n1_
           have HB := n2_
           clear n0_ n1_ n2_
           refine start_ (n := 8) (S := fun w' => w'.cell? ⟨w.heap.size, 0, none⟩ = some (.int .i64 a.f0) ∧ w'.cell? ⟨w.heap.size, 1, none⟩ = some (.int .i64 a.f1) ∧ w'.cell? ⟨w.heap.size, 2, none⟩ = some (.int .i64 a.f2) ∧ w'.cell? ⟨w.heap.size, 3, none⟩ = some (.string a.f3) ∧ w'.cell? ⟨w.heap.size + 1, 0, none⟩ = some (.int .i64 b.f0) ∧ w'.cell? ⟨w.heap.size + 1, 1, none⟩ = some (.int .i64 b.f1) ∧ w'.cell? ⟨w.heap.size + 1, 2, none⟩ = some (.int .i64 b.f2) ∧ w'.cell? ⟨w.heap.size + 1, 3, none⟩ = some (.string b.f3)) (ds := []) #[false, false, false, false, false, false, false, false] (by kernel_rfl) rfl rfl ⟨(blk_cell KA.out 0).trans rfl, (blk_cell KA.out 1).trans rfl, (blk_cell KA.out 2).trans rfl, (blk_cell KA.out 3).trans rfl, (blk_cell KB.out 0).trans rfl, (blk_cell KB.out 1).trans rfl, (blk_cell KB.out 2).trans rfl, (blk_cell KB.out 3).trans rfl⟩ (fun hHeld => ?_)
           generalize wdc6.drew = wds1 at KA KB HB hHeld ⊢
           refine pure_ (i := 0) (N := some 50) (v := ?_) (a' := ?_) #[true, false, false, false, false, false, false, false] rfl rfl (by kernel_rfl) (fun _ _ _ h => h) (Or.inl ⟨by rfl, ?_⟩) ?_ ?_
           rotate_left
           · intro w'
             go_simp
             with_reducible rfl
           rotate_left
           · simp only [Act.put, List.setIfInBounds_toArray, List.set_cons_zero, List.set_cons_succ, i64_w, i32_w]
             rfl
           refine pure_ (i := 3) (N := some 53) (v := ?_) (a' := ?_) #[true, false, false, true, false, false, false, false] rfl rfl (by kernel_rfl) (fun _ _ _ h => h) (Or.inl ⟨by rfl, ?_⟩) ?_ ?_
           rotate_left
           · intro w'
             go_simp
             with_reducible rfl
           rotate_left
           · simp only [Act.put, List.setIfInBounds_toArray, List.set_cons_zero, List.set_cons_succ, i64_w, i32_w]
             rfl
           refine take_ (i := 1) (N := some 51) (v := ?_) (a' := ?_) #[true, true, false, true, false, false, false, false] rfl rfl (by kernel_rfl) (fun _ _ _ h => h) (Or.inl ⟨by rfl, ?_⟩) hHeld ?_ ?_
           rotate_left
           · intro w'
             rintro ⟨s0, s1, s2, s3, s4, s5, s6, s7⟩
             go_simp
             with_reducible rfl
           rotate_left
           · simp only [Act.put, List.setIfInBounds_toArray, List.set_cons_zero, List.set_cons_succ, i64_w, i32_w]
             rfl
           refine take_ (i := 4) (N := some 54) (v := ?_) (a' := ?_) #[true, true, false, true, true, false, false, false] rfl rfl (by kernel_rfl) (fun _ _ _ h => h) (Or.inl ⟨by rfl, ?_⟩) hHeld ?_ ?_
           rotate_left
           · intro w'
             rintro ⟨s0, s1, s2, s3, s4, s5, s6, s7⟩
             go_simp
             with_reducible rfl
           rotate_left
           · simp only [Act.put, List.setIfInBounds_toArray, List.set_cons_zero, List.set_cons_succ, i64_w, i32_w]
             rfl
           refine one_ (i := 2) (N := some 52) #[true, true, true, true, true, false, false, false] rfl rfl (by kernel_rfl) (by decide) (fun K hK => ?_)
           refine goes_ Tryz.func103 (by kernel_rfl) rfl #[.string a.f3, .string ⟨#[46]⟩] (by rfl) rfl rfl (by (try simp only [List.map_toArray, List.map_cons, List.map_nil]); first | done | rfl) ?_
           refine (splitD_walk a.f3 ha _ (HGL.below HB.out)).mono ?_
           rintro e wds2 ⟨g1, rfl, hs1, hb⟩
           have SA := Aside0.mk (hs1)
           have n0_ := Aside0.mk (blk_below KA.out hb)
           have n1_ := Aside0.mk (blk_below KB.out hb)
           have n2_ := Aside0.mk (below_step HB.out hb)
           clear KA KB HB hb
           have KA := n0_
           have KB := n1_
           have HB := n2_
           clear n0_ n1_ n2_
           refine ⟨_, rfl, ?_⟩
           refine hK.out _ _ ⟨(blk_cell KA.out 0).trans rfl, (blk_cell KA.out 1).trans rfl, (blk_cell KA.out 2).trans rfl, (blk_cell KA.out 3).trans rfl, (blk_cell KB.out 0).trans rfl, (blk_cell KB.out 1).trans rfl, (blk_cell KB.out 2).trans rfl, (blk_cell KB.out 3).trans rfl⟩ (fun hHeld => ?_)
           clear hK K
           refine norm_ (a' := ?_) ?_ ?_
           rotate_left
           · show Act.put _ (some 52) _ = _
             simp only [Act.put, List.setIfInBounds_toArray, List.set_cons_zero, List.set_cons_succ, i64_w, i32_w]
             rfl
           refine one_ (i := 5) (N := some 55) #[true, true, true, true, true, true, false, false] rfl rfl (by kernel_rfl) (by decide) (fun K hK => ?_)
           refine goes_ Tryz.func103 (by kernel_rfl) rfl #[.string b.f3, .string ⟨#[46]⟩] (by rfl) rfl rfl (by (try simp only [List.map_toArray, List.map_cons, List.map_nil]); first | done | rfl) ?_
           refine (splitD_walk b.f3 hb2 _ (HGL.below HB.out)).mono ?_
           rintro e wds3 ⟨g2, rfl, hs2, hb⟩
           have SB := Aside0.mk (hs2)
           have n0_ := Aside0.mk (blk_below KA.out hb)
           have n1_ := Aside0.mk (blk_below KB.out hb)
           have n2_ := Aside0.mk (blk_below SA.out hb)
           have n3_ := Aside0.mk (below_step HB.out hb)
           clear KA KB SA HB hb
           have KA := n0_
           have KB := n1_
           have SA := n2_
           have HB := n3_
           clear n0_ n1_ n2_ n3_
           refine ⟨_, rfl, ?_⟩
           refine hK.out _ _ ⟨(blk_cell KA.out 0).trans rfl, (blk_cell KA.out 1).trans rfl, (blk_cell KA.out 2).trans rfl, (blk_cell KA.out 3).trans rfl, (blk_cell KB.out 0).trans rfl, (blk_cell KB.out 1).trans rfl, (blk_cell KB.out 2).trans rfl, (blk_cell KB.out 3).trans rfl⟩ (fun hHeld => ?_)
           clear hK K
           refine norm_ (a' := ?_) ?_ ?_
           rotate_left
           · show Act.put _ (some 55) _ = _
             simp only [Act.put, List.setIfInBounds_toArray, List.set_cons_zero, List.set_cons_succ, i64_w, i32_w]
             rfl
           refine one_ (i := 6) (N := some 56) #[true, true, true, true, true, true, true, false] rfl rfl (by kernel_rfl) (by decide) (fun K hK => ?_)
           refine goes_ Tryz.func102 (by kernel_rfl) rfl #[.slice (some ⟨g1, 0, none⟩) (splitD a.f3).length (splitD a.f3).length, .slice (some ⟨g2, 0, none⟩) (splitD b.f3).length (splitD b.f3).length, .func (.func 104) #[] #[]] (by rfl) rfl rfl (by (try simp only [List.map_toArray, List.map_cons, List.map_nil]); first | done | rfl) ?_
           refine (rows_walk g1 g2 (splitD a.f3) (splitD b.f3) (splitD_len _ ha) (splitD_len _ hb2) (fun x hx => Nat.le_trans (splitD_size _ x hx) ha) (fun x hx => Nat.le_trans (splitD_size _ x hx) hb2) _ (HGL.below HB.out) SA.out SB.out).mono ?_
           rintro e wds4 ⟨rfl, hb⟩
           have n0_ := Aside0.mk (blk_below KA.out hb)
           have n1_ := Aside0.mk (blk_below KB.out hb)
           have n2_ := Aside0.mk (blk_below SA.out hb)
           have n3_ := Aside0.mk (blk_below SB.out hb)
           have n4_ := Aside0.mk (below_step HB.out hb)
           clear KA KB SA SB HB hb
           have KA := n0_
           have KB := n1_
           have SA := n2_
           have SB := n3_
           have HB := n4_
           clear n0_ n1_ n2_ n3_ n4_
           refine ⟨_, rfl, ?_⟩
           refine hK.out _ _ ⟨(blk_cell KA.out 0).trans rfl, (blk_cell KA.out 1).trans rfl, (blk_cell KA.out 2).trans rfl, (blk_cell KA.out 3).trans rfl, (blk_cell KB.out 0).trans rfl, (blk_cell KB.out 1).trans rfl, (blk_cell KB.out 2).trans rfl, (blk_cell KB.out 3).trans rfl⟩ (fun hHeld => ?_)
           clear hK K
           refine norm_ (a' := ?_) ?_ ?_
           rotate_left
           · show Act.put _ (some 56) _ = _
             simp only [Act.put, List.setIfInBounds_toArray, List.set_cons_zero, List.set_cons_succ, i64_w, i32_w]
             rfl
           refine pure_ (i := 7) (N := some 4) (v := ?_) (a' := ?_) #[true, true, true, true, true, true, true, true] rfl rfl (by kernel_rfl) (fun _ _ _ h => h) (Or.inl ⟨by rfl, ?_⟩) ?_ ?_
           rotate_left
           · intro w'
             go_simp
             with_reducible rfl
           rotate_left
           · simp only [Act.put, List.setIfInBounds_toArray, List.set_cons_zero, List.set_cons_succ, i64_w, i32_w]
             rfl
           refine done_ (by kernel_rfl) ?_
           go_wp2
           go_ret
           exact ⟨by rw [HCD.out]; rfl, by repeat (first | (with_reducible first | exact HB.out | apply below_alloc | apply pw_below_drewN | apply below_drew1) | exact HB.out)⟩
   · have o1 : (o != 0) = true := bne_iff_ne.mpr ho
     have HO0 := Aside0.mk ho
     clear ho
     go_wp2
     go_ret
     exact ⟨by rw [HCA.out, if_pos (.inl HO0.out)]; rfl, by repeat (first | (with_reducible first | exact HB.out | apply below_alloc | apply pw_below_drewN | apply below_drew1) | exact HB.out)⟩
end Go.Proofs.YteinkjhimceljaaGreatDoor.J
