/- flat.Decode and flat.Plan, walked. hoggettop's one and planned, walked. TopProof, walked. -/
import Derived.Test.YteinkjhimceljaaGreatDoorT40
import Derived.Test.YteinkjhimceljaaGreatDoorT43
import Derived.Test.YteinkjhimceljaaGreatDoorT45
import Derived.Test.YteinkjhimceljaaGreatDoorT33
namespace Go.Proofs.YteinkjhimceljaaGreatDoor.J
open Go Go.RowKit Go.Shelf Go.Proofs.YteinkjhimceljaaGreatDoorW.PrintWords Go.Proofs.YteinkjhimceljaaGreatDoorW.PrintLast Go.Proofs.YteinkjhimceljaaGreatDoorW.PrintMore
set_option linter.unusedVariables false
set_option linter.unusedSimpArgs false
theorem fold_vars {n s : ByteArray} (h : s ≠ n) : ∀ (l : List S27) (B : Brd), (l.foldl (layOne n) B).vars s = B.vars s
 | [], _ => rfl
 | m :: t, B => by
  rw [List.foldl_cons, fold_vars h t (layOne n B m)]
  show setV B.vars n _ s = _
  unfold setV
  rw [if_neg h]
theorem names_vars {x : List S27} {s : ByteArray} : ∀ (ns : List ByteArray) (B : Brd), s ∉ ns → (ns.foldl (layName x) B).vars s = B.vars s
 | [], _, _ => rfl
 | n :: t, B, h => by
  rw [List.foldl_cons, names_vars t (layName x B n) (fun h2 => h (List.mem_cons_of_mem _ h2))]
  exact fold_vars (fun e => h (by rw [e]; exact List.mem_cons_self)) _ B
theorem tok_brd {x : List S27} (hx : XOk x) (hl : x.length ≤ 31) (rules : List S78) : TOk (brdOf x) (namesX x) rules :=
 ⟨fun s hs => names_vars (namesX x) noB hs, fun s => Nat.le_trans ((brd_ok hx).vlen s) (brd_len x hl), deps_len (brd_ok hx)⟩
def DecE (w0 : World) (root : S27) (x : List S27) (model : List Bool) (e : Ending) (w' : World) : Prop :=
 ∃ v, e = .returned (.tuple #[v, .int .i64 (decI root x model)]) ∧ (decI root x model = 0 → ∃ a, EndT (brdOf x) root model a ∧ Kd.R k62 62 w' w0.heap.size (fun _ => True) v (rootP :: placesT (brdOf x).l model a))
set_option maxRecDepth 100000 in
set_option maxHeartbeats 8000000 in
theorem decode_walk (root : S27) (A5 : Option Addr) (c5 : Nat) (A6 : Option Addr) (c6 : Nat) (A : Option Addr) (c : Nat) (x : List S27) (hx : XOk x) (hm : MOk root) (h9 : layI root x = 0 → x.length ≤ 31) (Am : Option Addr) (cm : Nat) (model : List Bool) (w : World) (HGL : Glob w)
 (hr : ManC w A5 c5 A6 c6 root) (hX : Kd.C k27 w A x.length x) (hM : Kd.C Kd.bool w Am model.length model) :
 Calls Tryz.prog 11 #[.agg #[.string root.f0, .int .i64 root.f1.f0, .int .i64 root.f1.f1, .int .i64 root.f1.f2, .string root.f1.f3, .slice A5 root.f2.length c5, .slice A6 root.f3.length c6], .slice A x.length c, .slice Am model.length cm] w fun e w' => DecE w root x model e w' ∧ Below w.heap.size w w' := by
 have HB0 := Aside0.mk (below_alloc (Below.refl w.heap.size w) (.cells #[.string root.f0, .int .i64 root.f1.f0, .int .i64 root.f1.f1, .int .i64 root.f1.f2, .string root.f1.f3, .slice A5 root.f2.length c5, .slice A6 root.f3.length c6] 27))
 have BR0 := Aside0.mk (blk_new w (.cells #[.string root.f0, .int .i64 root.f1.f0, .int .i64 root.f1.f1, .int .i64 root.f1.f2, .string root.f1.f3, .slice A5 root.f2.length c5, .slice A6 root.f3.length c6] 27))
 have HEW := Aside0.mk (encode_walk root A5 c5 A6 c6 A c x hx hm h9 _ (HGL.below HB0.out) (hr.below HB0.out) (Kd.C_below hX HB0.out))
 have HRF := Aside0.mk hr.foot
 have HXF := Aside0.mk (Kd.C_F heap_man hX)
 have HMD := Aside0.mk (fun W (h : Below w.heap.size w W) => Kd.C_below hM h)
 have HXO := Aside0.mk hx
 have HMO := Aside0.mk hm
 have HGW := Aside0.mk HGL
 have H9 := Aside0.mk h9
 clear hr hX hx hm HGL hM h9
 by_cases he : encI root x = 0
 · have HEI := Aside0.mk he
   have HL := Aside0.mk (enc_zero he).1
   cases hs : Sp.sat (encV root x) (encC root x) model with
   | true =>
    have HS := Aside0.mk hs
    have HDI := Aside0.mk (show decI root x model = 0 by unfold decI; rw [if_neg (by simp [he]), if_pos hs])
    have HML := Aside0.mk (show model.length = (brdOf x).l.length by
     obtain ⟨_, h2, _⟩ := Uk.sat_iff.1 hs
     unfold encV at h2
     rw [if_pos he] at h2
     omega)
    clear he hs
    go_enter Tryz.func11, Tryz.ntmps11
    go_wp2_with (first
     | ((go_at_call 6; refine HEW.out.mono ?_; rintro e w1 ⟨⟨A1, c1, rfl, hl1, hf1⟩, hb1⟩; rw [HEI.out]; have HL1 := Aside0.mk hl1; have HB1 := Aside0.mk (below_step HB0.out hb1); have HF1 := Aside0.mk hf1; have BR1 := Aside0.mk (blk_below BR0.out hb1); clear hb1 hf1 hl1 HEW); have BF1 := Aside0.mk (blk_new w1 (.cells #[.int .i64 (encV root x), .slice A1 (encC root x).length c1] 36)); have BR2 := Aside0.mk (blk_alloc BR1.out (.cells #[.int .i64 (encV root x), .slice A1 (encC root x).length c1] 36)); have HB2 := Aside0.mk (below_alloc HB1.out (.cells #[.int .i64 (encV root x), .slice A1 (encC root x).length c1] 36)); have HF2 := Aside0.mk (Kd.F_now (Kd.F_below HF1.out (below_alloc (Below.refl _ _) (.cells #[.int .i64 (encV root x), .slice A1 (encC root x).length c1] 36)))))
     | (go_at_call 20; refine (sat_any _ _ _ _ _ _ _ _ HF2.out (HMD.out _ HB2.out)).mono ?_; rintro e w3 ⟨rfl, hb3⟩; rw [HS.out]; have HB3 := Aside0.mk (below_step HB2.out hb3); have BR3 := Aside0.mk (blk_below BR2.out hb3); have r0 := blk_at BR3.out 0 (v := .string root.f0) rfl; have r1 := blk_at BR3.out 1 (v := .int .i64 root.f1.f0) rfl; have r2 := blk_at BR3.out 2 (v := .int .i64 root.f1.f1) rfl; have r3 := blk_at BR3.out 3 (v := .int .i64 root.f1.f2) rfl; have r4 := blk_at BR3.out 4 (v := .string root.f1.f3) rfl; have r5 := blk_at BR3.out 5 (v := .slice A5 root.f2.length c5) rfl; have r6 := blk_at BR3.out 6 (v := .slice A6 root.f3.length c6) rfl; clear hb3)
     | (go_at_call 12; refine (lay_walk root A5 c5 A6 c6 A c x HXO.out HMO.out _ (HGW.out.below HB3.out) (fun k => k < w.heap.size) (fun k hk => Nat.lt_of_lt_of_le hk HB3.out.size) (HRF.out.below HB3.out) (Kd.F_below HXF.out HB3.out)).mono ?_; rintro e w4 ⟨he4, hb4⟩; unfold LayE at he4; rw [if_pos HL.out] at he4; obtain ⟨b, mb, vl, vn, FV, rfl, hls⟩ := he4; have HLS := Aside0.mk hls; have HB4 := Aside0.mk (below_step HB3.out hb4); clear hls hb4 r0 r1 r2 r3 r4 r5 r6)
     | (go_at_call 21; refine (tree_walk (brd_ok HXO.out) HMO.out (tok_brd HXO.out (H9.out HL.out) root.f3) (Nat.le_trans (namesX_len x) (Nat.le_trans (H9.out HL.out) (by decide))) Am cm model HML.out w4 (HGW.out.below HB4.out) HLS.out (HRF.out.below HB4.out) (HMD.out _ HB4.out)).mono ?_; rintro e w5 ⟨a, v, hend, rfl, hr5, hb5⟩; have HEND := Aside0.mk hend; have HR5 := Aside0.mk hr5; have HB5 := Aside0.mk (below_step HB4.out hb5); clear hend hr5 hb5))
    go_ret2
    exact ⟨⟨_, by rw [HDI.out]; rfl, fun _ => ⟨a, HEND.out, Kd.R_lower HR5.out HB4.out.size⟩⟩, HB5.out⟩
   | false =>
    have HS := Aside0.mk hs
    have HDI := Aside0.mk (show decI root x model = 1 by unfold decI; rw [if_neg (by simp [he]), if_neg (by rw [hs]; decide)])
    clear he hs
    go_enter Tryz.func11, Tryz.ntmps11
    go_wp2_with (first
     | ((go_at_call 6; refine HEW.out.mono ?_; rintro e w1 ⟨⟨A1, c1, rfl, hl1, hf1⟩, hb1⟩; rw [HEI.out]; have HL1 := Aside0.mk hl1; have HB1 := Aside0.mk (below_step HB0.out hb1); have HF1 := Aside0.mk hf1; have BR1 := Aside0.mk (blk_below BR0.out hb1); clear hb1 hf1 hl1 HEW); have BF1 := Aside0.mk (blk_new w1 (.cells #[.int .i64 (encV root x), .slice A1 (encC root x).length c1] 36)); have HB2 := Aside0.mk (below_alloc HB1.out (.cells #[.int .i64 (encV root x), .slice A1 (encC root x).length c1] 36)); have HF2 := Aside0.mk (Kd.F_now (Kd.F_below HF1.out (below_alloc (Below.refl _ _) (.cells #[.int .i64 (encV root x), .slice A1 (encC root x).length c1] 36)))))
     | (go_at_call 20; refine (sat_any _ _ _ _ _ _ _ _ HF2.out (HMD.out _ HB2.out)).mono ?_; rintro e w3 ⟨rfl, hb3⟩; rw [HS.out]; have HB3 := Aside0.mk (below_step HB2.out hb3); clear hb3))
    go_ret2
    exact ⟨⟨_, by rw [HDI.out]; rfl, fun h => absurd h (by rw [HDI.out]; decide)⟩, HB3.out⟩
 · have HE := Aside0.mk he
   have HDI := Aside0.mk (show decI root x model = encI root x by unfold decI; rw [if_pos he])
   generalize hei : encI root x = ei at HE he HDI
   have HEI := Aside0.mk hei
   have e1 : (ei == 0) = false := beq_eq_false_iff_ne.mpr he
   clear hei
   go_enter Tryz.func11, Tryz.ntmps11
   go_wp2_with ((go_at_call 6; refine HEW.out.mono ?_; rintro e w1 ⟨⟨A1, c1, rfl, hl1, hf1⟩, hb1⟩; rw [HEI.out]; have HL1 := Aside0.mk hl1; have HB1 := Aside0.mk (below_step HB0.out hb1); have HF1 := Aside0.mk hf1; have BR1 := Aside0.mk (blk_below BR0.out hb1); clear hb1 hf1 hl1 HEW))
   go_ret2
   exact ⟨⟨_, by rw [HDI.out]; rfl, fun h => absurd h (by rw [HDI.out]; exact HE.out)⟩, below_alloc HB1.out (.cells #[.int .i64 (encV root x), .slice A1 (encC root x).length c1] 36)⟩
def PlanE (w0 : World) (root : S27) (x : List S27) (e : Ending) (w' : World) : Prop :=
 ∃ v, e = .returned (.tuple #[v, .int .i64 (planI root x)]) ∧ (planI root x = 0 → ∃ a, EndT (brdOf x) root (Sv.solve (encV root x) (encC root x)).2.1 a ∧ Kd.R k62 62 w' w0.heap.size (fun _ => True) v (rootP :: placesT (brdOf x).l (Sv.solve (encV root x) (encC root x)).2.1 a))
set_option maxRecDepth 100000 in
set_option maxHeartbeats 8000000 in
theorem plan_walk (root : S27) (A5 : Option Addr) (c5 : Nat) (A6 : Option Addr) (c6 : Nat) (A : Option Addr) (c : Nat) (x : List S27) (hx : XOk x) (hm : MOk root) (h9 : layI root x = 0 → x.length ≤ 31) (w : World) (HGL : Glob w)
 (hr : ManC w A5 c5 A6 c6 root) (hX : Kd.C k27 w A x.length x) :
 Calls Tryz.prog 5 #[.agg #[.string root.f0, .int .i64 root.f1.f0, .int .i64 root.f1.f1, .int .i64 root.f1.f2, .string root.f1.f3, .slice A5 root.f2.length c5, .slice A6 root.f3.length c6], .slice A x.length c] w fun e w' => PlanE w root x e w' ∧ Below w.heap.size w w' := by
 have HB0 := Aside0.mk (below_alloc (Below.refl w.heap.size w) (.cells #[.string root.f0, .int .i64 root.f1.f0, .int .i64 root.f1.f1, .int .i64 root.f1.f2, .string root.f1.f3, .slice A5 root.f2.length c5, .slice A6 root.f3.length c6] 27))
 have BR0 := Aside0.mk (blk_new w (.cells #[.string root.f0, .int .i64 root.f1.f0, .int .i64 root.f1.f1, .int .i64 root.f1.f2, .string root.f1.f3, .slice A5 root.f2.length c5, .slice A6 root.f3.length c6] 27))
 have HEW := Aside0.mk (encode_walk root A5 c5 A6 c6 A c x hx hm h9 _ (HGL.below HB0.out) (hr.below HB0.out) (Kd.C_below hX HB0.out))
 have HRC := Aside0.mk hr
 have HXC := Aside0.mk hX
 have HXO := Aside0.mk hx
 have HMO := Aside0.mk hm
 have HGW := Aside0.mk HGL
 have H9 := Aside0.mk h9
 clear hr hX hx hm HGL h9
 by_cases he : encI root x = 0
 · have HEI := Aside0.mk he
   obtain ⟨r1, r2, r3, r4, hsv⟩ : ∃ r1 r2 r3 r4, Sv.solve (encV root x) (encC root x) = (r1, r2, r3, r4) := ⟨_, _, _, _, rfl⟩
   have HSV := Aside0.mk hsv
   by_cases h4 : r4 = 0
   · subst h4
     cases r1 with
     | true =>
      have HPI := Aside0.mk (show planI root x = decI root x r2 by unfold planI; rw [hsv, if_neg (by simp [he]), if_neg (by simp), if_neg (by simp)])
      clear he hsv
      go_enter Tryz.func5, Tryz.ntmps5
      obtain ⟨r1, HRR⟩ : ∃ r1, Aside0 (r1 = true) := ⟨_, ⟨rfl⟩⟩
      rw [← HRR.out] at HSV
      go_wp2_with (first
       | ((go_at_call 6; refine HEW.out.mono ?_; rintro e w1 ⟨⟨A1, c1, rfl, hl1, hf1⟩, hb1⟩; rw [HEI.out]; have HL1 := Aside0.mk hl1; have HB1 := Aside0.mk (below_step HB0.out hb1); have HF1 := Aside0.mk hf1; have BR1 := Aside0.mk (blk_below BR0.out hb1); clear hb1 hf1 hl1 HEW); have BF1 := Aside0.mk (blk_new w1 (.cells #[.int .i64 (encV root x), .slice A1 (encC root x).length c1] 36)); have BR2 := Aside0.mk (blk_alloc BR1.out (.cells #[.int .i64 (encV root x), .slice A1 (encC root x).length c1] 36)); have HB2 := Aside0.mk (below_alloc HB1.out (.cells #[.int .i64 (encV root x), .slice A1 (encC root x).length c1] 36)); have HF2 := Aside0.mk (Kd.F_now (Kd.F_below HF1.out (below_alloc (Below.refl _ _) (.cells #[.int .i64 (encV root x), .slice A1 (encC root x).length c1] 36)))))
       | ((go_at_call 7; refine (solver_Solve.calls _ _ _ _ r1 r2 r3 _ _ HF2.out HL1.out (by rw [solver_Solve.f_eq, HSV.out])).mono ?_; rintro e w3 ⟨v1, v2, rfl, hr3, hs3, hb3⟩; obtain ⟨Am, cm, rfl⟩ := Kd.R_slice hr3; obtain ⟨At, ct, rfl⟩ := Kd.S_slice hs3; have HR3 := Aside0.mk hr3; have HB3 := Aside0.mk (below_step HB2.out hb3); have BR3 := Aside0.mk (blk_below BR2.out hb3); have BA3 := Aside0.mk (blk_new w3 (.cells #[.bool r1, .slice Am r2.length cm, .slice At r3.length ct] 41)); have a0 := blk_at BA3.out 0 (v := .bool r1) rfl; clear hb3 hr3 hs3); have a1 := blk_at BA3.out 1 (v := .slice Am r2.length cm) rfl; have BR4 := Aside0.mk (blk_alloc BR3.out (.cells #[.bool r1, .slice Am r2.length cm, .slice At r3.length ct] 41)); have r0 := blk_at BR4.out 0 (v := .string root.f0) rfl; have rx1 := blk_at BR4.out 1 (v := .int .i64 root.f1.f0) rfl; have rx2 := blk_at BR4.out 2 (v := .int .i64 root.f1.f1) rfl; have rx3 := blk_at BR4.out 3 (v := .int .i64 root.f1.f2) rfl; have rx4 := blk_at BR4.out 4 (v := .string root.f1.f3) rfl; have rx5 := blk_at BR4.out 5 (v := .slice A5 root.f2.length c5) rfl; have rx6 := blk_at BR4.out 6 (v := .slice A6 root.f3.length c6) rfl; have HB4 := Aside0.mk (below_alloc HB3.out (.cells #[.bool r1, .slice Am r2.length cm, .slice At r3.length ct] 41)); have HM4 := Aside0.mk (Kd.C_alloc (Kd.R_reads' HR3.out).2.2 (.cells #[.bool r1, .slice Am r2.length cm, .slice At r3.length ct] 41)); have e9 := HRR.out; subst e9)
       | (go_at_call 11; refine (decode_walk root A5 c5 A6 c6 A c x HXO.out HMO.out H9.out Am cm r2 _ (HGW.out.below HB4.out) (HRC.out.below HB4.out) (Kd.C_below HXC.out HB4.out) HM4.out).mono ?_; rintro e w5 ⟨⟨v, rfl, hv5⟩, hb5⟩; have HV5 := Aside0.mk hv5; have HB5 := Aside0.mk (below_step HB4.out hb5); clear hv5 hb5))
      go_ret2
      refine ⟨⟨_, by rw [HPI.out]; rfl, fun h => ?_⟩, HB5.out⟩
      rw [HPI.out] at h
      obtain ⟨a, h1, h2⟩ := HV5.out h
      rw [HSV.out]
      exact ⟨a, h1, Kd.R_lower h2 HB4.out.size⟩
     | false =>
      have HPI := Aside0.mk (show planI root x = 170 by unfold planI; rw [hsv, if_neg (by simp [he]), if_neg (by simp), if_pos rfl])
      clear he hsv
      go_enter Tryz.func5, Tryz.ntmps5
      obtain ⟨r1, HRR⟩ : ∃ r1, Aside0 (r1 = false) := ⟨_, ⟨rfl⟩⟩
      rw [← HRR.out] at HSV
      go_wp2_with (first
       | ((go_at_call 6; refine HEW.out.mono ?_; rintro e w1 ⟨⟨A1, c1, rfl, hl1, hf1⟩, hb1⟩; rw [HEI.out]; have HL1 := Aside0.mk hl1; have HB1 := Aside0.mk (below_step HB0.out hb1); have HF1 := Aside0.mk hf1; have BR1 := Aside0.mk (blk_below BR0.out hb1); clear hb1 hf1 hl1 HEW); have BF1 := Aside0.mk (blk_new w1 (.cells #[.int .i64 (encV root x), .slice A1 (encC root x).length c1] 36)); have BR2 := Aside0.mk (blk_alloc BR1.out (.cells #[.int .i64 (encV root x), .slice A1 (encC root x).length c1] 36)); have HB2 := Aside0.mk (below_alloc HB1.out (.cells #[.int .i64 (encV root x), .slice A1 (encC root x).length c1] 36)); have HF2 := Aside0.mk (Kd.F_now (Kd.F_below HF1.out (below_alloc (Below.refl _ _) (.cells #[.int .i64 (encV root x), .slice A1 (encC root x).length c1] 36)))))
       | ((go_at_call 7; refine (solver_Solve.calls _ _ _ _ r1 r2 r3 _ _ HF2.out HL1.out (by rw [solver_Solve.f_eq, HSV.out])).mono ?_; rintro e w3 ⟨v1, v2, rfl, hr3, hs3, hb3⟩; obtain ⟨Am, cm, rfl⟩ := Kd.R_slice hr3; obtain ⟨At, ct, rfl⟩ := Kd.S_slice hs3; have HR3 := Aside0.mk hr3; have HB3 := Aside0.mk (below_step HB2.out hb3); have BR3 := Aside0.mk (blk_below BR2.out hb3); have BA3 := Aside0.mk (blk_new w3 (.cells #[.bool r1, .slice Am r2.length cm, .slice At r3.length ct] 41)); have a0 := blk_at BA3.out 0 (v := .bool r1) rfl; clear hb3 hr3 hs3); have e9 := HRR.out; subst e9))
      go_ret2
      exact ⟨⟨_, by rw [HPI.out]; rfl, fun h => absurd h (by rw [HPI.out]; decide)⟩, below_alloc HB3.out (.cells #[.bool false, .slice Am r2.length cm, .slice At r3.length ct] 41)⟩
   · have H4 := Aside0.mk h4
     have HPI := Aside0.mk (show planI root x = r4 by unfold planI; rw [hsv, if_neg (by simp [he]), if_pos h4])
     have e1 : (r4 == 0) = false := beq_eq_false_iff_ne.mpr h4
     clear he hsv
     go_enter Tryz.func5, Tryz.ntmps5
     go_wp2_with (first
      | ((go_at_call 6; refine HEW.out.mono ?_; rintro e w1 ⟨⟨A1, c1, rfl, hl1, hf1⟩, hb1⟩; rw [HEI.out]; have HL1 := Aside0.mk hl1; have HB1 := Aside0.mk (below_step HB0.out hb1); have HF1 := Aside0.mk hf1; have BR1 := Aside0.mk (blk_below BR0.out hb1); clear hb1 hf1 hl1 HEW); have BF1 := Aside0.mk (blk_new w1 (.cells #[.int .i64 (encV root x), .slice A1 (encC root x).length c1] 36)); have BR2 := Aside0.mk (blk_alloc BR1.out (.cells #[.int .i64 (encV root x), .slice A1 (encC root x).length c1] 36)); have HB2 := Aside0.mk (below_alloc HB1.out (.cells #[.int .i64 (encV root x), .slice A1 (encC root x).length c1] 36)); have HF2 := Aside0.mk (Kd.F_now (Kd.F_below HF1.out (below_alloc (Below.refl _ _) (.cells #[.int .i64 (encV root x), .slice A1 (encC root x).length c1] 36)))))
      | (go_at_call 7; refine (solver_Solve.calls _ _ _ _ r1 r2 r3 _ _ HF2.out HL1.out (by rw [solver_Solve.f_eq, HSV.out])).mono ?_; rintro e w3 ⟨v1, v2, rfl, hr3, hs3, hb3⟩; obtain ⟨Am, cm, rfl⟩ := Kd.R_slice hr3; obtain ⟨At, ct, rfl⟩ := Kd.S_slice hs3; have HR3 := Aside0.mk hr3; have HB3 := Aside0.mk (below_step HB2.out hb3); have BR3 := Aside0.mk (blk_below BR2.out hb3); have BA3 := Aside0.mk (blk_new w3 (.cells #[.bool r1, .slice Am r2.length cm, .slice At r3.length ct] 41)); have a0 := blk_at BA3.out 0 (v := .bool r1) rfl; clear hb3 hr3 hs3))
     go_ret2
     exact ⟨⟨_, by rw [HPI.out]; rfl, fun h => absurd h (by rw [HPI.out]; exact H4.out)⟩, below_alloc HB3.out (.cells #[.bool r1, .slice Am r2.length cm, .slice At r3.length ct] 41)⟩
 · have HE := Aside0.mk he
   have HPI := Aside0.mk (show planI root x = encI root x by unfold planI; rw [if_pos he])
   generalize hei : encI root x = ei at HE he HPI
   have HEI := Aside0.mk hei
   have e1 : (ei == 0) = false := beq_eq_false_iff_ne.mpr he
   clear hei
   go_enter Tryz.func5, Tryz.ntmps5
   go_wp2_with ((go_at_call 6; refine HEW.out.mono ?_; rintro e w1 ⟨⟨A1, c1, rfl, hl1, hf1⟩, hb1⟩; rw [HEI.out]; have HL1 := Aside0.mk hl1; have HB1 := Aside0.mk (below_step HB0.out hb1); have HF1 := Aside0.mk hf1; have BR1 := Aside0.mk (blk_below BR0.out hb1); clear hb1 hf1 hl1 HEW))
   go_ret2
   exact ⟨⟨_, by rw [HPI.out]; rfl, fun h => absurd h (by rw [HPI.out]; exact HE.out)⟩, below_alloc HB1.out (.cells #[.int .i64 (encV root x), .slice A1 (encC root x).length c1] 36)⟩
theorem C_block {α : Type} {d : Kd α} {W : World} {b t : Nat} {xs : List α} {cs : List Value} (hb : W.heap[b]? = some (.cells cs.toArray t (0, 0))) (hr : Reps (d.K W) d.sz xs cs) (hl : xs.length ≤ 1000000) : Kd.C d W (some ⟨b, 0, none⟩) xs.length xs := by
 refine ⟨rfl, by omega, fun _ => ⟨_, rfl, fun j p hj => ⟨(cs.drop (j * d.sz)).take d.sz, ?_, hr.2 j p hj, fun i u hu => ?_⟩⟩⟩
 · have hjl := (List.getElem?_eq_some_iff.1 hj).1
   have h1 : j * d.sz + d.sz ≤ cs.length := by rw [hr.1, ← Nat.succ_mul]; exact Nat.mul_le_mul_right _ hjl
   rw [List.length_take, List.length_drop]
   omega
 · have h1 : cs[j * d.sz + i]? = some u := by
    rw [List.getElem?_take] at hu
    split at hu
    · rw [List.getElem?_drop] at hu; exact hu
    · cases hu
   rw [Go.Proofs.YteinkjhimceljaaGreatDoorW.PrintWords.add_at, Nat.zero_add]
   exact blk_at hb _ (by simpa using h1)
theorem any_row {W : World} {b : Nat} (h : W.heap[b]? = some (.cells #[.slice none 0 0] 109 (0, 0))) : (Kd.slice 112 k112).C W (some ⟨b, 0, none⟩) 1 [[]] :=
 C_block (xs := [([] : List S112)]) (cs := [.slice none 0 0]) h (Reps.one ⟨none, 0, rfl, Nat.le_refl _, Kd.C_nil _ _⟩ (Reps.none _ _)) (by decide)
theorem dep_row {W : World} {b c : Nat} {o : ByteArray} (h : W.heap[c]? = some (.cells #[.int .i64 1, .string o, .slice (some ⟨b, 0, none⟩) 1 1] 75 (0, 0))) (hb : W.heap[b]? = some (.cells #[.slice none 0 0] 109 (0, 0))) : Kd.C k75 W (some ⟨c, 0, none⟩) 1 [depOn o] :=
 C_block (xs := [depOn o]) (cs := [.int .i64 1, .string o, .slice (some ⟨b, 0, none⟩) 1 1]) h (Reps.snoc (Reps.none _ _) (k75_mk W (depOn o) (A2 := some ⟨b, 0, none⟩) (c2 := 1) (Nat.le_refl 1) (any_row hb)) rfl) (by simp)
set_option maxRecDepth 100000 in
set_option maxHeartbeats 4000000 in
theorem one_walk (n o : ByteArray) (w : World) :
 Calls Tryz.prog 16 #[.string n, .string o] w fun e w' => ∃ A, e = .returned (.agg #[.string n, .int .i64 1, .int .i64 0, .int .i64 0, .string ⟨#[]⟩, .slice A 1 1, .slice none 0 0]) ∧ Kd.C k75 w' A 1 [depOn o] ∧ Below w.heap.size w w' := by
 have h1 := blk_new w (.cells #[.string n, .int .i64 1, .int .i64 0, .int .i64 0, .string ⟨#[]⟩, .slice (some ⟨w.heap.size + 1 + 1, 0, none⟩) 1 1, .slice none 0 0] 27)
 have h2 := blk_new (w.alloc (.cells #[.string n, .int .i64 1, .int .i64 0, .int .i64 0, .string ⟨#[]⟩, .slice (some ⟨w.heap.size + 1 + 1, 0, none⟩) 1 1, .slice none 0 0] 27)) (.cells #[.slice none 0 0] 109)
 have h3 := blk_new ((w.alloc (.cells #[.string n, .int .i64 1, .int .i64 0, .int .i64 0, .string ⟨#[]⟩, .slice (some ⟨w.heap.size + 1 + 1, 0, none⟩) 1 1, .slice none 0 0] 27)).alloc (.cells #[.slice none 0 0] 109)) (.cells #[.int .i64 1, .string o, .slice (some ⟨w.heap.size + 1, 0, none⟩) 1 1] 75)
 rw [World.size_alloc] at h2 h3
 rw [World.size_alloc] at h3
 have H1 := Aside0.mk (blk_alloc (blk_alloc h1 (.cells #[.slice none 0 0] 109)) (.cells #[.int .i64 1, .string o, .slice (some ⟨w.heap.size + 1, 0, none⟩) 1 1] 75))
 have H2 := Aside0.mk (blk_alloc h2 (.cells #[.int .i64 1, .string o, .slice (some ⟨w.heap.size + 1, 0, none⟩) 1 1] 75))
 have H3 := Aside0.mk h3
 clear h1 h2 h3
 go_enter Tryz.func16, Tryz.ntmps16
 go_wp2
 refine bodyPost_ret (results_cell_row rfl _ _ w.heap.size 27 #[.string n, .int .i64 1, .int .i64 0, .int .i64 0, .string ⟨#[]⟩, .slice (some ⟨w.heap.size + 1 + 1, 0, none⟩) 1 1, .slice none 0 0] (0, 0) _ rfl H1.out Tryz.underlying27 rfl (by kernel_rfl)) rfl ?_
 exact ⟨_, rfl, dep_row H3.out H2.out, below_alloc (below_alloc (below_alloc (Below.refl _ _) _) _) _⟩
theorem vok_v100 : VOk v100 := ⟨by decide, ⟨by decide, by decide⟩, ⟨by decide, by decide⟩, ⟨by decide, by decide⟩⟩
theorem rok_any : ROk [[]] := ⟨by decide, fun x hx => by simp only [List.mem_singleton] at hx; subst hx; exact ⟨by decide, fun b hb => by cases hb⟩⟩
theorem mok_one {n o : ByteArray} (hn : n.size ≤ 1000) (ho : o.size ≤ 1000) : MOk (oneM n o) :=
 ⟨hn, vok_v100, by simp [oneM], fun d hd => by simp only [oneM, List.mem_singleton] at hd; subst hd; exact ⟨ho, rok_any, ⟨by simp [depOn], by simp [depOn]⟩⟩, by simp [oneM], fun r hr => (by cases hr)⟩
theorem mok_bare {n : ByteArray} (hn : n.size ≤ 1000) : MOk (bareM n) := ⟨hn, vok_v100, by simp [bareM], fun d hd => (by cases hd), by simp [bareM], fun r hr => (by cases hr)⟩
theorem xok_x1 : XOk x1 := ⟨by decide, fun m hm => by simp only [x1, List.mem_singleton] at hm; subst hm; exact mok_one (by decide) (by decide)⟩
theorem xok_x2 : XOk x2 := ⟨by decide, fun m hm => by
 simp only [x2, List.mem_cons, List.not_mem_nil, or_false] at hm
 rcases hm with rfl | rfl
 · exact mok_one (by decide) (by decide)
 · exact mok_bare (by decide)⟩
theorem manC_one {W : World} {A : Option Addr} {n o : ByteArray} (h : Kd.C k75 W A 1 [depOn o]) : ManC W A 1 none 0 (oneM n o) := ⟨Nat.le_refl 1, h, Nat.le_refl 0, Kd.C_nil _ _⟩
theorem x2_row {W : World} {b : Nat} {A : Option Addr} (h : W.heap[b]? = some (.cells ([.string nA, .int .i64 1, .int .i64 0, .int .i64 0, .string ⟨#[]⟩, .slice A 1 1, .slice none 0 0, .string nB, .int .i64 1, .int .i64 0, .int .i64 0, .string ⟨#[]⟩, .slice none 0 0, .slice none 0 0]).toArray 27 (0, 0))) (hA : Kd.C k75 W A 1 [depOn nB]) : Kd.C k27 W (some ⟨b, 0, none⟩) 2 x2 :=
 C_block (xs := x2) (cs := [.string nA, .int .i64 1, .int .i64 0, .int .i64 0, .string ⟨#[]⟩, .slice A 1 1, .slice none 0 0, .string nB, .int .i64 1, .int .i64 0, .int .i64 0, .string ⟨#[]⟩, .slice none 0 0, .slice none 0 0]) h (Reps.snoc (Reps.snoc (Reps.none _ _) (k27_mk W (oneM nA nB) (A5 := A) (c5 := 1) (Nat.le_refl 1) hA (A6 := none) (c6 := 0) (Nat.le_refl 0) (Kd.C_nil _ _)) rfl) (k27_mk W (bareM nB) (A5 := none) (c5 := 0) (Nat.le_refl 0) (Kd.C_nil _ _) (A6 := none) (c6 := 0) (Nat.le_refl 0) (Kd.C_nil _ _)) rfl) (by decide)
set_option maxRecDepth 100000 in
set_option maxHeartbeats 8000000 in
theorem planned_walk (w : World) (HGL : Glob w) : Calls Tryz.prog 8 #[] w fun e w' => e = .returned (.bool true) ∧ Below w.heap.size w w' := by
 have HGW := Aside0.mk HGL
 clear HGL
 go_enter Tryz.func8, Tryz.ntmps8
 go_upto_region 2 with (go_at_call 16; refine (one_walk nA nB w).mono ?_; rintro e w1 ⟨A1, rfl, hc1, hb1⟩; have HC1 := Aside0.mk hc1; have HB1 := Aside0.mk hb1; clear hc1 hb1)
 have BX2 := Aside0.mk (blk_new w1 (.cells #[.string nA, .int .i64 1, .int .i64 0, .int .i64 0, .string ⟨#[]⟩, .slice A1 1 1, .slice none 0 0, .string nB, .int .i64 1, .int .i64 0, .int .i64 0, .string ⟨#[]⟩, .slice none 0 0, .slice none 0 0] 27))
 have HB2 := Aside0.mk (below_alloc HB1.out (.cells #[.string nA, .int .i64 1, .int .i64 0, .int .i64 0, .string ⟨#[]⟩, .slice A1 1 1, .slice none 0 0, .string nB, .int .i64 1, .int .i64 0, .int .i64 0, .string ⟨#[]⟩, .slice none 0 0, .slice none 0 0] 27))
 have HX2 := Aside0.mk (x2_row BX2.out (Kd.C_alloc HC1.out (.cells #[.string nA, .int .i64 1, .int .i64 0, .int .i64 0, .string ⟨#[]⟩, .slice A1 1 1, .slice none 0 0, .string nB, .int .i64 1, .int .i64 0, .int .i64 0, .string ⟨#[]⟩, .slice none 0 0, .slice none 0 0] 27)))
 go_upto_region 3 with (first
  | (go_at_call 16; refine (one_walk nR nA _).mono ?_; rintro e w3 ⟨A3, rfl, hc3, hb3⟩; have HC3 := Aside0.mk hc3; have HB3 := Aside0.mk (below_step HB2.out hb3); have HX3 := Aside0.mk (Kd.C_below HX2.out hb3); clear hc3 hb3)
  | (go_at_call 5; refine (plan_walk (oneM nR nA) A3 1 none 0 _ 2 x2 xok_x2 (mok_one (by decide) (by decide)) (fun _ => by decide) w3 (HGW.out.below HB3.out) (manC_one HC3.out) HX3.out).mono ?_; rintro e w4 ⟨⟨v4, rfl, hv4⟩, hb4⟩; rw [plan_x2]; have HV4 := Aside0.mk (hv4 plan_x2); have HB4 := Aside0.mk (below_step HB3.out hb4); have HX4 := Aside0.mk (Kd.C_below HX3.out hb4); clear hv4 hb4))
 obtain ⟨a, hend, hv5⟩ := HV4.out
 have henc := enc_x2
 rw [henc.2.1, henc.2.2, solve_x2] at hend hv5
 have hend : EndT (brdOf x2) (oneM nR nA) [true, true] a := hend
 have hv5 : Kd.R k62 62 w4 w3.heap.size (fun _ => True) v4 (rootP :: placesT (brdOf x2).l [true, true] a) := hv5
 rw [places_x2 hend] at hv5
 obtain ⟨A9, c9, rfl⟩ := Kd.R_slice hv5
 have HR4 := Aside0.mk hv5
 clear hv5 hend henc HV4
 have HB5 := Aside0.mk (below_drew HB4.out)
 have HR5 := Aside0.mk (Kd.R_below HR4.out (below_drew (Below.refl _ _)))
 have HX5 := Aside0.mk (Kd.C_below HX4.out (below_drew (Below.refl _ _)))
 clear HB4 HR4 HX4
 refine start_ (n := 9) (S := fun w' => True) (ds := []) (bts 9 0) (by kernel_rfl) rfl (by kernel_rfl) trivial (fun hHeld => ?_)
 generalize w4.drew = W5 at HB5 HR5 HX5 hHeld ⊢
 refine pure_ (i := 1) (N := some 18) (v := ?_) (a' := ?_) (bts 9 2) rfl rfl (by kernel_rfl) (fun _ _ _ h => h) (Or.inl ⟨by rfl, ?_⟩) ?_ ?_
 rotate_left
 · intro w'
   go_simp
   with_reducible rfl
 rotate_left
 · simp only [Act.put, List.setIfInBounds_toArray, List.set_cons_zero, List.set_cons_succ, i64_w, i32_w]
   rfl
 refine pure_ (i := 2) (N := some 19) (v := ?_) (a' := ?_) (bts 9 6) rfl rfl (by kernel_rfl) (fun _ _ _ h => h) (Or.inl ⟨by rfl, ?_⟩) ?_ ?_
 rotate_left
 · intro w'
   go_simp
   with_reducible rfl
 rotate_left
 · simp only [Act.put, List.setIfInBounds_toArray, List.set_cons_zero, List.set_cons_succ, i64_w, i32_w]
   rfl
 refine one_ (i := 0) (N := some 17) (bts 9 7) rfl rfl (by kernel_rfl) (by decide) (fun K hK => ?_)
 refine goes_ Tryz.func16 (by kernel_rfl) rfl #[.string nR, .string nA] (by rfl) rfl rfl (by (try simp only [List.map_toArray, List.map_cons, List.map_nil]); first | done | rfl) ?_
 refine (one_walk nR nA W5).mono ?_
 rintro e W6 ⟨A6, rfl, hc6, hb6⟩
 have HB6 := Aside0.mk (below_step HB5.out hb6)
 have HR6 := Aside0.mk (Kd.R_below HR5.out hb6)
 have HX6 := Aside0.mk (Kd.C_take (m := 1) (Kd.C_below HX5.out hb6) (by decide))
 have HC6 := Aside0.mk hc6
 clear hc6 hb6 HB5 HR5 HX5
 refine ⟨_, rfl, ?_⟩
 refine hK.out _ _ trivial (fun hHeld => ?_)
 clear hK K
 refine norm_ (a' := ?_) ?_ ?_
 rotate_left
 · show Act.put _ (some 17) _ = _
   simp only [Act.put, List.setIfInBounds_toArray, List.set_cons_zero, List.set_cons_succ, i64_w, i32_w]
   rfl
 refine one_ (i := 3) (N := some 20) (bts 9 15) rfl rfl (by kernel_rfl) (by decide) (fun K hK => ?_)
 refine goes_ Tryz.func5 (by kernel_rfl) rfl #[.agg #[.string nR, .int .i64 1, .int .i64 0, .int .i64 0, .string ⟨#[]⟩, .slice A6 1 1, .slice none 0 0], .slice (some ⟨w1.heap.size, 0, none⟩) 1 2] (by rfl) rfl rfl (by (try simp only [List.map_toArray, List.map_cons, List.map_nil]); first | done | rfl) ?_
 refine (plan_walk (oneM nR nA) A6 1 none 0 _ 2 x1 xok_x1 (mok_one (by decide) (by decide)) (fun _ => by decide) W6 (HGW.out.below HB6.out) (manC_one HC6.out) HX6.out).mono ?_
 rintro e W7 ⟨⟨v7, rfl, _⟩, hb7⟩
 rw [plan_x1]
 have HB7 := Aside0.mk (below_step HB6.out hb7)
 have HR7 := Aside0.mk (Kd.R_below HR6.out hb7)
 clear hb7 HB6 HR6 HX6
 refine ⟨_, rfl, ?_⟩
 refine hK.out _ _ trivial (fun hHeld => ?_)
 clear hK K
 refine norm_ (a' := ?_) ?_ ?_
 rotate_left
 · show Act.put _ (some 20) _ = _
   simp only [Act.put, List.setIfInBounds_toArray, List.set_cons_zero, List.set_cons_succ, i64_w, i32_w]
   rfl
 refine pure_ (i := 4) (N := some 16) (v := ?_) (a' := ?_) (bts 9 31) rfl rfl (by kernel_rfl) (fun _ _ _ h => h) (Or.inl ⟨by rfl, ?_⟩) ?_ ?_
 rotate_left
 · intro w'
   go_simp
   with_reducible rfl
 rotate_left
 · simp only [Act.put, List.setIfInBounds_toArray, List.set_cons_zero, List.set_cons_succ, i64_w, i32_w]
   rfl
 refine pure_ (i := 5) (N := some 21) (v := ?_) (a' := ?_) (bts 9 63) rfl rfl (by kernel_rfl) (fun _ _ _ h => h) (Or.inl ⟨by rfl, ?_⟩) ?_ ?_
 rotate_left
 · intro w'
   go_simp
   with_reducible rfl
 rotate_left
 · simp only [Act.put, List.setIfInBounds_toArray, List.set_cons_zero, List.set_cons_succ, i64_w, i32_w]
   rfl
 refine pure_ (i := 6) (N := some 22) (v := ?_) (a' := ?_) (bts 9 127) rfl rfl (by kernel_rfl) (fun _ _ _ h => h) (Or.inl ⟨by rfl, ?_⟩) ?_ ?_
 rotate_left
 · intro w'
   go_simp
   with_reducible rfl
 rotate_left
 · simp only [Act.put, List.setIfInBounds_toArray, List.set_cons_zero, List.set_cons_succ, i64_w, i32_w]
   rfl
 refine pure_ (i := 7) (N := some 4) (v := ?_) (a' := ?_) (bts 9 255) rfl rfl (by kernel_rfl) (fun _ _ _ h => h) (Or.inl ⟨by rfl, ?_⟩) ?_ ?_
 rotate_left
 · intro w'
   go_simp
   with_reducible rfl
 rotate_left
 · simp only [Act.put, List.setIfInBounds_toArray, List.set_cons_zero, List.set_cons_succ, i64_w, i32_w]
   rfl
 refine pure_ (i := 8) (N := some 5) (v := ?_) (a' := ?_) (bts 9 511) rfl rfl (by kernel_rfl) (fun _ _ _ h => h) (Or.inl ⟨by rfl, ?_⟩) ?_ ?_
 rotate_left
 · intro w'
   go_simp
   with_reducible rfl
 rotate_left
 · simp only [Act.put, List.setIfInBounds_toArray, List.set_cons_zero, List.set_cons_succ, i64_w, i32_w]
   rfl
 refine done_ (by kernel_rfl) ?_
 clear hHeld
 obtain ⟨inner, ho⟩ := Kd.R_own HR7.out
 obtain ⟨g, cap, he, _, _⟩ := ho.form (by decide)
 injection he with e1 _ e2
 subst e1
 subst e2
 obtain ⟨ad, e3, q0, q1, _⟩ := at_T62 (Kd.R_reads' HR7.out).2.2 1 (by decide) (by decide)
 injection e3 with e3
 subst e3
 have q2 : W7.cell? ⟨g, 6 + 1, none⟩ = some (.string nA) := q1
 have q3 : W7.cell? ⟨g, 7, none⟩ = some (.string nA) := q1
 have ea : (nA.toList == [97]) = true := by kernel_rfl
 clear q0 q1 ho
 go_wp2
 go_ret
 exact ⟨rfl, HB7.out⟩
def VI (v : S23) : Prop := IntOk v.f0 ∧ IntOk v.f1 ∧ IntOk v.f2
def RI (l : List (List S112)) : Prop := ∀ x ∈ l, ∀ b ∈ x, VI b.f1
structure MI (m : S27) : Prop where
 v : VI m.f1
 d : ∀ d ∈ m.f2, IntOk d.f0 ∧ RI d.f2.f0
 r : ∀ r ∈ m.f3, RI r.f1.f0
theorem vok_of {v : S23} (h : VI v) (hp : v.f3.size ≤ 100) : VOk v := ⟨by omega, h.1, h.2.1, h.2.2⟩
theorem rok_of {l : List (List S112)} (h : RI l) (hn : narrowB l = true) : ROk l := by
 unfold narrowB at hn
 rw [Bool.and_eq_true, List.all_eq_true] at hn
 refine ⟨by have := of_decide_eq_true hn.1; omega, fun x hx => ?_⟩
 have h2 := hn.2 x hx
 unfold altN at h2
 rw [Bool.and_eq_true, List.all_eq_true] at h2
 exact ⟨by have := of_decide_eq_true h2.1; omega, fun b hb => vok_of (h x hx b hb) (of_decide_eq_true (h2.2 b hb))⟩
theorem mok_of {m : S27} (h : MI m) (hf : fewB m = true) : MOk m := by
 unfold fewB at hf
 simp only [Bool.and_eq_true, List.all_eq_true, decide_eq_true_eq] at hf
 obtain ⟨⟨⟨h1, h2⟩, h3, h4⟩, h5, h6⟩ := hf
 refine ⟨by omega, vok_of h.v h2, by omega, fun d hd => ?_, by omega, fun r hr => ?_⟩
 · have h7 := h5 d hd
   unfold fewD at h7
   rw [Bool.and_eq_true] at h7
   exact ⟨by have := of_decide_eq_true h7.1; omega, rok_of (h.d d hd).2 h7.2, (h.d d hd).1⟩
 · have h7 := h6 r hr
   unfold fewU at h7
   rw [Bool.and_eq_true] at h7
   exact ⟨by have := of_decide_eq_true h7.1; omega, rok_of (h.r r hr) h7.2⟩
theorem small_ok {root : S27} {x : List S27} (hr : MI root) (hx : ∀ m ∈ x, MI m) (h : smallB root x = true) : MOk root ∧ XOk x ∧ (x.length ≤ 9 ∨ 100 < x.length) := by
 unfold smallB at h
 simp only [Bool.and_eq_true, Bool.or_eq_true, List.all_eq_true, decide_eq_true_eq] at h
 obtain ⟨⟨h1, h2⟩, h3, h4⟩ := h
 exact ⟨mok_of hr h3, ⟨by omega, fun m hm => mok_of (hx m hm) (h4 m hm)⟩, h1⟩
theorem lay_len {root : S27} {x : List S27} (h : x.length ≤ 9 ∨ 100 < x.length) (hl : layI root x = 0) : x.length ≤ 31 := by
 have hm : idxI x = 0 := by
  unfold layI at hl
  split at hl
  · exact hl
  · rename_i h2; exact absurd hl h2
 have := (idx_zero hm).1
 omega
set_option maxRecDepth 100000 in
set_option maxHeartbeats 16000000 in
theorem TopProof_walk (root : S27) (A5 : Option Addr) (c5 : Nat) (A6 : Option Addr) (c6 : Nat) (A : Option Addr) (c : Nat) (x : List S27) (hi : MI root) (hix : ∀ m ∈ x, MI m) (w : World) (HGL : Glob w)
 (hr : ManC w A5 c5 A6 c6 root) (hX : Kd.C k27 w A x.length x) (hc : x.length ≤ c) :
 Calls Tryz.prog 3 #[.agg #[.string root.f0, .int .i64 root.f1.f0, .int .i64 root.f1.f1, .int .i64 root.f1.f2, .string root.f1.f3, .slice A5 root.f2.length c5, .slice A6 root.f3.length c6], .slice A x.length c] w fun e w' => e = .returned (.bool true) ∧ Below w.heap.size w w' := by
 have HB0 := Aside0.mk (below_alloc (Below.refl w.heap.size w) (.cells #[.string root.f0, .int .i64 root.f1.f0, .int .i64 root.f1.f1, .int .i64 root.f1.f2, .string root.f1.f3, .slice A5 root.f2.length c5, .slice A6 root.f3.length c6] 27))
 have BR0 := Aside0.mk (blk_new w (.cells #[.string root.f0, .int .i64 root.f1.f0, .int .i64 root.f1.f1, .int .i64 root.f1.f2, .string root.f1.f3, .slice A5 root.f2.length c5, .slice A6 root.f3.length c6] 27))
 have HRC := Aside0.mk hr
 have HXC := Aside0.mk hX
 have HGW := Aside0.mk HGL
 clear hr hX hc HGL
 cases hsb : smallB root x with
 | false =>
  have HSB := Aside0.mk hsb
  clear hsb
  go_enter Tryz.func3, Tryz.ntmps3
  go_wp2_with (go_at_call 4; refine (small_walk root A5 c5 A6 c6 A c x _ (HRC.out.below HB0.out) (Kd.C_below HXC.out HB0.out)).mono ?_; rintro e w1 ⟨rfl, hb1⟩; rw [HSB.out]; have HB1 := Aside0.mk (below_step HB0.out hb1); have BR1 := Aside0.mk (blk_below BR0.out hb1); have r0 := blk_at (BR1).out 0 (v := .string root.f0) rfl; have rx1 := blk_at (BR1).out 1 (v := .int .i64 root.f1.f0) rfl; have rx2 := blk_at (BR1).out 2 (v := .int .i64 root.f1.f1) rfl; have rx3 := blk_at (BR1).out 3 (v := .int .i64 root.f1.f2) rfl; have rx4 := blk_at (BR1).out 4 (v := .string root.f1.f3) rfl; have rx5 := blk_at (BR1).out 5 (v := .slice A5 root.f2.length c5) rfl; have rx6 := blk_at (BR1).out 6 (v := .slice A6 root.f3.length c6) rfl; clear hb1)
  go_ret
  exact ⟨rfl, HB1.out⟩
 | true =>
  have HSB := Aside0.mk hsb
  obtain ⟨hmo, hxo, h9⟩ := small_ok hi hix hsb
  have HMO := Aside0.mk hmo
  have HXO := Aside0.mk hxo
  have H9 := Aside0.mk (lay_len (root := root) h9)
  obtain ⟨r1, r2, r3, r4, hsv⟩ : ∃ r1 r2 r3 r4, Sv.solve (encV root x) (encC root x) = (r1, r2, r3, r4) := ⟨_, _, _, _, rfl⟩
  have HSV := Aside0.mk hsv
  clear hsb hmo hxo hi hix
  by_cases hp : planI root x = 170
  · have hlaw := proof_law h9 hp
    rw [hsv] at hlaw
    have HPI := Aside0.mk hp
    obtain ⟨he, h4, hch⟩ := hlaw
    have h4 : r4 = 0 := h4
    subst h4
    have HEI := Aside0.mk he
    have hcc := (Sp.check_iff.1 (form_check he)).2.1
    by_cases ht : r3.length ≤ 100
    · have HCC := Aside0.mk (show (encC root x).length ≤ 1000000 ∧ r3.length ≤ 1000000 from ⟨by omega, by omega⟩)
      have HCH := Aside0.mk (show Pf.check (encV root x) (encC root x) r3 = ((r3.length : Int), true) from hch ht)
      have hti : decide ((100 : Int) < (r3.length : Int)) = false := decide_eq_false (by omega)
      clear hp h9 hsv he hch ht hcc
      go_enter Tryz.func3, Tryz.ntmps3
      go_wp2_with (first
       | (go_at_call 4; refine (small_walk root A5 c5 A6 c6 A c x _ (HRC.out.below HB0.out) (Kd.C_below HXC.out HB0.out)).mono ?_; rintro e w1 ⟨rfl, hb1⟩; rw [HSB.out]; have HB1 := Aside0.mk (below_step HB0.out hb1); have BR1 := Aside0.mk (blk_below BR0.out hb1); have r0 := blk_at (BR1).out 0 (v := .string root.f0) rfl; have rx1 := blk_at (BR1).out 1 (v := .int .i64 root.f1.f0) rfl; have rx2 := blk_at (BR1).out 2 (v := .int .i64 root.f1.f1) rfl; have rx3 := blk_at (BR1).out 3 (v := .int .i64 root.f1.f2) rfl; have rx4 := blk_at (BR1).out 4 (v := .string root.f1.f3) rfl; have rx5 := blk_at (BR1).out 5 (v := .slice A5 root.f2.length c5) rfl; have rx6 := blk_at (BR1).out 6 (v := .slice A6 root.f3.length c6) rfl; clear hb1)
       | (go_at_call 5; refine (plan_walk root A5 c5 A6 c6 A c x HXO.out HMO.out H9.out _ (HGW.out.below HB1.out) (HRC.out.below HB1.out) (Kd.C_below HXC.out HB1.out)).mono ?_; rintro e w2 ⟨⟨v2, rfl, _⟩, hb2⟩; rw [HPI.out]; have HB2 := Aside0.mk (below_step HB1.out hb2); have BR2 := Aside0.mk (blk_below BR1.out hb2); clear r0 rx1 rx2 rx3 rx4 rx5 rx6; have r0 := blk_at (BR2).out 0 (v := .string root.f0) rfl; have rx1 := blk_at (BR2).out 1 (v := .int .i64 root.f1.f0) rfl; have rx2 := blk_at (BR2).out 2 (v := .int .i64 root.f1.f1) rfl; have rx3 := blk_at (BR2).out 3 (v := .int .i64 root.f1.f2) rfl; have rx4 := blk_at (BR2).out 4 (v := .string root.f1.f3) rfl; have rx5 := blk_at (BR2).out 5 (v := .slice A5 root.f2.length c5) rfl; have rx6 := blk_at (BR2).out 6 (v := .slice A6 root.f3.length c6) rfl; clear hb2)
       | ((go_at_call 6; refine (encode_walk root A5 c5 A6 c6 A c x HXO.out HMO.out H9.out _ (HGW.out.below HB2.out) (HRC.out.below HB2.out) (Kd.C_below HXC.out HB2.out)).mono ?_; rintro e w3 ⟨⟨A1, c1, rfl, hl3, hf3⟩, hb3⟩; have HL3 := Aside0.mk hl3; have HB3 := Aside0.mk (below_alloc (below_step HB2.out hb3) (.cells #[.int .i64 (encV root x), .slice A1 (encC root x).length c1] 36)); have HF3 := Aside0.mk (Kd.F_below hf3 (below_alloc (Below.refl _ _) (.cells #[.int .i64 (encV root x), .slice A1 (encC root x).length c1] 36))); have BF3 := Aside0.mk (blk_new w3 (.cells #[.int .i64 (encV root x), .slice A1 (encC root x).length c1] 36)); clear r0 rx1 rx2 rx3 rx4 rx5 rx6; clear hb3 hl3 hf3); rw [HEI.out])
       | (go_at_call 7; refine (solver_Solve.calls _ _ _ _ r1 r2 r3 _ _ (Kd.F_now HF3.out) HL3.out (by rw [solver_Solve.f_eq, HSV.out])).mono ?_; rintro e w4 ⟨v1, v2, rfl, hr4, hs4, hb4⟩; obtain ⟨Am, cm, rfl⟩ := Kd.R_slice hr4; obtain ⟨At, ct, rfl⟩ := Kd.S_slice hs4; have HT4 := Aside0.mk (Kd.S_reads' hs4); have HB4 := Aside0.mk (below_alloc (below_step HB3.out hb4) (.cells #[.bool r1, .slice Am r2.length cm, .slice At r3.length ct] 41)); have HF4 := Aside0.mk (Kd.F_below (Kd.F_below HF3.out hb4) (below_alloc (Below.refl _ _) (.cells #[.bool r1, .slice Am r2.length cm, .slice At r3.length ct] 41))); have BF4 := Aside0.mk (blk_alloc (blk_below BF3.out hb4) (.cells #[.bool r1, .slice Am r2.length cm, .slice At r3.length ct] 41)); have BA4 := Aside0.mk (blk_new w4 (.cells #[.bool r1, .slice Am r2.length cm, .slice At r3.length ct] 41)); have q0 := blk_at BF4.out 0 (v := .int .i64 (encV root x)) rfl; have q1 := blk_at BF4.out 1 (v := .slice A1 (encC root x).length c1) rfl; have q2 := blk_at BA4.out 2 (v := .slice At r3.length ct) rfl; clear hb4 hr4 hs4)
       | (go_at_call 9; refine (proof_Check.calls (encV root x) A1 c1 (encC root x) At ct r3 (r3.length : Int) true _ (Kd.F_now HF4.out) HL3.out (Kd.C_alloc HT4.out.2.2 (.cells #[.bool r1, .slice Am r2.length cm, .slice At r3.length ct] 41)) HT4.out.2.1 (by rw [proof_Check.f_eq, if_pos HCC.out, HCH.out])).mono ?_; rintro e w5 ⟨rfl, hb5⟩; have HB5 := Aside0.mk (below_step HB4.out hb5); have BA5 := Aside0.mk (blk_below BA4.out hb5); clear hb5 q0 q1 q2)
       | ((go_at_call 8; refine (planned_walk _ (HGW.out.below (HB5).out)).mono ?_; rintro e w6 ⟨rfl, hb⟩; have HB6 := Aside0.mk (below_step (HB5).out hb)); have q3 := blk_at (blk_below BA5.out hb) 2 (v := .slice At r3.length ct) rfl; clear hb))
      go_ret
      exact ⟨rfl, HB6.out⟩
    · have hti : decide ((100 : Int) < (r3.length : Int)) = true := decide_eq_true (by omega)
      clear hp h9 hsv he hch ht hcc
      go_enter Tryz.func3, Tryz.ntmps3
      go_wp2_with (first
       | (go_at_call 4; refine (small_walk root A5 c5 A6 c6 A c x _ (HRC.out.below HB0.out) (Kd.C_below HXC.out HB0.out)).mono ?_; rintro e w1 ⟨rfl, hb1⟩; rw [HSB.out]; have HB1 := Aside0.mk (below_step HB0.out hb1); have BR1 := Aside0.mk (blk_below BR0.out hb1); have r0 := blk_at (BR1).out 0 (v := .string root.f0) rfl; have rx1 := blk_at (BR1).out 1 (v := .int .i64 root.f1.f0) rfl; have rx2 := blk_at (BR1).out 2 (v := .int .i64 root.f1.f1) rfl; have rx3 := blk_at (BR1).out 3 (v := .int .i64 root.f1.f2) rfl; have rx4 := blk_at (BR1).out 4 (v := .string root.f1.f3) rfl; have rx5 := blk_at (BR1).out 5 (v := .slice A5 root.f2.length c5) rfl; have rx6 := blk_at (BR1).out 6 (v := .slice A6 root.f3.length c6) rfl; clear hb1)
       | (go_at_call 5; refine (plan_walk root A5 c5 A6 c6 A c x HXO.out HMO.out H9.out _ (HGW.out.below HB1.out) (HRC.out.below HB1.out) (Kd.C_below HXC.out HB1.out)).mono ?_; rintro e w2 ⟨⟨v2, rfl, _⟩, hb2⟩; rw [HPI.out]; have HB2 := Aside0.mk (below_step HB1.out hb2); have BR2 := Aside0.mk (blk_below BR1.out hb2); clear r0 rx1 rx2 rx3 rx4 rx5 rx6; have r0 := blk_at (BR2).out 0 (v := .string root.f0) rfl; have rx1 := blk_at (BR2).out 1 (v := .int .i64 root.f1.f0) rfl; have rx2 := blk_at (BR2).out 2 (v := .int .i64 root.f1.f1) rfl; have rx3 := blk_at (BR2).out 3 (v := .int .i64 root.f1.f2) rfl; have rx4 := blk_at (BR2).out 4 (v := .string root.f1.f3) rfl; have rx5 := blk_at (BR2).out 5 (v := .slice A5 root.f2.length c5) rfl; have rx6 := blk_at (BR2).out 6 (v := .slice A6 root.f3.length c6) rfl; clear hb2)
       | ((go_at_call 6; refine (encode_walk root A5 c5 A6 c6 A c x HXO.out HMO.out H9.out _ (HGW.out.below HB2.out) (HRC.out.below HB2.out) (Kd.C_below HXC.out HB2.out)).mono ?_; rintro e w3 ⟨⟨A1, c1, rfl, hl3, hf3⟩, hb3⟩; have HL3 := Aside0.mk hl3; have HB3 := Aside0.mk (below_alloc (below_step HB2.out hb3) (.cells #[.int .i64 (encV root x), .slice A1 (encC root x).length c1] 36)); have HF3 := Aside0.mk (Kd.F_below hf3 (below_alloc (Below.refl _ _) (.cells #[.int .i64 (encV root x), .slice A1 (encC root x).length c1] 36))); have BF3 := Aside0.mk (blk_new w3 (.cells #[.int .i64 (encV root x), .slice A1 (encC root x).length c1] 36)); clear r0 rx1 rx2 rx3 rx4 rx5 rx6; clear hb3 hl3 hf3); rw [HEI.out])
       | (go_at_call 7; refine (solver_Solve.calls _ _ _ _ r1 r2 r3 _ _ (Kd.F_now HF3.out) HL3.out (by rw [solver_Solve.f_eq, HSV.out])).mono ?_; rintro e w4 ⟨v1, v2, rfl, hr4, hs4, hb4⟩; obtain ⟨Am, cm, rfl⟩ := Kd.R_slice hr4; obtain ⟨At, ct, rfl⟩ := Kd.S_slice hs4; have HT4 := Aside0.mk (Kd.S_reads' hs4); have HB4 := Aside0.mk (below_alloc (below_step HB3.out hb4) (.cells #[.bool r1, .slice Am r2.length cm, .slice At r3.length ct] 41)); have HF4 := Aside0.mk (Kd.F_below (Kd.F_below HF3.out hb4) (below_alloc (Below.refl _ _) (.cells #[.bool r1, .slice Am r2.length cm, .slice At r3.length ct] 41))); have BF4 := Aside0.mk (blk_alloc (blk_below BF3.out hb4) (.cells #[.bool r1, .slice Am r2.length cm, .slice At r3.length ct] 41)); have BA4 := Aside0.mk (blk_new w4 (.cells #[.bool r1, .slice Am r2.length cm, .slice At r3.length ct] 41)); have q0 := blk_at BF4.out 0 (v := .int .i64 (encV root x)) rfl; have q1 := blk_at BF4.out 1 (v := .slice A1 (encC root x).length c1) rfl; have q2 := blk_at BA4.out 2 (v := .slice At r3.length ct) rfl; clear hb4 hr4 hs4)
       | (go_at_call 8; refine (planned_walk _ (HGW.out.below (HB4).out)).mono ?_; rintro e w5 ⟨rfl, hb⟩; have HB5 := Aside0.mk (below_step (HB4).out hb)))
      go_ret
      exact ⟨rfl, HB5.out⟩
  · generalize hpi : planI root x = p at hp
    have HPI := Aside0.mk hpi
    have e1 : (p == 170) = false := beq_eq_false_iff_ne.mpr hp
    clear hpi h9 hsv
    go_enter Tryz.func3, Tryz.ntmps3
    go_wp2_with (first
     | (go_at_call 4; refine (small_walk root A5 c5 A6 c6 A c x _ (HRC.out.below HB0.out) (Kd.C_below HXC.out HB0.out)).mono ?_; rintro e w1 ⟨rfl, hb1⟩; rw [HSB.out]; have HB1 := Aside0.mk (below_step HB0.out hb1); have BR1 := Aside0.mk (blk_below BR0.out hb1); have r0 := blk_at (BR1).out 0 (v := .string root.f0) rfl; have rx1 := blk_at (BR1).out 1 (v := .int .i64 root.f1.f0) rfl; have rx2 := blk_at (BR1).out 2 (v := .int .i64 root.f1.f1) rfl; have rx3 := blk_at (BR1).out 3 (v := .int .i64 root.f1.f2) rfl; have rx4 := blk_at (BR1).out 4 (v := .string root.f1.f3) rfl; have rx5 := blk_at (BR1).out 5 (v := .slice A5 root.f2.length c5) rfl; have rx6 := blk_at (BR1).out 6 (v := .slice A6 root.f3.length c6) rfl; clear hb1)
     | (go_at_call 5; refine (plan_walk root A5 c5 A6 c6 A c x HXO.out HMO.out H9.out _ (HGW.out.below HB1.out) (HRC.out.below HB1.out) (Kd.C_below HXC.out HB1.out)).mono ?_; rintro e w2 ⟨⟨v2, rfl, _⟩, hb2⟩; rw [HPI.out]; have HB2 := Aside0.mk (below_step HB1.out hb2); have BR2 := Aside0.mk (blk_below BR1.out hb2); clear r0 rx1 rx2 rx3 rx4 rx5 rx6; have r0 := blk_at (BR2).out 0 (v := .string root.f0) rfl; have rx1 := blk_at (BR2).out 1 (v := .int .i64 root.f1.f0) rfl; have rx2 := blk_at (BR2).out 2 (v := .int .i64 root.f1.f1) rfl; have rx3 := blk_at (BR2).out 3 (v := .int .i64 root.f1.f2) rfl; have rx4 := blk_at (BR2).out 4 (v := .string root.f1.f3) rfl; have rx5 := blk_at (BR2).out 5 (v := .slice A5 root.f2.length c5) rfl; have rx6 := blk_at (BR2).out 6 (v := .slice A6 root.f3.length c6) rfl; clear hb2)
     | (go_at_call 6; refine (encode_walk root A5 c5 A6 c6 A c x HXO.out HMO.out H9.out _ (HGW.out.below HB2.out) (HRC.out.below HB2.out) (Kd.C_below HXC.out HB2.out)).mono ?_; rintro e w3 ⟨⟨A1, c1, rfl, hl3, hf3⟩, hb3⟩; have HL3 := Aside0.mk hl3; have HB3 := Aside0.mk (below_alloc (below_step HB2.out hb3) (.cells #[.int .i64 (encV root x), .slice A1 (encC root x).length c1] 36)); have HF3 := Aside0.mk (Kd.F_below hf3 (below_alloc (Below.refl _ _) (.cells #[.int .i64 (encV root x), .slice A1 (encC root x).length c1] 36))); have BF3 := Aside0.mk (blk_new w3 (.cells #[.int .i64 (encV root x), .slice A1 (encC root x).length c1] 36)); clear r0 rx1 rx2 rx3 rx4 rx5 rx6; clear hb3 hl3 hf3)
     | (go_at_call 7; refine (solver_Solve.calls _ _ _ _ r1 r2 r3 _ _ (Kd.F_now HF3.out) HL3.out (by rw [solver_Solve.f_eq, HSV.out])).mono ?_; rintro e w4 ⟨v1, v2, rfl, hr4, hs4, hb4⟩; obtain ⟨Am, cm, rfl⟩ := Kd.R_slice hr4; obtain ⟨At, ct, rfl⟩ := Kd.S_slice hs4; have HT4 := Aside0.mk (Kd.S_reads' hs4); have HB4 := Aside0.mk (below_alloc (below_step HB3.out hb4) (.cells #[.bool r1, .slice Am r2.length cm, .slice At r3.length ct] 41)); have HF4 := Aside0.mk (Kd.F_below (Kd.F_below HF3.out hb4) (below_alloc (Below.refl _ _) (.cells #[.bool r1, .slice Am r2.length cm, .slice At r3.length ct] 41))); have BF4 := Aside0.mk (blk_alloc (blk_below BF3.out hb4) (.cells #[.bool r1, .slice Am r2.length cm, .slice At r3.length ct] 41)); have BA4 := Aside0.mk (blk_new w4 (.cells #[.bool r1, .slice Am r2.length cm, .slice At r3.length ct] 41)); have q0 := blk_at BF4.out 0 (v := .int .i64 (encV root x)) rfl; have q1 := blk_at BF4.out 1 (v := .slice A1 (encC root x).length c1) rfl; have q2 := blk_at BA4.out 2 (v := .slice At r3.length ct) rfl; clear hb4 hr4 hs4)
     | (go_at_call 8; refine (planned_walk _ (HGW.out.below (HB4).out)).mono ?_; rintro e w5 ⟨rfl, hb⟩; have HB5 := Aside0.mk (below_step (HB4).out hb)))
    go_ret
    exact ⟨rfl, HB5.out⟩
end Go.Proofs.YteinkjhimceljaaGreatDoor.J
