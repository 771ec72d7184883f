/- flat.lay, walked. -/
import Derived.Test.YteinkjhimceljaaGreatDoorT27
import Derived.Test.YteinkjhimceljaaGreatDoorT20
import Derived.Test.YteinkjhimceljaaGreatDoorT28
import Derived.Deep.RegionHeld3
namespace Go.Proofs.YteinkjhimceljaaGreatDoor.J
open Go Go.RowKit Go.Shelf Go.Proofs.YteinkjhimceljaaGreatDoorW.PrintWords Go.Proofs.YteinkjhimceljaaGreatDoorW.PrintLast Go.Proofs.YteinkjhimceljaaGreatDoorW.PrintMore
set_option linter.unusedVariables false
set_option linter.unusedSimpArgs false
set_option maxHeartbeats 1000000 in
set_option maxRecDepth 100000 in
theorem clone_mans_t (l : List S27) (A : Option Addr) (c : Nat) (w : World) (okp : Nat → Prop) (hf : Kd.F k27 w okp A l.length l) (hlt : ∀ k, okp k → k < w.heap.size) (hl : l.length ≤ 1000000) :
 Calls Tryz.prog 26 #[.slice A l.length c] w fun e w' => ∃ v, e = .returned v ∧ Kd.N k27 27 w' w.heap.size (fun k => okp k ∨ some k = v.ownBlock) v l ∧ Below w.heap.size w w' := by
 have hr := Kd.F_now hf
 cases A with
 | none =>
  have e : l = [] := by
   cases l with
   | nil => rfl
   | cons x t => obtain ⟨ad, he, _⟩ := hr.2.2 (by simp); exact absurd he (by simp)
  subst e
  have hn0 := fun W' n' c' a' => eqnil_mans W' n' c' a'
  go_enter Tryz.func26, Tryz.ntmps26
  go_wp2
  go_ret
  exact ⟨_, rfl, Kd.N_nil _ _ _ _ _, Below.refl _ _⟩
 | some ad =>
  have HR := Aside0.mk hf
  have HLT := Aside0.mk hlt
  have HLN := Aside0.mk hl
  clear hr hl hf hlt
  have hn0 := fun W' n' c' a' => eqnil_mans W' n' c' a'
  go_enter Tryz.func26, Tryz.ntmps26
  go_wp2_with (first
   | ((with_reducible refine gate_dst (N := 5) rfl ?_); refine Kd.N_lit k27 (w0 := w) w.heap.size 27 ?hg (N' := 5) ?hd (xs := []) (inner := []) (ok := fun k => okp k ∨ w.heap.size ≤ k) (okp := fun _ => False) ?hr ?hp (fun _ hk => hk.elim) (.inr (Nat.le_refl _)) (Below.refl _ _) (Nat.le_refl _) (by simp) ?_; (case hd => rfl); (case hg => rfl); (case hr => first | (go_simp; done) | (go_simp; rfl)); (case hp => exact Reps.none _ _); intro v5 w5 hn5 hb5 hg5 hat5; obtain ⟨A5, c5, rfl⟩ := Kd.N_slice hn5; have HN5 := Aside0.mk hn5; have HB5 := Aside0.mk hb5; clear hn5 hb5 hg5 hat5)
   | (at_builtin; refine add_rows k27 (w0 := w) w.heap.size rfl (.tmp 5) (.tmp 6) 28 27 (.agg #[.string ⟨#[]⟩, .int .i64 0, .int .i64 0, .int .i64 0, .string ⟨#[]⟩, .slice none 0 0, .slice none 0 0]) 104 rfl Tryz.underlying28 info_mans rfl (by decide) (by omega) (.slice A5 0 c5) l (some ad) l.length c (fun k => okp k ∨ w.heap.size ≤ k) okp rfl rfl HN5.out (Kd.F_below HR.out HB5.out) HLT.out HB5.out HB5.out.size (by have := HLN.out; omega) ?_; intro v6 w6 hn6 hb6; have HN6 := Aside0.mk hn6; have HB6 := Aside0.mk hb6; clear hn6 hb6))
  go_ret
  exact ⟨_, rfl, HN6.out, HB6.out⟩
def noB : Brd := ⟨[], fun _ => []⟩
def BrdOk (B : Brd) (k : Nat) : Prop := B.l.length ≤ k ∧ ∀ s, (B.vars s).length ≤ B.l.length
theorem layOne_ok {B : Brd} {k : Nat} (h : BrdOk B k) (n : ByteArray) (m : S27) : BrdOk (layOne n B m) (k + 1) := by
 refine ⟨by unfold layOne; simp; exact h.1, fun s => ?_⟩
 unfold layOne setV
 have h2 := h.2 s
 have h3 := h.2 n
 by_cases e : s = n
 · subst e; simp; omega
 · simp [e]; omega
def LayE (okx : Nat → Prop) (base : Nat) (root : S27) (A5 : Option Addr) (c5 : Nat) (A6 : Option Addr) (c6 : Nat) (x : List S27) (e : Ending) (w' : World) : Prop :=
 if layI root x = 0 then ∃ b mb vl vn FV, e = .returned (.tuple #[.pointer (some ⟨b, 0, none⟩), .int .i64 0]) ∧ LayS okx base b mb root A5 c5 A6 c6 vn (namesX x) w' vl FV (brdOf x).l.length (brdOf x)
 else e = .returned (.tuple #[.pointer none, .int .i64 (layI root x)])
theorem LayS.init {okx : Nat → Prop} {base b mb : Nat} {r : S27} {A5 : Option Addr} {c5 : Nat} {A6 : Option Addr} {c6 : Nat} {vn : Value} {ns : List ByteArray} {W : World} (hx : ∀ k, okx k → k < base) (hbm : b ≠ mb) (hb : base ≤ b) (hmb : base ≤ mb)
 (hblk : W.heap[b]? = some (.cells #[.string r.f0, .int .i64 r.f1.f0, .int .i64 r.f1.f1, .int .i64 r.f1.f2, .string r.f1.f3, .slice A5 r.f2.length c5, .slice A6 r.f3.length c6, .slice none 0 0, vn, .map (some mb)] 87 (0, 0))) (hn : Kd.R Kd.string 9 W base (fun _ => True) vn ns) (hm : MapIs W mb 0 (fun _ => none)) :
 LayS okx base b mb r A5 c5 A6 c6 vn ns W (.slice none 0 0) (fun _ => none) 0 noB := ⟨hbm, hb, hmb, hx, hblk, NX.nil _ _ _ _ _, hn, hm, fun s => rfl, fun s t v u _ h => by cases h⟩
theorem made_after2 (w : World) (o : Obj) : MapIs ((w.alloc (.map #[] 0)).alloc o) w.heap.size 0 (fun _ => none) := (MapIs.made w).alloc o
theorem namesX_len (x : List S27) : (namesX x).length ≤ x.length := by
 unfold namesX
 rw [List.length_map]
 exact Nat.le_trans (Lib.compact_length_le _) (by simp)
theorem NX.lower {α : Type} {d : Kd α} {e base base' : Nat} {w : World} {okx : Nat → Prop} {v : Value} {xs : List α} (h : NX d e w base okx v xs) (hb : base' ≤ base) : NX d e w base' okx v xs := by
 obtain ⟨rows, hl, hR, hf⟩ := h
 exact ⟨rows, hl, Kd.R_lower hR hb, hf⟩
theorem ManF.mono {w : World} {ok ok' : Nat → Prop} {A5 : Option Addr} {c5 : Nat} {A6 : Option Addr} {c6 : Nat} {m : S27} (h : ManF w ok A5 c5 A6 c6 m) (hk : ∀ k, ok k → ok' k) : ManF w ok' A5 c5 A6 c6 m := ⟨h.dl, Kd.F_mono h.dr hk, h.rl, Kd.F_mono h.rr hk⟩
theorem zero_ints (w : World) : (zeroValue 56).run Tryz.prog w = .ok (.slice none 0 0) w := by kernel_rfl
theorem info_int2 : (Tryz.prog.info? 3).map (fun i => (i.zero, i.size, i.bytes)) = some (some (.int .i64 0), (Kd.int .i64).sz, 8) := by kernel_rfl
theorem LayS.keep_b {okx : Nat → Prop} {base b mb : Nat} {r : S27} {A5 : Option Addr} {c5 : Nat} {A6 : Option Addr} {c6 : Nat} {vn : Value} {ns : List ByteArray} {W W1 : World} {vl : Value} {FV : ByteArray → Option Value} {cnt : Nat} {B : Brd} (h : LayS okx base b mb r A5 c5 A6 c6 vn ns W vl FV cnt B) (hg : W.grownBy W1 vl.ownBlock) :
 W1.heap[b]? = some (.cells #[.string r.f0, .int .i64 r.f1.f0, .int .i64 r.f1.f1, .int .i64 r.f1.f2, .string r.f1.f3, .slice A5 r.f2.length c5, .slice A6 r.f3.length c6, vl, vn, .map (some mb)] 87 (0, 0)) := (hg.block b (blk_lt2 h.blk) (Kd.N_ne (h.l.toN h.hx) h.blk (by decide))).trans h.blk
theorem compact_mem {α : Type} [DecidableEq α] [Inhabited α] : ∀ {l : List α} {a : α}, a ∈ Lib.compact l → a ∈ l := by
 intro l a h
 unfold Lib.compact Lib.compactUpTo at h
 obtain ⟨j, hj, rfl⟩ := List.mem_map.1 h
 have h2 := List.mem_range.1 (List.mem_filter.1 hj).1
 simp [getElem!_pos, h2]
theorem names_small {x : List S27} (hx : XOk x) : ∀ n ∈ namesX x, n.size ≤ 1000 := by
 intro n hn
 unfold namesX at hn
 obtain ⟨y, hy, rfl⟩ := List.mem_map.1 hn
 obtain ⟨m, hm, rfl⟩ := List.mem_map.1 (compact_mem hy)
 exact (hx.each m hm).name
set_option maxRecDepth 100000 in
set_option maxHeartbeats 16000000 in
theorem lay_walk (root : S27) (A5 : Option Addr) (c5 : Nat) (A6 : Option Addr) (c6 : Nat) (A : Option Addr) (c : Nat) (x : List S27) (hx : XOk x) (hm : MOk root) (w : World) (HGL : Glob w) (okx : Nat → Prop) (hlp : ∀ k, okx k → k < w.heap.size)
 (hr : ManF w okx A5 c5 A6 c6 root) (hX : Kd.F k27 w okx A x.length x) :
 Calls Tryz.prog 12 #[.agg #[.string root.f0, .int .i64 root.f1.f0, .int .i64 root.f1.f1, .int .i64 root.f1.f2, .string root.f1.f3, .slice A5 root.f2.length c5, .slice A6 root.f3.length c6], .slice A x.length c] w fun e w' => LayE okx w.heap.size root A5 c5 A6 c6 x e w' ∧ Below w.heap.size w w' := by
 have HX := Aside0.mk hX
 have HXO := Aside0.mk hx
 have HLP := Aside0.mk hlp
 have HB := Aside0.mk (below_alloc (Below.refl w.heap.size w) (.cells #[.string root.f0, .int .i64 root.f1.f0, .int .i64 root.f1.f1, .int .i64 root.f1.f2, .string root.f1.f3, .slice A5 root.f2.length c5, .slice A6 root.f3.length c6] 27))
 have HR := Aside0.mk hr
 have HMC := Aside0.mk (man_check_walk root A5 c5 A6 c6 true hm (w.alloc (.cells #[.string root.f0, .int .i64 root.f1.f0, .int .i64 root.f1.f1, .int .i64 root.f1.f2, .string root.f1.f3, .slice A5 root.f2.length c5, .slice A6 root.f3.length c6] 27)) (HGL.below HB.out) (hr.now.below HB.out))
 have HXC := Aside0.mk (fun W (h : Below w.heap.size w W) => idx_check_walk A c x hx W (HGL.below h) (Kd.F_now (Kd.F_below hX h)))
 have HNC := Aside0.mk (fun W (h : Below w.heap.size w W) => names_walk A c x hx.len W (Kd.F_now (Kd.F_below hX h)))
 have BR := Aside0.mk (blk_new w (.cells #[.string root.f0, .int .i64 root.f1.f0, .int .i64 root.f1.f1, .int .i64 root.f1.f2, .string root.f1.f3, .slice A5 root.f2.length c5, .slice A6 root.f3.length c6] 27))
 have HLI := Aside0.mk (show layI root x = (if manI true root = 0 then idxI x else manI true root) from rfl)
 have hmm := @run_makeMap Tryz.prog
 clear hX hx hlp hr hm
 generalize manI true root = mi at HMC HLI
 generalize idxI x = xi at HXC HLI
 by_cases h1 : mi = 0
 · subst h1
   by_cases h2 : xi = 0
   · subst h2
     rw [if_pos rfl] at HLI
     go_enter Tryz.func12, Tryz.ntmps12
     go_upto_region 7 with (first
      | (go_at_call 22; refine HMC.out.mono ?_; rintro e w1 ⟨rfl, hb1⟩; have HB1 := Aside0.mk (below_step HB.out hb1); have BR1 := Aside0.mk (blk_below BR.out hb1); clear hb1 HB BR HMC)
      | (go_at_call 23; refine (HXC.out _ HB1.out).mono ?_; rintro e w2 ⟨rfl, hb2⟩; have HB2 := Aside0.mk (below_step HB1.out hb2); have BR2 := Aside0.mk (blk_below BR1.out hb2); clear hb2 HB1 BR1 HXC))
     have HS := Aside0.mk (fun W (h : Below w2.heap.size w2 W) => (⟨blk_at (blk_below BR2.out h) 0 rfl, blk_at (blk_below BR2.out h) 1 rfl, blk_at (blk_below BR2.out h) 2 rfl, blk_at (blk_below BR2.out h) 3 rfl, blk_at (blk_below BR2.out h) 4 rfl, blk_at (blk_below BR2.out h) 5 rfl, blk_at (blk_below BR2.out h) 6 rfl⟩ : W.cell? ⟨w.heap.size, 0, none⟩ = some (.string root.f0) ∧ W.cell? ⟨w.heap.size, 1, none⟩ = some (.int .i64 root.f1.f0) ∧ W.cell? ⟨w.heap.size, 2, none⟩ = some (.int .i64 root.f1.f1) ∧ W.cell? ⟨w.heap.size, 3, none⟩ = some (.int .i64 root.f1.f2) ∧ W.cell? ⟨w.heap.size, 4, none⟩ = some (.string root.f1.f3) ∧ W.cell? ⟨w.heap.size, 5, none⟩ = some (.slice A5 root.f2.length c5) ∧ W.cell? ⟨w.heap.size, 6, none⟩ = some (.slice A6 root.f3.length c6)))
     have HK0 := Aside0.mk (below_drew (Below.refl w2.heap.size w2))
     have HS0 := HS.out _ HK0.out
     clear BR2
     go_cut [8] (fun s8 wc => ∃ b mb vn, s8 = .pointer (some ⟨b, 0, none⟩) ∧ Aside0 (LayS okx w.heap.size b mb root A5 c5 A6 c6 vn (namesX x) wc (.slice none 0 0) (fun _ => none) 0 noB) ∧ Aside0 (Below w.heap.size w wc))
     case first =>
      have HKm := Aside0.mk (below_drew (below_alloc (Below.refl w2.heap.size w2) (.map #[] 0)))
      have HMm := Aside0.mk ((MapIs.made w2).below (below_drew (Below.refl _ _)))
      go_region_held3 (fun W => W.cell? ⟨w.heap.size, 0, none⟩ = some (.string root.f0) ∧ W.cell? ⟨w.heap.size, 1, none⟩ = some (.int .i64 root.f1.f0) ∧ W.cell? ⟨w.heap.size, 2, none⟩ = some (.int .i64 root.f1.f1) ∧ W.cell? ⟨w.heap.size, 3, none⟩ = some (.int .i64 root.f1.f2) ∧ W.cell? ⟨w.heap.size, 4, none⟩ = some (.string root.f1.f3) ∧ W.cell? ⟨w.heap.size, 5, none⟩ = some (.slice A5 root.f2.length c5) ∧ W.cell? ⟨w.heap.size, 6, none⟩ = some (.slice A6 root.f3.length c6)) (first | (with_reducible exact HS.out _ (below_alloc (below_alloc HK1.out _) _)) | (with_reducible exact HS.out _ (below_alloc HK1.out _)) | (with_reducible exact HS.out _ HK1.out) | (with_reducible exact HS.out _ (below_alloc HK2.out _)) | (with_reducible exact HS.out _ HK2.out) | (with_reducible exact HS.out _ HKm.out) | (with_reducible exact HS.out _ HK0.out))
       ((go_at_call 24; first | (refine (HNC.out _ (below_step HB2.out HK0.out)).mono ?_; rintro e w6 ⟨v6, rfl, hr6, hb6⟩; have HK1 := Aside0.mk (below_step HK0.out hb6); obtain ⟨A7, c7, rfl⟩ := Kd.R_slice hr6; have HR6 := Aside0.mk hr6; clear hr6 hb6) | (refine (HNC.out _ (below_step HB2.out HKm.out)).mono ?_; rintro e w6 ⟨v6, rfl, hr6, hb6⟩; have HK2 := Aside0.mk (below_step HKm.out hb6); have HM6 := Aside0.mk (HMm.out.below hb6); obtain ⟨A7, c7, rfl⟩ := Kd.R_slice hr6; have HR6 := Aside0.mk hr6; clear hr6 hb6)))
      · have HB6 := below_step HB2.out HK1.out
        have hz := HB6.size
        have hm6 := made_after2 w6 (.cells #[.string root.f0, .int .i64 root.f1.f0, .int .i64 root.f1.f1, .int .i64 root.f1.f2, .string root.f1.f3, .slice A5 root.f2.length c5, .slice A6 root.f3.length c6, .slice none 0 0, .slice A7 (namesX x).length c7, .map (some w6.heap.size)] 87)
        have hb6 := blk_new (w6.alloc (.map #[] 0)) (.cells #[.string root.f0, .int .i64 root.f1.f0, .int .i64 root.f1.f1, .int .i64 root.f1.f2, .string root.f1.f3, .slice A5 root.f2.length c5, .slice A6 root.f3.length c6, .slice none 0 0, .slice A7 (namesX x).length c7, .map (some w6.heap.size)] 87)
        rw [World.size_alloc] at hb6
        go_wp2
        go_meet
        case rel => exact ⟨w6.heap.size + 1, w6.heap.size, _, rfl, ⟨LayS.init HLP.out (by omega) (by omega) hz hb6 (Kd.R_below (Kd.R_lower HR6.out HB2.out.size) (below_alloc (below_alloc (Below.refl _ _) _) _)) hm6⟩, ⟨below_step HB6 (below_alloc (below_alloc (Below.refl _ _) _) _)⟩⟩
      · have HB6 := below_step HB2.out HK2.out
        have hz := HB6.size
        have hz2 := HB2.out.size
        have hlt := HM6.out.lt
        have hb6 := blk_new w6 (.cells #[.string root.f0, .int .i64 root.f1.f0, .int .i64 root.f1.f1, .int .i64 root.f1.f2, .string root.f1.f3, .slice A5 root.f2.length c5, .slice A6 root.f3.length c6, .slice none 0 0, .slice A7 (namesX x).length c7, .map (some w2.heap.size)] 87)
        go_wp2
        go_meet
        case rel => exact ⟨w6.heap.size, w2.heap.size, _, rfl, ⟨LayS.init HLP.out (by omega) hz hz2 hb6 (Kd.R_below (Kd.R_lower HR6.out (by simp only [World.size_drew, World.size_alloc]; omega)) (below_alloc (Below.refl _ _) _)) (HM6.out.alloc _)⟩, ⟨below_step HB6 (below_alloc (Below.refl _ _) _)⟩⟩
     case rest =>
      clear HS HK0 HS0 HNC HB2
      obtain ⟨b, mb, vn, rfl, HL, HB⟩ := hcut
      obtain ⟨A7, c7, rfl⟩ := Kd.R_slice HL.out.n
      have hnl : (namesX x).length ≤ 1000 := Nat.le_trans (namesX_len x) HXO.out.len
      have HNS := Aside0.mk (names_small HXO.out)
      have HXL := Aside0.mk (namesX_len x)
      have HBX := Aside0.mk (show brdOf x = (namesX x).foldl (layName x) noB from rfl)
      generalize hns : namesX x = ns at HL hnl HNS HBX HXL
      have HNE := Aside0.mk hns
      clear hns
      have HNL := Aside0.mk hnl
      have y8 := blk_at HL.out.blk 8 (v := .slice A7 ns.length c7) rfl
      go_wp2
      go_loopg [35] (ns.length + 1) (fun gg s35 wq => ∃ (i : Nat) (vl : Value) (FV : ByteArray → Option Value) (B : Brd), i ≤ ns.length ∧ ns.length - i < gg ∧ s35 = .int .i64 (i : Int) ∧ Aside0 (B = (ns.take i).foldl (layName x) noB ∧ BrdOk B (1000 * i)) ∧ Aside0 (LayS okx w.heap.size b mb root A5 c5 A6 c6 (.slice A7 ns.length c7) ns wq vl FV (B).l.length B) ∧ Aside0 (Below w.heap.size w wq))
      case atStart => exact ⟨0, _, _, noB, Nat.zero_le _, by omega, rfl, ⟨rfl, Nat.le_refl _, fun s => Nat.le_refl _⟩, HL, HB⟩
      case round =>
       clear HL HB y8
       obtain ⟨i, vl, FV, B, hi1, hig, rfl, HBI, HL, HB⟩ := hrel
       by_cases hlt : i < ns.length
       · obtain ⟨adn, e7, n0⟩ := C_str_at (Kd.R_reads' HL.out.n).2.2 i hlt
         subst e7
         have ia : (i : Int) < (ns.length : Int) := by omega
         have HTK := Aside0.mk (show (ns.take (i + 1)).foldl (layName x) noB = layName x B ns[i] by rw [List.take_succ_eq_append_getElem hlt, List.foldl_append, ← HBI.out.1]; rfl)
         have HSZ := Aside0.mk (HNS.out _ (List.getElem_mem hlt))
         generalize ns[i] = n at n0 HTK HSZ
         have BN := Aside0.mk (blk_new wr (.cells #[.string n] 9))
         have HZ := Aside0.mk (show w.heap.size ≤ wr.heap.size from HB.out.size)
         have HCL := Aside0.mk (clone_mans_t x A c (wr.alloc (.cells #[.string n] 9)) okx (Kd.F_below HX.out (below_alloc HB.out _)) (fun k hk => Nat.lt_of_lt_of_le (HLP.out k hk) (by have := HZ.out; rw [World.size_alloc]; omega)) (by have := HXO.out.len; omega))
         have hx0 : 0 < x.length := by have := HXL.out; omega
         have HX0 := Aside0.mk hx0
         clear hx0
         go_wp2_with (first
          | (go_at_call 26; refine HCL.out.mono ?_; rintro e w5 ⟨v5, rfl, hn5, hb5⟩; obtain ⟨g, cap, rfl, hgb, _, _⟩ := Kd.N_form hn5 HX0.out; have HN5 := Aside0.mk (Kd.N_mono hn5 (ok' := fun k => okx k ∨ k = g) (fun k hk => hk.imp_right (fun h => by simpa [Value.ownBlock] using h))); have HGB := Aside0.mk hgb; have BN5 := Aside0.mk (blk_below BN.out hb5); have HB5 := Aside0.mk (below_step (below_alloc (Below.refl wr.heap.size wr) (.cells #[.string n] 9)) hb5); have y0 := blk_at BN5.out 0 (v := .string n) rfl; clear HCL hn5 hb5 hgb BN)
          | (go_at_call 25; refine (delete_walk wr.heap.size n g x.length cap _ x _ (by rw [World.size_alloc]; omega) HXO.out.len w5 HN5.out (blk_at BN5.out 0 rfl)).mono ?_; rintro e w6 ⟨m6, rfl, hn6, hb6⟩; have HN6 := Aside0.mk hn6; have HB6 := Aside0.mk hb6; clear HN5 hn6 hb6)
          | (go_at_call 28; refine (reverse_walk g m6 cap _ _ _ _ ?hml w6 HN6.out).mono ?_; (case hml => rw [(Kd.N_reads' HN6.out).1]; exact Nat.le_trans (List.length_filter_le _ _) HXO.out.len); rintro e w7 ⟨rfl, hn7, hb7⟩; have HN7 := Aside0.mk hn7; have HB7 := Aside0.mk hb7; clear HN6 hn7 hb7))
         have hgb : wr.heap.size + 1 ≤ g := by have := HGB.out; rwa [World.size_alloc] at this
         have h56 := HB5.out.trans (HB6.out.mono (by rw [World.size_alloc]; omega))
         have h57 := h56.trans (HB7.out.mono (by omega))
         have BN7 := (HB7.out.block _ (show wr.heap.size < g by omega)).trans ((HB6.out.block _ (show wr.heap.size < (wr.alloc (.cells #[.string n] 9)).heap.size by rw [World.size_alloc]; omega)).trans BN5.out)
         have hm6 := (Kd.N_reads' HN7.out).1
         rw [show (List.filter (fun m => nameB n m.f0) x).reverse = pickL x n from rfl] at HN7 hm6
         subst hm6
         have hpl : (pickL x n).length ≤ 1000 := by
          unfold pickL
          rw [List.length_reverse]
          exact Nat.le_trans (List.length_filter_le _ _) HXO.out.len
         have HPL := Aside0.mk (show layName x B n = (pickL x n).foldl (layOne n) B from rfl)
         generalize pickL x n = ps at HN7 hpl HPL
         obtain ⟨bn, hbn⟩ : ∃ bn, wr.heap.size = bn := ⟨_, rfl⟩
         have HIN : Aside0 (InS okx w.heap.size b mb root A5 c5 A6 c6 (.slice (some adn) ns.length c7) ns bn n g ps.length cap ps w7 vl FV (B).l.length B) := ⟨HL.out.below h57, by rw [← hbn]; exact BN7, (NX.of (Kd.N_mono HN7.out (fun k hk => hk.imp_right (fun h => by simp [Value.ownBlock, h])))).lower (by rw [World.size_alloc]; have := HZ.out; omega), fun e => by have := Kd.N_lt (HL.out.l.toN HL.out.hx) g e.symm; omega⟩
         have HB8 := Aside0.mk (HB.out.trans (h57.mono HZ.out))
         rw [hbn]
         clear hbn BN7 h57 h56 hgb HN7 HB7 HB6 HB5 BN5 y0 HGB HZ HL HB
         go_loopg [47] (ps.length + 1) (fun gg s47 wq => ∃ (j : Nat) (vl1 : Value) (FV1 : ByteArray → Option Value) (B1 : Brd), j ≤ ps.length ∧ ps.length - j < gg ∧ s47 = .int .i64 (j : Int) ∧ Aside0 (B1 = (ps.take j).foldl (layOne n) B ∧ BrdOk B1 (1000 * i + j)) ∧ Aside0 (InS okx w.heap.size b mb root A5 c5 A6 c6 (.slice (some adn) ns.length c7) ns bn n g ps.length cap ps wq vl1 FV1 (B1).l.length B1) ∧ Aside0 (Below w.heap.size w wq))
         case atStart => exact ⟨0, _, _, B, Nat.zero_le _, by omega, rfl, ⟨rfl, HBI.out.2⟩, HIN, HB8⟩
         case round =>
          clear HIN HB8
          obtain ⟨j, vl1, FV1, B1, hj1, hjg, rfl, HBJ, HIN, HB⟩ := hrel
          by_cases hjl : j < ps.length
          · have ja : (j : Int) < (ps.length : Int) := by omega
            obtain ⟨B5, d5, B6, d6, ⟨m0, m1, m2, m3, m4, m5, m6⟩, _, hmf⟩ := man_atN (HIN.out.p.toN HIN.out.s.hx) j hjl hjl
            have HTJ := Aside0.mk (show (ps.take (j + 1)).foldl (layOne n) B = layOne n B1 ps[j] by rw [List.take_succ_eq_append_getElem hjl, List.foldl_append, ← HBJ.out.1]; rfl)
            generalize ps[j] = m at m0 m1 m2 m3 m4 m5 m6 hmf HTJ
            have HBL := Aside0.mk (show (B1.l.length + 1) * 104 ≤ 140737488355328 by have := HBJ.out.2.1; have := HNL.out; omega)
            have HBV := Aside0.mk (show ((B1.vars n).length + 1) * 8 ≤ 140737488355328 by have := HBJ.out.2.1; have := HBJ.out.2.2 n; have := HNL.out; omega)
            have HCN := Aside0.mk (show B1.l.length ≤ 1000000000 by have := HBJ.out.2.1; have := HNL.out; omega)
            have hmx : ManF wr okx B5 d5 B6 d6 m := hmf.mono (fun k hk => hk.1.resolve_right (fun e => hk.2 (by simpa [Value.ownBlock] using e)))
            go_upto_region 16 with (fail)
            have HI0 := Aside0.mk (HIN.out.below (below_alloc (Below.refl _ _) (.cells #[.string m.f0, .int .i64 m.f1.f0, .int .i64 m.f1.f1, .int .i64 m.f1.f2, .string m.f1.f3, .slice B5 m.f2.length d5, .slice B6 m.f3.length d6] 27)))
            have BM := Aside0.mk (blk_new wr (.cells #[.string m.f0, .int .i64 m.f1.f0, .int .i64 m.f1.f1, .int .i64 m.f1.f2, .string m.f1.f3, .slice B5 m.f2.length d5, .slice B6 m.f3.length d6] 27))
            have HMF0 := Aside0.mk (hmx.below (below_alloc (Below.refl _ _) (.cells #[.string m.f0, .int .i64 m.f1.f0, .int .i64 m.f1.f1, .int .i64 m.f1.f2, .string m.f1.f3, .slice B5 m.f2.length d5, .slice B6 m.f3.length d6] 27)))
            have HB0 := Aside0.mk (below_alloc HB.out (.cells #[.string m.f0, .int .i64 m.f1.f0, .int .i64 m.f1.f1, .int .i64 m.f1.f2, .string m.f1.f3, .slice B5 m.f2.length d5, .slice B6 m.f3.length d6] 27))
            obtain ⟨W0, hW0⟩ : ∃ W0, wr.alloc (.cells #[.string m.f0, .int .i64 m.f1.f0, .int .i64 m.f1.f1, .int .i64 m.f1.f2, .string m.f1.f3, .slice B5 m.f2.length d5, .slice B6 m.f3.length d6] 27) = W0 := ⟨_, rfl⟩
            rw [hW0] at HI0 BM HMF0 HB0 ⊢
            clear hW0 hmf hmx m0 m1 m2 m3 m4 m5 m6 HB HIN
            have HI1 := Aside0.mk (HI0.out.below (below_drew (Below.refl _ _)))
            have BM1 := Aside0.mk (blk_drew BM.out)
            have HMF1 := Aside0.mk (HMF0.out.below (below_drew (Below.refl _ _)))
            have HB1 := Aside0.mk (below_drew HB0.out)
            clear HI0 BM HMF0 HB0
            refine start_ (n := 11) (S := fun w' => w'.cell? ⟨b, 7, none⟩ = some vl1 ∧ w'.cell? ⟨wr.heap.size, 0, none⟩ = some (.string m.f0) ∧ w'.cell? ⟨wr.heap.size, 1, none⟩ = some (.int .i64 m.f1.f0) ∧ w'.cell? ⟨wr.heap.size, 2, none⟩ = some (.int .i64 m.f1.f1) ∧ w'.cell? ⟨wr.heap.size, 3, none⟩ = some (.int .i64 m.f1.f2) ∧ w'.cell? ⟨wr.heap.size, 4, none⟩ = some (.string m.f1.f3) ∧ w'.cell? ⟨wr.heap.size, 5, none⟩ = some (.slice B5 m.f2.length d5) ∧ w'.cell? ⟨wr.heap.size, 6, none⟩ = some (.slice B6 m.f3.length d6)) (ds := [7, 10]) (bts 11 0) (by kernel_rfl) rfl (by kernel_rfl) ⟨(blk_cell HI1.out.s.blk 7).trans rfl, (blk_cell BM1.out 0).trans rfl, (blk_cell BM1.out 1).trans rfl, (blk_cell BM1.out 2).trans rfl, (blk_cell BM1.out 3).trans rfl, (blk_cell BM1.out 4).trans rfl, (blk_cell BM1.out 5).trans rfl, (blk_cell BM1.out 6).trans rfl⟩ (fun hHeld => ?_)
            generalize W0.drew = wd1 at HI1 BM1 HMF1 HB1 hHeld ⊢
            refine pure_ (i := 0) (N := some 51) (v := ?_) (a' := ?_) (bts 11 1) rfl rfl (by kernel_rfl) (fun _ _ _ h => h) (Or.inl ⟨by rfl, ?_⟩) ?_ ?_
            rotate_left
            · intro w'
              go_simp
              with_reducible rfl
            rotate_left
            · simp only [Act.put, List.setIfInBounds_toArray, List.set_cons_zero, List.set_cons_succ, i64_w, i32_w]
              rfl
            refine pure_ (i := 1) (N := some 52) (v := ?_) (a' := ?_) (bts 11 3) rfl rfl (by kernel_rfl) (fun _ _ _ h => h) (Or.inl ⟨by rfl, ?_⟩) ?_ ?_
            rotate_left
            · intro w'
              go_simp
              with_reducible rfl
            rotate_left
            · simp only [Act.put, List.setIfInBounds_toArray, List.set_cons_zero, List.set_cons_succ, i64_w, i32_w]
              rfl
            refine pure_ (i := 2) (N := some 53) (v := ?_) (a' := ?_) (bts 11 7) rfl rfl (by kernel_rfl) (fun _ _ _ h => h) (Or.inl ⟨by rfl, ?_⟩) ?_ ?_
            rotate_left
            · intro w'
              go_simp
              with_reducible rfl
            rotate_left
            · simp only [Act.put, List.setIfInBounds_toArray, List.set_cons_zero, List.set_cons_succ, i64_w, i32_w]
              rfl
            refine pure_ (i := 3) (N := some 54) (v := ?_) (a' := ?_) (bts 11 15) rfl rfl (by kernel_rfl) (fun _ _ _ h => h) (Or.inl ⟨by rfl, ?_⟩) ?_ ?_
            rotate_left
            · intro w'
              go_simp
              with_reducible rfl
            rotate_left
            · simp only [Act.put, List.setIfInBounds_toArray, List.set_cons_zero, List.set_cons_succ, i64_w, i32_w]
              rfl
            refine take_ (i := 4) (N := some 55) (v := ?_) (a' := ?_) (bts 11 31) rfl rfl (by kernel_rfl) (fun _ _ _ h => h) (Or.inl ⟨by rfl, ?_⟩) hHeld ?_ ?_
            rotate_left
            · intro w'
              rintro ⟨s0, s1, s2, s3, s4, s5, s6, s7⟩
              go_simp
              with_reducible rfl
            rotate_left
            · simp only [Act.put, List.setIfInBounds_toArray, List.set_cons_zero, List.set_cons_succ, i64_w, i32_w]
              rfl
            refine take_ (i := 5) (N := some 56) (v := ?_) (a' := ?_) (bts 11 63) rfl rfl (by kernel_rfl) (fun _ _ _ h => h) (Or.inl ⟨by rfl, ?_⟩) hHeld ?_ ?_
            rotate_left
            · intro w'
              rintro ⟨s0, s1, s2, s3, s4, s5, s6, s7⟩
              go_simp
              with_reducible rfl
            rotate_left
            · simp only [Act.put, List.setIfInBounds_toArray, List.set_cons_zero, List.set_cons_succ, i64_w, i32_w]
              rfl
            refine one_ (i := 6) (N := some 57) (bts 11 127) rfl rfl (by kernel_rfl) (by decide) (fun K hK => ?_)
            rw [if_pos (by rfl)]
            unfold Oper.wp
            go_simp
            refine hK.out _ _ ⟨(blk_cell (blk_alloc HI1.out.s.blk _) 7).trans rfl, (blk_cell (blk_alloc BM1.out _) 0).trans rfl, (blk_cell (blk_alloc BM1.out _) 1).trans rfl, (blk_cell (blk_alloc BM1.out _) 2).trans rfl, (blk_cell (blk_alloc BM1.out _) 3).trans rfl, (blk_cell (blk_alloc BM1.out _) 4).trans rfl, (blk_cell (blk_alloc BM1.out _) 5).trans rfl, (blk_cell (blk_alloc BM1.out _) 6).trans rfl⟩ (fun hHeld => ?_)
            clear hK K
            refine last_ (i := 7) (N := some 58) (bts 11 255) rfl rfl (by kernel_rfl) (by decide) (fun K hK => ?_)
            refine NX_append_step k27 (w0 := w) (W := wd1) w.heap.size (by rfl) (.tmp 55) (.tmp 57) 28 27 (.agg #[.string ⟨#[]⟩, .int .i64 0, .int .i64 0, .int .i64 0, .string ⟨#[]⟩, .slice none 0 0, .slice none 0 0]) 104 rfl Tryz.underlying28 info_mans rfl (by decide) (by decide) vl1 B1.l m [.string m.f0, .int .i64 m.f1.f0, .int .i64 m.f1.f1, .int .i64 m.f1.f2, .string m.f1.f3, .slice B5 m.f2.length d5, .slice B6 m.f3.length d6] rfl rfl (man_FK HMF1.out) HI1.out.s.hx HI1.out.s.l HB1.out HB1.out.size HBL.out ?_
            intro v1 wE hn hb hg hat
            obtain ⟨A8, c8, rfl⟩ := Kd.N_slice (hn.toN HI1.out.s.hx)
            generalize hl2 : B1.l ++ [m] = l2 at hn hg hat ⊢
            have HL2 := Aside0.mk hl2
            clear hl2
            have HIE := Aside0.mk (HI1.out.put_l hg hn hat)
            have c7 := blk_at (HI1.out.s.keep_b hg) 7 (v := vl1) rfl
            have z7 := blk_frozen (HI1.out.s.keep_b hg) 7
            have HBE := Aside0.mk (hb.setCell (p := ⟨b, 7, none⟩) HI1.out.s.bb (.slice A8 l2.length c8))
            clear hn hb hg hat HI1 BM1 HMF1 HB1 hHeld
            refine hK.out _ _ ?_
            clear hK K
            refine norm_ (a' := ?_) ?_ ?_
            rotate_left
            · show Act.put _ (some 58) _ = _
              simp only [Act.put, List.setIfInBounds_toArray, List.set_cons_zero, List.set_cons_succ, i64_w, i32_w]
              rfl
            refine pure_ (i := 8) (N := some 59) (v := ?_) (a' := ?_) (bts 11 511) rfl rfl (by kernel_rfl) (fun _ _ _ h => h) (Or.inl ⟨by rfl, ?_⟩) ?_ ?_
            rotate_left
            · intro w'
              go_simp
              with_reducible rfl
            rotate_left
            · simp only [Act.put, List.setIfInBounds_toArray, List.set_cons_zero, List.set_cons_succ, i64_w, i32_w]
              rfl
            refine pure_ (i := 9) (N := some 60) (v := ?_) (a' := ?_) (bts 11 1023) rfl rfl (by kernel_rfl) (fun _ _ _ h => h) (Or.inl ⟨by rfl, ?_⟩) ?_ ?_
            rotate_left
            · intro w'
              go_simp
              with_reducible rfl
            rotate_left
            · simp only [Act.put, List.setIfInBounds_toArray, List.set_cons_zero, List.set_cons_succ, i64_w, i32_w]
              rfl
            refine last_ (i := 10) (N := none) (bts 11 2047) rfl rfl (by kernel_rfl) (by decide) (fun K hK => ?_)
            rw [if_pos (by rfl)]
            unfold Oper.wp
            go_simp
            refine hK.out _ _ ?_
            clear hK K
            refine done_ (by kernel_rfl) ?_
            clear c7 z7
            have HS9 := Aside0.mk (show n.size ≤ 1000000000 from Nat.le_trans HSZ.out (by decide))
            go_upto_region 17 with (fail)
            obtain ⟨v, hv, hgd⟩ : ∃ v, (FV1 n = none ∧ v = .slice none 0 0 ∨ FV1 n = some v) ∧ (FV1 n).getD (.slice none 0 0) = v := by
             cases h : FV1 n with
             | none => exact ⟨_, .inl ⟨rfl, rfl⟩, rfl⟩
             | some v => exact ⟨v, .inr rfl, rfl⟩
            have HFV := Aside0.mk hv
            have HGD := Aside0.mk hgd
            obtain ⟨W2, hW2⟩ : ∃ W2, wE.setCell ⟨b, 7, none⟩ (.slice A8 l2.length c8) = W2 := ⟨_, rfl⟩
            rw [hW2] at HIE HBE ⊢
            have HIX := HIE
            have HBX2 := HBE
            have HRX := Aside0.mk (show Kd.R (Kd.int .i64) 3 W2 w.heap.size (fun _ => True) v (B1.vars n) by
             have h3 := HIX.out.s.v n
             rcases hv with ⟨h4, rfl⟩ | h4
             · rw [h4] at h3
               rw [show B1.vars n = [] from h3]
               exact Kd.R_nil _ _ _ _ _
             · rw [h4] at h3
               exact h3)
            clear hv hgd hW2 HIE HBE
            have HI2 := Aside0.mk (HIX.out.below (below_drew (Below.refl _ _)))
            have HB2 := Aside0.mk (below_drew HBX2.out)
            have HR2 := Aside0.mk (Kd.R_below HRX.out (below_drew (Below.refl _ _)))
            clear HIX HBX2 HRX
            refine start_ (n := 19) (S := fun w' => w'.cell? ⟨b, 9, none⟩ = some (.map (some mb)) ∧ w'.cell? ⟨b, 7, none⟩ = some (.slice A8 l2.length c8) ∧ w'.cell? ⟨bn, 0, none⟩ = some (.string n) ∧ MapIs w' mb B1.l.length FV1) (ds := [18]) (bts 19 0) (by kernel_rfl) rfl (by kernel_rfl) ⟨(blk_cell HI2.out.s.blk 9).trans rfl, (blk_cell HI2.out.s.blk 7).trans rfl, (blk_cell HI2.out.nb 0).trans rfl, HI2.out.s.m⟩ (fun hHeld => ?_)
            generalize W2.drew = wd2 at HI2 HB2 HR2 hHeld ⊢
            refine pure_ (i := 0) (N := some 61) (v := ?_) (a' := ?_) (bts 19 1) rfl rfl (by kernel_rfl) (fun _ _ _ h => h) (Or.inl ⟨by rfl, ?_⟩) ?_ ?_
            rotate_left
            · intro w'
              go_simp
              with_reducible rfl
            rotate_left
            · simp only [Act.put, List.setIfInBounds_toArray, List.set_cons_zero, List.set_cons_succ, i64_w, i32_w]
              rfl
            refine pure_ (i := 1) (N := some 62) (v := ?_) (a' := ?_) (bts 19 3) rfl rfl (by kernel_rfl) (fun _ _ _ h => h) (Or.inl ⟨by rfl, ?_⟩) ?_ ?_
            rotate_left
            · intro w'
              go_simp
              with_reducible rfl
            rotate_left
            · simp only [Act.put, List.setIfInBounds_toArray, List.set_cons_zero, List.set_cons_succ, i64_w, i32_w]
              rfl
            refine pure_ (i := 2) (N := some 63) (v := ?_) (a' := ?_) (bts 19 7) rfl rfl (by kernel_rfl) (fun _ _ _ h => h) (Or.inl ⟨by rfl, ?_⟩) ?_ ?_
            rotate_left
            · intro w'
              go_simp
              with_reducible rfl
            rotate_left
            · simp only [Act.put, List.setIfInBounds_toArray, List.set_cons_zero, List.set_cons_succ, i64_w, i32_w]
              rfl
            refine pure_ (i := 5) (N := some 66) (v := ?_) (a' := ?_) (bts 19 39) rfl rfl (by kernel_rfl) (fun _ _ _ h => h) (Or.inl ⟨by rfl, ?_⟩) ?_ ?_
            rotate_left
            · intro w'
              go_simp
              with_reducible rfl
            rotate_left
            · simp only [Act.put, List.setIfInBounds_toArray, List.set_cons_zero, List.set_cons_succ, i64_w, i32_w]
              rfl
            refine pure_ (i := 6) (N := some 67) (v := ?_) (a' := ?_) (bts 19 103) rfl rfl (by kernel_rfl) (fun _ _ _ h => h) (Or.inl ⟨by rfl, ?_⟩) ?_ ?_
            rotate_left
            · intro w'
              go_simp
              with_reducible rfl
            rotate_left
            · simp only [Act.put, List.setIfInBounds_toArray, List.set_cons_zero, List.set_cons_succ, i64_w, i32_w]
              rfl
            refine pure_ (i := 7) (N := some 68) (v := ?_) (a' := ?_) (bts 19 231) rfl rfl (by kernel_rfl) (fun _ _ _ h => h) (Or.inl ⟨by rfl, ?_⟩) ?_ ?_
            rotate_left
            · intro w'
              go_simp
              with_reducible rfl
            rotate_left
            · simp only [Act.put, List.setIfInBounds_toArray, List.set_cons_zero, List.set_cons_succ, i64_w, i32_w]
              rfl
            refine pure_ (i := 11) (N := some 72) (v := ?_) (a' := ?_) (bts 19 2279) rfl rfl (by kernel_rfl) (fun _ _ _ h => h) (Or.inl ⟨by rfl, ?_⟩) ?_ ?_
            rotate_left
            · intro w'
              go_simp
              with_reducible rfl
            rotate_left
            · simp only [Act.put, List.setIfInBounds_toArray, List.set_cons_zero, List.set_cons_succ, i64_w, i32_w]
              rfl
            refine pure_ (i := 12) (N := some 73) (v := ?_) (a' := ?_) (bts 19 6375) rfl rfl (by kernel_rfl) (fun _ _ _ h => h) (Or.inl ⟨by rfl, ?_⟩) ?_ ?_
            rotate_left
            · intro w'
              go_simp
              with_reducible rfl
            rotate_left
            · simp only [Act.put, List.setIfInBounds_toArray, List.set_cons_zero, List.set_cons_succ, i64_w, i32_w]
              rfl
            refine pure_ (i := 13) (N := some 74) (v := ?_) (a' := ?_) (bts 19 14567) rfl rfl (by kernel_rfl) (fun _ _ _ h => h) (Or.inl ⟨by rfl, ?_⟩) ?_ ?_
            rotate_left
            · intro w'
              go_simp
              with_reducible rfl
            rotate_left
            · simp only [Act.put, List.setIfInBounds_toArray, List.set_cons_zero, List.set_cons_succ, i64_w, i32_w]
              rfl
            refine take_ (i := 3) (N := some 64) (v := ?_) (a' := ?_) (bts 19 14575) rfl rfl (by kernel_rfl) (fun _ _ _ h => h) (Or.inl ⟨by rfl, ?_⟩) hHeld ?_ ?_
            rotate_left
            · intro w'
              rintro ⟨s0, s1, s2, s3⟩
              go_simp
              with_reducible rfl
            rotate_left
            · simp only [Act.put, List.setIfInBounds_toArray, List.set_cons_zero, List.set_cons_succ, i64_w, i32_w]
              rfl
            refine take_ (i := 4) (N := some 65) (v := ?_) (a' := ?_) (bts 19 14591) rfl rfl (by kernel_rfl) (fun _ _ _ h => h) (Or.inl ⟨by rfl, ?_⟩) hHeld ?_ ?_
            rotate_left
            · intro w'
              rintro ⟨s0, s1, s2, s3⟩
              go_simp
              with_reducible rfl
            rotate_left
            · simp only [Act.put, List.setIfInBounds_toArray, List.set_cons_zero, List.set_cons_succ, i64_w, i32_w]
              rfl
            refine take_ (i := 8) (N := some 69) (v := ?_) (a' := ?_) (bts 19 14847) rfl rfl (by kernel_rfl) (fun _ _ _ h => h) (Or.inl ⟨by rfl, ?_⟩) hHeld ?_ ?_
            rotate_left
            · intro w'
              rintro ⟨s0, s1, s2, s3⟩
              go_simp
              with_reducible rfl
            rotate_left
            · simp only [Act.put, List.setIfInBounds_toArray, List.set_cons_zero, List.set_cons_succ, i64_w, i32_w]
              rfl
            refine take_ (i := 9) (N := some 70) (v := ?_) (a' := ?_) (bts 19 15359) rfl rfl (by kernel_rfl) (fun _ _ _ h => h) (Or.inl ⟨by rfl, ?_⟩) hHeld ?_ ?_
            rotate_left
            · intro w'
              rintro ⟨s0, s1, s2, s3⟩
              go_simp
              with_reducible rfl
            rotate_left
            · simp only [Act.put, List.setIfInBounds_toArray, List.set_cons_zero, List.set_cons_succ, i64_w, i32_w]
              rfl
            refine take_ (i := 14) (N := some 75) (v := ?_) (a' := ?_) (bts 19 31743) rfl rfl (by kernel_rfl) (fun _ _ _ h => h) (Or.inl ⟨by rfl, ?_⟩) hHeld ?_ ?_
            rotate_left
            · intro w'
              rintro ⟨s0, s1, s2, s3⟩
              go_simp
              with_reducible rfl
            rotate_left
            · simp only [Act.put, List.setIfInBounds_toArray, List.set_cons_zero, List.set_cons_succ, i64_w, i32_w]
              rfl
            refine pure_ (i := 15) (N := some 76) (v := ?_) (a' := ?_) (bts 19 64511) rfl rfl (by kernel_rfl) (fun _ _ _ h => h) (Or.inl ⟨by rfl, ?_⟩) ?_ ?_
            rotate_left
            · intro w'
              go_simp
              with_reducible rfl
            rotate_left
            · simp only [Act.put, List.setIfInBounds_toArray, List.set_cons_zero, List.set_cons_succ, i64_w, i32_w]
              rfl
            refine take_ (i := 10) (N := some 71) (v := v) (a' := ?_) (bts 19 65535) rfl rfl (by kernel_rfl) (fun _ _ _ h => h) (Or.inl ⟨by rfl, ?_⟩) hHeld ?_ ?_
            · intro w'
              rintro ⟨s0, s1, s2, s3⟩
              have hrun := map_run s3 85 56 Tryz.underlying85 (zero_ints w') n HS9.out
              rw [HGD.out] at hrun
              go_simp
            rotate_left
            · simp only [Act.put, List.setIfInBounds_toArray, List.set_cons_zero, List.set_cons_succ, i64_w, i32_w]
              rfl
            refine one_ (i := 16) (N := some 77) (bts 19 131071) rfl rfl (by kernel_rfl) (by decide) (fun K hK => ?_)
            rw [if_pos (by rfl)]
            unfold Oper.wp
            go_simp
            refine hK.out _ _ ⟨(blk_cell (blk_alloc HI2.out.s.blk _) 9).trans rfl, (blk_cell (blk_alloc HI2.out.s.blk _) 7).trans rfl, (blk_cell (blk_alloc HI2.out.nb _) 0).trans rfl, HI2.out.s.m.alloc _⟩ (fun hHeld => ?_)
            clear hK K
            refine one_ (i := 17) (N := some 78) (bts 19 262143) rfl rfl (by kernel_rfl) (by decide) (fun K hK => ?_)
            refine Kd.R_append_step (Kd.int .i64) (w0 := w) (W := wd2) w.heap.size (by rfl) (.tmp 71) (.tmp 77) 56 3 (.int .i64 0) 8 rfl Tryz.underlying56 info_int2 rfl (by decide) (by decide) v (B1.vars n) ((l2.length : Nat) : Int) [.int .i64 ((l2.length : Nat) : Int)] (fun _ => True) (fun _ => False) rfl rfl rfl (fun _ h => h.elim) (fun _ _ => trivial) HR2.out HB2.out HB2.out.size HBV.out ?_
            intro v1 wE hr hb hg hat
            have hk := HI2.out.var_keep HFV.out hg
            refine hK.out _ _ ⟨(blk_cell hk.1 9).trans rfl, (blk_cell hk.1 7).trans rfl, (blk_cell hk.2.1 0).trans rfl, hk.2.2.1⟩ (fun hHeld => ?_)
            clear hK K
            refine norm_ (a' := ?_) ?_ ?_
            rotate_left
            · show Act.put _ (some 78) _ = _
              simp only [Act.put, List.setIfInBounds_toArray, List.set_cons_zero, List.set_cons_succ, i64_w, i32_w]
              rfl
            refine last_ (i := 18) (N := none) (bts 19 524287) rfl rfl (by kernel_rfl) (by decide) (fun K hK => ?_)
            refine map_put_step (b := mb) (n := B1.l.length) (F := FV1) (by rfl) (.tmp 64) (.tmp 65) (.tmp 78) 85 56 rfl Tryz.underlying85 n v1 rfl rfl rfl hk.2.2.1 HS9.out HCN.out ?_
            intro wF hmF hgF
            have HIF := Aside0.mk (HI2.out.put_v HFV.out hg hr hat hgF hmF)
            have HBF := Aside0.mk (pw_below_grown hb (some mb) hb.size hgF (fun k hk => by injection hk with hk; subst hk; exact HI2.out.s.mbb))
            clear hr hb hg hat hk hmF hgF HI2 HB2 HR2 hHeld
            refine hK.out _ _ ?_
            clear hK K
            refine norm_ (a' := ?_) ?_ ?_
            rotate_left
            · show Act.put _ (none) _ = _
              simp only [Act.put, List.setIfInBounds_toArray, List.set_cons_zero, List.set_cons_succ, i64_w, i32_w]
              rfl
            refine done_ (by kernel_rfl) ?_
            go_wp2
            go_roundg (ps.length - (j + 1) + 1)
            case measure => omega
            case rel =>
             have e1 : (layOne n B1 m).l.length = B1.l.length + 1 := by simp [layOne]
             have h5 := HIF.out
             rw [← HL2.out] at h5
             rw [show (⟨B1.l ++ [m], setV B1.vars n (B1.vars n ++ [(((B1.l ++ [m]).length : Nat) : Int)])⟩ : Brd) = layOne n B1 m by unfold layOne; rw [List.length_append]; rfl, ← e1] at h5
             exact ⟨j + 1, _, _, layOne n B1 m, by omega, by omega, by go_num, ⟨by rw [HTJ.out], by rw [← Nat.add_assoc]; exact layOne_ok HBJ.out.2 n m⟩, ⟨h5⟩, HBF⟩
          · obtain rfl : j = ps.length := by omega
            have h3 := HBJ.out
            rw [List.take_length, ← HPL.out, ← HTK.out] at h3
            have HB9 := Aside0.mk h3
            have HL9 := Aside0.mk HIN.out.s
            clear h3 HIN HBJ
            go_wp2
            go_roundg (ns.length - (i + 1) + 1)
            case measure => omega
            case rel => exact ⟨i + 1, _, _, _, by omega, by omega, by go_num, ⟨HB9.out.1, by refine ⟨Nat.le_trans HB9.out.2.1 (by omega), HB9.out.2.2⟩⟩, HL9, HB⟩
       · obtain rfl : i = ns.length := by omega
         have h3 := HBI.out.1
         rw [List.take_length, ← HBX.out] at h3
         subst h3
         go_wp2
         go_ret2
         refine ⟨?_, HB.out⟩
         unfold LayE
         rw [if_pos HLI.out, HNE.out]
         exact ⟨b, mb, vl, _, FV, rfl, HL.out⟩
   · rw [if_pos rfl] at HLI
     go_enter Tryz.func12, Tryz.ntmps12
     go_wp2_with (first
      | (go_at_call 22; refine HMC.out.mono ?_; rintro e w1 ⟨rfl, hb1⟩; have HB1 := Aside0.mk (below_step HB.out hb1); clear hb1 HB BR HMC)
      | (go_at_call 23; refine (HXC.out _ HB1.out).mono ?_; rintro e w2 ⟨rfl, hb2⟩; have HB2 := Aside0.mk (below_step HB1.out hb2); clear hb2 HB1 HXC))
     go_ret2
     exact ⟨by unfold LayE; rw [HLI.out, if_neg h2]; rfl, HB2.out⟩
 · rw [if_neg h1] at HLI
   go_enter Tryz.func12, Tryz.ntmps12
   go_wp2_with (go_at_call 22; refine HMC.out.mono ?_; rintro e w1 ⟨rfl, hb1⟩; have HB1 := Aside0.mk (below_step HB.out hb1); clear hb1 HB BR HMC)
   go_ret2
   exact ⟨by unfold LayE; rw [HLI.out, if_neg h1]; rfl, HB1.out⟩
end Go.Proofs.YteinkjhimceljaaGreatDoor.J
