/- count's functions as flat's formula uses them; a literal row of one clause. -/
import Derived.Test.YteinkjhimceljaaGreatDoorT32
import Derived.Test.YteinkjhimceljaaGreatDoorT38
namespace Go.Proofs.YteinkjhimceljaaGreatDoor.J
open Go Go.RowKit Go.Shelf Go.Proofs.YteinkjhimceljaaGreatDoorW.PrintWords Go.Proofs.YteinkjhimceljaaGreatDoorW.PrintLast Go.Proofs.YteinkjhimceljaaGreatDoorW.PrintMore
set_option linter.unusedVariables false
set_option linter.unusedSimpArgs false
theorem most_c (A : Option Addr) (c : Nat) (l : List Int) (hl : l.length ≤ 1000) (w : World) (hC : Kd.C (Kd.int .i64) w A l.length l) (hc : l.length ≤ c) :
 Calls Tryz.prog 30 #[.slice A l.length c] w fun e w' => ∃ A' c', e = .returned (.tuple #[.slice A' (Ct.atMost l).1.length c', .int .i64 (Ct.atMost l).2]) ∧ Kd.F (Kd.slice 3 (Kd.int .i64)) w' (fun k => w.heap.size ≤ k) A' (Ct.atMost l).1.length (Ct.atMost l).1 ∧ Below w.heap.size w w' := by
 refine (count_AtMost.calls A c l (Ct.atMost l).1 (Ct.atMost l).2 w hC hc (count_AtMost.f_eq l hl)).mono ?_
 rintro e w' ⟨v, rfl, hs, hb⟩
 obtain ⟨A', c', rfl⟩ := Kd.S_slice hs
 exact ⟨A', c', rfl, Kd.F_mono (Kd.S_F (Kd.S_bound hs)) (fun k hk => hk.2.1), hb⟩
theorem never_c (a : Int) (A : Option Addr) (c : Nat) (l : List Int) (hl : l.length ≤ 1000) (w : World) (hC : Kd.C (Kd.int .i64) w A l.length l) (hc : l.length ≤ c) :
 Calls Tryz.prog 35 #[.int .i64 a, .slice A l.length c] w fun e w' => ∃ A' c', e = .returned (.tuple #[.slice A' (Ct.neverF a l).1.length c', .int .i64 (Ct.neverF a l).2]) ∧ Kd.F (Kd.slice 3 (Kd.int .i64)) w' (fun k => w.heap.size ≤ k) A' (Ct.neverF a l).1.length (Ct.neverF a l).1 ∧ Below w.heap.size w w' := by
 refine (count_Never.calls a A c l (Ct.neverF a l).1 (Ct.neverF a l).2 w hC hc (count_Never.f_eq a l hl)).mono ?_
 rintro e w' ⟨v, rfl, hs, hb⟩
 obtain ⟨A', c', rfl⟩ := Kd.S_slice hs
 exact ⟨A', c', rfl, Kd.F_mono (Kd.S_F (Kd.S_bound hs)) (fun k hk => hk.2.1), hb⟩
theorem implies_c (a : Int) (A : Option Addr) (c : Nat) (l : List Int) (hl : l.length ≤ 1000) (w : World) (hC : Kd.C (Kd.int .i64) w A l.length l) (hc : l.length ≤ c) :
 Calls Tryz.prog 34 #[.int .i64 a, .slice A l.length c] w fun e w' => ∃ A' c', e = .returned (.tuple #[.slice A' (Ct.implies a l).1.length c', .int .i64 (Ct.implies a l).2]) ∧ (Ct.implies a l).1.length ≤ c' ∧ Kd.F (Kd.int .i64) w' (fun k => w.heap.size ≤ k) A' (Ct.implies a l).1.length (Ct.implies a l).1 ∧ Below w.heap.size w w' := by
 refine (count_Implies.calls a A c l (Ct.implies a l).1 (Ct.implies a l).2 w hC hc (count_Implies.f_eq a l hl)).mono ?_
 rintro e w' ⟨v, rfl, hs, hb⟩
 obtain ⟨A', c', rfl⟩ := Kd.R_slice hs
 exact ⟨A', c', rfl, (Kd.R_reads' hs).2.1, Kd.F_mono (Kd.R_F (Kd.R_bound hs)) (fun k hk => hk.2.1), hb⟩
theorem atMost_len {l : List Int} (hl : l.length ≤ 1000) : (Ct.atMost l).1.length ≤ 500000 := by
 unfold Ct.atMost
 split
 · have := Ct.pairs_len l
   have h2 : l.length * (l.length - 1) ≤ 1000 * 1000 := Nat.mul_le_mul hl (by omega)
   show (Ct.pairs l).length ≤ _
   omega
 · simp
theorem neverF_len {a : Int} {l : List Int} (hl : l.length ≤ 1000) : (Ct.neverF a l).1.length ≤ 500000 := by
 unfold Ct.neverF
 split
 · show (Ct.never a l).length ≤ _
   unfold Ct.never
   rw [List.length_map]
   omega
 · simp
theorem lit1_F {W : World} {okc : Nat → Prop} {A : Option Addr} {c : Nat} {l : List Int} (h : Kd.F (Kd.int .i64) W okc A l.length l) (hl : l.length ≤ c) :
 Kd.F (Kd.slice 3 (Kd.int .i64)) (W.alloc (.cells #[.slice A l.length c] 56)) (fun k => okc k ∨ k = W.heap.size) (some ⟨W.heap.size, 0, none⟩) 1 [l] := by
 intro W' hW
 refine ⟨rfl, by decide, fun _ => ⟨_, rfl, fun j p hj => ?_⟩⟩
 obtain ⟨hj0, rfl⟩ := List.getElem?_eq_some_iff.1 hj
 obtain rfl : j = 0 := by simp at hj0; omega
 refine ⟨[.slice A l.length c], rfl, ⟨A, c, rfl, hl, ?_⟩, fun j u hu => ?_⟩
 · refine h W' (fun k hk hlt => ?_)
   rw [hW k (.inl hk) (by rw [World.size_alloc]; omega), Below.heap_alloc _ _ _ hlt]
 · obtain ⟨hj1, rfl⟩ := List.getElem?_eq_some_iff.1 hu
   obtain rfl : j = 0 := by simp at hj1; omega
   have hb := hW W.heap.size (.inr rfl) (by rw [World.size_alloc]; omega)
   have h2 := blk_new W (.cells #[.slice A l.length c] 56)
   rw [← hb] at h2
   exact blk_at h2 0 rfl
theorem FS.fresh {base bf bo : Nat} {nv : Int} {ps : List Put} {vc : Value} {W : World} (h : FS base bf bo nv ps vc W) : ∀ k, W.heap.size ≤ k → (base ≤ k ∧ k ≠ bf ∧ k ≠ bo) ∧ some k ≠ vc.ownBlock := by
 intro k hk
 have h1 := blk_lt2 h.f
 have h2 := blk_lt2 h.o
 have h3 := h.hf
 refine ⟨by omega, fun e => ?_⟩
 have := Kd.N_lt h.l k e.symm
 omega
theorem F_put {α : Type} {d : Kd α} {base bf bo : Nat} {vc v1 : Value} {W W' : World} {okE : Nat → Prop} {A : Option Addr} {n : Nat} {xs : List α} (h : Kd.F d W okE A n xs) (hk : FK2 base bf bo vc v1 W W') (h1 : ∀ k, okE k → k ≠ bf ∧ k ≠ bo) (hc : ∀ k, okE k → some k ≠ vc.ownBlock) : Kd.F d W' okE A n xs :=
 Kd.F_step h (fun k hk2 hlt => hk.k k hlt (h1 k hk2).1 (h1 k hk2).2 (hc k hk2))
theorem clear_put {base bf bo : Nat} {vc v1 : Value} {W W' : World} {okE : Nat → Prop} (hk : FK2 base bf bo vc v1 W W') (hc : ∀ k, okE k → some k ≠ vc.ownBlock) (hb : ∀ k, okE k → k < W.heap.size) : ∀ k, okE k → some k ≠ v1.ownBlock := by
 intro k h
 rcases hk.v with e | ⟨q, e, hq⟩
 · rw [e]; exact hc k h
 · rw [e]
   intro h2
   injection h2 with h2
   have := hb k h
   omega
theorem lit1_int (W : World) (n : Int) : Kd.F (Kd.int .i64) (W.alloc (.cells #[.int .i64 n] 3)) (fun k => k = W.heap.size) (some ⟨W.heap.size, 0, none⟩) 1 [n] := by
 intro W' hW
 refine ⟨rfl, by decide, fun _ => ⟨_, rfl, fun j p hj => ?_⟩⟩
 obtain ⟨hj0, rfl⟩ := List.getElem?_eq_some_iff.1 hj
 obtain rfl : j = 0 := by simp at hj0; omega
 refine ⟨[.int .i64 n], rfl, rfl, fun j u hu => ?_⟩
 obtain ⟨hj1, rfl⟩ := List.getElem?_eq_some_iff.1 hu
 obtain rfl : j = 0 := by simp at hj1; omega
 have hb := hW W.heap.size rfl (by rw [World.size_alloc]; omega)
 have h2 := blk_new W (.cells #[.int .i64 n] 3)
 rw [← hb] at h2
 exact blk_at h2 0 rfl
theorem edges_ok {root : Bool} {m : S27} {rules : List S78} (hd : ∀ d ∈ m.f2, DOk d) (hu : ∀ r ∈ rules, UOk r) : ∀ d ∈ edgesL root m rules, DOk d := by
 intro d hm
 unfold edgesL at hm
 obtain ⟨n, hn, rfl⟩ := List.mem_map.1 hm
 have hb := by_take root m.f2 m.f2.length (Nat.le_refl _)
 rw [List.take_length] at hb
 obtain ⟨d, hdn⟩ := Option.isSome_iff_exists.1 ((hb.mem n).1 (sortN_mem hn))
 have h1 := hd d (hb.has n d hdn).1
 unfold edgeOf
 rw [hdn]
 refine ⟨h1.name, ?_, h1.kind⟩
 show ROk ((ruleOf rules n).getD d.f2).f0
 cases hr : ruleOf rules n with
 | none => exact h1.range
 | some q =>
  unfold ruleOf at hr
  cases hf : rules.find? (fun r => r.f0.toList == n.toList) with
  | none => rw [hf] at hr; cases hr
  | some r =>
   rw [hf] at hr
   injection hr with hr
   subst hr
   exact (hu r (List.mem_of_find?_eq_some hf)).range
end Go.Proofs.YteinkjhimceljaaGreatDoor.J
