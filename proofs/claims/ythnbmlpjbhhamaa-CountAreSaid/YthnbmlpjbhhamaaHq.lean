/- hoggetlaw14.smudge, walked: all that can be written in rows of one's own is written over; nothing else is. -/
import Derived.Test.YthnbmlpjbhhamaaHc
namespace Go.Proofs.Ythnbmlpjbhhamaa.J
open Go.RowKit Go.Shelf Go.Proofs.YthnbmlpjbhhamaaW.PrintWords Go.Proofs.YthnbmlpjbhhamaaW.PrintLast Go.Proofs.YthnbmlpjbhhamaaW.PrintMore
set_option linter.unusedVariables false
set_option linter.unusedSimpArgs false

/-- Nothing but blocks that are ok has turned. -/
structure Only (ok : Nat → Prop) (W w' : World) : Prop where
  quiet : Below 0 W w'
  same : ∀ k, ¬ ok k → w'.heap[k]? = W.heap[k]?
theorem Only.refl (ok : Nat → Prop) (W : World) : Only ok W W := ⟨Below.refl _ _, fun _ _ => rfl⟩
theorem Only.set {ok : Nat → Prop} {W w' : World} (h : Only ok W w') {g k : Nat} (hg : ok g) (u : Value) : Only ok W (w'.setCell ⟨g, k, none⟩ u) :=
  ⟨h.quiet.setCell (p := ⟨g, k, none⟩) (Nat.zero_le _) u, fun j hj => (Below.heap_setCell w' ⟨g, k, none⟩ u j (fun e => hj (by show ok j; rw [e]; exact hg))).trans (h.same j hj)⟩
theorem Only.below {ok : Nat → Prop} {W w' : World} (h : Only ok W w') {b : Nat} (hb : ∀ k, ok k → b ≤ k) : Below b W w' :=
  ⟨h.quiet.os, h.quiet.tape, h.quiet.output, h.quiet.size, fun k hk => h.same k (fun e => by have := hb k e; omega)⟩
theorem at_off (g k : Nat) : (⟨g, 0, none⟩ : Addr).add k = ⟨g, k, none⟩ := by
  unfold Addr.add
  split
  · rename_i h; subst h; rfl
  · simp
/-- The rows' shape: where each lies. -/
structure Rows2 (W : World) (ok : Nat → Prop) (gt : Nat) (xs : List (List Int)) : Prop where
  row : ∀ i (hi : i < xs.length), ∃ (A : Option Addr) (c : Nat), W.cell? ⟨gt, i, none⟩ = some (.slice A xs[i].length c) ∧ xs[i].length ≤ c ∧
    ∀ k, k < xs[i].length → ∃ g, A = some ⟨g, 0, none⟩ ∧ ok g ∧ g ≠ gt ∧ ∃ cells, W.heap[g]? = some (.cells cells 3 (0, 0)) ∧ k < cells.size
theorem rows2_of {W : World} {base : Nat} {ok : Nat → Prop} {xs : List (List Int)} {gt cap : Nat} (hs : Kd.S (Kd.slice 3 (Kd.int .i64)) 25 W base ok (.slice (some ⟨gt, 0, none⟩) xs.length cap) xs) : Rows2 W ok gt xs := by
  refine ⟨fun i hi => ?_⟩
  obtain ⟨A, c, he, hlc, hr⟩ := OwnRow.reads (Kd.S_R hs).2
  injection he with he1 he2 he3
  subst he1
  obtain ⟨ad, eA, hc⟩ := hr.2.2 (by omega)
  injection eA with eA
  subst eA
  obtain ⟨cs, hcl, ⟨v', rfl, hR⟩, hcc⟩ := hc i xs[i] (List.getElem?_eq_getElem hi)
  have h0 := hcc 0 v' rfl
  rw [show i * (Kd.slice 3 (Kd.int .i64)).sz + 0 = i from by show i * 1 + 0 = i; omega, at_off] at h0
  obtain ⟨A2, c2, ev⟩ := Kd.R_slice hR
  subst ev
  refine ⟨A2, c2, h0, (Kd.R_reads' hR).2.1, fun k hk => ?_⟩
  obtain ⟨g, cap2, e2, _, _, cells, hcells⟩ := Kd.R_form hR (by omega)
  injection e2 with e21 e22 e23
  subst e21
  have hok := hR.1 g rfl
  obtain ⟨ad2, e3, hx⟩ := C_int_at (Kd.R_reads' hR).2.2 k hk
  injection e3 with e3
  subst e3
  rw [at_off, blk_cell hcells] at hx
  exact ⟨g, rfl, hok.1, fun e => hok.2 (by rw [e]; rfl), cells, hcells, (Array.getElem?_eq_some_iff.1 hx).1⟩
theorem Rows2.set {W : World} {ok : Nat → Prop} {gt : Nat} {xs : List (List Int)} (h : Rows2 W ok gt xs) {g j : Nat} (hne : g ≠ gt) (u : Value) : Rows2 (W.setCell ⟨g, j, none⟩ u) ok gt xs := by
  refine ⟨fun i hi => ?_⟩
  obtain ⟨A, c, hx, hlc, hk⟩ := h.row i hi
  refine ⟨A, c, ?_, hlc, fun k hkl => ?_⟩
  · exact (cell_of_heap (p := ⟨gt, i, none⟩) (Below.heap_setCell W ⟨g, j, none⟩ u gt (fun e => hne e.symm))).trans hx
  · obtain ⟨g2, e, hok, hn, cells, hc, hs⟩ := hk k hkl
    refine ⟨g2, e, hok, hn, ?_⟩
    by_cases hg : g2 = g
    · subst hg
      have := blk_set hc j u
      exact ⟨_, this, by rw [Array.size_setIfInBounds]; exact hs⟩
    · exact ⟨cells, (Below.heap_setCell W ⟨g, j, none⟩ u g2 hg).trans hc, hs⟩
set_option maxHeartbeats 4000000 in
set_option maxRecDepth 100000 in
theorem smudge_some {W : World} {base : Nat} {ok : Nat → Prop} {xs : List (List Int)} {gt cap : Nat} (hs : Kd.S (Kd.slice 3 (Kd.int .i64)) 25 W base ok (.slice (some ⟨gt, 0, none⟩) xs.length cap) xs) (hl : xs.length ≤ 1000000) (hw : ∀ c ∈ xs, c.length ≤ 1000000) :
    Calls Try.prog 76 #[.slice (some ⟨gt, 0, none⟩) xs.length cap] W fun e w' => e = .returned (.tuple #[]) ∧ Only ok W w' := by
  have HR := Aside0.mk (rows2_of hs)
  have HW := Aside0.mk hw
  clear hs hw
  go_enter Try.func76, Try.ntmps76
  go_wp2
  go_loopg [2] xs.length (fun gg s2 wq => ∃ i : Nat, i ≤ xs.length ∧ xs.length - i ≤ gg ∧ s2 = .int .i64 (i : Int) ∧ Aside0 (Rows2 wq ok gt xs) ∧ Aside0 (Only ok W wq))
  case atStart => exact ⟨0, Nat.zero_le _, by omega, by go_num, HR, ⟨Only.refl _ _⟩⟩
  case round =>
    clear HR
    obtain ⟨i, hi, hg, rfl, HR, HO⟩ := hrel
    by_cases hil : i < xs.length
    · have hiz : (i : Int) < (xs.length : Int) := by omega
      have hi0 : (0 : Int) ≤ (i : Int) := by omega
      go_wp2
      obtain ⟨W8, hW8⟩ : ∃ W8, W8 = wr := ⟨_, rfl⟩
      rw [← hW8] at HR HO ⊢
      clear hW8
      go_loopg [3] xs[i].length (fun gg s3 wq => ∃ k : Nat, k ≤ xs[i].length ∧ xs[i].length - k ≤ gg ∧ s3 = .int .i64 (k : Int) ∧ Aside0 (Rows2 wq ok gt xs) ∧ Aside0 (Only ok W wq))
      case atStart => exact ⟨0, Nat.zero_le _, by omega, by go_num, HR, HO⟩
      case round =>
        clear HR HO
        obtain ⟨k, hk, hgk, rfl, HR, HO⟩ := hrel
        have hci := HW.out _ (List.getElem_mem hil)
        obtain ⟨A, c, hx, hlc, hkk⟩ := HR.out.row i hil
        have HKK := Aside0.mk hkk
        clear hkk
        obtain ⟨n, hn⟩ : ∃ n, xs[i].length = n := ⟨_, rfl⟩
        rw [hn] at hx hlc HKK hk hgk hci
        by_cases hkl : k < n
        · have hkz : (k : Int) < (n : Int) := by omega
          obtain ⟨g, eA, hok, hne, cells, hc, hsz⟩ := HKK.out k hkl
          subst eA
          have hx2 : wr.cell? ⟨g, k, none⟩ = some cells[k] := (blk_cell hc k).trans (Array.getElem?_eq_getElem hsz)
          have hf2 := blk_frozen hc k
          have HO2 := Aside0.mk (HO.out.set (k := k) hok (.int .i64 77))
          have HR2 := Aside0.mk (HR.out.set (j := k) hne (.int .i64 77))
          generalize cells[k] = u at hx2
          clear hc
          go_wp2
          go_roundg (n - (k + 1))
          case measure => omega
          case rel => exact ⟨k + 1, by omega, by omega, by go_num, HR2, HO2⟩
        · have hkz : ¬ (k : Int) < (n : Int) := by omega
          go_wp2
          go_roundg (xs.length - (i + 1))
          case measure => omega
          case rel => exact ⟨i + 1, by omega, by omega, by go_num, HR, HO⟩
    · have hiz : ¬ (i : Int) < (xs.length : Int) := by omega
      go_wp2
      go_end0
      exact ⟨rfl, HO.out⟩
end Go.Proofs.Ythnbmlpjbhhamaa.J
