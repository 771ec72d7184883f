/- What is known, by definition (chapter 11's words), and that the program's way comes to just this. No program in sight. -/
import Derived.Test.YteinkjhimceljaaGreatDoorT11
namespace Go.Proofs.YteinkjhimceljaaGreatDoor.Uk
set_option linter.unusedVariables false
open Un
inductive Known (cls : List (List Int)) (fixed : List Int) : Int → Prop
 | fix {n : Int} : n ∈ fixed → Known cls fixed n
 | unit {c : List Int} {n : Int} : c ∈ cls → n ∈ c → (∀ m ∈ c, m ≠ n → Known cls fixed (-m)) → Known cls fixed n
def Clash (cls : List (List Int)) (fixed : List Int) : Prop := (∃ n, Known cls fixed n ∧ Known cls fixed (-n)) ∨ ∃ c ∈ cls, ∀ m ∈ c, Known cls fixed (-m)
def Lit (N : Nat) (n : Int) : Prop := n ≠ 0 ∧ n.natAbs < N
theorem val_neg (vals : List Int) {n : Int} (h : n ≠ 0) : val vals (-n) = -(val vals n) := by
 unfold val
 have e : (-n).natAbs = n.natAbs := Int.natAbs_neg n
 rw [e]
 by_cases hp : n < 0
 · rw [if_neg (by omega), if_pos hp]; omega
 · rw [if_pos (by omega), if_neg hp]
theorem getD_set (l : List Int) (i j : Nat) (x : Int) (h : i < l.length) : (l.set i x).getD j 0 = if j = i then x else l.getD j 0 := by
 simp only [List.getD_eq_getElem?_getD, List.getElem?_set]
 by_cases e : i = j
 · subst e; simp [h]
 · rw [if_neg (fun h : j = i => e h.symm)]; simp [e]
theorem val_put (vals : List Int) {n : Int} (hn : Lit vals.length n) (m : Int) : val (put vals n) m = if m = n then 1 else if m = -n then -1 else val vals m := by
 obtain ⟨h0, hl⟩ := hn
 unfold val put
 rw [getD_set _ _ _ _ hl]
 by_cases e1 : m = n
 · subst e1
   rw [if_pos rfl]
   by_cases hp : m < 0
   · simp [hp]
   · simp [hp]
 · by_cases e2 : m = -n
   · subst e2
     have e : (-n).natAbs = n.natAbs := Int.natAbs_neg n
     rw [if_neg e1, if_pos rfl, e, if_pos rfl]
     by_cases hp : n < 0
     · rw [if_neg (by omega), if_pos hp]
     · rw [if_pos (by omega), if_neg hp]
   · rw [if_neg e1, if_neg e2, if_neg (show ¬ m.natAbs = n.natAbs by omega)]
def Rests (vals : List Int) (c : List Int) : Prop := (∃ m ∈ c, val vals m = 1) ∨ ∃ m ∈ c, ∃ m' ∈ c, m ≠ m' ∧ val vals m = 0 ∧ val vals m' = 0
def Done (vals ws c : List Int) : Prop := Rests vals c ∨ ∃ n ∈ ws, -n ∈ c
theorem put_done {vals ws c : List Int} {n : Int} (hn : Lit vals.length n) (h0 : val vals n = 0) (h : Done vals ws c) : Done (put vals n) (ws ++ [n]) c := by
 rcases h with (⟨m, hm, h1⟩ | ⟨m, hm, m', hm', hne, h1, h2⟩) | ⟨k, hk, hc⟩
 · refine .inl (.inl ⟨m, hm, ?_⟩)
   rw [val_put vals hn]
   have : val vals (-n) = 0 := by rw [val_neg vals hn.1, h0]; rfl
   by_cases e1 : m = n
   · rw [if_pos e1]
   · by_cases e2 : m = -n
     · subst e2; omega
     · rw [if_neg e1, if_neg e2]; exact h1
 · by_cases e1 : m = n ∨ m' = n
   · refine .inl (.inl ?_)
     rcases e1 with e1 | e1
     · exact ⟨m, hm, by rw [val_put vals hn, if_pos e1]⟩
     · exact ⟨m', hm', by rw [val_put vals hn, if_pos e1]⟩
   · by_cases e2 : m = -n ∨ m' = -n
     · refine .inr ⟨n, by simp, ?_⟩
       rcases e2 with e2 | e2
       · rw [← e2]; exact hm
       · rw [← e2]; exact hm'
     · refine .inl (.inr ⟨m, hm, m', hm', hne, ?_, ?_⟩)
       · rw [val_put vals hn, if_neg (fun h => e1 (.inl h)), if_neg (fun h => e2 (.inl h))]; exact h1
       · rw [val_put vals hn, if_neg (fun h => e1 (.inr h)), if_neg (fun h => e2 (.inr h))]; exact h2
 · exact .inr ⟨k, List.mem_append_left _ hk, hc⟩
theorem set_cases (vals ws : List Int) (hx : ∀ x ∈ vals, -1 ≤ x ∧ x ≤ 1) (n : Int) :
 (val vals n = 1 ∧ Un.set vals ws n = (true, vals, ws)) ∨ (val vals n = -1 ∧ Un.set vals ws n = (false, vals, ws)) ∨ (val vals n = 0 ∧ Un.set vals ws n = (true, put vals n, ws ++ [n])) := by
 have := val_range hx n
 by_cases h1 : val vals n = 1
 · exact .inl ⟨h1, by unfold Un.set; rw [if_pos h1]⟩
 · by_cases h2 : val vals n = -1
   · exact .inr (.inl ⟨h2, by unfold Un.set; rw [if_neg h1, if_pos h2]⟩)
   · exact .inr (.inr ⟨by omega, by unfold Un.set; rw [if_neg h1, if_neg h2]⟩)
theorem scan_some {vals : List Int} (hx : ∀ x ∈ vals, -1 ≤ x ∧ x ≤ 1) : ∀ (c : List Int) (l0 left : Int), (∀ m ∈ c, m ≠ 0) → scan vals c l0 = some left → (l0 ≠ 0 → left = l0) ∧ (∀ m ∈ c, val vals m = -1 ∨ (val vals m = 0 ∧ m = left)) ∧ (left ≠ 0 → left = l0 ∨ (left ∈ c ∧ val vals left = 0))
 | [], l0, left, _, h => by
  obtain rfl := Option.some.inj h
  exact ⟨fun _ => rfl, fun m hm => (by cases hm), fun _ => .inl rfl⟩
 | m :: c, l0, left, hc, h => by
  rw [scan] at h
  have hr := val_range hx m
  have hm0 : m ≠ 0 := hc m List.mem_cons_self
  split at h
  · exact absurd h (by simp)
  · rename_i hn
    have ih := scan_some hx c _ left (fun k hk => hc k (List.mem_cons_of_mem _ hk)) h
    by_cases h0 : val vals m = 0
    · rw [if_pos h0] at ih
      obtain ⟨i1, i2, i3⟩ := ih
      have hl : left = m := i1 hm0
      refine ⟨fun hl0 => ?_, ?_, fun _ => .inr ⟨by rw [hl]; exact List.mem_cons_self, by rw [hl]; exact h0⟩⟩
      · by_cases e : l0 = m
        · rw [hl, e]
        · exact absurd (.inr ⟨h0, hl0, e⟩) hn
      · intro k hk
        rcases List.mem_cons.1 hk with rfl | hk
        · exact .inr ⟨h0, hl.symm⟩
        · exact i2 k hk
    · rw [if_neg h0] at ih
      obtain ⟨i1, i2, i3⟩ := ih
      refine ⟨i1, ?_, fun hl => ?_⟩
      · intro k hk
        rcases List.mem_cons.1 hk with rfl | hk
        · refine .inl ?_
          have : ¬ val vals k = 1 := fun h => hn (.inl h)
          omega
        · exact i2 k hk
      · rcases i3 hl with e | ⟨e1, e2⟩
        · exact .inl e
        · exact .inr ⟨List.mem_cons_of_mem _ e1, e2⟩
theorem scan_rests {vals : List Int} : ∀ (c : List Int) (l0 : Int), scan vals c l0 = none → (∃ m ∈ c, val vals m = 1) ∨ (∃ m ∈ c, val vals m = 0 ∧ l0 ≠ 0 ∧ l0 ≠ m) ∨ ∃ m ∈ c, ∃ m' ∈ c, m ≠ m' ∧ val vals m = 0 ∧ val vals m' = 0
 | [], l0, h => by simp [scan] at h
 | m :: c, l0, h => by
  rw [scan] at h
  split at h
  · rename_i hn
    rcases hn with hn | ⟨h0, h1, h2⟩
    · exact .inl ⟨m, List.mem_cons_self, hn⟩
    · exact .inr (.inl ⟨m, List.mem_cons_self, h0, h1, h2⟩)
  · rename_i hn
    rcases scan_rests c _ h with ⟨k, hk, h1⟩ | ⟨k, hk, h0, h1, h2⟩ | ⟨k, hk, k', hk', hne, h1, h2⟩
    · exact .inl ⟨k, List.mem_cons_of_mem _ hk, h1⟩
    · by_cases e : val vals m = 0
      · rw [if_pos e] at h1 h2
        exact .inr (.inr ⟨m, List.mem_cons_self, k, List.mem_cons_of_mem _ hk, h2, e, h0⟩)
      · rw [if_neg e] at h1 h2
        exact .inr (.inl ⟨k, List.mem_cons_of_mem _ hk, h0, h1, h2⟩)
    · exact .inr (.inr ⟨k, List.mem_cons_of_mem _ hk, k', List.mem_cons_of_mem _ hk', hne, h1, h2⟩)
theorem scan_none {vals c : List Int} (h : scan vals c 0 = none) : Rests vals c := by
 rcases scan_rests c 0 h with h | ⟨_, _, _, h, _⟩ | h
 · exact .inl h
 · exact absurd rfl h
 · exact .inr h
section
variable (cls : List (List Int)) (fixed : List Int) (N : Nat)
structure Good (vals ws : List Int) : Prop where
 len : vals.length = N
 rng : ∀ x ∈ vals, -1 ≤ x ∧ x ≤ 1
 snd : ∀ n, Lit N n → val vals n = 1 → Known cls fixed n
 wts : ∀ n ∈ ws, Lit N n
 zer : vals.getD 0 0 = 0
variable {cls fixed N}
theorem Good.less {vals ws : List Int} (h : Good cls fixed N vals ws) {n : Int} (hn : Lit N n) (hv : val vals n = -1) : Known cls fixed (-n) :=
 h.snd (-n) ⟨by have := hn.1; omega, by rw [Int.natAbs_neg]; exact hn.2⟩ (by rw [val_neg vals hn.1, hv]; rfl)
theorem Good.put {vals ws : List Int} (h : Good cls fixed N vals ws) {n : Int} (hn : Lit N n) (h0 : val vals n = 0) (hk : Known cls fixed n) : Good cls fixed N (put vals n) (ws ++ [n]) where
 len := by simp [Un.put, h.len]
 rng := by
  intro y hy
  unfold Un.put at hy
  rcases List.mem_or_eq_of_mem_set hy with hy | rfl
  · exact h.rng y hy
  · split <;> omega
 snd := by
  intro m hm hv
  rw [val_put vals (by rw [h.len]; exact hn)] at hv
  by_cases e1 : m = n
  · rw [e1]; exact hk
  · rw [if_neg e1] at hv
    by_cases e2 : m = -n
    · rw [if_pos e2] at hv; omega
    · rw [if_neg e2] at hv; exact h.snd m hm hv
 wts := by
  intro m hm
  rcases List.mem_append.1 hm with hm | hm
  · exact h.wts m hm
  · rw [List.mem_singleton.1 hm]; exact hn
 zer := by
  unfold Un.put
  rw [getD_set _ _ _ _ (by rw [h.len]; exact hn.2), if_neg (by have := hn.1; omega)]
  exact h.zer
theorem put_keeps {vals : List Int} {n : Int} (hn : Lit vals.length n) (h0 : val vals n = 0) {m : Int} (hm : val vals m = 1) : val (put vals n) m = 1 := by
 rw [val_put vals hn]
 by_cases e1 : m = n
 · rw [if_pos e1]
 · have : val vals (-n) = 0 := by rw [val_neg vals hn.1, h0]; rfl
   rw [if_neg e1, if_neg (fun e => by rw [e] at hm; omega)]; exact hm
theorem look_spec (n : Int) : ∀ (rest : List (List Int)) (vals ws : List Int), (∀ c ∈ rest, c ∈ cls) → (∀ c ∈ rest, ∀ m ∈ c, Lit N m) → Good cls fixed N vals ws →
 ((look n rest vals ws).1 = false → Clash cls fixed) ∧
 (Good cls fixed N (look n rest vals ws).2.1 (look n rest vals ws).2.2 ∧ (∀ m, val vals m = 1 → val (look n rest vals ws).2.1 m = 1) ∧ (∀ c, Done vals ws c → Done (look n rest vals ws).2.1 (look n rest vals ws).2.2 c) ∧
  ((look n rest vals ws).1 = true → ∀ c ∈ rest, skip n c = false → Done (look n rest vals ws).2.1 (look n rest vals ws).2.2 c))
 | [], vals, ws, _, _, hg => ⟨fun h => absurd h (by simp [look]), hg, fun _ h => h, fun _ h => h, fun _ c hc => by cases hc⟩
 | c :: cs, vals, ws, hin, hL, hg => by
  have hin' : ∀ c ∈ cs, c ∈ cls := fun d hd => hin d (List.mem_cons_of_mem _ hd)
  have hL' : ∀ c ∈ cs, ∀ m ∈ c, Lit N m := fun d hd => hL d (List.mem_cons_of_mem _ hd)
  rw [look]
  split
  · rename_i hs
    obtain ⟨a, b, c1, d, e⟩ := look_spec n cs vals ws hin' hL' hg
    refine ⟨a, b, c1, d, fun ht k hk hsk => ?_⟩
    rcases List.mem_cons.1 hk with rfl | hk
    · rw [hs] at hsk; exact absurd hsk (by decide)
    · exact e ht k hk hsk
  · rename_i hs
    cases hsc : scan vals c 0 with
    | none =>
     simp only
     obtain ⟨a, b, c1, d, e⟩ := look_spec n cs vals ws hin' hL' hg
     refine ⟨a, b, c1, d, fun ht k hk hsk => ?_⟩
     rcases List.mem_cons.1 hk with rfl | hk
     · exact d k (.inl (scan_none hsc))
     · exact e ht k hk hsk
    | some left =>
     simp only
     obtain ⟨s1, s2, s3⟩ := scan_some hg.rng c 0 left (fun m hm => (hL c List.mem_cons_self m hm).1) hsc
     by_cases h0 : left = 0
     · rw [if_pos h0]
       refine ⟨fun _ => .inr ⟨c, hin c List.mem_cons_self, fun m hm => ?_⟩, hg, fun _ h => h, fun _ h => h, fun h => absurd h (by simp)⟩
       have hm0 := (hL c List.mem_cons_self m hm)
       rcases s2 m hm with h | ⟨_, h⟩
       · exact hg.less hm0 h
       · exact absurd (h.trans h0) hm0.1
     · rw [if_neg h0]
       rcases s3 h0 with e | ⟨hlc, hl0⟩
       · exact absurd e h0
       have hll := hL c List.mem_cons_self left hlc
       rcases set_cases vals ws hg.rng left with ⟨h, _⟩ | ⟨h, _⟩ | ⟨_, hst⟩
       · omega
       · omega
       rw [hst]
       simp only
       have hkn : Known cls fixed left := .unit (hin c List.mem_cons_self) hlc (fun m hm hne => by
        rcases s2 m hm with h | ⟨_, h⟩
        · exact hg.less (hL c List.mem_cons_self m hm) h
        · exact absurd h hne)
       have hg2 := hg.put hll hl0 hkn
       have hll2 : Lit vals.length left := by rw [hg.len]; exact hll
       obtain ⟨a, b, c1, d, e⟩ := look_spec n cs (put vals left) (ws ++ [left]) hin' hL' hg2
       refine ⟨a, b, fun m hm => c1 m (put_keeps hll2 hl0 hm), fun k hk => d k (put_done hll2 hl0 hk), fun ht k hk hsk => ?_⟩
       rcases List.mem_cons.1 hk with rfl | hk
       · exact d k (.inl (.inl ⟨left, hlc, by rw [val_put vals hll2, if_pos rfl]⟩))
       · exact e ht k hk hsk
theorem fix_spec : ∀ (rest : List Int) (vals ws : List Int), (∀ m ∈ rest, m ∈ fixed ∧ Lit N m) → Good cls fixed N vals ws →
 ((fix rest vals ws).1 = false → Clash cls fixed) ∧
 (Good cls fixed N (fix rest vals ws).2.1 (fix rest vals ws).2.2 ∧ (∀ m, val vals m = 1 → val (fix rest vals ws).2.1 m = 1) ∧ (∀ c, Done vals ws c → Done (fix rest vals ws).2.1 (fix rest vals ws).2.2 c) ∧
  ((fix rest vals ws).1 = true → ∀ m ∈ rest, val (fix rest vals ws).2.1 m = 1))
 | [], vals, ws, _, hg => ⟨fun h => absurd h (by simp [fix]), hg, fun _ h => h, fun _ h => h, fun _ m hm => by cases hm⟩
 | n :: rest, vals, ws, hin, hg => by
  have hin' : ∀ m ∈ rest, m ∈ fixed ∧ Lit N m := fun d hd => hin d (List.mem_cons_of_mem _ hd)
  obtain ⟨hnf, hnl⟩ := hin n List.mem_cons_self
  rw [fix]
  rcases set_cases vals ws hg.rng n with ⟨h, hst⟩ | ⟨h, hst⟩ | ⟨h, hst⟩
  · rw [hst]
    simp only
    obtain ⟨a, b, c1, d, e⟩ := fix_spec rest vals ws hin' hg
    refine ⟨a, b, c1, d, fun ht m hm => ?_⟩
    rcases List.mem_cons.1 hm with rfl | hm
    · exact c1 m h
    · exact e ht m hm
  · rw [hst]
    simp only
    refine ⟨fun _ => .inl ⟨n, .fix hnf, hg.less hnl h⟩, hg, fun _ h => h, fun _ h => h, fun h => absurd h (by simp)⟩
  · rw [hst]
    simp only
    have hg2 := hg.put hnl h (.fix hnf)
    have hll2 : Lit vals.length n := by rw [hg.len]; exact hnl
    obtain ⟨a, b, c1, d, e⟩ := fix_spec rest (put vals n) (ws ++ [n]) hin' hg2
    refine ⟨a, b, fun m hm => c1 m (put_keeps hll2 h hm), fun k hk => d k (put_done hll2 h hk), fun ht m hm => ?_⟩
    rcases List.mem_cons.1 hm with rfl | hm
    · exact c1 m (by rw [val_put vals hll2, if_pos rfl])
    · exact e ht m hm
end
section
variable {cls : List (List Int)} {fixed : List Int} {N : Nat}
theorem loop_spec (hL : ∀ c ∈ cls, ∀ m ∈ c, Lit N m) : ∀ (k : Nat) (ok : Bool) (vals ws : List Int), Good cls fixed N vals ws → (ok = false → Clash cls fixed) → (ok = true → ∀ c ∈ cls, Done vals ws c) → ws.length + free vals < k →
 ∃ ok' v', loop cls k ok vals ws = some (ok', v') ∧ (ok' = false → Clash cls fixed) ∧ (ok' = true → (∃ w', Good cls fixed N v' w') ∧ (∀ m, val vals m = 1 → val v' m = 1) ∧ ∀ c ∈ cls, Rests v' c)
 | 0, _, _, _, _, _, _, h => absurd h (Nat.not_lt_zero _)
 | k + 1, ok, vals, ws, hg, hf, hd, hk => by
  cases ws with
  | nil =>
   refine ⟨ok, vals, by rw [loop], hf, fun ht => ⟨⟨_, hg⟩, fun _ h => h, fun c hc => ?_⟩⟩
   rcases hd ht c hc with h | ⟨n, hn, _⟩
   · exact h
   · cases hn
  | cons n ws =>
   cases ok with
   | false => exact ⟨false, vals, by rw [loop]; simp, hf, fun h => absurd h (by decide)⟩
   | true =>
    have hnl := hg.wts n List.mem_cons_self
    have hg' : Good cls fixed N vals ws := ⟨hg.len, hg.rng, hg.snd, fun m hm => hg.wts m (List.mem_cons_of_mem _ hm), hg.zer⟩
    obtain ⟨a, b, c1, d, e⟩ := look_spec (cls := cls) n cls vals ws (fun _ h => h) hL hg'
    have hinv := (look_inv n cls vals ws hg.rng (fun c hc m hm => by rw [hg.len]; exact (hL c hc m hm).2)).2.1
    rcases hlk : look n cls vals ws with ⟨ok2, v2, w2⟩
    rw [hlk] at a b c1 d e hinv
    simp only at a b c1 d e hinv
    have hlt : w2.length + free v2 < k := by simp only [List.length_cons] at hk; omega
    obtain ⟨ok', v', h1, h2, h3⟩ := loop_spec hL k ok2 v2 w2 b a (fun ht c hc => by
     by_cases hs : skip n c = true
     · rcases hd rfl c hc with h | ⟨m, hm, hmc⟩
       · exact d c (.inl h)
       · rcases List.mem_cons.1 hm with rfl | hm
         · exfalso
           unfold skip at hs
           simp [hnl.1, hmc] at hs
         · exact d c (.inr ⟨m, hm, hmc⟩)
     · exact e ht c hc (by simpa using hs)) hlt
    refine ⟨ok', v', by rw [loop]; simp only [Bool.true_eq_false, if_false, hlk]; exact h1, h2, fun ht => ?_⟩
    obtain ⟨x1, x2, x3⟩ := h3 ht
    exact ⟨x1, fun m hm => x2 m (c1 m hm), x3⟩
theorem known_val {vals ws : List Int} (hL : ∀ c ∈ cls, ∀ m ∈ c, Lit N m) (hg : Good cls fixed N vals ws) (hf : ∀ m ∈ fixed, val vals m = 1) (hr : ∀ c ∈ cls, Rests vals c) {n : Int} (h : Known cls fixed n) : val vals n = 1 := by
 induction h with
 | fix h => exact hf _ h
 | @unit c n hc hn _ ih =>
  have key : ∀ m ∈ c, m ≠ n → val vals m = -1 := fun m hm hne => by
   have := ih m hm hne
   rw [val_neg vals (hL c hc m hm).1] at this
   omega
  rcases hr c hc with ⟨m, hm, h1⟩ | ⟨m, hm, m', hm', hne, h1, h2⟩
  · by_cases e : m = n
    · rw [← e]; exact h1
    · have := key m hm e; omega
  · by_cases e : m = n
    · have := key m' hm' (fun e' => hne (e.trans e'.symm)); omega
    · have := key m hm e; omega
theorem known_lit (hL : ∀ c ∈ cls, ∀ m ∈ c, Lit N m) (hF : ∀ m ∈ fixed, Lit N m) {n : Int} (h : Known cls fixed n) : Lit N n := by
 cases h with
 | fix h => exact hF _ h
 | unit hc hn _ => exact hL _ hc _ hn
theorem no_clash {vals ws : List Int} (hL : ∀ c ∈ cls, ∀ m ∈ c, Lit N m) (hF : ∀ m ∈ fixed, Lit N m) (hg : Good cls fixed N vals ws) (hf : ∀ m ∈ fixed, val vals m = 1) (hr : ∀ c ∈ cls, Rests vals c) : ¬ Clash cls fixed := by
 rintro (⟨n, h1, h2⟩ | ⟨c, hc, h⟩)
 · have a := known_val hL hg hf hr h1
   have b := known_val hL hg hf hr h2
   rw [val_neg vals (known_lit hL hF h1).1] at b
   omega
 · have key : ∀ m ∈ c, val vals m = -1 := fun m hm => by
    have := known_val hL hg hf hr (h m hm)
    rw [val_neg vals (hL c hc m hm).1] at this
    omega
   rcases hr c hc with ⟨m, hm, h1⟩ | ⟨m, hm, m', hm', hne, h1, h2⟩
   · have := key m hm; omega
   · have := key m hm; omega
end
theorem good_zero (cls : List (List Int)) (fixed : List Int) (N : Nat) : Good cls fixed N (List.replicate N 0) [] where
 len := by simp
 rng := fun x hx => by rw [(List.mem_replicate.1 hx).2]; omega
 snd := fun n hn h => by
  have : val (List.replicate N 0) n = 0 := by unfold val; simp [List.getD_eq_getElem?_getD, hn.2]
  omega
 wts := fun n hn => by cases hn
 zer := by cases N <;> simp
theorem zero_done (N : Nat) (c : List Int) (hL : ∀ m ∈ c, Lit N m) (h : skip 0 c = true) : Done (List.replicate N 0) [] c := by
 unfold skip at h
 have hz : ∀ m ∈ c, val (List.replicate N 0) m = 0 := fun m hm => by
  unfold val; simp [List.getD_eq_getElem?_getD, (hL m hm).2]
 simp at h
 obtain ⟨hl, hne⟩ := h
 have h0 : 0 < c.length := hl
 have e0 : c[0]?.getD 0 = c[0] := by simp [h0]
 have e1 : c[c.length - 1]?.getD 0 = c[c.length - 1]'(by omega) := by simp [show c.length - 1 < c.length by omega]
 refine .inl (.inr ⟨c[0], List.getElem_mem h0, c[c.length - 1]'(by omega), List.getElem_mem _, ?_, hz _ (List.getElem_mem h0), hz _ (List.getElem_mem _)⟩)
 intro e
 apply hne
 first
 | exact e
 | (rw [e1]; exact e)
 | (rw [e0, e1]; exact e)
theorem run_spec (nv : Nat) (cls : List (List Int)) (fixed : List Int) (hc : Sp.check nv cls = 0) (hf : ∀ m ∈ fixed, Sp.lit nv m = true) :
 ∃ k r, run k nv cls fixed = some r ∧ ((Clash cls fixed ∧ r.1 = 110) ∨ (¬ Clash cls fixed ∧ r.1 = 0 ∧ r.2.length = nv + 1 ∧ (∀ x ∈ r.2, -1 ≤ x ∧ x ≤ 1) ∧ r.2.getD 0 0 = 0 ∧ ∀ n, Lit (nv + 1) n → (val r.2 n = 1 ↔ Known cls fixed n))) := by
 obtain ⟨v0, v1, hLs⟩ := Sp.check_ok hc
 have lit_of : ∀ m, Sp.lit nv m = true → Lit (nv + 1) m := fun m hm => by
  have := Sp.lit_iff.1 hm
  exact ⟨this.1, by omega⟩
 have hL : ∀ c ∈ cls, ∀ m ∈ c, Lit (nv + 1) m := fun c h m hm => lit_of m (hLs c h m hm)
 have hF : ∀ m ∈ fixed, Lit (nv + 1) m := fun m hm => lit_of m (hf m hm)
 have hall : fixed.all (Sp.lit nv) = true := List.all_eq_true.2 hf
 obtain ⟨a, b, c1, d, e⟩ := fix_spec (cls := cls) (fixed := fixed) (N := nv + 1) fixed (List.replicate (nv + 1) 0) [] (fun m hm => ⟨hm, hF m hm⟩) (good_zero cls fixed (nv + 1))
 rcases hfx : fix fixed (List.replicate (nv + 1) 0) [] with ⟨ok, v2, w2⟩
 rw [hfx] at a b c1 d e
 simp only at a b c1 d e
 have hrun : ∀ k, run k nv cls fixed = match (ok, v2, w2) with
  | (false, _, _) => some (110, [])
  | (true, v1, w1) => match look 0 cls v1 w1 with
   | (ok, v2, w2) => match loop cls k ok v2 w2 with
    | none => none
    | some (false, _) => some (110, [])
    | some (true, v3) => some (0, v3) := fun k => by
  unfold run
  rw [if_neg (by rw [hc]; simp), if_neg (by rw [hall]; simp), Int.toNat_natCast, hfx]
  rfl
 cases ok with
 | false => exact ⟨0, (110, []), hrun 0, .inl ⟨a rfl, rfl⟩⟩
 | true =>
  obtain ⟨a2, b2, c2, d2, e2⟩ := look_spec (cls := cls) (fixed := fixed) 0 cls v2 w2 (fun _ h => h) hL b
  rcases hlk : look 0 cls v2 w2 with ⟨ok3, v3, w3⟩
  rw [hlk] at a2 b2 c2 d2 e2
  simp only at a2 b2 c2 d2 e2
  obtain ⟨ok', v', h1, h2, h3⟩ := loop_spec hL (w3.length + free v3 + 1) ok3 v3 w3 b2 a2 (fun ht c hcl => by
   by_cases hs : skip 0 c = true
   · exact d2 c (d c (zero_done (nv + 1) c (hL c hcl) hs))
   · exact e2 ht c hcl (by simpa using hs)) (by omega)
  cases ok' with
  | false => exact ⟨w3.length + free v3 + 1, (110, []), by rw [hrun]; simp only [hlk, h1], .inl ⟨h2 rfl, rfl⟩⟩
  | true =>
   obtain ⟨⟨w', x1⟩, x2, x3⟩ := h3 rfl
   have hfv : ∀ m ∈ fixed, val v' m = 1 := fun m hm => x2 m (c2 m (e rfl m hm))
   refine ⟨w3.length + free v3 + 1, (0, v'), by rw [hrun]; simp only [hlk, h1], .inr ⟨no_clash hL hF x1 hfv x3, rfl, x1.len, x1.rng, x1.zer, fun n hn => ⟨x1.snd n hn, fun h => known_val hL x1 hfv x3 h⟩⟩⟩
open Classical in
noncomputable def told (nv : Nat) (P : Int → Prop) : List Int := (List.range nv).filterMap fun (i : Nat) => if P ((i : Int) + 1) then some ((i : Int) + 1) else if P (-((i : Int) + 1)) then some (-((i : Int) + 1)) else none
open Classical in
noncomputable def prop (vars : Int) (cls : List (List Int)) (fixed : List Int) : List Int × Int :=
 if Sp.check vars cls ≠ 0 then ([], Sp.check vars cls) else
 if ¬ (∀ m ∈ fixed, Sp.lit vars m = true) then ([], 100) else
 if Clash cls fixed then ([], 110) else (told vars.toNat (Known cls fixed), 0)
open Classical in
noncomputable def free (vars : Int) (cls : List (List Int)) (fixed : List Int) : Int :=
 if (prop vars cls fixed).2 ≠ 0 then 0 else
 match (List.range vars.toNat).find? (fun (i : Nat) => decide (¬ Known cls fixed ((i : Int) + 1) ∧ ¬ Known cls fixed (-((i : Int) + 1)))) with
 | some i => (i : Int) + 1
 | none => 0
theorem filterMap_congr' {α β : Type} {f g : α → Option β} : ∀ {l : List α}, (∀ x ∈ l, f x = g x) → l.filterMap f = l.filterMap g
 | [], _ => rfl
 | a :: l, h => by
  rw [List.filterMap_cons, List.filterMap_cons, h a List.mem_cons_self, filterMap_congr' (fun x hx => h x (List.mem_cons_of_mem _ hx))]
theorem tell_told {nv : Nat} {vals : List Int} {P : Int → Prop} (hl : vals.length = nv + 1) (hx : ∀ x ∈ vals, -1 ≤ x ∧ x ≤ 1) (h0 : vals.getD 0 0 = 0) (hP : ∀ n, Lit (nv + 1) n → (val vals n = 1 ↔ P n)) : tell vals = told nv P := by
 unfold tell upto told
 rw [hl, List.range_succ_eq_map, List.filterMap_cons, if_pos h0]
 rw [List.filterMap_map]
 refine filterMap_congr' (fun i hi => ?_)
 have hi' : i < nv := List.mem_range.1 hi
 have p1 := hP ((i : Int) + 1) ⟨by omega, by omega⟩
 have p2 := hP (-((i : Int) + 1)) ⟨by omega, by omega⟩
 have v1 : val vals ((i : Int) + 1) = vals.getD (i + 1) 0 := by
  unfold val; rw [if_neg (by omega)]; congr 1
 have v2 : val vals (-((i : Int) + 1)) = -(vals.getD (i + 1) 0) := by rw [val_neg vals (by omega), v1]
 have hr := val_range hx ((i : Int) + 1)
 rw [v1] at p1 hr
 rw [v2] at p2
 simp only [Function.comp, Nat.succ_eq_add_one]
 by_cases e1 : vals.getD (i + 1) 0 = 1
 · rw [if_neg (by omega), if_pos (p1.1 e1), e1]; congr 1; simp
 · rw [if_neg (fun h => e1 (p1.2 h))]
   by_cases e2 : vals.getD (i + 1) 0 = -1
   · rw [if_neg (by omega), if_pos (p2.1 (by omega)), e2]; congr 1; simp
   · rw [if_pos (by omega), if_neg (fun h => e2 (by have := p2.2 h; omega))]
theorem freeVar_free {nv : Nat} {vals : List Int} {P : Int → Prop} (Q : Nat → Bool) (hl : vals.length = nv + 1) (hQ : ∀ i, i < nv → (Q i = true ↔ vals.getD (i + 1) 0 = 0)) :
 freeVar vals = match (List.range nv).find? Q with | some i => (i : Int) + 1 | none => 0 := by
 unfold freeVar
 have key : (vals.drop 1).findIdx? (fun x => 0 == x) = (List.range nv).find? Q := by
  cases h : (List.range nv).find? Q with
  | none =>
   rw [List.findIdx?_eq_none_iff]
   intro x hx
   obtain ⟨j, hj, rfl⟩ := List.mem_iff_getElem.1 hx
   have hj' : j < nv := by simp at hj; omega
   have := List.find?_eq_none.1 h j (List.mem_range.2 hj')
   rw [hQ j hj'] at this
   have e : (vals.drop 1)[j] = vals.getD (j + 1) 0 := by simp [show j + 1 < vals.length by omega]
   rw [e]
   simp only [beq_eq_false_iff_ne]
   exact fun h => this h.symm
  | some i =>
   rw [List.findIdx?_eq_some_iff_getElem]
   obtain ⟨h1, as, bs, h2, h3⟩ := List.find?_eq_some_iff_append.1 h
   have hlen : i = as.length := by
    have : (List.range nv)[as.length]? = some i := by rw [h2]; simp
    rw [List.getElem?_range] at this
    · exact (Option.some.inj this).symm
    · have := congrArg List.length h2
      simp at this; omega
   have hi : i < nv := by
    have := congrArg List.length h2
    simp at this; omega
   refine ⟨by simp; omega, ?_, fun j hj => ?_⟩
   · have e : (vals.drop 1)[i]'(by simp; omega) = vals.getD (i + 1) 0 := by simp [show i + 1 < vals.length by omega]
     rw [e]
     exact beq_iff_eq.2 ((hQ i hi).1 h1).symm
   · have hjn : j < nv := by omega
     have hja : j ∈ as := by
      have : (List.range nv)[j]? = some j := by rw [List.getElem?_range hjn]
      rw [h2, List.getElem?_append_left (by omega)] at this
      exact List.mem_of_getElem? this
     have e : (vals.drop 1)[j]'(by simp; omega) = vals.getD (j + 1) 0 := by simp [show j + 1 < vals.length by omega]
     rw [e]
     have := h3 j hja
     simp only [Bool.not_eq_true'] at this
     intro hc
     have h0 : vals.getD (j + 1) 0 = 0 := (beq_iff_eq.1 hc).symm
     rw [(hQ j hjn).2 h0] at this
     exact absurd this (by decide)
 rw [key]
 cases (List.range nv).find? Q <;> rfl
open Classical in
theorem run_prop (vars : Int) (cls : List (List Int)) (fixed : List Int) : ∃ k r, run k vars cls fixed = some r ∧ (if r.1 ≠ 0 then ([], r.1) else (tell r.2, 0)) = prop vars cls fixed ∧ (if r.1 ≠ 0 then 0 else freeVar r.2) = free vars cls fixed := by
 by_cases hc : Sp.check vars cls = 0
 · obtain ⟨v0, v1, hLs⟩ := Sp.check_ok hc
   obtain ⟨nv, rfl⟩ := Int.eq_ofNat_of_zero_le v0
   by_cases hf : ∀ m ∈ fixed, Sp.lit nv m = true
   · obtain ⟨k, r, h1, h2⟩ := run_spec nv cls fixed hc hf
     refine ⟨k, r, h1, ?_⟩
     rcases h2 with ⟨c1, c2⟩ | ⟨c1, c2, c3, c4, c5, c6⟩
     · have e : prop nv cls fixed = ([], 110) := by unfold prop; rw [if_neg (by simp [hc]), if_neg (by simpa using hf), if_pos c1]
       refine ⟨by rw [e, c2]; rfl, ?_⟩
       unfold free; rw [e, c2]; rfl
     · have e : prop nv cls fixed = (told nv (Known cls fixed), 0) := by unfold prop; rw [if_neg (by simp [hc]), if_neg (by simpa using hf), if_neg c1]; rfl
       rw [if_neg (by simp [c2]), if_neg (by simp [c2])]
       refine ⟨by rw [e, tell_told c3 c4 c5 c6], ?_⟩
       unfold free
       rw [e, if_neg (by simp), Int.toNat_natCast]
       refine freeVar_free (P := Known cls fixed) _ c3 (fun i hi => ?_)
       have p1 := c6 ((i : Int) + 1) ⟨by omega, by omega⟩
       have p2 := c6 (-((i : Int) + 1)) ⟨by omega, by omega⟩
       have v1 : val r.2 ((i : Int) + 1) = r.2.getD (i + 1) 0 := by
        unfold val; rw [if_neg (by omega)]; congr 1
       have v2 : val r.2 (-((i : Int) + 1)) = -(r.2.getD (i + 1) 0) := by rw [val_neg r.2 (by omega), v1]
       have hr := val_range c4 ((i : Int) + 1)
       rw [v1] at p1 hr
       rw [v2] at p2
       rw [decide_eq_true_iff, ← p1, ← p2]
       omega
   · have e : prop nv cls fixed = ([], 100) := by unfold prop; rw [if_neg (by simp [hc]), if_pos (by simpa using hf)]
     have hall : fixed.all (Sp.lit nv) = false := by
      rw [Bool.eq_false_iff]; exact fun h => hf (List.all_eq_true.1 h)
     refine ⟨0, (100, []), by unfold run; rw [if_neg (by simp [hc]), if_pos hall], by rw [e]; rfl, ?_⟩
     unfold free; rw [e]; rfl
 · have e : prop vars cls fixed = ([], Sp.check vars cls) := by unfold prop; rw [if_pos hc]
   refine ⟨0, (Sp.check vars cls, []), by unfold run; rw [if_pos hc], by rw [e, if_pos hc], ?_⟩
   unfold free; rw [e, if_pos hc, if_pos hc]
end Go.Proofs.YteinkjhimceljaaGreatDoor.Uk
