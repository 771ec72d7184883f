/- What the document says of clauses, as plain functions on numbers and lists: no program in sight. Unit propagation as the program does it, as plain functions on lists: no program in sight. -/
namespace Go.Proofs.YteinkjhimceljaaGreatDoor.Sp
set_option linter.unusedVariables false
def lit (vars n : Int) : Bool := decide (n ≠ 0 ∧ -vars ≤ n ∧ n ≤ vars)
theorem lit_iff {vars n : Int} : lit vars n = true ↔ n ≠ 0 ∧ -vars ≤ n ∧ n ≤ vars := by simp [lit]
theorem lit_false {vars n : Int} : lit vars n = false ↔ n = 0 ∨ n < -vars ∨ vars < n := by
 simp only [lit, decide_eq_false_iff_not]; omega
def right (vars : Int) (cls : List (List Int)) : Bool := decide (0 ≤ vars) && (decide (vars ≤ 60) && cls.all (fun c => c.all (lit vars)))
def narrow (cls : List (List Int)) : Bool := cls.all (fun c => decide (c.length ≤ 30))
def check (vars : Int) (cls : List (List Int)) : Int :=
 if 60 < vars ∨ 3000 < cls.length ∨ narrow cls = false then 2 else if right vars cls = false then 100 else 0
def trueIn (m : List Bool) (n : Int) : Bool := lit 60 n && (decide (n.natAbs ≤ m.length) && (m.getD (n.natAbs - 1) false == decide (0 < n)))
def holds (c : List Int) (m : List Bool) : Bool := c.any (trueIn m)
def sat (vars : Int) (cls : List (List Int)) (m : List Bool) : Bool := right vars cls && (decide ((m.length : Int) = vars) && cls.all (fun c => holds c m))
theorem all_not_any {α : Type} (p : α → Bool) (l : List α) : (!l.any (fun x => !p x)) = l.all p := by
 induction l with
 | nil => rfl
 | cons a l ih => simp only [List.any_cons, List.all_cons, Bool.not_or, Bool.not_not, ih]
theorem right_iff {vars : Int} {cls : List (List Int)} : right vars cls = true ↔ 0 ≤ vars ∧ vars ≤ 60 ∧ ∀ c ∈ cls, ∀ m ∈ c, lit vars m = true := by
 simp [right, List.all_eq_true]
theorem check_ok {vars : Int} {cls : List (List Int)} (h : check vars cls = 0) : 0 ≤ vars ∧ vars ≤ 60 ∧ ∀ c ∈ cls, ∀ m ∈ c, lit vars m = true := by
 unfold check at h
 split at h
 · exact absurd h (by decide)
 · split at h
   · exact absurd h (by decide)
   · rename_i h1
     exact right_iff.1 (by simpa using h1)
theorem check_iff {vars : Int} {cls : List (List Int)} : check vars cls = 0 ↔ (0 ≤ vars ∧ vars ≤ 60 ∧ ∀ c ∈ cls, ∀ m ∈ c, lit vars m = true) ∧ cls.length ≤ 3000 ∧ ∀ c ∈ cls, c.length ≤ 30 := by
 rw [← right_iff]
 unfold check narrow
 constructor
 · intro h
   split at h
   · exact absurd h (by decide)
   · rename_i h0
     split at h
     · exact absurd h (by decide)
     · rename_i h1
       have h3 : ¬ (60 < vars) ∧ ¬ (3000 < cls.length) ∧ ¬ (cls.all (fun c => decide (c.length ≤ 30)) = false) := by
        refine ⟨fun h => h0 (.inl h), fun h => h0 (.inr (.inl h)), fun h => h0 (.inr (.inr h))⟩
       refine ⟨by simpa using h1, by omega, ?_⟩
       have := h3.2.2
       simpa [List.all_eq_true] using this
 · rintro ⟨h1, h2, h3⟩
   have hv := (right_iff.1 h1).2.1
   rw [if_neg, if_neg]
   · simp [h1]
   · rintro (h | h | h)
     · omega
     · omega
     · have : cls.all (fun c => decide (c.length ≤ 30)) = true := by simpa [List.all_eq_true] using h3
       rw [this] at h; exact absurd h (by decide)
end Go.Proofs.YteinkjhimceljaaGreatDoor.Sp
namespace Go.Proofs.YteinkjhimceljaaGreatDoor.Un
set_option linter.unusedVariables false
def val (vals : List Int) (n : Int) : Int := if n < 0 then -(vals.getD n.natAbs 0) else vals.getD n.natAbs 0
def put (vals : List Int) (n : Int) : List Int := vals.set n.natAbs (if n < 0 then -1 else 1)
def set (vals ws : List Int) (n : Int) : Bool × List Int × List Int :=
 if val vals n = 1 then (true, vals, ws) else if val vals n = -1 then (false, vals, ws) else (true, put vals n, ws ++ [n])
def scan (vals : List Int) : List Int → Int → Option Int
 | [], left => some left
 | m :: c, left => if val vals m = 1 ∨ (val vals m = 0 ∧ left ≠ 0 ∧ left ≠ m) then none else scan vals c (if val vals m = 0 then m else left)
def skip (n : Int) (c : List Int) : Bool := (decide (n ≠ 0) && !c.contains (-n)) || (decide (n = 0) && (decide (0 < c.length) && decide (c.getD 0 0 ≠ c.getD (c.length - 1) 0)))
def look (n : Int) : List (List Int) → List Int → List Int → Bool × List Int × List Int
 | [], vals, ws => (true, vals, ws)
 | c :: cs, vals, ws => if skip n c = true then look n cs vals ws else
  match scan vals c 0 with
  | none => look n cs vals ws
  | some left => if left = 0 then (false, vals, ws) else
   match set vals ws left with
   | (false, v1, w1) => (false, v1, w1)
   | (true, v1, w1) => look n cs v1 w1
def loop (cls : List (List Int)) : Nat → Bool → List Int → List Int → Option (Bool × List Int)
 | 0, _, _, _ => none
 | k + 1, ok, vals, ws => match ws with
  | [] => some (ok, vals)
  | n :: ws => if ok = false then some (ok, vals) else
   match look n cls vals ws with
   | (ok', v1, w1) => loop cls k ok' v1 w1
def fix : List Int → List Int → List Int → Bool × List Int × List Int
 | [], vals, ws => (true, vals, ws)
 | n :: fixed, vals, ws => match set vals ws n with
  | (false, v1, w1) => (false, v1, w1)
  | (true, v1, w1) => fix fixed v1 w1
def run (k : Nat) (vars : Int) (cls : List (List Int)) (fixed : List Int) : Option (Int × List Int) :=
 if Sp.check vars cls ≠ 0 then some (Sp.check vars cls, []) else
 if fixed.all (Sp.lit vars) = false then some (100, []) else
 match fix fixed (List.replicate (vars.toNat + 1) 0) [] with
 | (false, _, _) => some (110, [])
 | (true, v1, w1) => match look 0 cls v1 w1 with
  | (ok, v2, w2) => match loop cls k ok v2 w2 with
   | none => none
   | some (false, _) => some (110, [])
   | some (true, v3) => some (0, v3)
theorem drop_get (cls : List (List Int)) (k : Nat) (h : k < cls.length) : cls.drop k = cls[k] :: cls.drop (k + 1) := List.drop_eq_getElem_cons h
theorem look_skip (n : Int) (cls : List (List Int)) (vals ws : List Int) (k : Nat) (h : k < cls.length) (hs : skip n cls[k] = true) : look n (cls.drop k) vals ws = look n (cls.drop (k + 1)) vals ws := by
 rw [drop_get cls k h, look, if_pos hs]
theorem look_none (n : Int) (cls : List (List Int)) (vals ws : List Int) (k : Nat) (h : k < cls.length) (hs : skip n cls[k] = false) (hc : scan vals cls[k] 0 = none) : look n (cls.drop k) vals ws = look n (cls.drop (k + 1)) vals ws := by
 rw [drop_get cls k h, look, if_neg (by rw [hs]; decide), hc]
theorem look_zero (n : Int) (cls : List (List Int)) (vals ws : List Int) (k : Nat) (h : k < cls.length) (hs : skip n cls[k] = false) (hc : scan vals cls[k] 0 = some 0) : look n (cls.drop k) vals ws = (false, vals, ws) := by
 rw [drop_get cls k h, look, if_neg (by rw [hs]; decide), hc]; simp
theorem look_clash (n : Int) (cls : List (List Int)) (vals ws : List Int) (k : Nat) (h : k < cls.length) (hs : skip n cls[k] = false) (m : Int) (hm : m ≠ 0) (hc : scan vals cls[k] 0 = some m) (hf : (set vals ws m).1 = false) : look n (cls.drop k) vals ws = set vals ws m := by
 rw [drop_get cls k h, look, if_neg (by rw [hs]; decide), hc]
 rcases hb : set vals ws m with ⟨b, v1, w1⟩
 rw [hb] at hf
 simp only [hm, if_false]
 simp only at hf
 subst hf
 rw [hb]
theorem look_set (n : Int) (cls : List (List Int)) (vals ws : List Int) (k : Nat) (h : k < cls.length) (hs : skip n cls[k] = false) (m : Int) (hm : m ≠ 0) (hc : scan vals cls[k] 0 = some m) (hf : (set vals ws m).1 = true) : look n (cls.drop k) vals ws = look n (cls.drop (k + 1)) (set vals ws m).2.1 (set vals ws m).2.2 := by
 rw [drop_get cls k h, look, if_neg (by rw [hs]; decide), hc]
 rcases hb : set vals ws m with ⟨b, v1, w1⟩
 rw [hb] at hf
 simp only [hm, if_false]
 simp only at hf
 subst hf
 rw [hb]
theorem scan_out (vals c : List Int) (j : Nat) (left : Int) (h : j < c.length) (hc : val vals c[j] = 1 ∨ (val vals c[j] = 0 ∧ left ≠ 0 ∧ left ≠ c[j])) : scan vals (c.drop j) left = none := by
 rw [List.drop_eq_getElem_cons h, scan, if_pos hc]
theorem scan_zero (vals c : List Int) (j : Nat) (left : Int) (h : j < c.length) (h0 : val vals c[j] = 0) (hc : left = 0 ∨ left = c[j]) : scan vals (c.drop j) left = scan vals (c.drop (j + 1)) c[j] := by
 rw [List.drop_eq_getElem_cons h, scan, if_neg (by rw [h0]; omega), if_pos h0]
theorem scan_less (vals c : List Int) (j : Nat) (left : Int) (h : j < c.length) (h0 : val vals c[j] ≠ 0) (h1 : val vals c[j] ≠ 1) : scan vals (c.drop j) left = scan vals (c.drop (j + 1)) left := by
 rw [List.drop_eq_getElem_cons h, scan, if_neg (by omega), if_neg h0]
theorem val_range {vals : List Int} (hx : ∀ x ∈ vals, -1 ≤ x ∧ x ≤ 1) (n : Int) : -1 ≤ val vals n ∧ val vals n ≤ 1 := by
 have : -1 ≤ vals.getD n.natAbs 0 ∧ vals.getD n.natAbs 0 ≤ 1 := by
  by_cases h : n.natAbs < vals.length
  · have := hx vals[n.natAbs] (List.getElem_mem h)
    simpa [List.getD_eq_getElem?_getD, h] using this
  · simp [List.getD_eq_getElem?_getD, h]
 unfold val
 split <;> omega
theorem scan_from (vals : List Int) : ∀ (c : List Int) (l0 left : Int), scan vals c l0 = some left → left = l0 ∨ left ∈ c
 | [], l0, left, h => .inl (Option.some.inj h).symm
 | m :: c, l0, left, h => by
  rw [scan] at h
  split at h
  · exact absurd h (by simp)
  · rcases scan_from vals c _ left h with e | e
    · split at e
      · exact .inr (by rw [e]; exact List.mem_cons_self)
      · exact .inl e
    · exact .inr (List.mem_cons_of_mem _ e)
theorem scan_mem (vals c : List Int) {left : Int} (h : scan vals c 0 = some left) (h0 : ¬ left = 0) {n : Nat} (hL : ∀ m ∈ c, m.natAbs < n) : left.natAbs < n := by
 rcases scan_from vals c 0 left h with e | e
 · exact absurd e h0
 · exact hL _ e
def free (vals : List Int) : Nat := vals.count 0
theorem count_set_zero : ∀ (vals : List Int) (j : Nat) (x : Int), j < vals.length → vals.getD j 0 = 0 → x ≠ 0 → (vals.set j x).count 0 + 1 = vals.count 0
 | a :: l, 0, x, _, h0, hx => by
  have : a = 0 := by simpa using h0
  subst this
  simp [hx]
 | a :: l, j + 1, x, h, h0, hx => by
  have ih := count_set_zero l j x (by simpa using h) (by simpa using h0) hx
  simp only [List.set_cons_succ, List.count_cons]
  omega
theorem free_replicate (n : Nat) : free (List.replicate n 0) = n := by simp [free]
theorem set_inv (vals ws : List Int) (n : Int) (hx : ∀ x ∈ vals, -1 ≤ x ∧ x ≤ 1) (hn : n.natAbs < vals.length) :
 (set vals ws n).2.1.length = vals.length ∧ (set vals ws n).2.2.length + free (set vals ws n).2.1 = ws.length + free vals ∧ (∀ x ∈ (set vals ws n).2.1, -1 ≤ x ∧ x ≤ 1) := by
 unfold set
 split
 · exact ⟨rfl, rfl, hx⟩
 · split
   · exact ⟨rfl, rfl, hx⟩
   · rename_i h1 h2
     have h0 : vals.getD n.natAbs 0 = 0 := by
      have hr := val_range hx n
      unfold val at hr h1 h2
      by_cases hp : n < 0
      · rw [if_pos hp] at hr h1 h2; omega
      · rw [if_neg hp] at hr h1 h2; omega
     refine ⟨by simp [put], ?_, ?_⟩
     · have := count_set_zero vals n.natAbs (if n < 0 then -1 else 1) hn h0 (by split <;> decide)
       simp only [put, free, List.length_append, List.length_singleton]
       omega
     · intro y hy
       unfold put at hy
       rcases List.mem_or_eq_of_mem_set hy with hy | rfl
       · exact hx y hy
       · split <;> omega
theorem fix_false (fixed vals ws : List Int) (k : Nat) (h : k < fixed.length) (hf : (set vals ws fixed[k]).1 = false) : (fix (fixed.drop k) vals ws).1 = false := by
 rw [List.drop_eq_getElem_cons h, fix]
 rcases hb : set vals ws fixed[k] with ⟨b, v1, w1⟩
 rw [hb] at hf
 simp only at hf
 subst hf
 rfl
theorem fix_true (fixed vals ws : List Int) (k : Nat) (h : k < fixed.length) (hf : (set vals ws fixed[k]).1 = true) : fix (fixed.drop k) vals ws = fix (fixed.drop (k + 1)) (set vals ws fixed[k]).2.1 (set vals ws fixed[k]).2.2 := by
 rw [List.drop_eq_getElem_cons h, fix]
 rcases hb : set vals ws fixed[k] with ⟨b, v1, w1⟩
 rw [hb] at hf
 simp only at hf
 subst hf
 rfl
theorem run_parts {k nv : Nat} {cls : List (List Int)} {fixed : List Int} {r : Int × List Int} (h0 : Sp.check nv cls = 0) (hall : fixed.all (Sp.lit nv) = true) (h : run k nv cls fixed = some r) :
 ((fix fixed (List.replicate (nv + 1) 0) []).1 = false ∧ r = (110, [])) ∨
 ((fix fixed (List.replicate (nv + 1) 0) []).1 = true ∧ ∃ v2 w2 L ok v3, fix fixed (List.replicate (nv + 1) 0) [] = (true, v2, w2) ∧ look 0 cls v2 w2 = L ∧ loop cls k L.1 L.2.1 L.2.2 = some (ok, v3) ∧ r = if ok = true then (0, v3) else (110, [])) := by
 unfold run at h
 rw [if_neg (by rw [h0]; simp), if_neg (by rw [hall]; simp), Int.toNat_natCast] at h
 rcases hF : fix fixed (List.replicate (nv + 1) 0) [] with ⟨b, v2, w2⟩
 rw [hF] at h
 cases b with
 | false => exact .inl ⟨rfl, (Option.some.inj h).symm⟩
 | true =>
  refine .inr ⟨rfl, v2, w2, look 0 cls v2 w2, ?_⟩
  simp only at h
  rcases hlk : look 0 cls v2 w2 with ⟨ok, v3, w3⟩
  rw [hlk] at h
  simp only at h
  rcases hlp : loop cls k ok v3 w3 with _ | ⟨ok2, v4⟩
  · rw [hlp] at h; exact absurd h (by simp)
  · rw [hlp] at h
    refine ⟨ok2, v4, rfl, rfl, rfl, ?_⟩
    cases ok2 with
    | false => exact (Option.some.inj h).symm
    | true => exact (Option.some.inj h).symm
theorem set_ws (vals ws : List Int) (n : Int) (N : Nat) (hw : ∀ x ∈ ws, x.natAbs < N) (hn : n.natAbs < N) : ∀ x ∈ (set vals ws n).2.2, x.natAbs < N := by
 unfold set
 split
 · exact hw
 · split
   · exact hw
   · intro x hx
     rcases List.mem_append.1 hx with hx | hx
     · exact hw x hx
     · rw [List.mem_singleton.1 hx]; exact hn
theorem look_ws (n : Int) (N : Nat) : ∀ (cls : List (List Int)) (vals ws : List Int), (∀ x ∈ ws, x.natAbs < N) → (∀ cl ∈ cls, ∀ m ∈ cl, m.natAbs < N) → ∀ x ∈ (look n cls vals ws).2.2, x.natAbs < N := by
 intro cls
 induction cls with
 | nil => intro vals ws hw _; exact hw
 | cons c cs ih =>
  intro vals ws hw hL
  have hcs : ∀ cl ∈ cs, ∀ m ∈ cl, m.natAbs < N := fun cl h => hL cl (List.mem_cons_of_mem _ h)
  rw [look]
  split
  · exact ih vals ws hw hcs
  · split
    · exact ih vals ws hw hcs
    · rename_i left hl
      split
      · exact hw
      · rename_i h0
        have hm : left.natAbs < N := scan_mem vals c hl h0 (hL c List.mem_cons_self)
        have i1 := set_ws vals ws left N hw hm
        rcases hb : set vals ws left with ⟨b, v1, w1⟩
        rw [hb] at i1
        cases b with
        | false => exact i1
        | true => exact ih v1 w1 i1 hcs
def upto (vals : List Int) (j : Nat) : List Int := (List.range j).filterMap fun i => if vals.getD i 0 = 0 then none else some ((i : Int) * vals.getD i 0)
def tell (vals : List Int) : List Int := upto vals vals.length
theorem upto_zero (vals : List Int) (j : Nat) (h : vals.getD j 0 = 0) : upto vals (j + 1) = upto vals j := by
 unfold upto
 rw [List.range_succ, List.filterMap_append, List.filterMap_cons, if_pos h]; simp
theorem upto_some (vals : List Int) (j : Nat) (h : vals.getD j 0 ≠ 0) : upto vals (j + 1) = upto vals j ++ [(j : Int) * vals.getD j 0] := by
 unfold upto
 rw [List.range_succ, List.filterMap_append, List.filterMap_cons, if_neg h]; simp
theorem upto_length (vals : List Int) (j : Nat) : (upto vals j).length ≤ j := by
 unfold upto
 exact Nat.le_trans (List.length_filterMap_le _ _) (by simp)
def freeVar (vals : List Int) : Int := match (vals.drop 1).findIdx? (fun x => 0 == x) with | some i => (i : Int) + 1 | none => 0
theorem look_inv (n : Int) : ∀ (cls : List (List Int)) (vals ws : List Int), (∀ x ∈ vals, -1 ≤ x ∧ x ≤ 1) → (∀ cl ∈ cls, ∀ m ∈ cl, m.natAbs < vals.length) →
 (look n cls vals ws).2.1.length = vals.length ∧ (look n cls vals ws).2.2.length + free (look n cls vals ws).2.1 = ws.length + free vals ∧ (∀ x ∈ (look n cls vals ws).2.1, -1 ≤ x ∧ x ≤ 1) := by
 intro cls
 induction cls with
 | nil => intro vals ws hx _; exact ⟨rfl, rfl, hx⟩
 | cons c cs ih =>
  intro vals ws hx hL
  have hcs : ∀ cl ∈ cs, ∀ m ∈ cl, m.natAbs < vals.length := fun cl h => hL cl (List.mem_cons_of_mem _ h)
  rw [look]
  split
  · exact ih vals ws hx hcs
  · split
    · exact ih vals ws hx hcs
    · rename_i left hl
      split
      · exact ⟨rfl, rfl, hx⟩
      · rename_i h0
        have hm : left.natAbs < vals.length := scan_mem vals c hl h0 (hL c List.mem_cons_self)
        obtain ⟨i1, i2, i3⟩ := set_inv vals ws left hx hm
        rcases hb : set vals ws left with ⟨b, v1, w1⟩
        rw [hb] at i1 i2 i3
        cases b with
        | false => exact ⟨i1, i2, i3⟩
        | true =>
         obtain ⟨j1, j2, j3⟩ := ih v1 w1 i3 (fun cl h m hm => by rw [i1]; exact hcs cl h m hm)
         exact ⟨j1.trans i1, j2.trans i2, j3⟩
theorem fix_length : ∀ (fixed vals ws : List Int), (fix fixed vals ws).2.1.length = vals.length
 | [], vals, ws => rfl
 | n :: fixed, vals, ws => by
  have h : (set vals ws n).2.1.length = vals.length := by
   unfold set
   split
   · rfl
   · split
     · rfl
     · simp [put]
  rw [fix]
  rcases hb : set vals ws n with ⟨b, v1, w1⟩
  rw [hb] at h
  cases b with
  | false => exact h
  | true => exact (fix_length fixed v1 w1).trans h
theorem look_length (n : Int) : ∀ (cls : List (List Int)) (vals ws : List Int), (look n cls vals ws).2.1.length = vals.length
 | [], vals, ws => rfl
 | c :: cs, vals, ws => by
  rw [look]
  split
  · exact look_length n cs vals ws
  · split
    · exact look_length n cs vals ws
    · rename_i left hl
      split
      · rfl
      · have h : (set vals ws left).2.1.length = vals.length := by
         unfold set
         split
         · rfl
         · split
           · rfl
           · simp [put]
        rcases hb : set vals ws left with ⟨b, v1, w1⟩
        rw [hb] at h
        cases b with
        | false => exact h
        | true => exact (look_length n cs v1 w1).trans h
theorem loop_length (cls : List (List Int)) : ∀ (k : Nat) (ok : Bool) (vals ws : List Int) (r : Bool × List Int), loop cls k ok vals ws = some r → r.2.length = vals.length
 | 0, _, _, _, _, h => by simp [loop] at h
 | k + 1, ok, vals, ws, r, h => by
  rw [loop.eq_def] at h
  cases ws with
  | nil =>
   simp only at h
   obtain rfl := Option.some.inj h
   rfl
  | cons n ws =>
   simp only at h
   split at h
   · obtain rfl := Option.some.inj h
     rfl
   · exact (loop_length cls k _ _ _ r h).trans (look_length n cls vals ws)
theorem run_length {k : Nat} {vars : Int} {cls : List (List Int)} {fixed : List Int} {vals : List Int} (h : run k vars cls fixed = some (0, vals)) : vals.length = vars.toNat + 1 := by
 unfold run at h
 split at h
 · rename_i h0
   injection h with h
   injection h with h _
   exact absurd h h0
 · split at h
   · injection h with h
     injection h with h _
     exact absurd h (by decide)
   · split at h
     · injection h with h
       injection h with h _
       exact absurd h (by decide)
     · rename_i v1 w1 hf
       have l1 := fix_length fixed (List.replicate (vars.toNat + 1) 0) []
       rw [hf] at l1
       rcases hlk : look 0 cls v1 w1 with ⟨ok, v2, w2⟩
       have l2 := look_length 0 cls v1 w1
       rw [hlk] at h l2
       simp only at h
       rcases hlp : loop cls k ok v2 w2 with _ | ⟨ok2, v4⟩
       · rw [hlp] at h; exact absurd h (by simp)
       · have l3 := loop_length cls k ok v2 w2 _ hlp
         rw [hlp] at h
         cases ok2 with
         | false =>
          injection h with h
          injection h with h _
          exact absurd h (by decide)
         | true =>
          injection h with h
          injection h with _ h
          subst h
          simp only at l1 l2 l3
          rw [l3, l2, l1]; simp
end Go.Proofs.YteinkjhimceljaaGreatDoor.Un
