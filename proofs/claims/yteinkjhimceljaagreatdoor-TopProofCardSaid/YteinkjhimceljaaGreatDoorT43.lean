/- How many clauses flat's formula has; what the solver's trace of it is worth. No program in sight. planned's two inputs, in plain words. No program in sight. -/
import Derived.Test.YteinkjhimceljaaGreatDoorT42
import Derived.Test.YteinkjhimceljaaGreatDoorT13
import Derived.Sort.Walk0
import Derived.Test.YteinkjhimceljaaGreatDoorT20
import Derived.KernelRfl
namespace Go.Proofs.YteinkjhimceljaaGreatDoor.J
open Go Go.RowKit Go.Proofs.YteinkjhimceljaaGreatDoorW.PrintWords
set_option linter.unusedVariables false
theorem bytes_lt {a b : ByteArray} : Op.bytesLess a.toList b.toList = true ↔ a.toList < b.toList := by rw [bytesLess_eq]; simp
theorem cmpS_le {a b : ByteArray} (h : cmpS a b ≤ 0) : a.toList < b.toList ∨ a.toList = b.toList := by
 unfold cmpS at h
 split at h
 · rename_i h1; exact .inl (bytes_lt.1 h1)
 · split at h
   · rename_i h1; exact .inr h1
   · omega
theorem idxLt_le {a b : S27} (h : idxLt a b = true) : a.f0.toList < b.f0.toList ∨ a.f0.toList = b.f0.toList := by
 unfold idxLt orderI at h
 have h := of_decide_eq_true h
 refine cmpS_le ?_
 simp only [orI] at h
 split at h
 · omega
 · omega
theorem chain_le : ∀ {l : List S27} {p : Option S27}, chainB idxB idxLt p l = true → (∀ q, p = some q → ∀ m ∈ l, q.f0.toList < m.f0.toList ∨ q.f0.toList = m.f0.toList) ∧ l.Pairwise (fun a b => a.f0.toList < b.f0.toList ∨ a.f0.toList = b.f0.toList)
 | [], _, _ => ⟨fun _ _ _ h => (by cases h), List.Pairwise.nil⟩
 | x :: t, p, h => by
  simp only [chainB, Bool.and_eq_true] at h
  obtain ⟨_, h1, h2⟩ := h
  obtain ⟨ha, hb⟩ := chain_le h2
  have hx := ha x rfl
  refine ⟨fun q hq m hm => ?_, List.Pairwise.cons hx hb⟩
  subst hq
  have hqx := idxLt_le h1
  rcases List.mem_cons.1 hm with rfl | hm
  · exact hqx
  · rcases hqx with h3 | h3
    · rcases hx m hm with h4 | h4
      · exact .inl (List.lt_trans h3 h4)
      · exact .inl (h4 ▸ h3)
    · rw [h3]; exact hx m hm
theorem toList_data (b : ByteArray) : b.toList = b.data.toList := by
 have h := ByteArray.toList_eq b
 exact h
theorem compact_nodup {α : Type} [DecidableEq α] [Inhabited α] [LT α] (tr : ∀ a b c : α, a < b → b < c → a < c) (ir : ∀ a : α, ¬ a < a) {l : List α} (hl : l.Pairwise (fun a b => a < b ∨ a = b)) : (Lib.compact l).Nodup := by
 have le : ∀ i j, (hij : i < j) → (hj : j < l.length) → l[i]'(Nat.lt_trans hij hj) < l[j] ∨ l[i]'(Nat.lt_trans hij hj) = l[j] := fun i j hij hj => List.pairwise_iff_getElem.1 hl i j (Nat.lt_trans hij hj) hj hij
 unfold Lib.compact Lib.compactUpTo List.Nodup
 rw [List.pairwise_map]
 have hr : (List.range l.length).Pairwise (fun a b => a < b ∧ b < l.length) := by
  rw [List.pairwise_iff_getElem]
  intro i j hi hj hij
  simp at hi hj ⊢
  omega
 have h2 := List.Pairwise.filter (Lib.keeps l.toArray) hr
 refine List.Pairwise.imp_of_mem (fun {a b} ha hb hab => ?_) h2
 intro he
 have hk := (List.mem_filter.1 hb).2
 obtain ⟨hlt, hbl⟩ := hab
 have e1 : l.toArray[a]! = l[a]'(by omega) := by simp [getElem!_pos, show a < l.length by omega]
 have e2 : l.toArray[b]! = l[b] := by simp [getElem!_pos, hbl]
 rw [e1, e2] at he
 have hne : l[b] ≠ l[b - 1]'(by omega) := by
  unfold Lib.keeps at hk
  simp at hk
  rcases hk with h0 | h0
  · omega
  · intro h3
    apply h0
    simp [show b - 1 < l.length by omega, hbl, h3]
 rcases le (b - 1) b (by omega) hbl with h3 | h3
 · rcases Nat.lt_or_ge a (b - 1) with h4 | h4
   · rcases le a (b - 1) h4 (by omega) with h5 | h5
     · exact ir _ (he ▸ tr _ _ _ h5 h3)
     · rw [← h5, he] at h3; exact ir _ h3
   · obtain rfl : a = b - 1 := by omega
     rw [he] at h3; exact ir _ h3
 · exact hne h3.symm
theorem bytes_mk {a b : List UInt8} (h : (⟨a.toArray⟩ : ByteArray) = ⟨b.toArray⟩) : a = b := by
 have h2 := congrArg (fun s : ByteArray => s.data.toList) h
 simpa using h2
theorem bytes_inj {a b : ByteArray} (h : a.toList = b.toList) : a = b := by
 rw [toList_data, toList_data] at h
 cases a; cases b
 congr
 exact Array.toList_inj.1 h
theorem idx_zero {x : List S27} (h : idxI x = 0) : x.length ≤ 100 ∧ chainB idxB idxLt none x = true := by
 unfold idxI at h
 split at h
 · exact absurd h (by decide)
 · split at h
   · rename_i h1 h2; exact ⟨by omega, h2⟩
   · exact absurd h (by decide)
theorem names_nodup {x : List S27} (h : idxI x = 0) : (namesX x).Nodup := by
 have hc := (chain_le (idx_zero h).2).2
 unfold namesX List.Nodup
 rw [List.pairwise_map]
 refine List.Pairwise.imp (fun hne he => hne (bytes_mk he)) (compact_nodup (fun a b c h1 h2 => List.lt_trans h1 h2) (fun a h => List.lt_irrefl a h) ?_)
 rw [List.pairwise_map]
 refine List.Pairwise.imp (fun h => ?_) hc
 rw [toList_data, toList_data] at h
 exact h
theorem chain_each {α : Type} {ok : α → Bool} {lt : α → α → Bool} : ∀ {l : List α} {p : Option α}, chainB ok lt p l = true → ∀ x ∈ l, ok x = true
 | x :: t, p, h, y, hy => by
  simp only [chainB, Bool.and_eq_true] at h
  rcases List.mem_cons.1 hy with rfl | hy
  · exact h.1
  · exact chain_each h.2.2 y hy
theorem man_zero {root : Bool} {m : S27} (h : manI root m = 0) : m.f2.length ≤ 30 := by
 unfold manI at h
 split at h
 · exact absurd h (by decide)
 · omega
theorem idx_deps {x : List S27} (h : idxI x = 0) : ∀ m ∈ x, m.f2.length ≤ 30 := fun m hm => man_zero (of_decide_eq_true (chain_each (idx_zero h).2 m hm))
def sumV (B : Brd) (N : List ByteArray) : Nat := (N.map (fun n => (B.vars n).length)).sum
theorem sumV_one (B : Brd) (n : ByteArray) (m : S27) : ∀ {N : List ByteArray}, N.Nodup → sumV (layOne n B m) N ≤ sumV B N + 1 ∧ (n ∉ N → sumV (layOne n B m) N = sumV B N)
 | [], _ => ⟨by simp [sumV], fun _ => by simp [sumV]⟩
 | a :: t, h => by
  obtain ⟨h1, h2⟩ := List.nodup_cons.1 h
  obtain ⟨i1, i2⟩ := sumV_one B n m h2
  have e : ((layOne n B m).vars a).length = if a = n then (B.vars n).length + 1 else (B.vars a).length := by
   unfold layOne setV
   by_cases e : a = n
   · simp [e]
   · simp [e]
  unfold sumV at i1 i2 ⊢
  rw [List.map_cons, List.sum_cons, List.map_cons, List.sum_cons, e]
  constructor
  · by_cases ha : a = n
    · subst ha
      rw [if_pos rfl, i2 h1]; omega
    · rw [if_neg ha]; omega
  · intro hn
    rw [if_neg (fun e => hn (by simp [e])), i2 (fun h => hn (List.mem_cons_of_mem _ h))]
theorem sumV_fold (n : ByteArray) {N : List ByteArray} (hN : N.Nodup) : ∀ (l : List S27) {B : Brd}, sumV B N ≤ B.l.length → sumV (l.foldl (layOne n) B) N ≤ (l.foldl (layOne n) B).l.length
 | [], _, h => h
 | m :: t, B, h => by
  refine sumV_fold n hN t (B := layOne n B m) ?_
  have h2 := (sumV_one B n m hN).1
  have h3 : (layOne n B m).l.length = B.l.length + 1 := by simp [layOne]
  omega
theorem sumV_names (x : List S27) {N : List ByteArray} (hN : N.Nodup) : ∀ (ns : List ByteArray) {B : Brd}, sumV B N ≤ B.l.length → sumV (ns.foldl (layName x) B) N ≤ (ns.foldl (layName x) B).l.length
 | [], _, h => h
 | n :: t, B, h => sumV_names x hN t (B := layName x B n) (sumV_fold n hN (pickL x n) h)
theorem sumV_brd (x : List S27) {N : List ByteArray} (hN : N.Nodup) : sumV (brdOf x) N ≤ (brdOf x).l.length := by
 refine sumV_names x hN (namesX x) (B := noB) ?_
 have : ∀ M : List ByteArray, sumV noB M = 0 := fun M => by
  induction M with
  | nil => rfl
  | cons a t ih => unfold sumV at ih ⊢; rw [List.map_cons, List.sum_cons, ih]; rfl
 rw [this]
 exact Nat.zero_le _
def pkN (x : List S27) (ns : List ByteArray) : Nat := (ns.map (fun n => (pickL x n).length)).sum
theorem pick_cons (m : S27) (x : List S27) (n : ByteArray) : (pickL (m :: x) n).length = (if m.f0.toList = n.toList then 1 else 0) + (pickL x n).length := by
 unfold pickL
 rw [List.length_reverse, List.length_reverse, List.filter_cons]
 by_cases h : m.f0.toList = n.toList
 · simp [h]; omega
 · simp [h]
theorem pk_cons (m : S27) (x : List S27) : ∀ {ns : List ByteArray}, ns.Nodup → pkN (m :: x) ns ≤ pkN x ns + 1 ∧ ((∀ n ∈ ns, m.f0.toList ≠ n.toList) → pkN (m :: x) ns = pkN x ns)
 | [], _ => ⟨by simp [pkN], fun _ => by simp [pkN]⟩
 | a :: t, h => by
  obtain ⟨h1, h2⟩ := List.nodup_cons.1 h
  obtain ⟨i1, i2⟩ := pk_cons m x h2
  unfold pkN at i1 i2 ⊢
  rw [List.map_cons, List.sum_cons, List.map_cons, List.sum_cons, pick_cons]
  constructor
  · by_cases ha : m.f0.toList = a.toList
    · rw [if_pos ha, i2 (fun n hn he => h1 (bytes_inj (ha.symm.trans he) ▸ hn))]
      omega
    · rw [if_neg ha]; omega
  · intro hn
    rw [if_neg (hn a List.mem_cons_self), i2 (fun n h => hn n (List.mem_cons_of_mem _ h))]
    omega
theorem pk_le {ns : List ByteArray} (h : ns.Nodup) : ∀ x : List S27, pkN x ns ≤ x.length
 | [] => by
  have : ∀ M : List ByteArray, pkN [] M = 0 := fun M => by
   induction M with
   | nil => rfl
   | cons a t ih => unfold pkN at ih ⊢; rw [List.map_cons, List.sum_cons, ih]; rfl
  rw [this]
  exact Nat.zero_le _
 | m :: x => by
  have h1 := pk_le h x
  have h2 := (pk_cons m x h).1
  rw [List.length_cons]
  omega
theorem names_fold_eq (x : List S27) : ∀ (ns : List ByteArray) (B : Brd), (ns.foldl (layName x) B).l.length = B.l.length + pkN x ns
 | [], B => by simp [pkN]
 | n :: t, B => by
  have h1 := names_fold_eq x t (layName x B n)
  have h2 : (layName x B n).l.length = B.l.length + (pickL x n).length := fold_len n _ B
  unfold pkN at h1 ⊢
  rw [List.foldl_cons, h1, h2, List.map_cons, List.sum_cons]
  omega
theorem brd_le {x : List S27} (h : idxI x = 0) : (brdOf x).l.length ≤ x.length := by
 have h1 : (brdOf x).l.length = noB.l.length + pkN x (namesX x) := names_fold_eq x (namesX x) noB
 have h2 := pk_le (names_nodup h) x
 have h3 : noB.l.length = 0 := rfl
 omega
theorem fold_mem {n : ByteArray} : ∀ (l : List S27) {B : Brd} {m : S27}, m ∈ (l.foldl (layOne n) B).l → m ∈ B.l ∨ m ∈ l
 | [], _, _, h => .inl h
 | a :: t, B, m, h => by
  rcases fold_mem t (B := layOne n B a) h with h | h
  · change m ∈ B.l ++ [a] at h
    rcases List.mem_append.1 h with h | h
    · exact .inl h
    · simp only [List.mem_singleton] at h; subst h; exact .inr List.mem_cons_self
  · exact .inr (List.mem_cons_of_mem _ h)
theorem names_mem {x : List S27} : ∀ (ns : List ByteArray) {B : Brd} {m : S27}, m ∈ (ns.foldl (layName x) B).l → m ∈ B.l ∨ m ∈ x
 | [], _, _, h => .inl h
 | n :: t, B, m, h => by
  rcases names_mem t (B := layName x B n) h with h | h
  · rcases fold_mem (pickL x n) h with h | h
    · exact .inl h
    · exact .inr (pick_mem m h)
  · exact .inr h
theorem brd_mem {x : List S27} {m : S27} (h : m ∈ (brdOf x).l) : m ∈ x := by
 rcases names_mem (namesX x) (B := noB) h with h | h
 · cases h
 · exact h
theorem cls_app (p q : List Put) : clsOf (p ++ q) = clsOf p ++ clsOf q := by simp [clsOf]
theorem cls_flat {α : Type} (f : α → List Put) : ∀ l : List α, (clsOf (l.flatMap f)).length = (l.map (fun a => (clsOf (f a)).length)).sum
 | [] => rfl
 | a :: t => by rw [List.flatMap_cons, cls_app, List.length_append, cls_flat f t, List.map_cons, List.sum_cons]
theorem sum_le {α : Type} {f g : α → Nat} : ∀ {l : List α}, (∀ a ∈ l, f a ≤ g a) → (l.map f).sum ≤ (l.map g).sum
 | [], _ => Nat.le_refl _
 | a :: t, h => by
  have h1 := h a List.mem_cons_self
  have h2 := sum_le (f := f) (g := g) (l := t) (fun b hb => h b (List.mem_cons_of_mem _ hb))
  rw [List.map_cons, List.sum_cons, List.map_cons, List.sum_cons]
  omega
theorem sum_const {α : Type} {f : α → Nat} {k : Nat} : ∀ {l : List α}, (∀ a ∈ l, f a ≤ k) → (l.map f).sum ≤ l.length * k
 | [], _ => by simp
 | a :: t, h => by
  have h1 := h a List.mem_cons_self
  have h2 := sum_const (f := f) (k := k) (l := t) (fun b hb => h b (List.mem_cons_of_mem _ hb))
  rw [List.map_cons, List.sum_cons, List.length_cons, Nat.add_mul, Nat.one_mul]
  omega
theorem sum_one {α : Type} {f : α → Nat} : ∀ l : List α, (l.map (fun a => 1 + f a)).sum = l.length + (l.map f).sum
 | [] => rfl
 | a :: t => by
  rw [List.map_cons, List.sum_cons, sum_one t, List.map_cons, List.sum_cons, List.length_cons]
  omega
theorem sortN_nodup {l : List ByteArray} (h : l.Nodup) : (sortN l).Nodup := by
 unfold sortN List.Nodup
 rw [List.pairwise_map]
 have h1 : (l.map (fun s => s.data.toList)).Nodup := by
  unfold List.Nodup
  rw [List.pairwise_map]
  exact List.Pairwise.imp (fun hne he => hne (bytes_inj (by rw [toList_data, toList_data]; exact he))) h
 have h2 := (List.mergeSort_perm (l.map (fun s => s.data.toList)) (fun x y => decide (x ≤ y))).nodup_iff.2 h1
 exact List.Pairwise.imp (fun hne he => hne (bytes_mk he)) h2
theorem edges_names (root : Bool) (m : S27) (rules : List S78) : (edgesL root m rules).map (fun d => d.f1) = sortN (byAll root m.f2).names := by
 have hb := by_take root m.f2 m.f2.length (Nat.le_refl _)
 rw [List.take_length] at hb
 unfold edgesL
 rw [List.map_map]
 have : ∀ n ∈ sortN (byAll root m.f2).names, ((fun d : S75 => d.f1) ∘ edgeOf (byAll root m.f2) rules) n = id n := by
  intro n hn
  obtain ⟨d, hd⟩ := Option.isSome_iff_exists.1 ((hb.mem n).1 (sortN_mem hn))
  show (edgeOf (byAll root m.f2) rules n).f1 = n
  unfold edgeOf
  rw [hd]
  exact (hb.has n d hd).2
 rw [List.map_congr_left this, List.map_id]
theorem edges_nodup (root : Bool) (m : S27) (rules : List S78) : ((edgesL root m rules).map (fun d => d.f1)).Nodup := by
 have hb := by_take root m.f2 m.f2.length (Nat.le_refl _)
 rw [List.take_length] at hb
 rw [edges_names]
 exact sortN_nodup hb.nd
theorem edges_sum (x : List S27) (root : Bool) (m : S27) (rules : List S78) {f : S75 → Nat} (h : ∀ d, f d ≤ 1 + ((brdOf x).vars d.f1).length) : ((edgesL root m rules).map f).sum ≤ m.f2.length + (brdOf x).l.length := by
 have h1 := sum_le (f := f) (g := fun d => 1 + ((brdOf x).vars d.f1).length) (l := edgesL root m rules) (fun d _ => h d)
 rw [sum_one] at h1
 have h2 := sumV_brd x (edges_nodup root m rules)
 unfold sumV at h2
 rw [List.map_map] at h2
 have h3 := edges_len root m rules
 have h4 : ((edgesL root m rules).map ((fun n => ((brdOf x).vars n).length) ∘ fun d => d.f1)).sum = ((edgesL root m rules).map (fun d => ((brdOf x).vars d.f1).length)).sum := rfl
 omega
theorem cls_dep (B : Brd) (i : Nat) (d : S75) : (clsOf (putsDep B i d)).length ≤ 1 + (B.vars d.f1).length := by
 have h1 : (Ct.neverF ((i : Int) + 1) (badL B d)).1.length ≤ (B.vars d.f1).length := by
  have h2 : (badL B d).length ≤ (B.vars d.f1).length := List.length_filter_le _ _
  unfold Ct.neverF Ct.never
  split
  · show (List.map _ _).length ≤ _; rw [List.length_map]; exact h2
  · simp
 unfold putsDep
 rw [cls_app, List.length_append]
 split <;> simp [clsOf] <;> omega
theorem cls_root (B : Brd) (d : S75) : (clsOf (putsRoot B d)).length ≤ 1 + (B.vars d.f1).length := by
 have h2 : (badL B d).length ≤ (B.vars d.f1).length := List.length_filter_le _ _
 have h3 : (clsOf ((badL B d).map (fun v => (([[-v]] : List (List Int)), (0 : Int))))).length ≤ (badL B d).length := by
  generalize badL B d = l
  induction l with
  | nil => simp [clsOf]
  | cons a t ih => simp only [clsOf, List.map_cons, List.flatMap_cons, List.length_append, List.length_cons, List.length_nil] at ih ⊢; omega
 unfold putsRoot
 rw [cls_app, List.length_append]
 split
 · have : (clsOf [(([goodL B d] : List (List Int)), (0 : Int))]).length = 1 := by simp [clsOf]
   omega
 · have : (clsOf []).length = 0 := by simp [clsOf]
   omega
theorem most_len {l : List Int} {k : Nat} (h : l.length ≤ k) : (Ct.atMost l).1.length ≤ k * k := by
 unfold Ct.atMost
 split
 · have h1 := Ct.pairs_len l
   have h2 : l.length * (l.length - 1) ≤ k * k := Nat.mul_le_mul h (by omega)
   show (Ct.pairs l).length ≤ _
   omega
 · simp
theorem cls_small {root : S27} {x : List S27} (hl : layI root x = 0) (hx : x.length ≤ 9) : (clsOf (putsAll (brdOf x) (namesX x) root)).length ≤ 1500 := by
 have hm : manI true root = 0 ∧ idxI x = 0 := by
  unfold layI at hl
  split at hl
  · rename_i h; exact ⟨h, hl⟩
  · rename_i h; exact absurd hl h
 have hB : (brdOf x).l.length ≤ 9 := Nat.le_trans (brd_le hm.2) hx
 have hr := man_zero hm.1
 have hns : (namesX x).length ≤ 9 := Nat.le_trans (namesX_len x) hx
 unfold putsAll
 rw [cls_app, cls_app, List.length_append, List.length_append, cls_flat, cls_flat]
 have h1 : (clsOf ((namesX x).map (fun n => Ct.atMost ((brdOf x).vars n)))).length ≤ (namesX x).length * 81 := by
  have hv : ∀ n, ((brdOf x).vars n).length ≤ 9 := fun n => by
   have := sumV_brd x (N := [n]) (by simp)
   unfold sumV at this
   simp at this
   omega
  generalize namesX x = ns
  induction ns with
  | nil => simp [clsOf]
  | cons a t ih =>
   have h2 := most_len (hv a)
   rw [List.length_cons, Nat.add_mul, Nat.one_mul]
   unfold clsOf at ih ⊢
   rw [List.map_cons, List.flatMap_cons, List.length_append]
   omega
 have h2 := edges_sum x true root root.f3 (f := fun d => (clsOf (putsRoot (brdOf x) d)).length) (cls_root (brdOf x))
 have h3 : ((brdOf x).l.zipIdx.map (fun p => (clsOf (putsMan (brdOf x) root.f3 p)).length)).sum ≤ (brdOf x).l.zipIdx.length * 39 := by
  refine sum_const (fun p hp => ?_)
  have hpm := idx_deps hm.2 p.1 (brd_mem (List.fst_mem_of_mem_zipIdx hp))
  unfold putsMan
  rw [cls_flat]
  have := edges_sum x false p.1 root.f3 (f := fun d => (clsOf (putsDep (brdOf x) p.2 d)).length) (cls_dep (brdOf x) p.2)
  omega
 rw [List.length_zipIdx] at h3
 have h4 : (namesX x).length * 81 ≤ 9 * 81 := Nat.mul_le_mul_right _ hns
 have h5 : (brdOf x).l.length * 39 ≤ 9 * 39 := Nat.mul_le_mul_right _ hB
 omega
noncomputable def decI (root : S27) (x : List S27) (model : List Bool) : Int := if encI root x ≠ 0 then encI root x else if Sp.sat (encV root x) (encC root x) model = true then 0 else 1
noncomputable def planI (root : S27) (x : List S27) : Int :=
 if encI root x ≠ 0 then encI root x else
 if (Sv.solve (encV root x) (encC root x)).2.2.2 ≠ 0 then (Sv.solve (encV root x) (encC root x)).2.2.2 else
 if (Sv.solve (encV root x) (encC root x)).1 = false then 170 else decI root x (Sv.solve (encV root x) (encC root x)).2.1
theorem manI_ne (root : Bool) (m : S27) : manI root m ≠ 170 := by
 unfold manI
 split
 · decide
 · split <;> decide
theorem idxI_ne (x : List S27) : idxI x ≠ 170 := by
 unfold idxI
 split
 · decide
 · split <;> decide
theorem layI_ne (root : S27) (x : List S27) : layI root x ≠ 170 := by
 unfold layI
 split
 · exact idxI_ne x
 · exact manI_ne true root
theorem encI_ne (root : S27) (x : List S27) : encI root x ≠ 170 := by
 unfold encI
 split
 · split <;> decide
 · exact layI_ne root x
theorem check_ne (v : Int) (cls : List (List Int)) : Sp.check v cls ≠ 170 := by
 unfold Sp.check
 split
 · decide
 · split <;> decide
theorem solve_ne (v : Int) (cls : List (List Int)) : (Sv.solve v cls).2.2.2 ≠ 170 := by
 unfold Sv.solve
 split
 · exact check_ne v cls
 · split
   · show (120 : Int) ≠ 170; decide
   · show (0 : Int) ≠ 170; decide
theorem enc_zero {root : S27} {x : List S27} (h : encI root x = 0) : layI root x = 0 ∧ formB (brdOf x) (namesX x) root = true := by
 unfold encI at h
 split at h
 · rename_i h1
   split at h
   · rename_i h2; exact ⟨h1, h2⟩
   · exact absurd h (by decide)
 · rename_i h1; exact absurd h h1
theorem form_check {root : S27} {x : List S27} (h : encI root x = 0) : Sp.check (encV root x) (encC root x) = 0 := by
 have h1 := (enc_zero h).2
 unfold encV encC
 rw [if_pos h, if_pos h]
 unfold formB at h1
 rw [Bool.and_eq_true] at h1
 exact of_decide_eq_true h1.2
theorem proof_law {root : S27} {x : List S27} (hx : x.length ≤ 9 ∨ 100 < x.length) (h : planI root x = 170) :
 encI root x = 0 ∧ (Sv.solve (encV root x) (encC root x)).2.2.2 = 0 ∧ ((Sv.solve (encV root x) (encC root x)).2.2.1.length ≤ 100 → Pf.check (encV root x) (encC root x) (Sv.solve (encV root x) (encC root x)).2.2.1 = (((Sv.solve (encV root x) (encC root x)).2.2.1.length : Int), true)) := by
 unfold planI at h
 split at h
 · exact absurd h (encI_ne root x)
 · rename_i he
   have he : encI root x = 0 := by simpa using he
   split at h
   · exact absurd h (solve_ne _ _)
   · rename_i hs
     have hs : (Sv.solve (encV root x) (encC root x)).2.2.2 = 0 := by simpa using hs
     refine ⟨he, hs, fun ht => ?_⟩
     have hc := form_check he
     have hl := (enc_zero he).1
     have hm : idxI x = 0 := by
      unfold layI at hl
      split at hl
      · exact hl
      · rename_i h; exact absurd hl h
     have hx9 : x.length ≤ 9 := by
      rcases hx with hx | hx
      · exact hx
      · have := (idx_zero hm).1; omega
     have hv : encV root x ≤ 30 := by
      unfold encV
      rw [if_pos he]
      have := brd_le hm
      omega
     have hcl : (encC root x).length ≤ 1500 := by
      unfold encC
      rw [if_pos he]
      exact cls_small hl hx9
     rcases Sv.solve_cases hc with ⟨e, _⟩ | ⟨m, e, _⟩ | ⟨t, e, _, hall⟩
     · rw [e] at hs; exact absurd hs (by decide)
     · rw [e] at h
       simp only [if_neg (show ¬ (true = false) by decide)] at h
       unfold decI at h
       rw [if_neg (by simp [he])] at h
       split at h <;> exact absurd h (by decide)
     · rw [e] at ht ⊢
       have ht : (t ++ [[]]).length ≤ 100 := ht
       show Pf.check (encV root x) (encC root x) (t ++ [[]]) = (((t ++ [[]]).length : Int), true)
       have hch := Pf.check_holds (Pf.all_goes hc hv (by omega) hall)
       have hlast : ((t ++ [[]]).getD ((t ++ [[]]).length - 1) ([] : List Int)).length = 0 := by
        rw [List.length_append, List.length_singleton, Nat.add_sub_cancel, List.getD_eq_getElem?_getD, List.getElem?_append_right (Nat.le_refl _), Nat.sub_self]; rfl
       have hpos : 0 < (t ++ [[]]).length := by rw [List.length_append, List.length_singleton]; omega
       rw [hlast, decide_eq_true hpos] at hch
       exact hch
def nA : ByteArray := ⟨#[97]⟩
def nB : ByteArray := ⟨#[98]⟩
def nR : ByteArray := ⟨#[114]⟩
def v100 : S23 := ⟨1, 0, 0, ⟨#[]⟩⟩
def depOn (n : ByteArray) : S75 := ⟨1, n, ⟨[[]]⟩⟩
def oneM (name on : ByteArray) : S27 := ⟨name, v100, [depOn on], []⟩
def bareM (name : ByteArray) : S27 := ⟨name, v100, [], []⟩
def x2 : List S27 := [oneM nA nB, bareM nB]
def x1 : List S27 := [oneM nA nB]
theorem good_A : goodB nA = true := by kernel_rfl
theorem good_B : goodB nB = true := by kernel_rfl
theorem good_R : goodB nR = true := by kernel_rfl
theorem right_v : vright v100 = true := by kernel_rfl
theorem span_any : spanB [[]] = true := by kernel_rfl
theorem dep_ok (r : Bool) {n : ByteArray} (h : goodB n = true) : depB r (depOn n) = true := by
 unfold depB depOn ruledB
 simp [span_any, h]
theorem man_one (r : Bool) {n o : ByteArray} (hn : goodB n = true) (ho : goodB o = true) : manI r (oneM n o) = 0 := by
 unfold manI oneM manB headB
 simp [right_v, hn, chainB, dep_ok r ho]
theorem man_bare (r : Bool) {n : ByteArray} (hn : goodB n = true) : manI r (bareM n) = 0 := by
 unfold manI bareM manB headB
 simp [right_v, hn, chainB]
theorem idx_x1 : idxI x1 = 0 := by
 unfold idxI x1
 simp [chainB, idxB, man_one false good_A good_B]
theorem idx_x2 : idxI x2 = 0 := by
 have h : idxLt (oneM nA nB) (bareM nB) = true := by
  unfold idxLt orderI
  have : cmpS (oneM nA nB).f0 (bareM nB).f0 = -1 := by kernel_rfl
  rw [this]
  decide
 unfold idxI x2
 simp [chainB, idxB, man_one false good_A good_B, man_bare false good_B, h]
theorem lay_x1 : layI (oneM nR nA) x1 = 0 := by unfold layI; rw [if_pos (man_one true good_R good_A)]; exact idx_x1
theorem lay_x2 : layI (oneM nR nA) x2 = 0 := by unfold layI; rw [if_pos (man_one true good_R good_A)]; exact idx_x2
theorem names_x1 : namesX x1 = [nA] := by kernel_rfl
theorem names_x2 : namesX x2 = [nA, nB] := by kernel_rfl
theorem ne_AB : nA ≠ nB := by decide
theorem ne_BA : nB ≠ nA := by decide
theorem brd_x1 : brdOf x1 = ⟨[oneM nA nB], setV (fun _ => []) nA [1]⟩ := by
 unfold brdOf
 rw [names_x1]
 have hp : pickL x1 nA = [oneM nA nB] := by kernel_rfl
 simp [layName, hp, layOne]
theorem brd_x2 : brdOf x2 = ⟨[oneM nA nB, bareM nB], setV (setV (fun _ => []) nA [1]) nB [2]⟩ := by
 unfold brdOf
 rw [names_x2]
 have hp : pickL x2 nA = [oneM nA nB] := by kernel_rfl
 have hq : pickL x2 nB = [bareM nB] := by kernel_rfl
 have hs : setV (fun _ => ([] : List Int)) nA [1] nB = [] := by unfold setV; rw [if_neg ne_BA]
 simp [layName, hp, hq, layOne, hs]
theorem sort_one (n : ByteArray) : sortN [n] = [n] := by
 unfold sortN
 simp
theorem edges_one (r : Bool) (n o : ByteArray) : edgesL r (oneM n o) [] = [depOn o] := by
 have hb : byAll r [depOn o] = ⟨setD (fun _ => none) o (depOn o), [o]⟩ := by
  unfold byAll
  simp [byStep, takesB, countsB, depOn]
 unfold edgesL
 show (sortN (byAll r [depOn o]).names).map (edgeOf (byAll r [depOn o]) []) = _
 rw [hb, sort_one]
 simp [edgeOf, setD, ruleOf, depOn]
theorem edges_bare (r : Bool) (n : ByteArray) : edgesL r (bareM n) [] = [] := by
 unfold edgesL bareM
 simp [byAll, sortN]
theorem holds_v100 : holdsB [[]] v100 = true := by
 unfold holdsB
 rw [right_v, span_any]
 simp [altHolds, v100]
theorem setV_same (F : ByteArray → List Int) (s : ByteArray) (d : List Int) : setV F s d s = d := by unfold setV; rw [if_pos rfl]
theorem setV_other (F : ByteArray → List Int) {s t : ByteArray} (d : List Int) (h : t ≠ s) : setV F s d t = F t := by unfold setV; rw [if_neg h]
theorem vars_x1 : (brdOf x1).vars nA = [1] ∧ (brdOf x1).vars nB = [] := by
 rw [brd_x1]
 show setV (fun _ => []) nA [1] nA = [1] ∧ setV (fun _ => []) nA [1] nB = []
 exact ⟨setV_same _ _ _, setV_other _ _ ne_BA⟩
theorem vars_x2 : (brdOf x2).vars nA = [1] ∧ (brdOf x2).vars nB = [2] := by
 rw [brd_x2]
 show setV (setV (fun _ => []) nA [1]) nB [2] nA = [1] ∧ setV (setV (fun _ => []) nA [1]) nB [2] nB = [2]
 exact ⟨(setV_other _ _ ne_AB).trans (setV_same _ _ _), setV_same _ _ _⟩
theorem parts_of {B : Brd} {n : ByteArray} (h : ∀ v ∈ B.vars n, verAt B v = v100) : goodL B (depOn n) = B.vars n ∧ badL B (depOn n) = [] := by
 unfold goodL badL depOn
 constructor
 · rw [List.filter_eq_self]
   intro v hv
   show holdsB [[]] (verAt B v) = true
   rw [h v hv, holds_v100]
 · rw [List.filter_eq_nil_iff]
   intro v hv
   show ¬ (!holdsB [[]] (verAt B v)) = true
   rw [h v hv, holds_v100]
   decide
theorem ver_x1 : verAt (brdOf x1) 1 = v100 := by rw [brd_x1]; rfl
theorem ver_x2 : verAt (brdOf x2) 1 = v100 ∧ verAt (brdOf x2) 2 = v100 := by rw [brd_x2]; exact ⟨rfl, rfl⟩
theorem needs_on (n : ByteArray) : needsB (depOn n) = true := by unfold needsB depOn; simp
theorem puts_x1 : putsAll (brdOf x1) (namesX x1) (oneM nR nA) = [([], 0), ([[1]], 0), ([[-1]], 0), ([], 0)] := by
 have hA := parts_of (B := brdOf x1) (n := nA) (by rw [vars_x1.1]; simp [ver_x1])
 have hB := parts_of (B := brdOf x1) (n := nB) (by rw [vars_x1.2]; simp)
 have hl : (brdOf x1).l = [oneM nA nB] := by rw [brd_x1]
 rw [vars_x1.1] at hA
 rw [vars_x1.2] at hB
 unfold putsAll
 rw [names_x1, hl, show (oneM nR nA).f3 = [] from rfl, edges_one]
 simp only [List.map_cons, List.map_nil, List.flatMap_cons, List.flatMap_nil, List.zipIdx_cons, List.zipIdx_nil, putsMan, edges_one, putsRoot, putsDep, needs_on, hA.1, hA.2, hB.1, hB.2, vars_x1.1]
 decide
theorem puts_x2 : putsAll (brdOf x2) (namesX x2) (oneM nR nA) = [([], 0), ([], 0), ([[1]], 0), ([[-1, 2]], 0), ([], 0)] := by
 have hA := parts_of (B := brdOf x2) (n := nA) (by rw [vars_x2.1]; simp [ver_x2.1])
 have hB := parts_of (B := brdOf x2) (n := nB) (by rw [vars_x2.2]; simp [ver_x2.2])
 have hl : (brdOf x2).l = [oneM nA nB, bareM nB] := by rw [brd_x2]
 rw [vars_x2.1] at hA
 rw [vars_x2.2] at hB
 unfold putsAll
 rw [names_x2, hl, show (oneM nR nA).f3 = [] from rfl, edges_one]
 simp only [List.map_cons, List.map_nil, List.flatMap_cons, List.flatMap_nil, List.zipIdx_cons, List.zipIdx_nil, putsMan, edges_one, edges_bare, putsRoot, putsDep, needs_on, hA.1, hA.2, hB.1, hB.2, vars_x2.1, vars_x2.2]
 decide
theorem enc_x1 : encI (oneM nR nA) x1 = 0 ∧ encV (oneM nR nA) x1 = 1 ∧ encC (oneM nR nA) x1 = [[1], [-1]] := by
 have hl : (brdOf x1).l = [oneM nA nB] := by rw [brd_x1]
 have hf : formB (brdOf x1) (namesX x1) (oneM nR nA) = true := by
  unfold formB
  rw [puts_x1, hl]
  decide
 have he : encI (oneM nR nA) x1 = 0 := by unfold encI; rw [if_pos lay_x1, if_pos hf]
 refine ⟨he, ?_, ?_⟩
 · unfold encV; rw [if_pos he, hl]; rfl
 · unfold encC; rw [if_pos he, puts_x1]; rfl
theorem enc_x2 : encI (oneM nR nA) x2 = 0 ∧ encV (oneM nR nA) x2 = 2 ∧ encC (oneM nR nA) x2 = [[1], [-1, 2]] := by
 have hl : (brdOf x2).l = [oneM nA nB, bareM nB] := by rw [brd_x2]
 have hf : formB (brdOf x2) (namesX x2) (oneM nR nA) = true := by
  unfold formB
  rw [puts_x2, hl]
  decide
 have he : encI (oneM nR nA) x2 = 0 := by unfold encI; rw [if_pos lay_x2, if_pos hf]
 refine ⟨he, ?_, ?_⟩
 · unfold encV; rw [if_pos he, hl]; rfl
 · unfold encC; rw [if_pos he, puts_x2]; rfl
theorem solve_x1 : Sv.solve 1 [[1], [-1]] = (false, [], [[]], 0) := by
 have h1 : Uk.Known [[1], [-1]] [] 1 := .unit (c := [1]) (by simp) (by simp) (fun m hm h => absurd (by simpa using hm) h)
 have h2 : Uk.Known [[1], [-1]] [] (-1) := .unit (c := [-1]) (by simp) (by simp) (fun m hm h => absurd (by simpa using hm) h)
 have hp : (Uk.prop 1 [[1], [-1]] []).2 ≠ 0 := fun h => (Uk.ok_iff.1 h).calm (.inl ⟨1, h1, h2⟩)
 have hl := Sv.look_clash (vars := 1) (cls := [[1], [-1]]) (k := (1 : Int).toNat) (d := []) (s := Sv.St.zero) (by decide) hp
 unfold Sv.solve Sv.ends
 rw [hl]
 decide
theorem solve_x2 : Sv.solve 2 [[1], [-1, 2]] = (true, [true, true], [], 0) := by
 have hok : Uk.Ok 2 [[1], [-1, 2]] [] := Uk.model_ok (m := [true, true]) (by decide) (by decide) (by simp)
 have h1 : Uk.Known [[1], [-1, 2]] [] 1 := .unit (c := [1]) (by simp) (by simp) (fun m hm h => absurd (by simpa using hm) h)
 have h2 : Uk.Known [[1], [-1, 2]] [] 2 := .unit (c := [-1, 2]) (by simp) (by simp) (fun m hm h => by
  simp only [List.mem_cons, List.not_mem_nil, or_false] at hm
  rcases hm with rfl | rfl
  · exact h1
  · exact absurd rfl h)
 have ht : Uk.told (2 : Int).toNat (Uk.Known [[1], [-1, 2]] []) = [1, 2] := by
  unfold Uk.told
  have hr : List.range (2 : Int).toNat = [0, 1] := rfl
  rw [hr]
  have e1 : Uk.Known [[1], [-1, 2]] [] (((0 : Nat) : Int) + 1) := h1
  have e2 : Uk.Known [[1], [-1, 2]] [] (((1 : Nat) : Int) + 1) := h2
  simp only [List.filterMap_cons, List.filterMap_nil, if_pos e1, if_pos e2]
  rfl
 have hp : Uk.prop 2 [[1], [-1, 2]] [] = ([1, 2], 0) := by rw [hok.prop, ht]
 have hl := Sv.look_full (vars := 2) (cls := [[1], [-1, 2]]) (k := (2 : Int).toNat) (d := []) (s := Sv.St.zero) (by decide) (by rw [hp]) (by rw [hp]; rfl)
 unfold Sv.solve Sv.ends
 rw [hl, hp]
 decide
theorem plan_x1 : planI (oneM nR nA) x1 = 170 := by
 obtain ⟨h1, h2, h3⟩ := enc_x1
 unfold planI
 rw [h1, h2, h3, solve_x1]
 rfl
theorem plan_x2 : planI (oneM nR nA) x2 = 0 := by
 obtain ⟨h1, h2, h3⟩ := enc_x2
 unfold planI decI
 rw [h1, h2, h3, solve_x2]
 decide
theorem end_x2 : EndT (brdOf x2) (oneM nR nA) [true, true] (setB (setB (fun _ => false) nA) nB) := by
 have d1 : depsV (brdOf x2) [] 1 = [depOn nB] := by
  unfold depsV
  rw [brd_x2]
  exact edges_one false nA nB
 have d2 : depsV (brdOf x2) [] 2 = [] := by
  unfold depsV
  rw [brd_x2]
  exact edges_bare false nB
 have m1 : moreT (brdOf x2) [] [true, true] nA = [depOn nB] := by
  unfold moreT pickV
  rw [vars_x2.1]
  simp [d1]
 have m2 : moreT (brdOf x2) [] [true, true] nB = [] := by
  unfold moreT pickV
  rw [vars_x2.2]
  simp [d2]
 refine ⟨2, ?_⟩
 show stepT (brdOf x2) [] _ (stepT (brdOf x2) [] _ (startT (oneM nR nA))) = _
 have s0 : startT (oneM nR nA) = ⟨fun _ => false, [depOn nA]⟩ := by
  unfold startT
  rw [show (oneM nR nA).f3 = [] from rfl, edges_one]
 have e1 : (depOn nA).f1 = nA := rfl
 have e2 : (depOn nB).f1 = nB := rfl
 rw [s0, stepT_new (by rfl), e1, m1, List.nil_append, stepT_new (by rw [e2]; exact setB_other _ ne_BA), e2, m2]
 rfl
theorem places_x2 {a : ByteArray → Bool} (h : EndT (brdOf x2) (oneM nR nA) [true, true] a) : placesT (brdOf x2).l [true, true] a = [⟨0, nA, v100⟩, ⟨0, nB, v100⟩] := by
 have e := h.only end_x2
 subst e
 have hA : setB (setB (fun _ => false) nA) nB nA = true := by rw [setB_other _ ne_AB, setB_same]
 have hB : setB (setB (fun _ => false) nA) nB nB = true := setB_same _ _
 rw [brd_x2]
 show placesT [oneM nA nB, bareM nB] _ _ = _
 unfold placesT
 have h1 : ([true, true].getD 0 false && setB (setB (fun _ => false) nA) nB (oneM nA nB).f0) = true := by
  rw [show (oneM nA nB).f0 = nA from rfl, hA]; rfl
 have h2 : ([true, true].getD 1 false && setB (setB (fun _ => false) nA) nB (bareM nB).f0) = true := by
  rw [show (bareM nB).f0 = nB from rfl, hB]; rfl
 simp only [List.zipIdx_cons, List.zipIdx_nil, Nat.zero_add, List.filter_cons, h1, h2, if_true, List.filter_nil, List.map_cons, List.map_nil]
 rfl
end Go.Proofs.YteinkjhimceljaaGreatDoor.J
