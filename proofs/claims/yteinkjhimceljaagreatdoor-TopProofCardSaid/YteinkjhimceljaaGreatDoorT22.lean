/- slices.Reverse, slices.IndexFunc and slices.DeleteFunc at manifests. -/
import Derived.Test.YteinkjhimceljaaGreatDoorT21
import Derived.Shelf.RegionOpenPlain
namespace Go.Proofs.YteinkjhimceljaaGreatDoor.J
open Go Go.RowKit Go.Shelf Go.Proofs.YteinkjhimceljaaGreatDoorW.PrintWords Go.Proofs.YteinkjhimceljaaGreatDoorW.PrintLast Go.Proofs.YteinkjhimceljaaGreatDoorW.PrintMore
set_option linter.unusedVariables false
set_option linter.unusedSimpArgs false
structure ManF (W : World) (ok : Nat → Prop) (A5 : Option Addr) (c5 : Nat) (A6 : Option Addr) (c6 : Nat) (m : S27) : Prop where
 dl : m.f2.length ≤ c5
 dr : Kd.F k75 W ok A5 m.f2.length m.f2
 rl : m.f3.length ≤ c6
 rr : Kd.F k78 W ok A6 m.f3.length m.f3
theorem man_F {W : World} {ok : Nat → Prop} {x : S27} {cs : List Value} (h : Kd.FK k27 W ok x cs) : ∃ A5 c5 A6 c6, cs = [.string x.f0, .int .i64 x.f1.f0, .int .i64 x.f1.f1, .int .i64 x.f1.f2, .string x.f1.f3, .slice A5 x.f2.length c5, .slice A6 x.f3.length c6] ∧ ManF W ok A5 c5 A6 c6 x := by
 obtain ⟨A5, c5, A6, c6, rfl, l5, g5, l6, g6⟩ := k27_open (Kd.FK_now h)
 refine ⟨A5, c5, A6, c6, rfl, l5, fun W' hW => ?_, l6, fun W' hW => ?_⟩
 all_goals
  obtain ⟨B5, d5, B6, d6, e, m5, q5, m6, q6⟩ := k27_open (h W' hW)
  simp only [List.cons.injEq, Value.slice.injEq, and_true, true_and] at e
 · rw [e.1.1]; exact q5
 · rw [e.2.1]; exact q6
theorem man_FK {W : World} {ok : Nat → Prop} {x : S27} {A5 : Option Addr} {c5 : Nat} {A6 : Option Addr} {c6 : Nat} (h : ManF W ok A5 c5 A6 c6 x) : Kd.FK k27 W ok x [.string x.f0, .int .i64 x.f1.f0, .int .i64 x.f1.f1, .int .i64 x.f1.f2, .string x.f1.f3, .slice A5 x.f2.length c5, .slice A6 x.f3.length c6] := fun W' hW => k27_mk W' x h.dl (h.dr W' hW) h.rl (h.rr W' hW)
theorem ManF.below {w W : World} {ok : Nat → Prop} {A5 : Option Addr} {c5 : Nat} {A6 : Option Addr} {c6 : Nat} {m : S27} (h : ManF w ok A5 c5 A6 c6 m) (hb : Below w.heap.size w W) : ManF W ok A5 c5 A6 c6 m := ⟨h.dl, Kd.F_below h.dr hb, h.rl, Kd.F_below h.rr hb⟩
theorem ManF.now {w : World} {ok : Nat → Prop} {A5 : Option Addr} {c5 : Nat} {A6 : Option Addr} {c6 : Nat} {m : S27} (h : ManF w ok A5 c5 A6 c6 m) : ManC w A5 c5 A6 c6 m := ⟨h.dl, Kd.F_now h.dr, h.rl, Kd.F_now h.rr⟩
theorem man_atN {e base g n cap : Nat} {W : World} {ok : Nat → Prop} {xs : List S27} (h : Kd.N k27 e W base ok (.slice (some ⟨g, 0, none⟩) n cap) xs) (j : Nat) (hn : j < n) (hj : j < xs.length) :
 ∃ B5 d5 B6 d6, (W.cell? ⟨g, j * 7, none⟩ = some (.string xs[j].f0) ∧ W.cell? ⟨g, j * 7 + 1, none⟩ = some (.int .i64 xs[j].f1.f0) ∧ W.cell? ⟨g, j * 7 + 2, none⟩ = some (.int .i64 xs[j].f1.f1) ∧ W.cell? ⟨g, j * 7 + 3, none⟩ = some (.int .i64 xs[j].f1.f2) ∧ W.cell? ⟨g, j * 7 + 4, none⟩ = some (.string xs[j].f1.f3) ∧ W.cell? ⟨g, j * 7 + 5, none⟩ = some (.slice B5 xs[j].f2.length d5) ∧ W.cell? ⟨g, j * 7 + 6, none⟩ = some (.slice B6 xs[j].f3.length d6)) ∧ (∀ k, k < 7 → W.frozen? ⟨g, j * 7 + k, none⟩ = false) ∧ ManF W (fun k => ok k ∧ k ≠ g) B5 d5 B6 d6 xs[j] := by
 obtain ⟨cc, hcl, hFK, hcc, hfr⟩ := Kd.N_elem h xs[j] (j : Int) (by omega) (by omega)
 rw [show xs.getD (j : Int).toNat xs[j] = xs[j] by simp [hj]] at hFK
 obtain ⟨B5, d5, B6, d6, rfl, hm⟩ := man_F hFK
 exact ⟨B5, d5, B6, d6, ⟨hcc 0 _ rfl, hcc 1 _ rfl, hcc 2 _ rfl, hcc 3 _ rfl, hcc 4 _ rfl, hcc 5 _ rfl, hcc 6 _ rfl⟩, fun k hk => hfr k, hm⟩
theorem swap_rel {α : Type} {xs ys : List α} {n i j : Nat} {a b : α} (h : ys.length = n ∧ ∀ k, k < n → ys[k]? = if k < i ∨ n ≤ k + i then xs[n - 1 - k]? else xs[k]?) (hlt : 2 * i + 1 < n) (hj : n - 1 - i = j) (hi : ys[i]? = some a) (hb : ys[j]? = some b) :
 ((ys.set i b).set j a).length = n ∧ ∀ k, k < n → ((ys.set i b).set j a)[k]? = if k < i + 1 ∨ n ≤ k + (i + 1) then xs[n - 1 - k]? else xs[k]? := by
 refine ⟨by simp [h.1], fun k hk => ?_⟩
 have h1 := h.2 i (by omega)
 rw [hi, if_neg (by omega)] at h1
 have h2 := h.2 j (by omega)
 rw [hb, if_neg (by omega)] at h2
 by_cases e1 : k = j
 · subst e1
   rw [List.getElem?_set_self (by rw [List.length_set]; omega), if_pos (by omega), show n - 1 - k = i by omega, h1]
 · rw [List.getElem?_set_ne (fun e => e1 e.symm)]
   by_cases e2 : k = i
   · subst e2
     rw [List.getElem?_set_self (by omega), if_pos (by omega), hj, h2]
   · rw [List.getElem?_set_ne (fun e => e2 e.symm), h.2 k hk]
     by_cases c : k < i ∨ n ≤ k + i
     · rw [if_pos c, if_pos (by omega)]
     · rw [if_neg c, if_neg (by omega)]
theorem rev_rel {α : Type} {xs ys : List α} {n i : Nat} (h : ys.length = n ∧ ∀ k, k < n → ys[k]? = if k < i ∨ n ≤ k + i then xs[n - 1 - k]? else xs[k]?) (hx : n = xs.length) (hi : n ≤ 2 * i + 1) : ys = xs.reverse := by
 apply List.ext_getElem?
 intro k
 by_cases hk : k < n
 · rw [h.2 k hk, List.getElem?_reverse (by omega), ← hx]
   by_cases c : k < i ∨ n ≤ k + i
   · rw [if_pos c]
   · rw [if_neg c, show n - 1 - k = k by omega]
 · rw [List.getElem?_eq_none (by omega), List.getElem?_eq_none (by rw [List.length_reverse]; omega)]
set_option maxRecDepth 100000 in
set_option maxHeartbeats 4000000 in
theorem reverse_walk (g n cap e base : Nat) (xs : List S27) (ok : Nat → Prop) (hx : n ≤ 1000) (w : World) (hr : Kd.N k27 e w base ok (.slice (some ⟨g, 0, none⟩) n cap) xs) :
 Calls Tryz.prog 28 #[.slice (some ⟨g, 0, none⟩) n cap] w fun en w' => en = .returned (.tuple #[]) ∧ Kd.N k27 e w' base ok (.slice (some ⟨g, 0, none⟩) n cap) xs.reverse ∧ Below g w w' := by
 have HR := Aside0.mk hr
 have HXL := Aside0.mk (Kd.N_reads' hr).1
 clear hr
 go_enter Tryz.func28, Tryz.ntmps28
 go_wp2
 go_loopg [2, 3] (n + 1) (fun gg s2 s3 wq => ∃ (i : Nat) (ys : List S27), 2 * i ≤ n ∧ n - i < gg ∧ s2 = .int .i64 (i : Int) ∧ s3 = .int .i64 ((n : Int) - 1 - i) ∧ Aside0 (ys.length = n ∧ ∀ k, k < n → ys[k]? = if k < i ∨ n ≤ k + i then xs[n - 1 - k]? else xs[k]?) ∧ Aside0 (Below g w wq) ∧ Aside0 (Kd.N k27 e wq base ok (.slice (some ⟨g, 0, none⟩) n cap) ys))
 case atStart => exact ⟨0, xs, by omega, by omega, rfl, by simp, ⟨HXL.out.symm, fun k hk => by rw [if_neg (by omega)]⟩, ⟨Below.refl _ _⟩, HR⟩
 case round =>
  obtain ⟨i, ys, hi1, hig, rfl, rfl, HY, HB, HN⟩ := hrel
  by_cases hlt : 2 * i + 1 < n
  · obtain ⟨j, hj⟩ : ∃ j, n - 1 - i = j := ⟨_, rfl⟩
    have hjn : ((n : Int) - 1 - i) = (j : Int) := by omega
    rw [hjn]
    have hji : (i : Int) < (j : Int) := by omega
    have hjl : (j : Int) < (n : Int) := by omega
    have hil : (i : Int) < (n : Int) := by omega
    obtain ⟨B5, d5, B6, d6, hb, hbf, hbm⟩ := man_atN HN.out j (by omega) (by have := HY.out.1; omega)
    obtain ⟨A5, c5, A6, c6, ha, haf, ham⟩ := man_atN HN.out i (by omega) (by have := HY.out.1; omega)
    generalize hyi : ys[i]'(by have := HY.out.1; omega) = a at ha ham
    generalize hyj : ys[j]'(by have := HY.out.1; omega) = b at hb hbm
    go_upto_region 3 with (fail)
    have HA := Aside0.mk ham
    have HBM := Aside0.mk hbm
    obtain ⟨a0, a1, a2, a3, a4, a5, a6⟩ := ha
    obtain ⟨b0, b1, b2, b3, b4, b5, b6⟩ := hb
    have fa0 := haf 0 (by decide)
    have fa1 := haf 1 (by decide)
    have fa2 := haf 2 (by decide)
    have fa3 := haf 3 (by decide)
    have fa4 := haf 4 (by decide)
    have fa5 := haf 5 (by decide)
    have fa6 := haf 6 (by decide)
    have fb0 := hbf 0 (by decide)
    have fb1 := hbf 1 (by decide)
    have fb2 := hbf 2 (by decide)
    have fb3 := hbf 3 (by decide)
    have fb4 := hbf 4 (by decide)
    have fb5 := hbf 5 (by decide)
    have fb6 := hbf 6 (by decide)
    rw [Nat.add_zero] at fa0 fb0
    have HAF := Aside0.mk haf
    have HBF := Aside0.mk hbf
    have hyi' : ys[i]? = some a := by rw [← hyi]; simp
    have hyj' : ys[j]? = some b := by rw [← hyj]; simp
    clear haf hbf ham hbm hyi hyj
    have mixed : Tryz.prog.follows Departure.mixedOrders = true := by kernel_rfl
    go_region_o
    have h1 := N_seg HN.out i (by omega) (x' := b) (seg := [.string b.f0, .int .i64 b.f1.f0, .int .i64 b.f1.f1, .int .i64 b.f1.f2, .string b.f1.f3, .slice B5 b.f2.length d5, .slice B6 b.f3.length d6]) rfl (man_FK HBM.out) (fun k hk => hk)
    have h2 := N_seg h1.1 j (by omega) (x' := a) (seg := [.string a.f0, .int .i64 a.f1.f0, .int .i64 a.f1.f1, .int .i64 a.f1.f2, .string a.f1.f3, .slice A5 a.f2.length c5, .slice A6 a.f3.length c6]) rfl (Kd.FK_step (man_FK HA.out) (fun k hk hlt => h1.2.block k hlt (fun he => hk.2 (by injection he)))) (fun k hk => hk)
    have hn2 := h2.1
    have hb2 := (pw_below_grown (pw_below_grown HB.out (some g) (by have := Kd.N_lt HN.out g rfl; omega) h1.2 (fun k hk => by injection hk with hk; omega)) (some g) (by have := Kd.N_lt h1.1 g rfl; omega) h2.2 (fun k hk => by injection hk with hk; omega))
    rw [show i * (k27).sz = i * 7 from rfl, show j * (k27).sz = j * 7 from rfl] at hn2 hb2
    obtain ⟨W2, hW2⟩ : ∃ W2, (wr.setCells g (i * 7) [.string b.f0, .int .i64 b.f1.f0, .int .i64 b.f1.f1, .int .i64 b.f1.f2, .string b.f1.f3, .slice B5 b.f2.length d5, .slice B6 b.f3.length d6]).setCells g (j * 7) [.string a.f0, .int .i64 a.f1.f0, .int .i64 a.f1.f1, .int .i64 a.f1.f2, .string a.f1.f3, .slice A5 a.f2.length c5, .slice A6 a.f3.length c6] = W2 := ⟨_, rfl⟩
    rw [hW2] at hn2 hb2
    simp only [World.setCells, Nat.add_assoc, Nat.reduceAdd] at hW2
    rw [hW2]
    have HN2 := Aside0.mk (Kd.N_drew hn2)
    have HB2 := Aside0.mk (below_drew hb2)
    clear hW2
    clear hn2 hb2
    have HY2 := Aside0.mk (swap_rel HY.out (by omega) hj hyi' hyj')
    clear h1 h2 a0 a1 a2 a3 a4 a5 a6 b0 b1 b2 b3 b4 b5 b6 fa0 fa1 fa2 fa3 fa4 fa5 fa6 fb0 fb1 fb2 fb3 fb4 fb5 fb6 hyi' hyj'
    go_wp2
    go_roundg (n - (i + 1) + 1)
    case measure => omega
    case rel => exact ⟨i + 1, (ys.set i b).set j a, by omega, by omega, by go_num, by go_num, HY2, HB2, HN2⟩
  · have hji : ¬ (i : Int) < (n : Int) - 1 - i := by omega
    go_wp2
    go_end0
    refine ⟨rfl, ?_, HB.out⟩
    rw [← rev_rel HY.out HXL.out (by omega)]
    exact HN.out
end Go.Proofs.YteinkjhimceljaaGreatDoor.J
