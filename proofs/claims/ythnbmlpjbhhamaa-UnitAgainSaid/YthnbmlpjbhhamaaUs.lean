/- What is known doesn't hang on the order of clauses and literals, and is known again from itself. No program in sight. -/
import Derived.Test.YthnbmlpjbhhamaaUq
namespace Go.Proofs.Ythnbmlpjbhhamaa.Uk
set_option linter.unusedVariables false

theorem known_rev {cls : List (List Int)} {fixed : List Int} (n : Int) : Known cls.reverse fixed.reverse n ↔ Known cls fixed n :=
  ⟨fun h => known_mono (fun c hc => List.mem_reverse.1 hc) (fun m hm => List.mem_reverse.1 hm) h, fun h => known_mono (fun c hc => List.mem_reverse.2 hc) (fun m hm => List.mem_reverse.2 hm) h⟩
theorem clash_rev {cls : List (List Int)} {fixed : List Int} : Clash cls.reverse fixed.reverse ↔ Clash cls fixed :=
  ⟨fun h => clash_mono (fun c hc => List.mem_reverse.1 hc) (fun m hm => List.mem_reverse.1 hm) h, fun h => clash_mono (fun c hc => List.mem_reverse.2 hc) (fun m hm => List.mem_reverse.2 hm) h⟩
theorem check_rev (vars : Int) (cls : List (List Int)) : Sp.check vars cls.reverse = Sp.check vars cls := by
  unfold Sp.check Sp.narrow Sp.right
  rw [List.length_reverse, List.all_reverse, List.all_reverse]
theorem prop_rev (vars : Int) (cls : List (List Int)) (fixed : List Int) : prop vars cls.reverse fixed.reverse = prop vars cls fixed := by
  have h2 : (∀ m ∈ fixed.reverse, Sp.lit vars m = true) ↔ ∀ m ∈ fixed, Sp.lit vars m = true := by simp
  rcases prop_ends vars cls fixed with ⟨a, e⟩ | ⟨a, b, e⟩ | ⟨a, b, c, e⟩ | ⟨a, b, c, e⟩ <;> rw [e] <;> unfold prop <;> rw [check_rev]
  · rw [if_pos a]
  · rw [if_neg (by simp [a]), if_pos (fun k => b (h2.1 k))]
  · rw [if_neg (by simp [a]), if_neg (fun k => k (h2.2 b)), if_pos (clash_rev.2 c)]
  · rw [if_neg (by simp [a]), if_neg (fun k => k (h2.2 b)), if_neg (fun k => c (clash_rev.1 k)), told_congr (fun x => known_rev x)]
theorem prop_again {vars : Int} {cls : List (List Int)} {fixed : List Int} (h : Ok vars cls fixed) : prop vars cls (prop vars cls fixed).1 = prop vars cls fixed := by
  rw [h.prop]
  have hk : ∀ x, Known cls (told vars.toNat (Known cls fixed)) x ↔ Known cls fixed x := fun x =>
    ⟨fun hx => known_cut (fun m hm => (h.mem m).1 hm) hx, fun hx => .fix ((h.mem x).2 hx)⟩
  have h2 : Ok vars cls (told vars.toNat (Known cls fixed)) := by
    refine ⟨h.chk, fun m hm => h.known ((h.mem m).1 hm), fun hc => h.calm ?_⟩
    rcases hc with ⟨x, h1, h2⟩ | ⟨c, h1, h2⟩
    · exact .inl ⟨x, (hk _).1 h1, (hk _).1 h2⟩
    · exact .inr ⟨c, h1, fun m hm => (hk _).1 (h2 m hm)⟩
  rw [h2.prop, told_congr hk]
end Go.Proofs.Ythnbmlpjbhhamaa.Uk
