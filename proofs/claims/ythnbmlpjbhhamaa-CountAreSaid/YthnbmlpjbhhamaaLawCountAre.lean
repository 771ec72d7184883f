/- The row of the law CountAre: for every input the call returns true and each argument reads as it did. -/
import Derived.Test.YthnbmlpjbhhamaaRows
import Derived.Test.YthnbmlpjbhhamaaPCountAre
import Derived.Test.YthnbmlpjbhhamaaRk
import Derived.Test.YthnbmlpjbhhamaaHd
import Derived.WalkKit
import Derived.ProofKit
import Derived.OpenShut
import Derived.ShutString
import Derived.ChangeOld
import Derived.Below
import Derived.SizedLaws
import Derived.Test.YthnbmlpjbhhamaaWSized
import Derived.Lib.SmallJoins
namespace Go.Proofs.Ythnbmlpjbhhamaa.countAre
open Go.ChangeShapes Go.WideShapes Go.ChangeAt Go.RowKit Go.Joins
set_option linter.unusedVariables false
theorem own : ownKnob Try.prog.godebug = none := by kernel_rfl
theorem laidOut : laidOutB Try.prog = true := by kernel_rfl
set_option maxRecDepth 100000 in
theorem lifted (os : Os) (started : os.Started) (H : Type) (enc : TypeId × Value → H) :
    ReturnsInHanded {} Try.checked os 26 .any (Rows.countAreSpec.pre6 enc Try.prog Try.f26 Rows.countAreRow.domain false) (Rows.countAreSpec.post enc Try.prog Try.f26 false true false false) := by
  refine returnsInHanded_of_change_sized (C := Try.checked) own started (by kernel_rfl) Try.func26
    (ChangeSpec.witness6 (enc := enc) (C := Try.checked) false ⟨#[], #[.int .i64 0, .slice none 0 0], []⟩ 8 (by kernel_rfl) (by kernel_rfl) (by kernel_rfl) (by kernel_rfl)) ?_
  intro W base args ds gs before hval0 hW hcnd hsz0 _
  have hsz : (DataW.weightsEach Try.prog (Try.f26.params.toList ++ Rows.countAreSpec.plain.varTypes Try.prog) (ds ++ gs)).all (· ≤ reachBytes) = true := hsz0
  have hval : ∀ (j : Nat) t v, Try.f26.params[j]? = some t → args[j]? = some v → Value.okWide Try.prog W .any base t v := hval0
  have hW' := hW
  obtain ⟨p, q, hA0, hV, rfl, hfz, hnd⟩ := hW
  have hA : DataW.TrodAll enc Try.prog W 0 (fun _ => true) true Try.f26.params.toList args.toList ds p := hA0
  rw [Try.params26] at hA hval hsz
  obtain ⟨v0, vs0, d0, ds0, p0, q0, hargs, rfl, rfl, h0, r0⟩ := trodAll_cons hA
  obtain ⟨v1, vs1, d1, ds1, p1, q1, rfl, rfl, rfl, h1, r1⟩ := trodAll_cons r0
  obtain ⟨rfl, rfl, rfl⟩ := trodAll_nil r1
  obtain rfl : args = #[v0, v1] := by cases args; simp_all
  obtain ⟨rfl, rfl⟩ := trodVars_none hV
  obtain ⟨a0, rfl, rfl, rfl, w0⟩ := open_int Try.underlying3 (hval 0 3 v0 rfl rfl) h0
  have k1 := h1
  have lt1 : ∀ x ∈ p1, x.block < W.heap.size := by obtain ⟨m, hm⟩ := k1; exact DataW.trod_lt m _ _ _ hm
  obtain ⟨A1, len1, c1, rfl⟩ := okWide_slice Try.underlying25 (hval 1 25 v1 rfl rfl)
  obtain ⟨fu1, hf1⟩ := h1
  obtain ⟨l1, rfl, hc1, hr1, wl1⟩ := J.read_ints (by simpa [Value.cells] using hf1)
  clear hA0 hval0 hsz0 hsz
  refine (J.CountAre_walk a0 w0 A1 c1 l1 hr1 hc1 wl1).mono fun e W' ⟨he, bel⟩ => ?_
  subst he
  exact ⟨_, rfl, _, _, _, [], _, [], hW', trodAll_mk1 (shut_bool Try.underlying4 _), (trodAll_cons_mk (shut_int Try.underlying3 w0) (trodAll_cons_mk (Below.trod laidOut (by kernel_rfl) (of_decide_eq_true (by kernel_rfl)) k1 bel lt1) trodAll_mk0)), rfl, bel.frame _, fun h => by cases h⟩
theorem fact1 : Rows.countAreRow.wf (OpenSpec.ofChange Rows.countAreSpec) = true := by kernel_rfl
theorem fact3 : mapsRowed Try.prog = true := by kernel_rfl
theorem fact4 : Try.f26.params.all (Try.prog.readableRec ·) = true := by kernel_rfl
theorem fact5 : namedTie Try.prog Rows.countAreRow.named Rows.countAreSpec.vars = true := by kernel_rfl
theorem fact6 : ((Rows.countAreRow.stops == []) && (Try.prog.stops == []) && (Rows.countAreRow.knobs == []) && (Try.prog.stopKnobs == [])) = true := by kernel_rfl
theorem fact7 : (Rows.countAreRow.inPlace == Try.prog.inPlace 26) = true := by kernel_rfl
theorem fact8 : (Rows.countAreRow.unfollowed == Try.prog.unfollowed 26) = true := by kernel_rfl
theorem fact9 : (Rows.countAreRow.recurses == Try.prog.recurses 26) = true := by kernel_rfl
theorem fact10 : (Rows.countAreRow.named == Try.prog.varsNamed 26) = true := by kernel_rfl
theorem closed : joinedFacts Try.prog 26 Try.f26 Rows.countAreSpec Rows.countAreRow = true :=
  Hd.closed_of Try.prog 26 Try.f26 Rows.countAreSpec Rows.countAreRow Hd.enters Hd.lifts Hd.makes rfl rfl fact1 laidOut fact3 fact4 fact5 fact6 fact7 fact8 fact9 fact10
    (by as_aux_lemma => kernel_rfl) (by as_aux_lemma => kernel_rfl) (by as_aux_lemma => kernel_rfl) (by as_aux_lemma => kernel_rfl) (by as_aux_lemma => kernel_rfl) (by as_aux_lemma => kernel_rfl) (by as_aux_lemma => kernel_rfl) (by as_aux_lemma => kernel_rfl) (by as_aux_lemma => kernel_rfl) (by as_aux_lemma => kernel_rfl) (by as_aux_lemma => kernel_rfl) (by as_aux_lemma => kernel_rfl) ⟨by kernel_rfl, rfl⟩ (by as_aux_lemma => kernel_rfl) (by as_aux_lemma => kernel_rfl) (by as_aux_lemma => kernel_rfl)
theorem over : Rows.countAreRow.holds Try.pinned (OpenSpec.ofChange Rows.countAreSpec) :=
  OpenClaim.holds_of_wide 26 Try.f26 rfl rfl rfl rfl rfl rfl rfl ⟨rfl, rfl, rfl, rfl, rfl⟩ rfl rfl rfl rfl rfl (by kernel_rfl) Try.func26 closed
    (of_decide_eq_true (by kernel_rfl)) (by unfold Func.isWrapper; first | (rw [if_pos (by decide +kernel)]; kernel_rfl) | (rw [if_neg (by decide +kernel)]; exact ⟨rfl, rfl⟩))
    (fun os started H enc _ => lifted os started H enc)
theorem proved : Rows.CountAreSaid := over
#print axioms proved
end Go.Proofs.Ythnbmlpjbhhamaa.countAre
namespace Go.Proofs.Ythnbmlpjbhhamaa
/-- The row, under a short name, for the claim. -/
theorem countAre_holds : Rows.CountAreSaid := countAre.proved
end Go.Proofs.Ythnbmlpjbhhamaa
