/- The row of the law CountMany: for every input the call returns true and each argument reads as it did. -/
import Derived.Test.YthnbmlpjbhhamaaRows
import Derived.Test.YthnbmlpjbhhamaaPCountMany
import Derived.Test.YthnbmlpjbhhamaaRk
import Derived.Test.YthnbmlpjbhhamaaHd
import Derived.WalkKit
import Derived.ProofKit
import Derived.OpenShut
import Derived.ShutString
import Derived.ChangeOld
import Derived.Below
import Derived.SizedLaws
import Derived.Test.YthnbmlpjbhhamaaWSized
import Derived.Lib.SmallJoins
namespace Go.Proofs.Ythnbmlpjbhhamaa.countMany
open Go.ChangeShapes Go.WideShapes Go.ChangeAt Go.RowKit Go.Joins
set_option linter.unusedVariables false
theorem own : ownKnob Try.prog.godebug = none := by kernel_rfl
theorem laidOut : laidOutB Try.prog = true := by kernel_rfl
set_option maxRecDepth 100000 in
theorem lifted (os : Os) (started : os.Started) (H : Type) (enc : TypeId × Value → H) :
    ReturnsInHanded {} Try.checked os 27 .any (Rows.countManySpec.pre6 enc Try.prog Try.f27 Rows.countManyRow.domain false) (Rows.countManySpec.post enc Try.prog Try.f27 false true false false) := by
  refine returnsInHanded_of_change_sized (C := Try.checked) own started (by kernel_rfl) Try.func27
    (ChangeSpec.witness6 (enc := enc) (C := Try.checked) false ⟨#[], #[.slice none 0 0], []⟩ 8 (by kernel_rfl) (by kernel_rfl) (by kernel_rfl) (by kernel_rfl)) ?_
  intro W base args ds gs before hval0 hW hcnd hsz0 _
  have hsz : (DataW.weightsEach Try.prog (Try.f27.params.toList ++ Rows.countManySpec.plain.varTypes Try.prog) (ds ++ gs)).all (· ≤ reachBytes) = true := hsz0
  have hval : ∀ (j : Nat) t v, Try.f27.params[j]? = some t → args[j]? = some v → Value.okWide Try.prog W .any base t v := hval0
  have hW' := hW
  obtain ⟨p, q, hA0, hV, rfl, hfz, hnd⟩ := hW
  have hA : DataW.TrodAll enc Try.prog W 0 (fun _ => true) true Try.f27.params.toList args.toList ds p := hA0
  rw [Try.params27] at hA hval hsz
  obtain ⟨v0, vs0, d0, ds0, p0, q0, hargs, rfl, rfl, h0, r0⟩ := trodAll_cons hA
  obtain ⟨rfl, rfl, rfl⟩ := trodAll_nil r0
  obtain rfl : args = #[v0] := by cases args; simp_all
  obtain ⟨rfl, rfl⟩ := trodVars_none hV
  have k0 := h0
  have lt0 : ∀ x ∈ p0, x.block < W.heap.size := by obtain ⟨m, hm⟩ := k0; exact DataW.trod_lt m _ _ _ hm
  obtain ⟨A0, len0, c0, rfl⟩ := okWide_slice Try.underlying25 (hval 0 25 v0 rfl rfl)
  obtain ⟨fu0, hf0⟩ := h0
  obtain ⟨l0, rfl, hc0, hr0, wl0⟩ := J.read_ints (by simpa [Value.cells] using hf0)
  clear hA0 hval0 hsz0 hsz
  refine (J.CountMany_walk A0 c0 l0 hr0 hc0 wl0).mono fun e W' ⟨he, bel⟩ => ?_
  subst he
  exact ⟨_, rfl, _, _, _, [], _, [], hW', trodAll_mk1 (shut_bool Try.underlying4 _), (trodAll_cons_mk (Below.trod laidOut (by kernel_rfl) (of_decide_eq_true (by kernel_rfl)) k0 bel lt0) trodAll_mk0), rfl, bel.frame _, fun h => by cases h⟩
theorem fact1 : Rows.countManyRow.wf (OpenSpec.ofChange Rows.countManySpec) = true := by kernel_rfl
theorem fact3 : mapsRowed Try.prog = true := by kernel_rfl
theorem fact4 : Try.f27.params.all (Try.prog.readableRec ·) = true := by kernel_rfl
theorem fact5 : namedTie Try.prog Rows.countManyRow.named Rows.countManySpec.vars = true := by kernel_rfl
theorem fact6 : ((Rows.countManyRow.stops == []) && (Try.prog.stops == []) && (Rows.countManyRow.knobs == []) && (Try.prog.stopKnobs == [])) = true := by kernel_rfl
theorem fact7 : (Rows.countManyRow.inPlace == Try.prog.inPlace 27) = true := by kernel_rfl
theorem fact8 : (Rows.countManyRow.unfollowed == Try.prog.unfollowed 27) = true := by kernel_rfl
theorem fact9 : (Rows.countManyRow.recurses == Try.prog.recurses 27) = true := by kernel_rfl
theorem fact10 : (Rows.countManyRow.named == Try.prog.varsNamed 27) = true := by kernel_rfl
theorem closed : joinedFacts Try.prog 27 Try.f27 Rows.countManySpec Rows.countManyRow = true :=
  Hd.closed_of Try.prog 27 Try.f27 Rows.countManySpec Rows.countManyRow Hd.enters Hd.lifts Hd.makes rfl rfl fact1 laidOut fact3 fact4 fact5 fact6 fact7 fact8 fact9 fact10
    (by as_aux_lemma => kernel_rfl) (by as_aux_lemma => kernel_rfl) (by as_aux_lemma => kernel_rfl) (by as_aux_lemma => kernel_rfl) (by as_aux_lemma => kernel_rfl) (by as_aux_lemma => kernel_rfl) (by as_aux_lemma => kernel_rfl) (by as_aux_lemma => kernel_rfl) (by as_aux_lemma => kernel_rfl) (by as_aux_lemma => kernel_rfl) (by as_aux_lemma => kernel_rfl) (by as_aux_lemma => kernel_rfl) ⟨by kernel_rfl, rfl⟩ (by as_aux_lemma => kernel_rfl) (by as_aux_lemma => kernel_rfl) (by as_aux_lemma => kernel_rfl)
theorem over : Rows.countManyRow.holds Try.pinned (OpenSpec.ofChange Rows.countManySpec) :=
  OpenClaim.holds_of_wide 27 Try.f27 rfl rfl rfl rfl rfl rfl rfl ⟨rfl, rfl, rfl, rfl, rfl⟩ rfl rfl rfl rfl rfl (by kernel_rfl) Try.func27 closed
    (of_decide_eq_true (by kernel_rfl)) (by unfold Func.isWrapper; first | (rw [if_pos (by decide +kernel)]; kernel_rfl) | (rw [if_neg (by decide +kernel)]; exact ⟨rfl, rfl⟩))
    (fun os started H enc _ => lifted os started H enc)
theorem proved : Rows.CountManySaid := over
#print axioms proved
end Go.Proofs.Ythnbmlpjbhhamaa.countMany
namespace Go.Proofs.Ythnbmlpjbhhamaa
/-- The row, under a short name, for the claim. -/
theorem countMany_holds : Rows.CountManySaid := countMany.proved
end Go.Proofs.Ythnbmlpjbhhamaa
