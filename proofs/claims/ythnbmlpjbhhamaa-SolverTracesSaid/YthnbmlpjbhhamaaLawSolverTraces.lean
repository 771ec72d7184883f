/- The row of the law SolverTraces: for every input the call returns true and each argument reads as it did. -/
import Derived.Test.YthnbmlpjbhhamaaRows
import Derived.Test.YthnbmlpjbhhamaaPSolverTraces
import Derived.Test.YthnbmlpjbhhamaaRk
import Derived.Test.YthnbmlpjbhhamaaHd
import Derived.WalkKit
import Derived.ProofKit
import Derived.OpenShut
import Derived.ShutString
import Derived.ChangeOld
import Derived.Below
import Derived.SizedLaws
import Derived.Test.YthnbmlpjbhhamaaWSized
import Derived.Lib.SmallJoins
namespace Go.Proofs.Ythnbmlpjbhhamaa.solverTraces
open Go.ChangeShapes Go.WideShapes Go.ChangeAt Go.RowKit Go.Joins
set_option linter.unusedVariables false
theorem own : ownKnob Try.prog.godebug = none := by kernel_rfl
theorem laidOut : laidOutB Try.prog = true := by kernel_rfl
set_option maxRecDepth 100000 in
theorem lifted (os : Os) (started : os.Started) (H : Type) (enc : TypeId × Value → H) :
    ReturnsInHanded {} Try.checked os 15 .any (Rows.solverTracesSpec.pre6 enc Try.prog Try.f15 Rows.solverTracesRow.domain false) (Rows.solverTracesSpec.post enc Try.prog Try.f15 false true false false) := by
  refine returnsInHanded_of_change_sized (C := Try.checked) own started (by kernel_rfl) Try.func15
    (ChangeSpec.witness6 (enc := enc) (C := Try.checked) false ⟨#[], #[.agg #[.int .i64 0, .slice none 0 0]], []⟩ 8 (by kernel_rfl) (by kernel_rfl) (by kernel_rfl) (by kernel_rfl)) ?_
  intro W base args ds gs before hval0 hW hcnd hsz0 _
  have hsz : (DataW.weightsEach Try.prog (Try.f15.params.toList ++ Rows.solverTracesSpec.plain.varTypes Try.prog) (ds ++ gs)).all (· ≤ reachBytes) = true := hsz0
  have hval : ∀ (j : Nat) t v, Try.f15.params[j]? = some t → args[j]? = some v → Value.okWide Try.prog W .any base t v := hval0
  have hW' := hW
  obtain ⟨p, q, hA0, hV, rfl, hfz, hnd⟩ := hW
  have hA : DataW.TrodAll enc Try.prog W 0 (fun _ => true) true Try.f15.params.toList args.toList ds p := hA0
  rw [Try.params15] at hA hval hsz
  obtain ⟨v0, vs0, d0, ds0, p0, q0, hargs, rfl, rfl, h0, r0⟩ := trodAll_cons hA
  obtain ⟨rfl, rfl, rfl⟩ := trodAll_nil r0
  obtain rfl : args = #[v0] := by cases args; simp_all
  obtain ⟨rfl, rfl⟩ := trodVars_none hV
  have k0 := h0
  have lt0 : ∀ x ∈ p0, x.block < W.heap.size := by obtain ⟨m, hm⟩ := k0; exact DataW.trod_lt m _ _ _ hm
  obtain ⟨u0, v0b, y0, y0b, m0, rfl, _, _, hy0, hy0b⟩ := open_agg2 Try.underlying24 (by kernel_rfl) (by kernel_rfl) (hval 0 24 v0 rfl rfl) h0
  obtain ⟨a0, e0, _, w0⟩ := DataW.trod_int Try.underlying3 hy0
  obtain rfl : u0 = .int .i64 a0 := by simpa using e0
  obtain ⟨A0, len0, c0, e0b⟩ := slice_form Try.underlying22 hy0b
  obtain rfl : v0b = .slice A0 len0 c0 := by simpa using e0b
  obtain ⟨l0, rfl, hc0, hr0, wl0⟩ := J.read_rows hy0b
  clear hA0 hval0 hsz0 hsz
  refine (J.SolverTraces_walk a0 A0 c0 l0 hr0 hc0 w0 wl0).mono fun e W' ⟨he, bel⟩ => ?_
  subst he
  exact ⟨_, rfl, _, _, _, [], _, [], hW', trodAll_mk1 (shut_bool Try.underlying4 _), (trodAll_cons_mk (Below.trod laidOut (by kernel_rfl) (of_decide_eq_true (by kernel_rfl)) k0 bel lt0) trodAll_mk0), rfl, bel.frame _, fun h => by cases h⟩
theorem fact1 : Rows.solverTracesRow.wf (OpenSpec.ofChange Rows.solverTracesSpec) = true := by kernel_rfl
theorem fact3 : mapsRowed Try.prog = true := by kernel_rfl
theorem fact4 : Try.f15.params.all (Try.prog.readableRec ·) = true := by kernel_rfl
theorem fact5 : namedTie Try.prog Rows.solverTracesRow.named Rows.solverTracesSpec.vars = true := by kernel_rfl
theorem fact6 : ((Rows.solverTracesRow.stops == []) && (Try.prog.stops == []) && (Rows.solverTracesRow.knobs == []) && (Try.prog.stopKnobs == [])) = true := by kernel_rfl
theorem fact7 : (Rows.solverTracesRow.inPlace == Try.prog.inPlace 15) = true := by kernel_rfl
theorem fact8 : (Rows.solverTracesRow.unfollowed == Try.prog.unfollowed 15) = true := by kernel_rfl
theorem fact9 : (Rows.solverTracesRow.recurses == Try.prog.recurses 15) = true := by kernel_rfl
theorem fact10 : (Rows.solverTracesRow.named == Try.prog.varsNamed 15) = true := by kernel_rfl
theorem closed : joinedFacts Try.prog 15 Try.f15 Rows.solverTracesSpec Rows.solverTracesRow = true :=
  Hd.closed_of Try.prog 15 Try.f15 Rows.solverTracesSpec Rows.solverTracesRow Hd.enters Hd.lifts Hd.makes rfl rfl fact1 laidOut fact3 fact4 fact5 fact6 fact7 fact8 fact9 fact10
    (by as_aux_lemma => kernel_rfl) (by as_aux_lemma => kernel_rfl) (by as_aux_lemma => kernel_rfl) (by as_aux_lemma => kernel_rfl) (by as_aux_lemma => kernel_rfl) (by as_aux_lemma => kernel_rfl) (by as_aux_lemma => kernel_rfl) (by as_aux_lemma => kernel_rfl) (by as_aux_lemma => kernel_rfl) (by as_aux_lemma => kernel_rfl) (by as_aux_lemma => kernel_rfl) (by as_aux_lemma => kernel_rfl) ⟨by kernel_rfl, rfl⟩ (by as_aux_lemma => kernel_rfl) (by as_aux_lemma => kernel_rfl) (by as_aux_lemma => kernel_rfl)
theorem over : Rows.solverTracesRow.holds Try.pinned (OpenSpec.ofChange Rows.solverTracesSpec) :=
  OpenClaim.holds_of_wide 15 Try.f15 rfl rfl rfl rfl rfl rfl rfl ⟨rfl, rfl, rfl, rfl, rfl⟩ rfl rfl rfl rfl rfl (by kernel_rfl) Try.func15 closed
    (of_decide_eq_true (by kernel_rfl)) (by unfold Func.isWrapper; first | (rw [if_pos (by decide +kernel)]; kernel_rfl) | (rw [if_neg (by decide +kernel)]; exact ⟨rfl, rfl⟩))
    (fun os started H enc _ => lifted os started H enc)
theorem proved : Rows.SolverTracesSaid := over
#print axioms proved
end Go.Proofs.Ythnbmlpjbhhamaa.solverTraces
namespace Go.Proofs.Ythnbmlpjbhhamaa
/-- The row, under a short name, for the claim. -/
theorem solverTraces_holds : Rows.SolverTracesSaid := solverTraces.proved
end Go.Proofs.Ythnbmlpjbhhamaa
