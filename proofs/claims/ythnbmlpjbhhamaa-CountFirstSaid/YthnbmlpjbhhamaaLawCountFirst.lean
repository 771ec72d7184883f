/- The row of the law CountFirst: for every input the call returns true and each argument reads as it did. -/
import Derived.Test.YthnbmlpjbhhamaaRows
import Derived.Test.YthnbmlpjbhhamaaPCountFirst
import Derived.Test.YthnbmlpjbhhamaaRk
import Derived.Test.YthnbmlpjbhhamaaHd
import Derived.WalkKit
import Derived.ProofKit
import Derived.OpenShut
import Derived.ShutString
import Derived.ChangeOld
import Derived.Below
import Derived.SizedLaws
import Derived.Test.YthnbmlpjbhhamaaWSized
import Derived.Lib.SmallJoins
namespace Go.Proofs.Ythnbmlpjbhhamaa.countFirst
open Go.ChangeShapes Go.WideShapes Go.ChangeAt Go.RowKit Go.Joins
set_option linter.unusedVariables false
theorem own : ownKnob Try.prog.godebug = none := by kernel_rfl
theorem laidOut : laidOutB Try.prog = true := by kernel_rfl
set_option maxRecDepth 100000 in
theorem lifted (os : Os) (started : os.Started) (H : Type) (enc : TypeId × Value → H) :
    ReturnsInHanded {} Try.checked os 28 .any (Rows.countFirstSpec.pre6 enc Try.prog Try.f28 Rows.countFirstRow.domain false) (Rows.countFirstSpec.post enc Try.prog Try.f28 false true false false) := by
  refine returnsInHanded_of_change_sized (C := Try.checked) own started (by kernel_rfl) Try.func28
    (ChangeSpec.witness6 (enc := enc) (C := Try.checked) false ⟨#[], #[.int .i64 0, .slice none 0 0], []⟩ 8 (by kernel_rfl) (by kernel_rfl) (by kernel_rfl) (by kernel_rfl)) ?_
  intro W base args ds gs before hval0 hW hcnd hsz0 _
  have hsz : (DataW.weightsEach Try.prog (Try.f28.params.toList ++ Rows.countFirstSpec.plain.varTypes Try.prog) (ds ++ gs)).all (· ≤ reachBytes) = true := hsz0
  have hval : ∀ (j : Nat) t v, Try.f28.params[j]? = some t → args[j]? = some v → Value.okWide Try.prog W .any base t v := hval0
  have hW' := hW
  obtain ⟨p, q, hA0, hV, rfl, hfz, hnd⟩ := hW
  have hA : DataW.TrodAll enc Try.prog W 0 (fun _ => true) true Try.f28.params.toList args.toList ds p := hA0
  rw [Try.params28] at hA hval hsz
  obtain ⟨v0, vs0, d0, ds0, p0, q0, hargs, rfl, rfl, h0, r0⟩ := trodAll_cons hA
  obtain ⟨v1, vs1, d1, ds1, p1, q1, rfl, rfl, rfl, h1, r1⟩ := trodAll_cons r0
  obtain ⟨rfl, rfl, rfl⟩ := trodAll_nil r1
  obtain rfl : args = #[v0, v1] := by cases args; simp_all
  obtain ⟨rfl, rfl⟩ := trodVars_none hV
  obtain ⟨a0, rfl, rfl, rfl, w0⟩ := open_int Try.underlying3 (hval 0 3 v0 rfl rfl) h0
  have k1 := h1
  have lt1 : ∀ x ∈ p1, x.block < W.heap.size := by obtain ⟨m, hm⟩ := k1; exact DataW.trod_lt m _ _ _ hm
  obtain ⟨A1, len1, c1, rfl⟩ := okWide_slice Try.underlying25 (hval 1 25 v1 rfl rfl)
  obtain ⟨fu1, hf1⟩ := h1
  obtain ⟨l1, rfl, hc1, hr1, wl1⟩ := J.read_ints (by simpa [Value.cells] using hf1)
  clear hA0 hval0 hsz0 hsz
  refine (J.CountFirst_walk a0 w0 A1 c1 l1 hr1 hc1 wl1).mono fun e W' ⟨he, bel⟩ => ?_
  subst he
  exact ⟨_, rfl, _, _, _, [], _, [], hW', trodAll_mk1 (shut_bool Try.underlying4 _), (trodAll_cons_mk (shut_int Try.underlying3 w0) (trodAll_cons_mk (Below.trod laidOut (by kernel_rfl) (of_decide_eq_true (by kernel_rfl)) k1 bel lt1) trodAll_mk0)), rfl, bel.frame _, fun h => by cases h⟩
theorem fact1 : Rows.countFirstRow.wf (OpenSpec.ofChange Rows.countFirstSpec) = true := by kernel_rfl
theorem fact3 : mapsRowed Try.prog = true := by kernel_rfl
theorem fact4 : Try.f28.params.all (Try.prog.readableRec ·) = true := by kernel_rfl
theorem fact5 : namedTie Try.prog Rows.countFirstRow.named Rows.countFirstSpec.vars = true := by kernel_rfl
theorem fact6 : ((Rows.countFirstRow.stops == []) && (Try.prog.stops == []) && (Rows.countFirstRow.knobs == []) && (Try.prog.stopKnobs == [])) = true := by kernel_rfl
theorem fact7 : (Rows.countFirstRow.inPlace == Try.prog.inPlace 28) = true := by kernel_rfl
theorem fact8 : (Rows.countFirstRow.unfollowed == Try.prog.unfollowed 28) = true := by kernel_rfl
theorem fact9 : (Rows.countFirstRow.recurses == Try.prog.recurses 28) = true := by kernel_rfl
theorem fact10 : (Rows.countFirstRow.named == Try.prog.varsNamed 28) = true := by kernel_rfl
theorem closed : joinedFacts Try.prog 28 Try.f28 Rows.countFirstSpec Rows.countFirstRow = true :=
  Hd.closed_of Try.prog 28 Try.f28 Rows.countFirstSpec Rows.countFirstRow Hd.enters Hd.lifts Hd.makes rfl rfl fact1 laidOut fact3 fact4 fact5 fact6 fact7 fact8 fact9 fact10
    (by as_aux_lemma => kernel_rfl) (by as_aux_lemma => kernel_rfl) (by as_aux_lemma => kernel_rfl) (by as_aux_lemma => kernel_rfl) (by as_aux_lemma => kernel_rfl) (by as_aux_lemma => kernel_rfl) (by as_aux_lemma => kernel_rfl) (by as_aux_lemma => kernel_rfl) (by as_aux_lemma => kernel_rfl) (by as_aux_lemma => kernel_rfl) (by as_aux_lemma => kernel_rfl) (by as_aux_lemma => kernel_rfl) ⟨by kernel_rfl, rfl⟩ (by as_aux_lemma => kernel_rfl) (by as_aux_lemma => kernel_rfl) (by as_aux_lemma => kernel_rfl)
theorem over : Rows.countFirstRow.holds Try.pinned (OpenSpec.ofChange Rows.countFirstSpec) :=
  OpenClaim.holds_of_wide 28 Try.f28 rfl rfl rfl rfl rfl rfl rfl ⟨rfl, rfl, rfl, rfl, rfl⟩ rfl rfl rfl rfl rfl (by kernel_rfl) Try.func28 closed
    (of_decide_eq_true (by kernel_rfl)) (by unfold Func.isWrapper; first | (rw [if_pos (by decide +kernel)]; kernel_rfl) | (rw [if_neg (by decide +kernel)]; exact ⟨rfl, rfl⟩))
    (fun os started H enc _ => lifted os started H enc)
theorem proved : Rows.CountFirstSaid := over
#print axioms proved
end Go.Proofs.Ythnbmlpjbhhamaa.countFirst
namespace Go.Proofs.Ythnbmlpjbhhamaa
/-- The row, under a short name, for the claim. -/
theorem countFirst_holds : Rows.CountFirstSaid := countFirst.proved
end Go.Proofs.Ythnbmlpjbhhamaa
