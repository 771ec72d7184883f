/- The row of the law CountMeans: for every input the call returns true and each argument reads as it did. -/
import Derived.Test.YthnbmlpjbhhamaaRows
import Derived.Test.YthnbmlpjbhhamaaPCountMeans
import Derived.Test.YthnbmlpjbhhamaaRk
import Derived.Test.YthnbmlpjbhhamaaHd
import Derived.WalkKit
import Derived.ProofKit
import Derived.OpenShut
import Derived.ShutString
import Derived.ChangeOld
import Derived.Below
import Derived.SizedLaws
import Derived.Test.YthnbmlpjbhhamaaWSized
import Derived.Lib.SmallJoins
namespace Go.Proofs.Ythnbmlpjbhhamaa.countMeans
open Go.ChangeShapes Go.WideShapes Go.ChangeAt Go.RowKit Go.Joins
set_option linter.unusedVariables false
theorem own : ownKnob Try.prog.godebug = none := by kernel_rfl
theorem laidOut : laidOutB Try.prog = true := by kernel_rfl
set_option maxRecDepth 100000 in
theorem lifted (os : Os) (started : os.Started) (H : Type) (enc : TypeId × Value → H) :
    ReturnsInHanded {} Try.checked os 29 .any (Rows.countMeansSpec.pre6 enc Try.prog Try.f29 Rows.countMeansRow.domain false) (Rows.countMeansSpec.post enc Try.prog Try.f29 false true false false) := by
  refine returnsInHanded_of_change_sized (C := Try.checked) own started (by kernel_rfl) Try.func29
    (ChangeSpec.witness6 (enc := enc) (C := Try.checked) false ⟨#[], #[.int .i64 0, .slice none 0 0, .slice none 0 0], []⟩ 8 (by kernel_rfl) (by kernel_rfl) (by kernel_rfl) (by kernel_rfl)) ?_
  intro W base args ds gs before hval0 hW hcnd hsz0 _
  have hsz : (DataW.weightsEach Try.prog (Try.f29.params.toList ++ Rows.countMeansSpec.plain.varTypes Try.prog) (ds ++ gs)).all (· ≤ reachBytes) = true := hsz0
  have hval : ∀ (j : Nat) t v, Try.f29.params[j]? = some t → args[j]? = some v → Value.okWide Try.prog W .any base t v := hval0
  have hW' := hW
  obtain ⟨p, q, hA0, hV, rfl, hfz, hnd⟩ := hW
  have hA : DataW.TrodAll enc Try.prog W 0 (fun _ => true) true Try.f29.params.toList args.toList ds p := hA0
  rw [Try.params29] at hA hval hsz
  obtain ⟨v0, vs0, d0, ds0, p0, q0, hargs, rfl, rfl, h0, r0⟩ := trodAll_cons hA
  obtain ⟨v1, vs1, d1, ds1, p1, q1, rfl, rfl, rfl, h1, r1⟩ := trodAll_cons r0
  obtain ⟨v2, vs2, d2, ds2, p2, q2, rfl, rfl, rfl, h2, r2⟩ := trodAll_cons r1
  obtain ⟨rfl, rfl, rfl⟩ := trodAll_nil r2
  obtain rfl : args = #[v0, v1, v2] := by cases args; simp_all
  obtain ⟨rfl, rfl⟩ := trodVars_none hV
  obtain ⟨a0, rfl, rfl, rfl, w0⟩ := open_int Try.underlying3 (hval 0 3 v0 rfl rfl) h0
  have k1 := h1
  have lt1 : ∀ x ∈ p1, x.block < W.heap.size := by obtain ⟨m, hm⟩ := k1; exact DataW.trod_lt m _ _ _ hm
  obtain ⟨A1, len1, c1, rfl⟩ := okWide_slice Try.underlying25 (hval 1 25 v1 rfl rfl)
  obtain ⟨fu1, hf1⟩ := h1
  obtain ⟨l1, rfl, hc1, hr1, wl1⟩ := J.read_ints (by simpa [Value.cells] using hf1)
  have k2 := h2
  have lt2 : ∀ x ∈ p2, x.block < W.heap.size := by obtain ⟨m, hm⟩ := k2; exact DataW.trod_lt m _ _ _ hm
  obtain ⟨A2, len2, c2, rfl⟩ := okWide_slice Try.underlying38 (hval 2 38 v2 rfl rfl)
  obtain ⟨fu2, hf2⟩ := h2
  obtain ⟨l2, rfl, hc2, hr2⟩ := J.read_bools (by simpa [Value.cells] using hf2)
  clear hA0 hval0 hsz0 hsz
  refine (J.CountMeans_walk a0 w0 A1 c1 l1 hr1 hc1 wl1 A2 c2 l2 hr2 hc2).mono fun e W' ⟨he, bel⟩ => ?_
  subst he
  exact ⟨_, rfl, _, _, _, [], _, [], hW', trodAll_mk1 (shut_bool Try.underlying4 _), (trodAll_cons_mk (shut_int Try.underlying3 w0) (trodAll_cons_mk (Below.trod laidOut (by kernel_rfl) (of_decide_eq_true (by kernel_rfl)) k1 bel lt1) (trodAll_cons_mk (Below.trod laidOut (by kernel_rfl) (of_decide_eq_true (by kernel_rfl)) k2 bel lt2) trodAll_mk0))), rfl, bel.frame _, fun h => by cases h⟩
theorem fact1 : Rows.countMeansRow.wf (OpenSpec.ofChange Rows.countMeansSpec) = true := by kernel_rfl
theorem fact3 : mapsRowed Try.prog = true := by kernel_rfl
theorem fact4 : Try.f29.params.all (Try.prog.readableRec ·) = true := by kernel_rfl
theorem fact5 : namedTie Try.prog Rows.countMeansRow.named Rows.countMeansSpec.vars = true := by kernel_rfl
theorem fact6 : ((Rows.countMeansRow.stops == []) && (Try.prog.stops == []) && (Rows.countMeansRow.knobs == []) && (Try.prog.stopKnobs == [])) = true := by kernel_rfl
theorem fact7 : (Rows.countMeansRow.inPlace == Try.prog.inPlace 29) = true := by kernel_rfl
theorem fact8 : (Rows.countMeansRow.unfollowed == Try.prog.unfollowed 29) = true := by kernel_rfl
theorem fact9 : (Rows.countMeansRow.recurses == Try.prog.recurses 29) = true := by kernel_rfl
theorem fact10 : (Rows.countMeansRow.named == Try.prog.varsNamed 29) = true := by kernel_rfl
theorem closed : joinedFacts Try.prog 29 Try.f29 Rows.countMeansSpec Rows.countMeansRow = true :=
  Hd.closed_of Try.prog 29 Try.f29 Rows.countMeansSpec Rows.countMeansRow Hd.enters Hd.lifts Hd.makes rfl rfl fact1 laidOut fact3 fact4 fact5 fact6 fact7 fact8 fact9 fact10
    (by as_aux_lemma => kernel_rfl) (by as_aux_lemma => kernel_rfl) (by as_aux_lemma => kernel_rfl) (by as_aux_lemma => kernel_rfl) (by as_aux_lemma => kernel_rfl) (by as_aux_lemma => kernel_rfl) (by as_aux_lemma => kernel_rfl) (by as_aux_lemma => kernel_rfl) (by as_aux_lemma => kernel_rfl) (by as_aux_lemma => kernel_rfl) (by as_aux_lemma => kernel_rfl) (by as_aux_lemma => kernel_rfl) ⟨by kernel_rfl, rfl⟩ (by as_aux_lemma => kernel_rfl) (by as_aux_lemma => kernel_rfl) (by as_aux_lemma => kernel_rfl)
theorem over : Rows.countMeansRow.holds Try.pinned (OpenSpec.ofChange Rows.countMeansSpec) :=
  OpenClaim.holds_of_wide 29 Try.f29 rfl rfl rfl rfl rfl rfl rfl ⟨rfl, rfl, rfl, rfl, rfl⟩ rfl rfl rfl rfl rfl (by kernel_rfl) Try.func29 closed
    (of_decide_eq_true (by kernel_rfl)) (by unfold Func.isWrapper; first | (rw [if_pos (by decide +kernel)]; kernel_rfl) | (rw [if_neg (by decide +kernel)]; exact ⟨rfl, rfl⟩))
    (fun os started H enc _ => lifted os started H enc)
theorem proved : Rows.CountMeansSaid := over
#print axioms proved
end Go.Proofs.Ythnbmlpjbhhamaa.countMeans
namespace Go.Proofs.Ythnbmlpjbhhamaa
/-- The row, under a short name, for the claim. -/
theorem countMeans_holds : Rows.CountMeansSaid := countMeans.proved
end Go.Proofs.Ythnbmlpjbhhamaa
