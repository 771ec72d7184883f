/-
  No cell of these rows narrows 'for every input' (looked for: loops, veiled, ifaces, maps, wideKeys, modest, calm, conditions, laid).
  DERIVED. THE GIVEN ROWS OF THIS SEAT. 29 by the template 'for every input the law returns true; each argument reads behind the call as it read before'; 0 by the template 'total and deterministic' (their statements: YthnbmlpjbhhamaaTotals.lean).
  GIVEN WITH THE SEED: the statements are not yours to turn. If you find one false, say at which input.
  Laid BY PROGRAM, IN A SANDBOX (cutbox-rows.mjs): the forced cells as the released guide's own fill.sh prints them over the translation 0ef93e37cde90186… (all of the seat's roots in one cut). By AI agents, Wed Nov 11 2026. No macro, syntax, notation, axiom, sorry.
-/
import Derived.Test.YthnbmlpjbhhamaaChecked
import GoSem.Claim
import GoSem.ClaimJoined
import GoSem.ClaimMapViews
import Derived.JoinedTies
import Derived.KernelRfl
namespace Go.Proofs.Ythnbmlpjbhhamaa
/- THE CELL 'sum', in the pinned program and in every row, IS THE sha256 OF THE DUMP (.gsa) THAT YthnbmlpjbhhamaaProg.lean LOADS. Nothing in Lean hashes anything: it is a label: what it is worth is what the hold of that sum in a sandbox is worth. -/
noncomputable def Try.pinned : Pinned := { name := "ythnbmlpjbhhamaa", sum := "0ef93e37cde90186ba83bc9d52c95e9e07b7f8ca371ac1ddc8d191b1c184d419", checked := Try.checked }
namespace Rows
def none {H : Type} : Left H := { results := [], args := [] }

/-- 'hoggetlaw11.UnitFollows': WHATEVER THE INPUT: true; the input reads as it did. -/
def unitFollowsSpec : ChangeSpec := { name := "unitFollows", fn := fun _ => fun
  | [d1, d2] => { results := [.lit (.bool true)], args := [d1, d2] }
  | _ => none }
def unitFollowsRow : OpenClaim := { program := "ythnbmlpjbhhamaa", sum := "0ef93e37cde90186ba83bc9d52c95e9e07b7f8ca371ac1ddc8d191b1c184d419", func := "hogget/hoggetlaw11.UnitFollows", spec := "unitFollows", unfollowed := true, recurses := true, apart := false }
def UnitFollowsSaid : Prop := unitFollowsRow.holds Try.pinned (OpenSpec.ofChange unitFollowsSpec)

/-- ITS FALSE NEIGHBOUR: 'it returns false'. Refute it at one input. -/
def unitFollowsWrong : ChangeSpec := { name := "unitFollows", fn := fun _ => fun
  | [d1, d2] => { results := [.lit (.bool false)], args := [d1, d2] }
  | _ => none }
def UnitFollowsWrongFalsely : Prop := unitFollowsRow.holds Try.pinned (OpenSpec.ofChange unitFollowsWrong)

/-- 'hoggetlaw11.UnitAgain': WHATEVER THE INPUT: true; the input reads as it did. -/
def unitAgainSpec : ChangeSpec := { name := "unitAgain", fn := fun _ => fun
  | [d1, d2] => { results := [.lit (.bool true)], args := [d1, d2] }
  | _ => none }
def unitAgainRow : OpenClaim := { program := "ythnbmlpjbhhamaa", sum := "0ef93e37cde90186ba83bc9d52c95e9e07b7f8ca371ac1ddc8d191b1c184d419", func := "hogget/hoggetlaw11.UnitAgain", spec := "unitAgain", unfollowed := true, recurses := true, apart := false }
def UnitAgainSaid : Prop := unitAgainRow.holds Try.pinned (OpenSpec.ofChange unitAgainSpec)

/-- ITS FALSE NEIGHBOUR: 'it returns false'. Refute it at one input. -/
def unitAgainWrong : ChangeSpec := { name := "unitAgain", fn := fun _ => fun
  | [d1, d2] => { results := [.lit (.bool false)], args := [d1, d2] }
  | _ => none }
def UnitAgainWrongFalsely : Prop := unitAgainRow.holds Try.pinned (OpenSpec.ofChange unitAgainWrong)

/-- 'hoggetlaw11.UnitMore': WHATEVER THE INPUT: true; the input reads as it did. -/
def unitMoreSpec : ChangeSpec := { name := "unitMore", fn := fun _ => fun
  | [d1, d2, d3] => { results := [.lit (.bool true)], args := [d1, d2, d3] }
  | _ => none }
def unitMoreRow : OpenClaim := { program := "ythnbmlpjbhhamaa", sum := "0ef93e37cde90186ba83bc9d52c95e9e07b7f8ca371ac1ddc8d191b1c184d419", func := "hogget/hoggetlaw11.UnitMore", spec := "unitMore", unfollowed := true, recurses := true, apart := false }
def UnitMoreSaid : Prop := unitMoreRow.holds Try.pinned (OpenSpec.ofChange unitMoreSpec)

/-- ITS FALSE NEIGHBOUR: 'it returns false'. Refute it at one input. -/
def unitMoreWrong : ChangeSpec := { name := "unitMore", fn := fun _ => fun
  | [d1, d2, d3] => { results := [.lit (.bool false)], args := [d1, d2, d3] }
  | _ => none }
def UnitMoreWrongFalsely : Prop := unitMoreRow.holds Try.pinned (OpenSpec.ofChange unitMoreWrong)

/-- 'hoggetlaw11.UnitModels': WHATEVER THE INPUT: true; the input reads as it did. -/
def unitModelsSpec : ChangeSpec := { name := "unitModels", fn := fun _ => fun
  | [d1, d2, d3] => { results := [.lit (.bool true)], args := [d1, d2, d3] }
  | _ => none }
def unitModelsRow : OpenClaim := { program := "ythnbmlpjbhhamaa", sum := "0ef93e37cde90186ba83bc9d52c95e9e07b7f8ca371ac1ddc8d191b1c184d419", func := "hogget/hoggetlaw11.UnitModels", spec := "unitModels", unfollowed := true, recurses := true, apart := false }
def UnitModelsSaid : Prop := unitModelsRow.holds Try.pinned (OpenSpec.ofChange unitModelsSpec)

/-- ITS FALSE NEIGHBOUR: 'it returns false'. Refute it at one input. -/
def unitModelsWrong : ChangeSpec := { name := "unitModels", fn := fun _ => fun
  | [d1, d2, d3] => { results := [.lit (.bool false)], args := [d1, d2, d3] }
  | _ => none }
def UnitModelsWrongFalsely : Prop := unitModelsRow.holds Try.pinned (OpenSpec.ofChange unitModelsWrong)

/-- 'hoggetlaw11.UnitFree': WHATEVER THE INPUT: true; the input reads as it did. -/
def unitFreeSpec : ChangeSpec := { name := "unitFree", fn := fun _ => fun
  | [d1, d2] => { results := [.lit (.bool true)], args := [d1, d2] }
  | _ => none }
def unitFreeRow : OpenClaim := { program := "ythnbmlpjbhhamaa", sum := "0ef93e37cde90186ba83bc9d52c95e9e07b7f8ca371ac1ddc8d191b1c184d419", func := "hogget/hoggetlaw11.UnitFree", spec := "unitFree", unfollowed := true, recurses := true, apart := false }
def UnitFreeSaid : Prop := unitFreeRow.holds Try.pinned (OpenSpec.ofChange unitFreeSpec)

/-- ITS FALSE NEIGHBOUR: 'it returns false'. Refute it at one input. -/
def unitFreeWrong : ChangeSpec := { name := "unitFree", fn := fun _ => fun
  | [d1, d2] => { results := [.lit (.bool false)], args := [d1, d2] }
  | _ => none }
def UnitFreeWrongFalsely : Prop := unitFreeRow.holds Try.pinned (OpenSpec.ofChange unitFreeWrong)

/-- 'hoggetlaw13.ProofChecks': WHATEVER THE INPUT: true; the input reads as it did. -/
def proofChecksSpec : ChangeSpec := { name := "proofChecks", fn := fun _ => fun
  | [d1, d2] => { results := [.lit (.bool true)], args := [d1, d2] }
  | _ => none }
def proofChecksRow : OpenClaim := { program := "ythnbmlpjbhhamaa", sum := "0ef93e37cde90186ba83bc9d52c95e9e07b7f8ca371ac1ddc8d191b1c184d419", func := "hogget/hoggetlaw13.ProofChecks", spec := "proofChecks", unfollowed := true, recurses := true, apart := false }
def ProofChecksSaid : Prop := proofChecksRow.holds Try.pinned (OpenSpec.ofChange proofChecksSpec)

/-- ITS FALSE NEIGHBOUR: 'it returns false'. Refute it at one input. -/
def proofChecksWrong : ChangeSpec := { name := "proofChecks", fn := fun _ => fun
  | [d1, d2] => { results := [.lit (.bool false)], args := [d1, d2] }
  | _ => none }
def ProofChecksWrongFalsely : Prop := proofChecksRow.holds Try.pinned (OpenSpec.ofChange proofChecksWrong)

/-- 'hoggetlaw13.ProofSteps': WHATEVER THE INPUT: true; the input reads as it did. -/
def proofStepsSpec : ChangeSpec := { name := "proofSteps", fn := fun _ => fun
  | [d1, d2] => { results := [.lit (.bool true)], args := [d1, d2] }
  | _ => none }
def proofStepsRow : OpenClaim := { program := "ythnbmlpjbhhamaa", sum := "0ef93e37cde90186ba83bc9d52c95e9e07b7f8ca371ac1ddc8d191b1c184d419", func := "hogget/hoggetlaw13.ProofSteps", spec := "proofSteps", unfollowed := true, recurses := true, apart := false }
def ProofStepsSaid : Prop := proofStepsRow.holds Try.pinned (OpenSpec.ofChange proofStepsSpec)

/-- ITS FALSE NEIGHBOUR: 'it returns false'. Refute it at one input. -/
def proofStepsWrong : ChangeSpec := { name := "proofSteps", fn := fun _ => fun
  | [d1, d2] => { results := [.lit (.bool false)], args := [d1, d2] }
  | _ => none }
def ProofStepsWrongFalsely : Prop := proofStepsRow.holds Try.pinned (OpenSpec.ofChange proofStepsWrong)

/-- 'hoggetlaw13.ProofMore': WHATEVER THE INPUT: true; the input reads as it did. -/
def proofMoreSpec : ChangeSpec := { name := "proofMore", fn := fun _ => fun
  | [d1, d2, d3, d4] => { results := [.lit (.bool true)], args := [d1, d2, d3, d4] }
  | _ => none }
def proofMoreRow : OpenClaim := { program := "ythnbmlpjbhhamaa", sum := "0ef93e37cde90186ba83bc9d52c95e9e07b7f8ca371ac1ddc8d191b1c184d419", func := "hogget/hoggetlaw13.ProofMore", spec := "proofMore", unfollowed := true, recurses := true, apart := false }
def ProofMoreSaid : Prop := proofMoreRow.holds Try.pinned (OpenSpec.ofChange proofMoreSpec)

/-- ITS FALSE NEIGHBOUR: 'it returns false'. Refute it at one input. -/
def proofMoreWrong : ChangeSpec := { name := "proofMore", fn := fun _ => fun
  | [d1, d2, d3, d4] => { results := [.lit (.bool false)], args := [d1, d2, d3, d4] }
  | _ => none }
def ProofMoreWrongFalsely : Prop := proofMoreRow.holds Try.pinned (OpenSpec.ofChange proofMoreWrong)

/-- 'hoggetlaw13.ProofFirst': WHATEVER THE INPUT: true; the input reads as it did. -/
def proofFirstSpec : ChangeSpec := { name := "proofFirst", fn := fun _ => fun
  | [d1, d2, d3] => { results := [.lit (.bool true)], args := [d1, d2, d3] }
  | _ => none }
def proofFirstRow : OpenClaim := { program := "ythnbmlpjbhhamaa", sum := "0ef93e37cde90186ba83bc9d52c95e9e07b7f8ca371ac1ddc8d191b1c184d419", func := "hogget/hoggetlaw13.ProofFirst", spec := "proofFirst", unfollowed := true, recurses := true, apart := false }
def ProofFirstSaid : Prop := proofFirstRow.holds Try.pinned (OpenSpec.ofChange proofFirstSpec)

/-- ITS FALSE NEIGHBOUR: 'it returns false'. Refute it at one input. -/
def proofFirstWrong : ChangeSpec := { name := "proofFirst", fn := fun _ => fun
  | [d1, d2, d3] => { results := [.lit (.bool false)], args := [d1, d2, d3] }
  | _ => none }
def ProofFirstWrongFalsely : Prop := proofFirstRow.holds Try.pinned (OpenSpec.ofChange proofFirstWrong)

/-- 'hoggetlaw13.ProofHolds': WHATEVER THE INPUT: true; the input reads as it did. -/
def proofHoldsSpec : ChangeSpec := { name := "proofHolds", fn := fun _ => fun
  | [d1, d2, d3] => { results := [.lit (.bool true)], args := [d1, d2, d3] }
  | _ => none }
def proofHoldsRow : OpenClaim := { program := "ythnbmlpjbhhamaa", sum := "0ef93e37cde90186ba83bc9d52c95e9e07b7f8ca371ac1ddc8d191b1c184d419", func := "hogget/hoggetlaw13.ProofHolds", spec := "proofHolds", unfollowed := true, recurses := true, apart := false }
def ProofHoldsSaid : Prop := proofHoldsRow.holds Try.pinned (OpenSpec.ofChange proofHoldsSpec)

/-- ITS FALSE NEIGHBOUR: 'it returns false'. Refute it at one input. -/
def proofHoldsWrong : ChangeSpec := { name := "proofHolds", fn := fun _ => fun
  | [d1, d2, d3] => { results := [.lit (.bool false)], args := [d1, d2, d3] }
  | _ => none }
def ProofHoldsWrongFalsely : Prop := proofHoldsRow.holds Try.pinned (OpenSpec.ofChange proofHoldsWrong)

/-- 'hoggetlaw12.SolverSolves': WHATEVER THE INPUT: true; the input reads as it did. -/
def solverSolvesSpec : ChangeSpec := { name := "solverSolves", fn := fun _ => fun
  | [d] => { results := [.lit (.bool true)], args := [d] }
  | _ => none }
def solverSolvesRow : OpenClaim := { program := "ythnbmlpjbhhamaa", sum := "0ef93e37cde90186ba83bc9d52c95e9e07b7f8ca371ac1ddc8d191b1c184d419", func := "hogget/hoggetlaw12.SolverSolves", spec := "solverSolves", unfollowed := true, recurses := true, apart := false }
def SolverSolvesSaid : Prop := solverSolvesRow.holds Try.pinned (OpenSpec.ofChange solverSolvesSpec)

/-- ITS FALSE NEIGHBOUR: 'it returns false'. Refute it at one input. -/
def solverSolvesWrong : ChangeSpec := { name := "solverSolves", fn := fun _ => fun
  | [d] => { results := [.lit (.bool false)], args := [d] }
  | _ => none }
def SolverSolvesWrongFalsely : Prop := solverSolvesRow.holds Try.pinned (OpenSpec.ofChange solverSolvesWrong)

/-- 'hoggetlaw12.SolverFirst': WHATEVER THE INPUT: true; the input reads as it did. -/
def solverFirstSpec : ChangeSpec := { name := "solverFirst", fn := fun _ => fun
  | [d] => { results := [.lit (.bool true)], args := [d] }
  | _ => none }
def solverFirstRow : OpenClaim := { program := "ythnbmlpjbhhamaa", sum := "0ef93e37cde90186ba83bc9d52c95e9e07b7f8ca371ac1ddc8d191b1c184d419", func := "hogget/hoggetlaw12.SolverFirst", spec := "solverFirst", unfollowed := true, recurses := true, apart := false }
def SolverFirstSaid : Prop := solverFirstRow.holds Try.pinned (OpenSpec.ofChange solverFirstSpec)

/-- ITS FALSE NEIGHBOUR: 'it returns false'. Refute it at one input. -/
def solverFirstWrong : ChangeSpec := { name := "solverFirst", fn := fun _ => fun
  | [d] => { results := [.lit (.bool false)], args := [d] }
  | _ => none }
def SolverFirstWrongFalsely : Prop := solverFirstRow.holds Try.pinned (OpenSpec.ofChange solverFirstWrong)

/-- 'hoggetlaw12.SolverTraces': WHATEVER THE INPUT: true; the input reads as it did. -/
def solverTracesSpec : ChangeSpec := { name := "solverTraces", fn := fun _ => fun
  | [d] => { results := [.lit (.bool true)], args := [d] }
  | _ => none }
def solverTracesRow : OpenClaim := { program := "ythnbmlpjbhhamaa", sum := "0ef93e37cde90186ba83bc9d52c95e9e07b7f8ca371ac1ddc8d191b1c184d419", func := "hogget/hoggetlaw12.SolverTraces", spec := "solverTraces", unfollowed := true, recurses := true, apart := false }
def SolverTracesSaid : Prop := solverTracesRow.holds Try.pinned (OpenSpec.ofChange solverTracesSpec)

/-- ITS FALSE NEIGHBOUR: 'it returns false'. Refute it at one input. -/
def solverTracesWrong : ChangeSpec := { name := "solverTraces", fn := fun _ => fun
  | [d] => { results := [.lit (.bool false)], args := [d] }
  | _ => none }
def SolverTracesWrongFalsely : Prop := solverTracesRow.holds Try.pinned (OpenSpec.ofChange solverTracesWrong)

/-- 'hoggetlaw12.SolverLess': WHATEVER THE INPUT: true; the input reads as it did. -/
def solverLessSpec : ChangeSpec := { name := "solverLess", fn := fun _ => fun
  | [d1, d2] => { results := [.lit (.bool true)], args := [d1, d2] }
  | _ => none }
def solverLessRow : OpenClaim := { program := "ythnbmlpjbhhamaa", sum := "0ef93e37cde90186ba83bc9d52c95e9e07b7f8ca371ac1ddc8d191b1c184d419", func := "hogget/hoggetlaw12.SolverLess", spec := "solverLess", unfollowed := true, recurses := true, apart := false }
def SolverLessSaid : Prop := solverLessRow.holds Try.pinned (OpenSpec.ofChange solverLessSpec)

/-- ITS FALSE NEIGHBOUR: 'it returns false'. Refute it at one input. -/
def solverLessWrong : ChangeSpec := { name := "solverLess", fn := fun _ => fun
  | [d1, d2] => { results := [.lit (.bool false)], args := [d1, d2] }
  | _ => none }
def SolverLessWrongFalsely : Prop := solverLessRow.holds Try.pinned (OpenSpec.ofChange solverLessWrong)

/-- 'hoggetlaw12.SolverFixed': WHATEVER THE INPUT: true; the input reads as it did. -/
def solverFixedSpec : ChangeSpec := { name := "solverFixed", fn := fun _ => fun
  | [d] => { results := [.lit (.bool true)], args := [d] }
  | _ => none }
def solverFixedRow : OpenClaim := { program := "ythnbmlpjbhhamaa", sum := "0ef93e37cde90186ba83bc9d52c95e9e07b7f8ca371ac1ddc8d191b1c184d419", func := "hogget/hoggetlaw12.SolverFixed", spec := "solverFixed", unfollowed := true, recurses := true, apart := false }
def SolverFixedSaid : Prop := solverFixedRow.holds Try.pinned (OpenSpec.ofChange solverFixedSpec)

/-- ITS FALSE NEIGHBOUR: 'it returns false'. Refute it at one input. -/
def solverFixedWrong : ChangeSpec := { name := "solverFixed", fn := fun _ => fun
  | [d] => { results := [.lit (.bool false)], args := [d] }
  | _ => none }
def SolverFixedWrongFalsely : Prop := solverFixedRow.holds Try.pinned (OpenSpec.ofChange solverFixedWrong)

/-- 'hoggetlaw12.SolverModels': WHATEVER THE INPUT: true; the input reads as it did. -/
def solverModelsSpec : ChangeSpec := { name := "solverModels", fn := fun _ => fun
  | [d1, d2] => { results := [.lit (.bool true)], args := [d1, d2] }
  | _ => none }
def solverModelsRow : OpenClaim := { program := "ythnbmlpjbhhamaa", sum := "0ef93e37cde90186ba83bc9d52c95e9e07b7f8ca371ac1ddc8d191b1c184d419", func := "hogget/hoggetlaw12.SolverModels", spec := "solverModels", unfollowed := true, recurses := true, apart := false }
def SolverModelsSaid : Prop := solverModelsRow.holds Try.pinned (OpenSpec.ofChange solverModelsSpec)

/-- ITS FALSE NEIGHBOUR: 'it returns false'. Refute it at one input. -/
def solverModelsWrong : ChangeSpec := { name := "solverModels", fn := fun _ => fun
  | [d1, d2] => { results := [.lit (.bool false)], args := [d1, d2] }
  | _ => none }
def SolverModelsWrongFalsely : Prop := solverModelsRow.holds Try.pinned (OpenSpec.ofChange solverModelsWrong)

/-- 'hoggetlaw13.ProofSolved': WHATEVER THE INPUT: true; the input reads as it did. -/
def proofSolvedSpec : ChangeSpec := { name := "proofSolved", fn := fun _ => fun
  | [d] => { results := [.lit (.bool true)], args := [d] }
  | _ => none }
def proofSolvedRow : OpenClaim := { program := "ythnbmlpjbhhamaa", sum := "0ef93e37cde90186ba83bc9d52c95e9e07b7f8ca371ac1ddc8d191b1c184d419", func := "hogget/hoggetlaw13.ProofSolved", spec := "proofSolved", unfollowed := true, recurses := true, apart := false }
def ProofSolvedSaid : Prop := proofSolvedRow.holds Try.pinned (OpenSpec.ofChange proofSolvedSpec)

/-- ITS FALSE NEIGHBOUR: 'it returns false'. Refute it at one input. -/
def proofSolvedWrong : ChangeSpec := { name := "proofSolved", fn := fun _ => fun
  | [d] => { results := [.lit (.bool false)], args := [d] }
  | _ => none }
def ProofSolvedWrongFalsely : Prop := proofSolvedRow.holds Try.pinned (OpenSpec.ofChange proofSolvedWrong)

/-- 'hoggetlaw10.ClauseChecks': WHATEVER THE INPUT: true; the input reads as it did. -/
def clauseChecksSpec : ChangeSpec := { name := "clauseChecks", fn := fun _ => fun
  | [d1, d2] => { results := [.lit (.bool true)], args := [d1, d2] }
  | _ => none }
def clauseChecksRow : OpenClaim := { program := "ythnbmlpjbhhamaa", sum := "0ef93e37cde90186ba83bc9d52c95e9e07b7f8ca371ac1ddc8d191b1c184d419", func := "hogget/hoggetlaw10.ClauseChecks", spec := "clauseChecks", unfollowed := true, recurses := true, apart := false }
def ClauseChecksSaid : Prop := clauseChecksRow.holds Try.pinned (OpenSpec.ofChange clauseChecksSpec)

/-- ITS FALSE NEIGHBOUR: 'it returns false'. Refute it at one input. -/
def clauseChecksWrong : ChangeSpec := { name := "clauseChecks", fn := fun _ => fun
  | [d1, d2] => { results := [.lit (.bool false)], args := [d1, d2] }
  | _ => none }
def ClauseChecksWrongFalsely : Prop := clauseChecksRow.holds Try.pinned (OpenSpec.ofChange clauseChecksWrong)

/-- 'hoggetlaw10.ClauseTidies': WHATEVER THE INPUT: true; the input reads as it did. -/
def clauseTidiesSpec : ChangeSpec := { name := "clauseTidies", fn := fun _ => fun
  | [d1, d2] => { results := [.lit (.bool true)], args := [d1, d2] }
  | _ => none }
def clauseTidiesRow : OpenClaim := { program := "ythnbmlpjbhhamaa", sum := "0ef93e37cde90186ba83bc9d52c95e9e07b7f8ca371ac1ddc8d191b1c184d419", func := "hogget/hoggetlaw10.ClauseTidies", spec := "clauseTidies", unfollowed := true, recurses := true, apart := false }
def ClauseTidiesSaid : Prop := clauseTidiesRow.holds Try.pinned (OpenSpec.ofChange clauseTidiesSpec)

/-- ITS FALSE NEIGHBOUR: 'it returns false'. Refute it at one input. -/
def clauseTidiesWrong : ChangeSpec := { name := "clauseTidies", fn := fun _ => fun
  | [d1, d2] => { results := [.lit (.bool false)], args := [d1, d2] }
  | _ => none }
def ClauseTidiesWrongFalsely : Prop := clauseTidiesRow.holds Try.pinned (OpenSpec.ofChange clauseTidiesWrong)

/-- 'hoggetlaw10.ClauseSame': WHATEVER THE INPUT: true; the input reads as it did. -/
def clauseSameSpec : ChangeSpec := { name := "clauseSame", fn := fun _ => fun
  | [d1, d2] => { results := [.lit (.bool true)], args := [d1, d2] }
  | _ => none }
def clauseSameRow : OpenClaim := { program := "ythnbmlpjbhhamaa", sum := "0ef93e37cde90186ba83bc9d52c95e9e07b7f8ca371ac1ddc8d191b1c184d419", func := "hogget/hoggetlaw10.ClauseSame", spec := "clauseSame", unfollowed := true, recurses := true, apart := false }
def ClauseSameSaid : Prop := clauseSameRow.holds Try.pinned (OpenSpec.ofChange clauseSameSpec)

/-- ITS FALSE NEIGHBOUR: 'it returns false'. Refute it at one input. -/
def clauseSameWrong : ChangeSpec := { name := "clauseSame", fn := fun _ => fun
  | [d1, d2] => { results := [.lit (.bool false)], args := [d1, d2] }
  | _ => none }
def ClauseSameWrongFalsely : Prop := clauseSameRow.holds Try.pinned (OpenSpec.ofChange clauseSameWrong)

/-- 'hoggetlaw10.ClauseMore': WHATEVER THE INPUT: true; the input reads as it did. -/
def clauseMoreSpec : ChangeSpec := { name := "clauseMore", fn := fun _ => fun
  | [d1, d2, d3] => { results := [.lit (.bool true)], args := [d1, d2, d3] }
  | _ => none }
def clauseMoreRow : OpenClaim := { program := "ythnbmlpjbhhamaa", sum := "0ef93e37cde90186ba83bc9d52c95e9e07b7f8ca371ac1ddc8d191b1c184d419", func := "hogget/hoggetlaw10.ClauseMore", spec := "clauseMore", unfollowed := true, recurses := true, apart := false }
def ClauseMoreSaid : Prop := clauseMoreRow.holds Try.pinned (OpenSpec.ofChange clauseMoreSpec)

/-- ITS FALSE NEIGHBOUR: 'it returns false'. Refute it at one input. -/
def clauseMoreWrong : ChangeSpec := { name := "clauseMore", fn := fun _ => fun
  | [d1, d2, d3] => { results := [.lit (.bool false)], args := [d1, d2, d3] }
  | _ => none }
def ClauseMoreWrongFalsely : Prop := clauseMoreRow.holds Try.pinned (OpenSpec.ofChange clauseMoreWrong)

/-- 'hoggetlaw10.ClauseTurned': WHATEVER THE INPUT: true; the input reads as it did. -/
def clauseTurnedSpec : ChangeSpec := { name := "clauseTurned", fn := fun _ => fun
  | [d1, d2] => { results := [.lit (.bool true)], args := [d1, d2] }
  | _ => none }
def clauseTurnedRow : OpenClaim := { program := "ythnbmlpjbhhamaa", sum := "0ef93e37cde90186ba83bc9d52c95e9e07b7f8ca371ac1ddc8d191b1c184d419", func := "hogget/hoggetlaw10.ClauseTurned", spec := "clauseTurned", unfollowed := true, recurses := true, apart := false }
def ClauseTurnedSaid : Prop := clauseTurnedRow.holds Try.pinned (OpenSpec.ofChange clauseTurnedSpec)

/-- ITS FALSE NEIGHBOUR: 'it returns false'. Refute it at one input. -/
def clauseTurnedWrong : ChangeSpec := { name := "clauseTurned", fn := fun _ => fun
  | [d1, d2] => { results := [.lit (.bool false)], args := [d1, d2] }
  | _ => none }
def ClauseTurnedWrongFalsely : Prop := clauseTurnedRow.holds Try.pinned (OpenSpec.ofChange clauseTurnedWrong)

/-- 'hoggetlaw10.ClauseFlipped': WHATEVER THE INPUT: true; the input reads as it did. -/
def clauseFlippedSpec : ChangeSpec := { name := "clauseFlipped", fn := fun _ => fun
  | [d1, d2] => { results := [.lit (.bool true)], args := [d1, d2] }
  | _ => none }
def clauseFlippedRow : OpenClaim := { program := "ythnbmlpjbhhamaa", sum := "0ef93e37cde90186ba83bc9d52c95e9e07b7f8ca371ac1ddc8d191b1c184d419", func := "hogget/hoggetlaw10.ClauseFlipped", spec := "clauseFlipped", unfollowed := true, recurses := true, apart := false }
def ClauseFlippedSaid : Prop := clauseFlippedRow.holds Try.pinned (OpenSpec.ofChange clauseFlippedSpec)

/-- ITS FALSE NEIGHBOUR: 'it returns false'. Refute it at one input. -/
def clauseFlippedWrong : ChangeSpec := { name := "clauseFlipped", fn := fun _ => fun
  | [d1, d2] => { results := [.lit (.bool false)], args := [d1, d2] }
  | _ => none }
def ClauseFlippedWrongFalsely : Prop := clauseFlippedRow.holds Try.pinned (OpenSpec.ofChange clauseFlippedWrong)

/-- 'hoggetlaw14.CountAre': WHATEVER THE INPUT: true; the input reads as it did. -/
def countAreSpec : ChangeSpec := { name := "countAre", fn := fun _ => fun
  | [d1, d2] => { results := [.lit (.bool true)], args := [d1, d2] }
  | _ => none }
def countAreRow : OpenClaim := { program := "ythnbmlpjbhhamaa", sum := "0ef93e37cde90186ba83bc9d52c95e9e07b7f8ca371ac1ddc8d191b1c184d419", func := "hogget/hoggetlaw14.CountAre", spec := "countAre", unfollowed := true, recurses := true, apart := false }
def CountAreSaid : Prop := countAreRow.holds Try.pinned (OpenSpec.ofChange countAreSpec)

/-- ITS FALSE NEIGHBOUR: 'it returns false'. Refute it at one input. -/
def countAreWrong : ChangeSpec := { name := "countAre", fn := fun _ => fun
  | [d1, d2] => { results := [.lit (.bool false)], args := [d1, d2] }
  | _ => none }
def CountAreWrongFalsely : Prop := countAreRow.holds Try.pinned (OpenSpec.ofChange countAreWrong)

/-- 'hoggetlaw14.CountMany': WHATEVER THE INPUT: true; the input reads as it did. -/
def countManySpec : ChangeSpec := { name := "countMany", fn := fun _ => fun
  | [d] => { results := [.lit (.bool true)], args := [d] }
  | _ => none }
def countManyRow : OpenClaim := { program := "ythnbmlpjbhhamaa", sum := "0ef93e37cde90186ba83bc9d52c95e9e07b7f8ca371ac1ddc8d191b1c184d419", func := "hogget/hoggetlaw14.CountMany", spec := "countMany", unfollowed := true, recurses := true, apart := false }
def CountManySaid : Prop := countManyRow.holds Try.pinned (OpenSpec.ofChange countManySpec)

/-- ITS FALSE NEIGHBOUR: 'it returns false'. Refute it at one input. -/
def countManyWrong : ChangeSpec := { name := "countMany", fn := fun _ => fun
  | [d] => { results := [.lit (.bool false)], args := [d] }
  | _ => none }
def CountManyWrongFalsely : Prop := countManyRow.holds Try.pinned (OpenSpec.ofChange countManyWrong)

/-- 'hoggetlaw14.CountFirst': WHATEVER THE INPUT: true; the input reads as it did. -/
def countFirstSpec : ChangeSpec := { name := "countFirst", fn := fun _ => fun
  | [d1, d2] => { results := [.lit (.bool true)], args := [d1, d2] }
  | _ => none }
def countFirstRow : OpenClaim := { program := "ythnbmlpjbhhamaa", sum := "0ef93e37cde90186ba83bc9d52c95e9e07b7f8ca371ac1ddc8d191b1c184d419", func := "hogget/hoggetlaw14.CountFirst", spec := "countFirst", unfollowed := true, recurses := true, apart := false }
def CountFirstSaid : Prop := countFirstRow.holds Try.pinned (OpenSpec.ofChange countFirstSpec)

/-- ITS FALSE NEIGHBOUR: 'it returns false'. Refute it at one input. -/
def countFirstWrong : ChangeSpec := { name := "countFirst", fn := fun _ => fun
  | [d1, d2] => { results := [.lit (.bool false)], args := [d1, d2] }
  | _ => none }
def CountFirstWrongFalsely : Prop := countFirstRow.holds Try.pinned (OpenSpec.ofChange countFirstWrong)

/-- 'hoggetlaw14.CountMeans': WHATEVER THE INPUT: true; the input reads as it did. -/
def countMeansSpec : ChangeSpec := { name := "countMeans", fn := fun _ => fun
  | [d1, d2, d3] => { results := [.lit (.bool true)], args := [d1, d2, d3] }
  | _ => none }
def countMeansRow : OpenClaim := { program := "ythnbmlpjbhhamaa", sum := "0ef93e37cde90186ba83bc9d52c95e9e07b7f8ca371ac1ddc8d191b1c184d419", func := "hogget/hoggetlaw14.CountMeans", spec := "countMeans", unfollowed := true, recurses := true, apart := false }
def CountMeansSaid : Prop := countMeansRow.holds Try.pinned (OpenSpec.ofChange countMeansSpec)

/-- ITS FALSE NEIGHBOUR: 'it returns false'. Refute it at one input. -/
def countMeansWrong : ChangeSpec := { name := "countMeans", fn := fun _ => fun
  | [d1, d2, d3] => { results := [.lit (.bool false)], args := [d1, d2, d3] }
  | _ => none }
def CountMeansWrongFalsely : Prop := countMeansRow.holds Try.pinned (OpenSpec.ofChange countMeansWrong)

/-- 'hoggetlaw14.CountTurned': WHATEVER THE INPUT: true; the input reads as it did. -/
def countTurnedSpec : ChangeSpec := { name := "countTurned", fn := fun _ => fun
  | [d1, d2] => { results := [.lit (.bool true)], args := [d1, d2] }
  | _ => none }
def countTurnedRow : OpenClaim := { program := "ythnbmlpjbhhamaa", sum := "0ef93e37cde90186ba83bc9d52c95e9e07b7f8ca371ac1ddc8d191b1c184d419", func := "hogget/hoggetlaw14.CountTurned", spec := "countTurned", unfollowed := true, recurses := true, apart := false }
def CountTurnedSaid : Prop := countTurnedRow.holds Try.pinned (OpenSpec.ofChange countTurnedSpec)

/-- ITS FALSE NEIGHBOUR: 'it returns false'. Refute it at one input. -/
def countTurnedWrong : ChangeSpec := { name := "countTurned", fn := fun _ => fun
  | [d1, d2] => { results := [.lit (.bool false)], args := [d1, d2] }
  | _ => none }
def CountTurnedWrongFalsely : Prop := countTurnedRow.holds Try.pinned (OpenSpec.ofChange countTurnedWrong)

/-- 'hoggetlaw11.UnitPlain': WHATEVER THE INPUT: true; the input reads as it did. -/
def unitPlainSpec : ChangeSpec := { name := "unitPlain", fn := fun _ => fun
  | [d1, d2] => { results := [.lit (.bool true)], args := [d1, d2] }
  | _ => none }
def unitPlainRow : OpenClaim := { program := "ythnbmlpjbhhamaa", sum := "0ef93e37cde90186ba83bc9d52c95e9e07b7f8ca371ac1ddc8d191b1c184d419", func := "hogget/hoggetlaw11.UnitPlain", spec := "unitPlain", unfollowed := true, recurses := true, apart := false }
def UnitPlainSaid : Prop := unitPlainRow.holds Try.pinned (OpenSpec.ofChange unitPlainSpec)

/-- ITS FALSE NEIGHBOUR: 'it returns false'. Refute it at one input. -/
def unitPlainWrong : ChangeSpec := { name := "unitPlain", fn := fun _ => fun
  | [d1, d2] => { results := [.lit (.bool false)], args := [d1, d2] }
  | _ => none }
def UnitPlainWrongFalsely : Prop := unitPlainRow.holds Try.pinned (OpenSpec.ofChange unitPlainWrong)

/- THE SECOND FORM. 'bulk': how many values and letters a reading holds, each counted each time it is reached (what is shared counts as often as it is met; a slice's spare places count too). A statement '..UptoSaid' is the law's where the arguments, and the package variables that the reading takes, are together of bulk at most 1048576: NARROWER than '..Said'. Prove '..Said' where nothing that the law and all that it calls make is longer than what came in: it says more and counts as full. Else prove '..UptoSaid'. A law counts once. -/
mutual
def uptoBulk {H : Type} : DataW H → Nat
  | .lit (.string bytes) => bytes.length + 1
  | .lit _ => 1
  | .nil => 1
  | .ptr d => uptoBulk d + 1
  | .slice elems spare => uptoBulkAll elems + uptoBulkAll spare + 1
  | .agg parts => uptoBulkAll parts + 1
  | .iface _ d => uptoBulk d + 1
  | .map entries => uptoBulkEntries entries + 1
  | .held _ => 1
def uptoBulkAll {H : Type} : List (DataW H) → Nat
  | [] => 0
  | d :: r => uptoBulk d + uptoBulkAll r
def uptoBulkEntries {H : Type} : List (Lit × DataW H) → Nat
  | [] => 0
  | x :: r => uptoBulkEntry x + uptoBulkEntries r
def uptoBulkEntry {H : Type} : Lit × DataW H → Nat
  | (.string bytes, d) => bytes.length + uptoBulk d + 1
  | (_, d) => uptoBulk d + 1
 end
def uptoSmall : (H : Type) → List (DataW H) → Bool := fun _ ds => decide (uptoBulkAll ds ≤ 1048576)
def OpenSpec.upto (s : _root_.Go.ChangeSpec) : _root_.Go.OpenSpec := { _root_.Go.OpenSpec.ofChange s with cond := some uptoSmall }

/-- 'hoggetlaw11.UnitFollows', WHERE WHAT IT READS IS OF BULK AT MOST 1048576: true; the input reads as it did. -/
def unitFollowsUptoRow : OpenClaim := { program := "ythnbmlpjbhhamaa", sum := "0ef93e37cde90186ba83bc9d52c95e9e07b7f8ca371ac1ddc8d191b1c184d419", func := "hogget/hoggetlaw11.UnitFollows", spec := "unitFollows", unfollowed := true, recurses := true, apart := false, narrowed := true }
def UnitFollowsUptoSaid : Prop := unitFollowsUptoRow.holds Try.pinned (OpenSpec.upto unitFollowsSpec)

/-- 'hoggetlaw11.UnitAgain', WHERE WHAT IT READS IS OF BULK AT MOST 1048576: true; the input reads as it did. -/
def unitAgainUptoRow : OpenClaim := { program := "ythnbmlpjbhhamaa", sum := "0ef93e37cde90186ba83bc9d52c95e9e07b7f8ca371ac1ddc8d191b1c184d419", func := "hogget/hoggetlaw11.UnitAgain", spec := "unitAgain", unfollowed := true, recurses := true, apart := false, narrowed := true }
def UnitAgainUptoSaid : Prop := unitAgainUptoRow.holds Try.pinned (OpenSpec.upto unitAgainSpec)

/-- 'hoggetlaw11.UnitMore', WHERE WHAT IT READS IS OF BULK AT MOST 1048576: true; the input reads as it did. -/
def unitMoreUptoRow : OpenClaim := { program := "ythnbmlpjbhhamaa", sum := "0ef93e37cde90186ba83bc9d52c95e9e07b7f8ca371ac1ddc8d191b1c184d419", func := "hogget/hoggetlaw11.UnitMore", spec := "unitMore", unfollowed := true, recurses := true, apart := false, narrowed := true }
def UnitMoreUptoSaid : Prop := unitMoreUptoRow.holds Try.pinned (OpenSpec.upto unitMoreSpec)

/-- 'hoggetlaw11.UnitModels', WHERE WHAT IT READS IS OF BULK AT MOST 1048576: true; the input reads as it did. -/
def unitModelsUptoRow : OpenClaim := { program := "ythnbmlpjbhhamaa", sum := "0ef93e37cde90186ba83bc9d52c95e9e07b7f8ca371ac1ddc8d191b1c184d419", func := "hogget/hoggetlaw11.UnitModels", spec := "unitModels", unfollowed := true, recurses := true, apart := false, narrowed := true }
def UnitModelsUptoSaid : Prop := unitModelsUptoRow.holds Try.pinned (OpenSpec.upto unitModelsSpec)

/-- 'hoggetlaw11.UnitFree', WHERE WHAT IT READS IS OF BULK AT MOST 1048576: true; the input reads as it did. -/
def unitFreeUptoRow : OpenClaim := { program := "ythnbmlpjbhhamaa", sum := "0ef93e37cde90186ba83bc9d52c95e9e07b7f8ca371ac1ddc8d191b1c184d419", func := "hogget/hoggetlaw11.UnitFree", spec := "unitFree", unfollowed := true, recurses := true, apart := false, narrowed := true }
def UnitFreeUptoSaid : Prop := unitFreeUptoRow.holds Try.pinned (OpenSpec.upto unitFreeSpec)

/-- 'hoggetlaw13.ProofChecks', WHERE WHAT IT READS IS OF BULK AT MOST 1048576: true; the input reads as it did. -/
def proofChecksUptoRow : OpenClaim := { program := "ythnbmlpjbhhamaa", sum := "0ef93e37cde90186ba83bc9d52c95e9e07b7f8ca371ac1ddc8d191b1c184d419", func := "hogget/hoggetlaw13.ProofChecks", spec := "proofChecks", unfollowed := true, recurses := true, apart := false, narrowed := true }
def ProofChecksUptoSaid : Prop := proofChecksUptoRow.holds Try.pinned (OpenSpec.upto proofChecksSpec)

/-- 'hoggetlaw13.ProofSteps', WHERE WHAT IT READS IS OF BULK AT MOST 1048576: true; the input reads as it did. -/
def proofStepsUptoRow : OpenClaim := { program := "ythnbmlpjbhhamaa", sum := "0ef93e37cde90186ba83bc9d52c95e9e07b7f8ca371ac1ddc8d191b1c184d419", func := "hogget/hoggetlaw13.ProofSteps", spec := "proofSteps", unfollowed := true, recurses := true, apart := false, narrowed := true }
def ProofStepsUptoSaid : Prop := proofStepsUptoRow.holds Try.pinned (OpenSpec.upto proofStepsSpec)

/-- 'hoggetlaw13.ProofMore', WHERE WHAT IT READS IS OF BULK AT MOST 1048576: true; the input reads as it did. -/
def proofMoreUptoRow : OpenClaim := { program := "ythnbmlpjbhhamaa", sum := "0ef93e37cde90186ba83bc9d52c95e9e07b7f8ca371ac1ddc8d191b1c184d419", func := "hogget/hoggetlaw13.ProofMore", spec := "proofMore", unfollowed := true, recurses := true, apart := false, narrowed := true }
def ProofMoreUptoSaid : Prop := proofMoreUptoRow.holds Try.pinned (OpenSpec.upto proofMoreSpec)

/-- 'hoggetlaw13.ProofFirst', WHERE WHAT IT READS IS OF BULK AT MOST 1048576: true; the input reads as it did. -/
def proofFirstUptoRow : OpenClaim := { program := "ythnbmlpjbhhamaa", sum := "0ef93e37cde90186ba83bc9d52c95e9e07b7f8ca371ac1ddc8d191b1c184d419", func := "hogget/hoggetlaw13.ProofFirst", spec := "proofFirst", unfollowed := true, recurses := true, apart := false, narrowed := true }
def ProofFirstUptoSaid : Prop := proofFirstUptoRow.holds Try.pinned (OpenSpec.upto proofFirstSpec)

/-- 'hoggetlaw13.ProofHolds', WHERE WHAT IT READS IS OF BULK AT MOST 1048576: true; the input reads as it did. -/
def proofHoldsUptoRow : OpenClaim := { program := "ythnbmlpjbhhamaa", sum := "0ef93e37cde90186ba83bc9d52c95e9e07b7f8ca371ac1ddc8d191b1c184d419", func := "hogget/hoggetlaw13.ProofHolds", spec := "proofHolds", unfollowed := true, recurses := true, apart := false, narrowed := true }
def ProofHoldsUptoSaid : Prop := proofHoldsUptoRow.holds Try.pinned (OpenSpec.upto proofHoldsSpec)

/-- 'hoggetlaw12.SolverSolves', WHERE WHAT IT READS IS OF BULK AT MOST 1048576: true; the input reads as it did. -/
def solverSolvesUptoRow : OpenClaim := { program := "ythnbmlpjbhhamaa", sum := "0ef93e37cde90186ba83bc9d52c95e9e07b7f8ca371ac1ddc8d191b1c184d419", func := "hogget/hoggetlaw12.SolverSolves", spec := "solverSolves", unfollowed := true, recurses := true, apart := false, narrowed := true }
def SolverSolvesUptoSaid : Prop := solverSolvesUptoRow.holds Try.pinned (OpenSpec.upto solverSolvesSpec)

/-- 'hoggetlaw12.SolverFirst', WHERE WHAT IT READS IS OF BULK AT MOST 1048576: true; the input reads as it did. -/
def solverFirstUptoRow : OpenClaim := { program := "ythnbmlpjbhhamaa", sum := "0ef93e37cde90186ba83bc9d52c95e9e07b7f8ca371ac1ddc8d191b1c184d419", func := "hogget/hoggetlaw12.SolverFirst", spec := "solverFirst", unfollowed := true, recurses := true, apart := false, narrowed := true }
def SolverFirstUptoSaid : Prop := solverFirstUptoRow.holds Try.pinned (OpenSpec.upto solverFirstSpec)

/-- 'hoggetlaw12.SolverTraces', WHERE WHAT IT READS IS OF BULK AT MOST 1048576: true; the input reads as it did. -/
def solverTracesUptoRow : OpenClaim := { program := "ythnbmlpjbhhamaa", sum := "0ef93e37cde90186ba83bc9d52c95e9e07b7f8ca371ac1ddc8d191b1c184d419", func := "hogget/hoggetlaw12.SolverTraces", spec := "solverTraces", unfollowed := true, recurses := true, apart := false, narrowed := true }
def SolverTracesUptoSaid : Prop := solverTracesUptoRow.holds Try.pinned (OpenSpec.upto solverTracesSpec)

/-- 'hoggetlaw12.SolverLess', WHERE WHAT IT READS IS OF BULK AT MOST 1048576: true; the input reads as it did. -/
def solverLessUptoRow : OpenClaim := { program := "ythnbmlpjbhhamaa", sum := "0ef93e37cde90186ba83bc9d52c95e9e07b7f8ca371ac1ddc8d191b1c184d419", func := "hogget/hoggetlaw12.SolverLess", spec := "solverLess", unfollowed := true, recurses := true, apart := false, narrowed := true }
def SolverLessUptoSaid : Prop := solverLessUptoRow.holds Try.pinned (OpenSpec.upto solverLessSpec)

/-- 'hoggetlaw12.SolverFixed', WHERE WHAT IT READS IS OF BULK AT MOST 1048576: true; the input reads as it did. -/
def solverFixedUptoRow : OpenClaim := { program := "ythnbmlpjbhhamaa", sum := "0ef93e37cde90186ba83bc9d52c95e9e07b7f8ca371ac1ddc8d191b1c184d419", func := "hogget/hoggetlaw12.SolverFixed", spec := "solverFixed", unfollowed := true, recurses := true, apart := false, narrowed := true }
def SolverFixedUptoSaid : Prop := solverFixedUptoRow.holds Try.pinned (OpenSpec.upto solverFixedSpec)

/-- 'hoggetlaw12.SolverModels', WHERE WHAT IT READS IS OF BULK AT MOST 1048576: true; the input reads as it did. -/
def solverModelsUptoRow : OpenClaim := { program := "ythnbmlpjbhhamaa", sum := "0ef93e37cde90186ba83bc9d52c95e9e07b7f8ca371ac1ddc8d191b1c184d419", func := "hogget/hoggetlaw12.SolverModels", spec := "solverModels", unfollowed := true, recurses := true, apart := false, narrowed := true }
def SolverModelsUptoSaid : Prop := solverModelsUptoRow.holds Try.pinned (OpenSpec.upto solverModelsSpec)

/-- 'hoggetlaw13.ProofSolved', WHERE WHAT IT READS IS OF BULK AT MOST 1048576: true; the input reads as it did. -/
def proofSolvedUptoRow : OpenClaim := { program := "ythnbmlpjbhhamaa", sum := "0ef93e37cde90186ba83bc9d52c95e9e07b7f8ca371ac1ddc8d191b1c184d419", func := "hogget/hoggetlaw13.ProofSolved", spec := "proofSolved", unfollowed := true, recurses := true, apart := false, narrowed := true }
def ProofSolvedUptoSaid : Prop := proofSolvedUptoRow.holds Try.pinned (OpenSpec.upto proofSolvedSpec)

/-- 'hoggetlaw10.ClauseChecks', WHERE WHAT IT READS IS OF BULK AT MOST 1048576: true; the input reads as it did. -/
def clauseChecksUptoRow : OpenClaim := { program := "ythnbmlpjbhhamaa", sum := "0ef93e37cde90186ba83bc9d52c95e9e07b7f8ca371ac1ddc8d191b1c184d419", func := "hogget/hoggetlaw10.ClauseChecks", spec := "clauseChecks", unfollowed := true, recurses := true, apart := false, narrowed := true }
def ClauseChecksUptoSaid : Prop := clauseChecksUptoRow.holds Try.pinned (OpenSpec.upto clauseChecksSpec)

/-- 'hoggetlaw10.ClauseTidies', WHERE WHAT IT READS IS OF BULK AT MOST 1048576: true; the input reads as it did. -/
def clauseTidiesUptoRow : OpenClaim := { program := "ythnbmlpjbhhamaa", sum := "0ef93e37cde90186ba83bc9d52c95e9e07b7f8ca371ac1ddc8d191b1c184d419", func := "hogget/hoggetlaw10.ClauseTidies", spec := "clauseTidies", unfollowed := true, recurses := true, apart := false, narrowed := true }
def ClauseTidiesUptoSaid : Prop := clauseTidiesUptoRow.holds Try.pinned (OpenSpec.upto clauseTidiesSpec)

/-- 'hoggetlaw10.ClauseSame', WHERE WHAT IT READS IS OF BULK AT MOST 1048576: true; the input reads as it did. -/
def clauseSameUptoRow : OpenClaim := { program := "ythnbmlpjbhhamaa", sum := "0ef93e37cde90186ba83bc9d52c95e9e07b7f8ca371ac1ddc8d191b1c184d419", func := "hogget/hoggetlaw10.ClauseSame", spec := "clauseSame", unfollowed := true, recurses := true, apart := false, narrowed := true }
def ClauseSameUptoSaid : Prop := clauseSameUptoRow.holds Try.pinned (OpenSpec.upto clauseSameSpec)

/-- 'hoggetlaw10.ClauseMore', WHERE WHAT IT READS IS OF BULK AT MOST 1048576: true; the input reads as it did. -/
def clauseMoreUptoRow : OpenClaim := { program := "ythnbmlpjbhhamaa", sum := "0ef93e37cde90186ba83bc9d52c95e9e07b7f8ca371ac1ddc8d191b1c184d419", func := "hogget/hoggetlaw10.ClauseMore", spec := "clauseMore", unfollowed := true, recurses := true, apart := false, narrowed := true }
def ClauseMoreUptoSaid : Prop := clauseMoreUptoRow.holds Try.pinned (OpenSpec.upto clauseMoreSpec)

/-- 'hoggetlaw10.ClauseTurned', WHERE WHAT IT READS IS OF BULK AT MOST 1048576: true; the input reads as it did. -/
def clauseTurnedUptoRow : OpenClaim := { program := "ythnbmlpjbhhamaa", sum := "0ef93e37cde90186ba83bc9d52c95e9e07b7f8ca371ac1ddc8d191b1c184d419", func := "hogget/hoggetlaw10.ClauseTurned", spec := "clauseTurned", unfollowed := true, recurses := true, apart := false, narrowed := true }
def ClauseTurnedUptoSaid : Prop := clauseTurnedUptoRow.holds Try.pinned (OpenSpec.upto clauseTurnedSpec)

/-- 'hoggetlaw10.ClauseFlipped', WHERE WHAT IT READS IS OF BULK AT MOST 1048576: true; the input reads as it did. -/
def clauseFlippedUptoRow : OpenClaim := { program := "ythnbmlpjbhhamaa", sum := "0ef93e37cde90186ba83bc9d52c95e9e07b7f8ca371ac1ddc8d191b1c184d419", func := "hogget/hoggetlaw10.ClauseFlipped", spec := "clauseFlipped", unfollowed := true, recurses := true, apart := false, narrowed := true }
def ClauseFlippedUptoSaid : Prop := clauseFlippedUptoRow.holds Try.pinned (OpenSpec.upto clauseFlippedSpec)

/-- 'hoggetlaw14.CountAre', WHERE WHAT IT READS IS OF BULK AT MOST 1048576: true; the input reads as it did. -/
def countAreUptoRow : OpenClaim := { program := "ythnbmlpjbhhamaa", sum := "0ef93e37cde90186ba83bc9d52c95e9e07b7f8ca371ac1ddc8d191b1c184d419", func := "hogget/hoggetlaw14.CountAre", spec := "countAre", unfollowed := true, recurses := true, apart := false, narrowed := true }
def CountAreUptoSaid : Prop := countAreUptoRow.holds Try.pinned (OpenSpec.upto countAreSpec)

/-- 'hoggetlaw14.CountMany', WHERE WHAT IT READS IS OF BULK AT MOST 1048576: true; the input reads as it did. -/
def countManyUptoRow : OpenClaim := { program := "ythnbmlpjbhhamaa", sum := "0ef93e37cde90186ba83bc9d52c95e9e07b7f8ca371ac1ddc8d191b1c184d419", func := "hogget/hoggetlaw14.CountMany", spec := "countMany", unfollowed := true, recurses := true, apart := false, narrowed := true }
def CountManyUptoSaid : Prop := countManyUptoRow.holds Try.pinned (OpenSpec.upto countManySpec)

/-- 'hoggetlaw14.CountFirst', WHERE WHAT IT READS IS OF BULK AT MOST 1048576: true; the input reads as it did. -/
def countFirstUptoRow : OpenClaim := { program := "ythnbmlpjbhhamaa", sum := "0ef93e37cde90186ba83bc9d52c95e9e07b7f8ca371ac1ddc8d191b1c184d419", func := "hogget/hoggetlaw14.CountFirst", spec := "countFirst", unfollowed := true, recurses := true, apart := false, narrowed := true }
def CountFirstUptoSaid : Prop := countFirstUptoRow.holds Try.pinned (OpenSpec.upto countFirstSpec)

/-- 'hoggetlaw14.CountMeans', WHERE WHAT IT READS IS OF BULK AT MOST 1048576: true; the input reads as it did. -/
def countMeansUptoRow : OpenClaim := { program := "ythnbmlpjbhhamaa", sum := "0ef93e37cde90186ba83bc9d52c95e9e07b7f8ca371ac1ddc8d191b1c184d419", func := "hogget/hoggetlaw14.CountMeans", spec := "countMeans", unfollowed := true, recurses := true, apart := false, narrowed := true }
def CountMeansUptoSaid : Prop := countMeansUptoRow.holds Try.pinned (OpenSpec.upto countMeansSpec)

/-- 'hoggetlaw14.CountTurned', WHERE WHAT IT READS IS OF BULK AT MOST 1048576: true; the input reads as it did. -/
def countTurnedUptoRow : OpenClaim := { program := "ythnbmlpjbhhamaa", sum := "0ef93e37cde90186ba83bc9d52c95e9e07b7f8ca371ac1ddc8d191b1c184d419", func := "hogget/hoggetlaw14.CountTurned", spec := "countTurned", unfollowed := true, recurses := true, apart := false, narrowed := true }
def CountTurnedUptoSaid : Prop := countTurnedUptoRow.holds Try.pinned (OpenSpec.upto countTurnedSpec)

/-- 'hoggetlaw11.UnitPlain', WHERE WHAT IT READS IS OF BULK AT MOST 1048576: true; the input reads as it did. -/
def unitPlainUptoRow : OpenClaim := { program := "ythnbmlpjbhhamaa", sum := "0ef93e37cde90186ba83bc9d52c95e9e07b7f8ca371ac1ddc8d191b1c184d419", func := "hogget/hoggetlaw11.UnitPlain", spec := "unitPlain", unfollowed := true, recurses := true, apart := false, narrowed := true }
def UnitPlainUptoSaid : Prop := unitPlainUptoRow.holds Try.pinned (OpenSpec.upto unitPlainSpec)

end Rows
end Go.Proofs.Ythnbmlpjbhhamaa
