/-
  DERIVED. GIVEN WITH THE SEED: THE CARDS: each row of YteinkjhimceljaaGreatDoorRows.lean that lists a variable, with what it lists TIED to the program's text (the seventh form; the later family's looks); each row that meets fmt, with fmt's text TOLD by the authors' own Lean function (tested against real Go, not proved from fmt's source: count such statements apart). THE CARD IS WHAT COUNTS. Prove the row's statement (the work); the ties are given (YteinkjhimceljaaGreatDoorTie.lean); close each card by the builder's one call (the guide's Derived/Test/ToyasCard.lean, 'card_holds'). Laid BY PROGRAM, IN A SANDBOX (cutbox-door.mjs). By AI agents, Wed Nov 11 2026. No macro, syntax, notation, axiom, sorry.
-/
import Derived.Test.YteinkjhimceljaaGreatDoorRows
import GoSem.ClaimSeven
namespace Go.Proofs.YteinkjhimceljaaGreatDoor
namespace Rows

/-- THE TIED CARD OF 'hoggettop.TopProof'. -/
def topProofCard : Claim7 := { stood := { row := topProofRow, standIns := [], harness := (true, "328a4512730c8f8425e3ee23b3559bd3b2ca98cc2826a0f3506abd80374a40eb"), looks := true }, kinds := [], alts := [], laidByText := true, laidKinds := [.data, .data, .data, .data, .sentinel, .sentinel, .data, .pinned], laidTests := true, laidLooks := .later }
def TopProofCardSaid : Prop := Claim7.holds Tryz.pinned (.plain (OpenSpec.ofChange topProofSpec)) topProofCard

/-- THE SECOND FORM's CARD OF 'hoggettop.TopProof'. -/
def topProofUptoCard : Claim7 := { stood := { row := topProofUptoRow, standIns := [], harness := (true, "328a4512730c8f8425e3ee23b3559bd3b2ca98cc2826a0f3506abd80374a40eb"), looks := true }, kinds := [], alts := [], laidByText := true, laidKinds := [.data, .data, .data, .data, .sentinel, .sentinel, .data, .pinned], laidTests := true, laidLooks := .later }
def TopProofUptoCardSaid : Prop := Claim7.holds Tryz.pinned (.plain (OpenSpec.upto topProofSpec)) topProofUptoCard
end Rows
end Go.Proofs.YteinkjhimceljaaGreatDoor
