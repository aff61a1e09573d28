/-
  DERIVED. GIVEN WITH THE SEED: THE CARDS: each row of YtjedjoeidcbffaaGreatDoorRows.lean that lists a variable, with what it lists TIED to the program's text (the seventh form; the later family's looks); each row that meets fmt, with fmt's text TOLD by the authors' own Lean function (tested against real Go, not proved from fmt's source: count such statements apart). THE CARD IS WHAT COUNTS. Prove the row's statement (the work); the ties are given (YtjedjoeidcbffaaGreatDoorTie.lean); close each card by the builder's one call (the guide's Derived/Test/ToyasCard.lean, 'card_holds'). Laid BY PROGRAM, IN A SANDBOX (cutbox-door.mjs). By AI agents, Wed Nov 11 2026. No macro, syntax, notation, axiom, sorry.
-/
import Derived.Test.YtjedjoeidcbffaaGreatDoorRows
import GoSem.ClaimSeven
namespace Go.Proofs.YtjedjoeidcbffaaGreatDoor
namespace Rows

/-- THE TIED CARD OF 'roundtablelaw37.KnowledgeEvals'. -/
def knowledgeEvalsCard : Claim7 := { stood := { row := knowledgeEvalsRow, standIns := [], harness := (true, "449a1a72fa2454645d69a5d1d9a27ede32e1ecfe9e65c9a637681a9214cc18a3"), looks := false }, kinds := [], alts := [], laidByText := true, laidKinds := [.data], laidTests := true, laidLooks := .later }
def KnowledgeEvalsCardSaid : Prop := Claim7.holds Tryz.pinned (.plain (OpenSpec.ofChange knowledgeEvalsSpec)) knowledgeEvalsCard

/-- THE SECOND FORM's CARD OF 'roundtablelaw37.KnowledgeEvals'. -/
def knowledgeEvalsUptoCard : Claim7 := { stood := { row := knowledgeEvalsUptoRow, standIns := [], harness := (true, "449a1a72fa2454645d69a5d1d9a27ede32e1ecfe9e65c9a637681a9214cc18a3"), looks := false }, kinds := [], alts := [], laidByText := true, laidKinds := [.data], laidTests := true, laidLooks := .later }
def KnowledgeEvalsUptoCardSaid : Prop := Claim7.holds Tryz.pinned (.plain (OpenSpec.upto knowledgeEvalsSpec)) knowledgeEvalsUptoCard
end Rows
end Go.Proofs.YtjedjoeidcbffaaGreatDoor
