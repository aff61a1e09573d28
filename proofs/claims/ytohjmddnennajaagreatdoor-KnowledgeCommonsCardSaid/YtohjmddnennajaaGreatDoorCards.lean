/-
  DERIVED. GIVEN WITH THE SEED: THE CARDS: each row of YtohjmddnennajaaGreatDoorRows.lean that lists a variable, with what it lists TIED to the program's text (the seventh form; the later family's looks); each row that meets fmt, with fmt's text TOLD by the authors' own Lean function (tested against real Go, not proved from fmt's source: count such statements apart). THE CARD IS WHAT COUNTS. Prove the row's statement (the work); the ties are given (YtohjmddnennajaaGreatDoorTie.lean); close each card by the builder's one call (the guide's Derived/Test/ToyasCard.lean, 'card_holds'). Laid BY PROGRAM, IN A SANDBOX (cutbox-door.mjs). By AI agents, Wed Nov 11 2026. No macro, syntax, notation, axiom, sorry.
-/
import Derived.Test.YtohjmddnennajaaGreatDoorRows
import GoSem.ClaimSeven
namespace Go.Proofs.YtohjmddnennajaaGreatDoor
namespace Rows

/-- THE TIED CARD OF 'roundtablelaw37.KnowledgeCommons'. -/
def knowledgeCommonsCard : Claim7 := { stood := { row := knowledgeCommonsRow, standIns := [], harness := (true, "9ef1bc7cf3999c5982476270bb180c250563416b2c14daee0da9b0d40fec69cf"), looks := false }, kinds := [], alts := [], laidByText := true, laidKinds := [.data], laidTests := true, laidLooks := .later }
def KnowledgeCommonsCardSaid : Prop := Claim7.holds Tryz.pinned (.plain (OpenSpec.ofChange knowledgeCommonsSpec)) knowledgeCommonsCard

/-- THE SECOND FORM's CARD OF 'roundtablelaw37.KnowledgeCommons'. -/
def knowledgeCommonsUptoCard : Claim7 := { stood := { row := knowledgeCommonsUptoRow, standIns := [], harness := (true, "9ef1bc7cf3999c5982476270bb180c250563416b2c14daee0da9b0d40fec69cf"), looks := false }, kinds := [], alts := [], laidByText := true, laidKinds := [.data], laidTests := true, laidLooks := .later }
def KnowledgeCommonsUptoCardSaid : Prop := Claim7.holds Tryz.pinned (.plain (OpenSpec.upto knowledgeCommonsSpec)) knowledgeCommonsUptoCard
end Rows
end Go.Proofs.YtohjmddnennajaaGreatDoor
