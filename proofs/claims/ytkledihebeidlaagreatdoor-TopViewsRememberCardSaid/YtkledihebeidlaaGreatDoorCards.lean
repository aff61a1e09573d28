/-
  DERIVED. GIVEN WITH THE SEED: THE CARDS: each row of YtkledihebeidlaaGreatDoorRows.lean that lists a variable, with what it lists TIED to the program's text (the seventh form; the later family's looks); each row that meets fmt, with fmt's text TOLD by the authors' own Lean function (tested against real Go, not proved from fmt's source: count such statements apart). THE CARD IS WHAT COUNTS. Prove the row's statement (the work); the ties are given (YtkledihebeidlaaGreatDoorTie.lean); close each card by the builder's one call (the guide's Derived/Test/ToyasCard.lean, 'card_holds'). Laid BY PROGRAM, IN A SANDBOX (cutbox-door.mjs). By AI agents, Wed Nov 11 2026. No macro, syntax, notation, axiom, sorry.
-/
import Derived.Test.YtkledihebeidlaaGreatDoorRows
import GoSem.ClaimSeven
namespace Go.Proofs.YtkledihebeidlaaGreatDoor
namespace Rows

/-- THE TIED CARD OF 'roundtabletop.TopViewsRemember'. -/
def topViewsRememberCard : Claim7 := { stood := { row := topViewsRememberRow, standIns := [], harness := (true, "3e59164233e7772258bd94446e6f712f153a4c53bf3e3c960437c46e6f6e9ac6"), looks := false }, kinds := [], alts := [], laidByText := true, laidKinds := [.data, .data], laidTests := true, laidLooks := .later }
def TopViewsRememberCardSaid : Prop := Claim7.holds Tryz.pinned (.plain (OpenSpec.ofChange topViewsRememberSpec)) topViewsRememberCard

/-- THE TIED CARD OF 'roundtablelaw23.ExecutionShortens'. -/
def executionShortensCard : Claim7 := { stood := { row := executionShortensRow, standIns := [], harness := (true, "3e59164233e7772258bd94446e6f712f153a4c53bf3e3c960437c46e6f6e9ac6"), looks := false }, kinds := [], alts := [], laidByText := true, laidKinds := [.data, .data, .data], laidTests := true, laidLooks := .later }
def ExecutionShortensCardSaid : Prop := Claim7.holds Tryz.pinned (.plain (OpenSpec.ofChange executionShortensSpec)) executionShortensCard

/-- THE TIED CARD OF 'roundtablelaw23.ExecutionCounts'. -/
def executionCountsCard : Claim7 := { stood := { row := executionCountsRow, standIns := [], harness := (true, "3e59164233e7772258bd94446e6f712f153a4c53bf3e3c960437c46e6f6e9ac6"), looks := false }, kinds := [], alts := [], laidByText := true, laidKinds := [.data, .data, .data], laidTests := true, laidLooks := .later }
def ExecutionCountsCardSaid : Prop := Claim7.holds Tryz.pinned (.plain (OpenSpec.ofChange executionCountsSpec)) executionCountsCard

/-- THE SECOND FORM's CARD OF 'roundtabletop.TopViewsRemember'. -/
def topViewsRememberUptoCard : Claim7 := { stood := { row := topViewsRememberUptoRow, standIns := [], harness := (true, "3e59164233e7772258bd94446e6f712f153a4c53bf3e3c960437c46e6f6e9ac6"), looks := false }, kinds := [], alts := [], laidByText := true, laidKinds := [.data, .data], laidTests := true, laidLooks := .later }
def TopViewsRememberUptoCardSaid : Prop := Claim7.holds Tryz.pinned (.plain (OpenSpec.upto topViewsRememberSpec)) topViewsRememberUptoCard

/-- THE SECOND FORM's CARD OF 'roundtablelaw23.ExecutionShortens'. -/
def executionShortensUptoCard : Claim7 := { stood := { row := executionShortensUptoRow, standIns := [], harness := (true, "3e59164233e7772258bd94446e6f712f153a4c53bf3e3c960437c46e6f6e9ac6"), looks := false }, kinds := [], alts := [], laidByText := true, laidKinds := [.data, .data, .data], laidTests := true, laidLooks := .later }
def ExecutionShortensUptoCardSaid : Prop := Claim7.holds Tryz.pinned (.plain (OpenSpec.upto executionShortensSpec)) executionShortensUptoCard

/-- THE SECOND FORM's CARD OF 'roundtablelaw23.ExecutionCounts'. -/
def executionCountsUptoCard : Claim7 := { stood := { row := executionCountsUptoRow, standIns := [], harness := (true, "3e59164233e7772258bd94446e6f712f153a4c53bf3e3c960437c46e6f6e9ac6"), looks := false }, kinds := [], alts := [], laidByText := true, laidKinds := [.data, .data, .data], laidTests := true, laidLooks := .later }
def ExecutionCountsUptoCardSaid : Prop := Claim7.holds Tryz.pinned (.plain (OpenSpec.upto executionCountsSpec)) executionCountsUptoCard
end Rows
end Go.Proofs.YtkledihebeidlaaGreatDoor
