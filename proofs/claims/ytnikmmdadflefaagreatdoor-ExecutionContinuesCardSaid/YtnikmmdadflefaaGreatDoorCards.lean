/-
  DERIVED. GIVEN WITH THE SEED: THE CARDS: each row of YtnikmmdadflefaaGreatDoorRows.lean that lists a variable, with what it lists TIED to the program's text (the seventh form; the later family's looks); each row that meets fmt, with fmt's text TOLD by the authors' own Lean function (tested against real Go, not proved from fmt's source: count such statements apart). THE CARD IS WHAT COUNTS. Prove the row's statement (the work); the ties are given (YtnikmmdadflefaaGreatDoorTie.lean); close each card by the builder's one call (the guide's Derived/Test/ToyasCard.lean, 'card_holds'). Laid BY PROGRAM, IN A SANDBOX (cutbox-door.mjs). By AI agents, Wed Nov 11 2026. No macro, syntax, notation, axiom, sorry.
-/
import Derived.Test.YtnikmmdadflefaaGreatDoorRows
import GoSem.ClaimSeven
namespace Go.Proofs.YtnikmmdadflefaaGreatDoor
namespace Rows

/-- THE TIED CARD OF 'roundtabletop.TopViewsRemember'. -/
def topViewsRememberCard : Claim7 := { stood := { row := topViewsRememberRow, standIns := [], harness := (true, "e5f796de4d43a50a597f0dd81df930ffb3a26a8ba2e0f7f583fe0258c64f9c9f"), looks := false }, kinds := [], alts := [], laidByText := true, laidKinds := [.data, .data], laidTests := true, laidLooks := .later }
def TopViewsRememberCardSaid : Prop := Claim7.holds Tryz.pinned (.plain (OpenSpec.ofChange topViewsRememberSpec)) topViewsRememberCard

/-- THE TIED CARD OF 'roundtablelaw23.ExecutionBuilds'. -/
def executionBuildsCard : Claim7 := { stood := { row := executionBuildsRow, standIns := [], harness := (true, "e5f796de4d43a50a597f0dd81df930ffb3a26a8ba2e0f7f583fe0258c64f9c9f"), looks := false }, kinds := [], alts := [], laidByText := true, laidKinds := [.data, .data, .data], laidTests := true, laidLooks := .later }
def ExecutionBuildsCardSaid : Prop := Claim7.holds Tryz.pinned (.plain (OpenSpec.ofChange executionBuildsSpec)) executionBuildsCard

/-- THE TIED CARD OF 'roundtablelaw23.ExecutionVerifies'. -/
def executionVerifiesCard : Claim7 := { stood := { row := executionVerifiesRow, standIns := [], harness := (true, "e5f796de4d43a50a597f0dd81df930ffb3a26a8ba2e0f7f583fe0258c64f9c9f"), looks := false }, kinds := [], alts := [], laidByText := true, laidKinds := [.data, .data, .data], laidTests := true, laidLooks := .later }
def ExecutionVerifiesCardSaid : Prop := Claim7.holds Tryz.pinned (.plain (OpenSpec.ofChange executionVerifiesSpec)) executionVerifiesCard

/-- THE TIED CARD OF 'roundtablelaw23.ExecutionDetermines'. -/
def executionDeterminesCard : Claim7 := { stood := { row := executionDeterminesRow, standIns := [], harness := (true, "e5f796de4d43a50a597f0dd81df930ffb3a26a8ba2e0f7f583fe0258c64f9c9f"), looks := false }, kinds := [], alts := [], laidByText := true, laidKinds := [.data, .data, .data], laidTests := true, laidLooks := .later }
def ExecutionDeterminesCardSaid : Prop := Claim7.holds Tryz.pinned (.plain (OpenSpec.ofChange executionDeterminesSpec)) executionDeterminesCard

/-- THE TIED CARD OF 'roundtablelaw23.ExecutionLooks'. -/
def executionLooksCard : Claim7 := { stood := { row := executionLooksRow, standIns := [], harness := (true, "e5f796de4d43a50a597f0dd81df930ffb3a26a8ba2e0f7f583fe0258c64f9c9f"), looks := false }, kinds := [], alts := [], laidByText := true, laidKinds := [.data, .data, .data], laidTests := true, laidLooks := .later }
def ExecutionLooksCardSaid : Prop := Claim7.holds Tryz.pinned (.plain (OpenSpec.ofChange executionLooksSpec)) executionLooksCard

/-- THE TIED CARD OF 'roundtablelaw23.ExecutionContinues'. -/
def executionContinuesCard : Claim7 := { stood := { row := executionContinuesRow, standIns := [], harness := (true, "e5f796de4d43a50a597f0dd81df930ffb3a26a8ba2e0f7f583fe0258c64f9c9f"), looks := false }, kinds := [], alts := [], laidByText := true, laidKinds := [.data, .data, .data], laidTests := true, laidLooks := .later }
def ExecutionContinuesCardSaid : Prop := Claim7.holds Tryz.pinned (.plain (OpenSpec.ofChange executionContinuesSpec)) executionContinuesCard

/-- THE TIED CARD OF 'roundtablelaw23.ExecutionShortens'. -/
def executionShortensCard : Claim7 := { stood := { row := executionShortensRow, standIns := [], harness := (true, "e5f796de4d43a50a597f0dd81df930ffb3a26a8ba2e0f7f583fe0258c64f9c9f"), looks := false }, kinds := [], alts := [], laidByText := true, laidKinds := [.data, .data, .data], laidTests := true, laidLooks := .later }
def ExecutionShortensCardSaid : Prop := Claim7.holds Tryz.pinned (.plain (OpenSpec.ofChange executionShortensSpec)) executionShortensCard

/-- THE TIED CARD OF 'roundtablelaw23.ExecutionCounts'. -/
def executionCountsCard : Claim7 := { stood := { row := executionCountsRow, standIns := [], harness := (true, "e5f796de4d43a50a597f0dd81df930ffb3a26a8ba2e0f7f583fe0258c64f9c9f"), looks := false }, kinds := [], alts := [], laidByText := true, laidKinds := [.data, .data, .data], laidTests := true, laidLooks := .later }
def ExecutionCountsCardSaid : Prop := Claim7.holds Tryz.pinned (.plain (OpenSpec.ofChange executionCountsSpec)) executionCountsCard

/-- THE SECOND FORM's CARD OF 'roundtabletop.TopViewsRemember'. -/
def topViewsRememberUptoCard : Claim7 := { stood := { row := topViewsRememberUptoRow, standIns := [], harness := (true, "e5f796de4d43a50a597f0dd81df930ffb3a26a8ba2e0f7f583fe0258c64f9c9f"), looks := false }, kinds := [], alts := [], laidByText := true, laidKinds := [.data, .data], laidTests := true, laidLooks := .later }
def TopViewsRememberUptoCardSaid : Prop := Claim7.holds Tryz.pinned (.plain (OpenSpec.upto topViewsRememberSpec)) topViewsRememberUptoCard

/-- THE SECOND FORM's CARD OF 'roundtablelaw23.ExecutionBuilds'. -/
def executionBuildsUptoCard : Claim7 := { stood := { row := executionBuildsUptoRow, standIns := [], harness := (true, "e5f796de4d43a50a597f0dd81df930ffb3a26a8ba2e0f7f583fe0258c64f9c9f"), looks := false }, kinds := [], alts := [], laidByText := true, laidKinds := [.data, .data, .data], laidTests := true, laidLooks := .later }
def ExecutionBuildsUptoCardSaid : Prop := Claim7.holds Tryz.pinned (.plain (OpenSpec.upto executionBuildsSpec)) executionBuildsUptoCard

/-- THE SECOND FORM's CARD OF 'roundtablelaw23.ExecutionVerifies'. -/
def executionVerifiesUptoCard : Claim7 := { stood := { row := executionVerifiesUptoRow, standIns := [], harness := (true, "e5f796de4d43a50a597f0dd81df930ffb3a26a8ba2e0f7f583fe0258c64f9c9f"), looks := false }, kinds := [], alts := [], laidByText := true, laidKinds := [.data, .data, .data], laidTests := true, laidLooks := .later }
def ExecutionVerifiesUptoCardSaid : Prop := Claim7.holds Tryz.pinned (.plain (OpenSpec.upto executionVerifiesSpec)) executionVerifiesUptoCard

/-- THE SECOND FORM's CARD OF 'roundtablelaw23.ExecutionDetermines'. -/
def executionDeterminesUptoCard : Claim7 := { stood := { row := executionDeterminesUptoRow, standIns := [], harness := (true, "e5f796de4d43a50a597f0dd81df930ffb3a26a8ba2e0f7f583fe0258c64f9c9f"), looks := false }, kinds := [], alts := [], laidByText := true, laidKinds := [.data, .data, .data], laidTests := true, laidLooks := .later }
def ExecutionDeterminesUptoCardSaid : Prop := Claim7.holds Tryz.pinned (.plain (OpenSpec.upto executionDeterminesSpec)) executionDeterminesUptoCard

/-- THE SECOND FORM's CARD OF 'roundtablelaw23.ExecutionLooks'. -/
def executionLooksUptoCard : Claim7 := { stood := { row := executionLooksUptoRow, standIns := [], harness := (true, "e5f796de4d43a50a597f0dd81df930ffb3a26a8ba2e0f7f583fe0258c64f9c9f"), looks := false }, kinds := [], alts := [], laidByText := true, laidKinds := [.data, .data, .data], laidTests := true, laidLooks := .later }
def ExecutionLooksUptoCardSaid : Prop := Claim7.holds Tryz.pinned (.plain (OpenSpec.upto executionLooksSpec)) executionLooksUptoCard

/-- THE SECOND FORM's CARD OF 'roundtablelaw23.ExecutionContinues'. -/
def executionContinuesUptoCard : Claim7 := { stood := { row := executionContinuesUptoRow, standIns := [], harness := (true, "e5f796de4d43a50a597f0dd81df930ffb3a26a8ba2e0f7f583fe0258c64f9c9f"), looks := false }, kinds := [], alts := [], laidByText := true, laidKinds := [.data, .data, .data], laidTests := true, laidLooks := .later }
def ExecutionContinuesUptoCardSaid : Prop := Claim7.holds Tryz.pinned (.plain (OpenSpec.upto executionContinuesSpec)) executionContinuesUptoCard

/-- THE SECOND FORM's CARD OF 'roundtablelaw23.ExecutionShortens'. -/
def executionShortensUptoCard : Claim7 := { stood := { row := executionShortensUptoRow, standIns := [], harness := (true, "e5f796de4d43a50a597f0dd81df930ffb3a26a8ba2e0f7f583fe0258c64f9c9f"), looks := false }, kinds := [], alts := [], laidByText := true, laidKinds := [.data, .data, .data], laidTests := true, laidLooks := .later }
def ExecutionShortensUptoCardSaid : Prop := Claim7.holds Tryz.pinned (.plain (OpenSpec.upto executionShortensSpec)) executionShortensUptoCard

/-- THE SECOND FORM's CARD OF 'roundtablelaw23.ExecutionCounts'. -/
def executionCountsUptoCard : Claim7 := { stood := { row := executionCountsUptoRow, standIns := [], harness := (true, "e5f796de4d43a50a597f0dd81df930ffb3a26a8ba2e0f7f583fe0258c64f9c9f"), looks := false }, kinds := [], alts := [], laidByText := true, laidKinds := [.data, .data, .data], laidTests := true, laidLooks := .later }
def ExecutionCountsUptoCardSaid : Prop := Claim7.holds Tryz.pinned (.plain (OpenSpec.upto executionCountsSpec)) executionCountsUptoCard
end Rows
end Go.Proofs.YtnikmmdadflefaaGreatDoor
