/-
  DERIVED. GIVEN WITH THE SEED: THE CARDS: each row of YtjmckgoegfipeaaGreatDoorRows.lean that lists a variable, with what it lists TIED to the program's text (the seventh form; the later family's looks); each row that meets fmt, with fmt's text TOLD by the authors' own Lean function (tested against real Go, not proved from fmt's source: count such statements apart). THE CARD IS WHAT COUNTS. Prove the row's statement (the work); the ties are given (YtjmckgoegfipeaaGreatDoorTie.lean); close each card by the builder's one call (the guide's Derived/Test/ToyasCard.lean, 'card_holds'). Laid BY PROGRAM, IN A SANDBOX (cutbox-door.mjs). By AI agents, Wed Nov 11 2026. No macro, syntax, notation, axiom, sorry.
-/
import Derived.Test.YtjmckgoegfipeaaGreatDoorRows
import GoSem.ClaimSeven
namespace Go.Proofs.YtjmckgoegfipeaaGreatDoor
namespace Rows

/-- THE TIED CARD OF 'roundtablelaw37.KnowledgeKnows'. -/
def knowledgeKnowsCard : Claim7 := { stood := { row := knowledgeKnowsRow, standIns := [], harness := (true, "22e5fd151aea0ad4692ad4ffed3751262f7637dd91a8bb0fb9d0fc5c4759282f"), looks := false }, kinds := [], alts := [], laidByText := true, laidKinds := [.data], laidTests := true, laidLooks := .later }
def KnowledgeKnowsCardSaid : Prop := Claim7.holds Tryz.pinned (.plain (OpenSpec.ofChange knowledgeKnowsSpec)) knowledgeKnowsCard

/-- THE TIED CARD OF 'roundtablelaw37.KnowledgeCommons'. -/
def knowledgeCommonsCard : Claim7 := { stood := { row := knowledgeCommonsRow, standIns := [], harness := (true, "22e5fd151aea0ad4692ad4ffed3751262f7637dd91a8bb0fb9d0fc5c4759282f"), looks := false }, kinds := [], alts := [], laidByText := true, laidKinds := [.data], laidTests := true, laidLooks := .later }
def KnowledgeCommonsCardSaid : Prop := Claim7.holds Tryz.pinned (.plain (OpenSpec.ofChange knowledgeCommonsSpec)) knowledgeCommonsCard

/-- THE TIED CARD OF 'roundtablelaw37.KnowledgeEvals'. -/
def knowledgeEvalsCard : Claim7 := { stood := { row := knowledgeEvalsRow, standIns := [], harness := (true, "22e5fd151aea0ad4692ad4ffed3751262f7637dd91a8bb0fb9d0fc5c4759282f"), looks := false }, kinds := [], alts := [], laidByText := true, laidKinds := [.data], laidTests := true, laidLooks := .later }
def KnowledgeEvalsCardSaid : Prop := Claim7.holds Tryz.pinned (.plain (OpenSpec.ofChange knowledgeEvalsSpec)) knowledgeEvalsCard

/-- THE TIED CARD OF 'roundtablelaw37.KnowledgeIntrospects'. -/
def knowledgeIntrospectsCard : Claim7 := { stood := { row := knowledgeIntrospectsRow, standIns := [], harness := (true, "22e5fd151aea0ad4692ad4ffed3751262f7637dd91a8bb0fb9d0fc5c4759282f"), looks := false }, kinds := [], alts := [], laidByText := true, laidKinds := [.data], laidTests := true, laidLooks := .later }
def KnowledgeIntrospectsCardSaid : Prop := Claim7.holds Tryz.pinned (.plain (OpenSpec.ofChange knowledgeIntrospectsSpec)) knowledgeIntrospectsCard

/-- THE TIED CARD OF 'roundtablelaw37.KnowledgeSplits'. -/
def knowledgeSplitsCard : Claim7 := { stood := { row := knowledgeSplitsRow, standIns := [], harness := (true, "22e5fd151aea0ad4692ad4ffed3751262f7637dd91a8bb0fb9d0fc5c4759282f"), looks := false }, kinds := [], alts := [], laidByText := true, laidKinds := [.data], laidTests := true, laidLooks := .later }
def KnowledgeSplitsCardSaid : Prop := Claim7.holds Tryz.pinned (.plain (OpenSpec.ofChange knowledgeSplitsSpec)) knowledgeSplitsCard

/-- THE TIED CARD OF 'roundtablelaw37.KnowledgeCounts'. -/
def knowledgeCountsCard : Claim7 := { stood := { row := knowledgeCountsRow, standIns := [], harness := (true, "22e5fd151aea0ad4692ad4ffed3751262f7637dd91a8bb0fb9d0fc5c4759282f"), looks := false }, kinds := [], alts := [], laidByText := true, laidKinds := [.data], laidTests := true, laidLooks := .later }
def KnowledgeCountsCardSaid : Prop := Claim7.holds Tryz.pinned (.plain (OpenSpec.ofChange knowledgeCountsSpec)) knowledgeCountsCard

/-- THE TIED CARD OF 'roundtablelaw37.KnowledgeFixes'. -/
def knowledgeFixesCard : Claim7 := { stood := { row := knowledgeFixesRow, standIns := [], harness := (true, "22e5fd151aea0ad4692ad4ffed3751262f7637dd91a8bb0fb9d0fc5c4759282f"), looks := false }, kinds := [], alts := [], laidByText := true, laidKinds := [.data], laidTests := true, laidLooks := .later }
def KnowledgeFixesCardSaid : Prop := Claim7.holds Tryz.pinned (.plain (OpenSpec.ofChange knowledgeFixesSpec)) knowledgeFixesCard

/-- THE TIED CARD OF 'roundtablelaw37.KnowledgeInduces'. -/
def knowledgeInducesCard : Claim7 := { stood := { row := knowledgeInducesRow, standIns := [], harness := (true, "22e5fd151aea0ad4692ad4ffed3751262f7637dd91a8bb0fb9d0fc5c4759282f"), looks := false }, kinds := [], alts := [], laidByText := true, laidKinds := [.data], laidTests := true, laidLooks := .later }
def KnowledgeInducesCardSaid : Prop := Claim7.holds Tryz.pinned (.plain (OpenSpec.ofChange knowledgeInducesSpec)) knowledgeInducesCard

/-- THE SECOND FORM's CARD OF 'roundtablelaw37.KnowledgeKnows'. -/
def knowledgeKnowsUptoCard : Claim7 := { stood := { row := knowledgeKnowsUptoRow, standIns := [], harness := (true, "22e5fd151aea0ad4692ad4ffed3751262f7637dd91a8bb0fb9d0fc5c4759282f"), looks := false }, kinds := [], alts := [], laidByText := true, laidKinds := [.data], laidTests := true, laidLooks := .later }
def KnowledgeKnowsUptoCardSaid : Prop := Claim7.holds Tryz.pinned (.plain (OpenSpec.upto knowledgeKnowsSpec)) knowledgeKnowsUptoCard

/-- THE SECOND FORM's CARD OF 'roundtablelaw37.KnowledgeCommons'. -/
def knowledgeCommonsUptoCard : Claim7 := { stood := { row := knowledgeCommonsUptoRow, standIns := [], harness := (true, "22e5fd151aea0ad4692ad4ffed3751262f7637dd91a8bb0fb9d0fc5c4759282f"), looks := false }, kinds := [], alts := [], laidByText := true, laidKinds := [.data], laidTests := true, laidLooks := .later }
def KnowledgeCommonsUptoCardSaid : Prop := Claim7.holds Tryz.pinned (.plain (OpenSpec.upto knowledgeCommonsSpec)) knowledgeCommonsUptoCard

/-- THE SECOND FORM's CARD OF 'roundtablelaw37.KnowledgeEvals'. -/
def knowledgeEvalsUptoCard : Claim7 := { stood := { row := knowledgeEvalsUptoRow, standIns := [], harness := (true, "22e5fd151aea0ad4692ad4ffed3751262f7637dd91a8bb0fb9d0fc5c4759282f"), looks := false }, kinds := [], alts := [], laidByText := true, laidKinds := [.data], laidTests := true, laidLooks := .later }
def KnowledgeEvalsUptoCardSaid : Prop := Claim7.holds Tryz.pinned (.plain (OpenSpec.upto knowledgeEvalsSpec)) knowledgeEvalsUptoCard

/-- THE SECOND FORM's CARD OF 'roundtablelaw37.KnowledgeIntrospects'. -/
def knowledgeIntrospectsUptoCard : Claim7 := { stood := { row := knowledgeIntrospectsUptoRow, standIns := [], harness := (true, "22e5fd151aea0ad4692ad4ffed3751262f7637dd91a8bb0fb9d0fc5c4759282f"), looks := false }, kinds := [], alts := [], laidByText := true, laidKinds := [.data], laidTests := true, laidLooks := .later }
def KnowledgeIntrospectsUptoCardSaid : Prop := Claim7.holds Tryz.pinned (.plain (OpenSpec.upto knowledgeIntrospectsSpec)) knowledgeIntrospectsUptoCard

/-- THE SECOND FORM's CARD OF 'roundtablelaw37.KnowledgeSplits'. -/
def knowledgeSplitsUptoCard : Claim7 := { stood := { row := knowledgeSplitsUptoRow, standIns := [], harness := (true, "22e5fd151aea0ad4692ad4ffed3751262f7637dd91a8bb0fb9d0fc5c4759282f"), looks := false }, kinds := [], alts := [], laidByText := true, laidKinds := [.data], laidTests := true, laidLooks := .later }
def KnowledgeSplitsUptoCardSaid : Prop := Claim7.holds Tryz.pinned (.plain (OpenSpec.upto knowledgeSplitsSpec)) knowledgeSplitsUptoCard

/-- THE SECOND FORM's CARD OF 'roundtablelaw37.KnowledgeCounts'. -/
def knowledgeCountsUptoCard : Claim7 := { stood := { row := knowledgeCountsUptoRow, standIns := [], harness := (true, "22e5fd151aea0ad4692ad4ffed3751262f7637dd91a8bb0fb9d0fc5c4759282f"), looks := false }, kinds := [], alts := [], laidByText := true, laidKinds := [.data], laidTests := true, laidLooks := .later }
def KnowledgeCountsUptoCardSaid : Prop := Claim7.holds Tryz.pinned (.plain (OpenSpec.upto knowledgeCountsSpec)) knowledgeCountsUptoCard

/-- THE SECOND FORM's CARD OF 'roundtablelaw37.KnowledgeFixes'. -/
def knowledgeFixesUptoCard : Claim7 := { stood := { row := knowledgeFixesUptoRow, standIns := [], harness := (true, "22e5fd151aea0ad4692ad4ffed3751262f7637dd91a8bb0fb9d0fc5c4759282f"), looks := false }, kinds := [], alts := [], laidByText := true, laidKinds := [.data], laidTests := true, laidLooks := .later }
def KnowledgeFixesUptoCardSaid : Prop := Claim7.holds Tryz.pinned (.plain (OpenSpec.upto knowledgeFixesSpec)) knowledgeFixesUptoCard

/-- THE SECOND FORM's CARD OF 'roundtablelaw37.KnowledgeInduces'. -/
def knowledgeInducesUptoCard : Claim7 := { stood := { row := knowledgeInducesUptoRow, standIns := [], harness := (true, "22e5fd151aea0ad4692ad4ffed3751262f7637dd91a8bb0fb9d0fc5c4759282f"), looks := false }, kinds := [], alts := [], laidByText := true, laidKinds := [.data], laidTests := true, laidLooks := .later }
def KnowledgeInducesUptoCardSaid : Prop := Claim7.holds Tryz.pinned (.plain (OpenSpec.upto knowledgeInducesSpec)) knowledgeInducesUptoCard
end Rows
end Go.Proofs.YtjmckgoegfipeaaGreatDoor
