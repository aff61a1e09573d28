/-
  DERIVED. GIVEN WITH THE SEED: THE CARDS: each row of YtppklecmlkicaaaDoorRows.lean that lists a variable, with what it lists TIED to the program's text (the seventh form; the later family's looks); each row that meets fmt, with fmt's text TOLD by the authors' own Lean function (tested against real Go, not proved from fmt's source: count such statements apart). THE CARD IS WHAT COUNTS. Prove the row's statement (the work); the ties are given (YtppklecmlkicaaaDoorTie.lean); close each card by the builder's one call (the guide's Derived/Test/ToyasCard.lean, 'card_holds'). Laid BY PROGRAM, IN A SANDBOX (cutbox-door.mjs). By AI agents, Wed Nov 11 2026. No macro, syntax, notation, axiom, sorry.
-/
import Derived.Test.YtppklecmlkicaaaDoorRows
import GoSem.ClaimSeven
namespace Go.Proofs.YtppklecmlkicaaaDoor
namespace Rows

/-- THE TIED CARD OF 'roundtablelaw01.ProcsetCollects'. -/
def procsetCollectsCard : Claim7 := { stood := { row := procsetCollectsRow, standIns := [], harness := (true, "c8f3640ce8936049e938258317428734cdeac48dffa7ea5e4351077d0a3828e4"), looks := false }, kinds := [], alts := [], laidByText := true, laidKinds := [.data, .data, .data, .data, .pinned], laidTests := true, laidLooks := .later }
def ProcsetCollectsCardSaid : Prop := Claim7.holds Tryd.pinned (.plain (OpenSpec.ofChange procsetCollectsSpec)) procsetCollectsCard

/-- THE TIED CARD OF 'roundtablelaw01.ProcsetChooses'. -/
def procsetChoosesCard : Claim7 := { stood := { row := procsetChoosesRow, standIns := [], harness := (true, "c8f3640ce8936049e938258317428734cdeac48dffa7ea5e4351077d0a3828e4"), looks := false }, kinds := [], alts := [], laidByText := true, laidKinds := [.data, .data, .data, .data, .pinned], laidTests := true, laidLooks := .later }
def ProcsetChoosesCardSaid : Prop := Claim7.holds Tryd.pinned (.plain (OpenSpec.ofChange procsetChoosesSpec)) procsetChoosesCard

/-- THE TIED CARD OF 'roundtablelaw01.ProcsetReads'. -/
def procsetReadsCard : Claim7 := { stood := { row := procsetReadsRow, standIns := [], harness := (true, "c8f3640ce8936049e938258317428734cdeac48dffa7ea5e4351077d0a3828e4"), looks := false }, kinds := [], alts := [], laidByText := true, laidKinds := [.data, .data, .data, .data, .pinned], laidTests := true, laidLooks := .later }
def ProcsetReadsCardSaid : Prop := Claim7.holds Tryd.pinned (.plain (OpenSpec.ofChange procsetReadsSpec)) procsetReadsCard

/-- THE TIED CARD OF 'roundtablelaw01.ProcsetMirrors'. -/
def procsetMirrorsCard : Claim7 := { stood := { row := procsetMirrorsRow, standIns := [], harness := (true, "c8f3640ce8936049e938258317428734cdeac48dffa7ea5e4351077d0a3828e4"), looks := false }, kinds := [], alts := [], laidByText := true, laidKinds := [.data, .data, .data, .data, .pinned], laidTests := true, laidLooks := .later }
def ProcsetMirrorsCardSaid : Prop := Claim7.holds Tryd.pinned (.plain (OpenSpec.ofChange procsetMirrorsSpec)) procsetMirrorsCard

/-- THE TIED CARD OF 'roundtablelaw01.ProcsetLists'. -/
def procsetListsCard : Claim7 := { stood := { row := procsetListsRow, standIns := [], harness := (true, "c8f3640ce8936049e938258317428734cdeac48dffa7ea5e4351077d0a3828e4"), looks := false }, kinds := [], alts := [], laidByText := true, laidKinds := [.data, .data, .data, .data, .pinned], laidTests := true, laidLooks := .later }
def ProcsetListsCardSaid : Prop := Claim7.holds Tryd.pinned (.plain (OpenSpec.ofChange procsetListsSpec)) procsetListsCard

/-- THE TIED CARD OF 'roundtablelaw01.ProcsetReturns'. -/
def procsetReturnsCard : Claim7 := { stood := { row := procsetReturnsRow, standIns := [], harness := (true, "c8f3640ce8936049e938258317428734cdeac48dffa7ea5e4351077d0a3828e4"), looks := false }, kinds := [], alts := [], laidByText := true, laidKinds := [.data, .data, .data, .data, .pinned], laidTests := true, laidLooks := .later }
def ProcsetReturnsCardSaid : Prop := Claim7.holds Tryd.pinned (.plain (OpenSpec.ofChange procsetReturnsSpec)) procsetReturnsCard

/-- THE TIED CARD OF 'roundtablelaw01.ProcsetCounts'. -/
def procsetCountsCard : Claim7 := { stood := { row := procsetCountsRow, standIns := [], harness := (true, "c8f3640ce8936049e938258317428734cdeac48dffa7ea5e4351077d0a3828e4"), looks := false }, kinds := [], alts := [], laidByText := true, laidKinds := [.data, .data, .data, .data, .pinned], laidTests := true, laidLooks := .later }
def ProcsetCountsCardSaid : Prop := Claim7.holds Tryd.pinned (.plain (OpenSpec.ofChange procsetCountsSpec)) procsetCountsCard

/-- THE SECOND FORM's CARD OF 'roundtablelaw01.ProcsetCollects'. -/
def procsetCollectsUptoCard : Claim7 := { stood := { row := procsetCollectsUptoRow, standIns := [], harness := (true, "c8f3640ce8936049e938258317428734cdeac48dffa7ea5e4351077d0a3828e4"), looks := false }, kinds := [], alts := [], laidByText := true, laidKinds := [.data, .data, .data, .data, .pinned], laidTests := true, laidLooks := .later }
def ProcsetCollectsUptoCardSaid : Prop := Claim7.holds Tryd.pinned (.plain (OpenSpec.upto procsetCollectsSpec)) procsetCollectsUptoCard

/-- THE SECOND FORM's CARD OF 'roundtablelaw01.ProcsetChooses'. -/
def procsetChoosesUptoCard : Claim7 := { stood := { row := procsetChoosesUptoRow, standIns := [], harness := (true, "c8f3640ce8936049e938258317428734cdeac48dffa7ea5e4351077d0a3828e4"), looks := false }, kinds := [], alts := [], laidByText := true, laidKinds := [.data, .data, .data, .data, .pinned], laidTests := true, laidLooks := .later }
def ProcsetChoosesUptoCardSaid : Prop := Claim7.holds Tryd.pinned (.plain (OpenSpec.upto procsetChoosesSpec)) procsetChoosesUptoCard

/-- THE SECOND FORM's CARD OF 'roundtablelaw01.ProcsetReads'. -/
def procsetReadsUptoCard : Claim7 := { stood := { row := procsetReadsUptoRow, standIns := [], harness := (true, "c8f3640ce8936049e938258317428734cdeac48dffa7ea5e4351077d0a3828e4"), looks := false }, kinds := [], alts := [], laidByText := true, laidKinds := [.data, .data, .data, .data, .pinned], laidTests := true, laidLooks := .later }
def ProcsetReadsUptoCardSaid : Prop := Claim7.holds Tryd.pinned (.plain (OpenSpec.upto procsetReadsSpec)) procsetReadsUptoCard

/-- THE SECOND FORM's CARD OF 'roundtablelaw01.ProcsetMirrors'. -/
def procsetMirrorsUptoCard : Claim7 := { stood := { row := procsetMirrorsUptoRow, standIns := [], harness := (true, "c8f3640ce8936049e938258317428734cdeac48dffa7ea5e4351077d0a3828e4"), looks := false }, kinds := [], alts := [], laidByText := true, laidKinds := [.data, .data, .data, .data, .pinned], laidTests := true, laidLooks := .later }
def ProcsetMirrorsUptoCardSaid : Prop := Claim7.holds Tryd.pinned (.plain (OpenSpec.upto procsetMirrorsSpec)) procsetMirrorsUptoCard

/-- THE SECOND FORM's CARD OF 'roundtablelaw01.ProcsetLists'. -/
def procsetListsUptoCard : Claim7 := { stood := { row := procsetListsUptoRow, standIns := [], harness := (true, "c8f3640ce8936049e938258317428734cdeac48dffa7ea5e4351077d0a3828e4"), looks := false }, kinds := [], alts := [], laidByText := true, laidKinds := [.data, .data, .data, .data, .pinned], laidTests := true, laidLooks := .later }
def ProcsetListsUptoCardSaid : Prop := Claim7.holds Tryd.pinned (.plain (OpenSpec.upto procsetListsSpec)) procsetListsUptoCard

/-- THE SECOND FORM's CARD OF 'roundtablelaw01.ProcsetReturns'. -/
def procsetReturnsUptoCard : Claim7 := { stood := { row := procsetReturnsUptoRow, standIns := [], harness := (true, "c8f3640ce8936049e938258317428734cdeac48dffa7ea5e4351077d0a3828e4"), looks := false }, kinds := [], alts := [], laidByText := true, laidKinds := [.data, .data, .data, .data, .pinned], laidTests := true, laidLooks := .later }
def ProcsetReturnsUptoCardSaid : Prop := Claim7.holds Tryd.pinned (.plain (OpenSpec.upto procsetReturnsSpec)) procsetReturnsUptoCard

/-- THE SECOND FORM's CARD OF 'roundtablelaw01.ProcsetCounts'. -/
def procsetCountsUptoCard : Claim7 := { stood := { row := procsetCountsUptoRow, standIns := [], harness := (true, "c8f3640ce8936049e938258317428734cdeac48dffa7ea5e4351077d0a3828e4"), looks := false }, kinds := [], alts := [], laidByText := true, laidKinds := [.data, .data, .data, .data, .pinned], laidTests := true, laidLooks := .later }
def ProcsetCountsUptoCardSaid : Prop := Claim7.holds Tryd.pinned (.plain (OpenSpec.upto procsetCountsSpec)) procsetCountsUptoCard
end Rows
end Go.Proofs.YtppklecmlkicaaaDoor
