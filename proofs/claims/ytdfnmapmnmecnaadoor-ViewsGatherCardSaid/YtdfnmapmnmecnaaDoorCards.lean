/-
  DERIVED. GIVEN WITH THE SEED: THE CARDS: each row of YtdfnmapmnmecnaaDoorRows.lean that lists a variable, with what it lists TIED to the program's text (the seventh form; the later family's looks); each row that meets fmt, with fmt's text TOLD by the authors' own Lean function (tested against real Go, not proved from fmt's source: count such statements apart). THE CARD IS WHAT COUNTS. Prove the row's statement (the work); the ties are given (YtdfnmapmnmecnaaDoorTie.lean); close each card by the builder's one call (the guide's Derived/Test/ToyasCard.lean, 'card_holds'). Laid BY PROGRAM, IN A SANDBOX (cutbox-door.mjs). By AI agents, Wed Nov 11 2026. No macro, syntax, notation, axiom, sorry.
-/
import Derived.Test.YtdfnmapmnmecnaaDoorRows
import GoSem.ClaimSeven
namespace Go.Proofs.YtdfnmapmnmecnaaDoor
namespace Rows

/-- THE TIED CARD OF 'roundtablelaw22.ViewsAdds'. -/
def viewsAddsCard : Claim7 := { stood := { row := viewsAddsRow, standIns := [], harness := (true, "b56405ccce1a3fe1ea7d153cb84215f464199126504ef197818767f83bc1d450"), looks := false }, kinds := [], alts := [], laidByText := true, laidKinds := [.data, .data, .data], laidTests := true, laidLooks := .later }
def ViewsAddsCardSaid : Prop := Claim7.holds Tryd.pinned (.plain (OpenSpec.ofChange viewsAddsSpec)) viewsAddsCard

/-- THE TIED CARD OF 'roundtablelaw22.ViewsContain'. -/
def viewsContainCard : Claim7 := { stood := { row := viewsContainRow, standIns := [], harness := (true, "b56405ccce1a3fe1ea7d153cb84215f464199126504ef197818767f83bc1d450"), looks := false }, kinds := [], alts := [], laidByText := true, laidKinds := [.data, .data, .data], laidTests := true, laidLooks := .later }
def ViewsContainCardSaid : Prop := Claim7.holds Tryd.pinned (.plain (OpenSpec.ofChange viewsContainSpec)) viewsContainCard

/-- THE TIED CARD OF 'roundtablelaw22.ViewsSpeak'. -/
def viewsSpeakCard : Claim7 := { stood := { row := viewsSpeakRow, standIns := [], harness := (true, "b56405ccce1a3fe1ea7d153cb84215f464199126504ef197818767f83bc1d450"), looks := false }, kinds := [], alts := [], laidByText := true, laidKinds := [.data, .data, .data], laidTests := true, laidLooks := .later }
def ViewsSpeakCardSaid : Prop := Claim7.holds Tryd.pinned (.plain (OpenSpec.ofChange viewsSpeakSpec)) viewsSpeakCard

/-- THE TIED CARD OF 'roundtablelaw22.ViewsChecks'. -/
def viewsChecksCard : Claim7 := { stood := { row := viewsChecksRow, standIns := [], harness := (true, "b56405ccce1a3fe1ea7d153cb84215f464199126504ef197818767f83bc1d450"), looks := false }, kinds := [], alts := [], laidByText := true, laidKinds := [.data, .data, .data], laidTests := true, laidLooks := .later }
def ViewsChecksCardSaid : Prop := Claim7.holds Tryd.pinned (.plain (OpenSpec.ofChange viewsChecksSpec)) viewsChecksCard

/-- THE TIED CARD OF 'roundtablelaw22.ViewsSettle'. -/
def viewsSettleCard : Claim7 := { stood := { row := viewsSettleRow, standIns := [], harness := (true, "b56405ccce1a3fe1ea7d153cb84215f464199126504ef197818767f83bc1d450"), looks := false }, kinds := [], alts := [], laidByText := true, laidKinds := [.data, .data, .data], laidTests := true, laidLooks := .later }
def ViewsSettleCardSaid : Prop := Claim7.holds Tryd.pinned (.plain (OpenSpec.ofChange viewsSettleSpec)) viewsSettleCard

/-- THE TIED CARD OF 'roundtablelaw22.ViewsContinue'. -/
def viewsContinueCard : Claim7 := { stood := { row := viewsContinueRow, standIns := [], harness := (true, "b56405ccce1a3fe1ea7d153cb84215f464199126504ef197818767f83bc1d450"), looks := false }, kinds := [], alts := [], laidByText := true, laidKinds := [.data, .data, .data], laidTests := true, laidLooks := .later }
def ViewsContinueCardSaid : Prop := Claim7.holds Tryd.pinned (.plain (OpenSpec.ofChange viewsContinueSpec)) viewsContinueCard

/-- THE TIED CARD OF 'roundtablelaw22.ViewsRemember'. -/
def viewsRememberCard : Claim7 := { stood := { row := viewsRememberRow, standIns := [], harness := (true, "b56405ccce1a3fe1ea7d153cb84215f464199126504ef197818767f83bc1d450"), looks := false }, kinds := [], alts := [], laidByText := true, laidKinds := [.data, .data, .data], laidTests := true, laidLooks := .later }
def ViewsRememberCardSaid : Prop := Claim7.holds Tryd.pinned (.plain (OpenSpec.ofChange viewsRememberSpec)) viewsRememberCard

/-- THE TIED CARD OF 'roundtablelaw22.ViewsGather'. -/
def viewsGatherCard : Claim7 := { stood := { row := viewsGatherRow, standIns := [], harness := (true, "b56405ccce1a3fe1ea7d153cb84215f464199126504ef197818767f83bc1d450"), looks := false }, kinds := [], alts := [], laidByText := true, laidKinds := [.data, .data, .data], laidTests := true, laidLooks := .later }
def ViewsGatherCardSaid : Prop := Claim7.holds Tryd.pinned (.plain (OpenSpec.ofChange viewsGatherSpec)) viewsGatherCard

/-- THE SECOND FORM's CARD OF 'roundtablelaw22.ViewsAdds'. -/
def viewsAddsUptoCard : Claim7 := { stood := { row := viewsAddsUptoRow, standIns := [], harness := (true, "b56405ccce1a3fe1ea7d153cb84215f464199126504ef197818767f83bc1d450"), looks := false }, kinds := [], alts := [], laidByText := true, laidKinds := [.data, .data, .data], laidTests := true, laidLooks := .later }
def ViewsAddsUptoCardSaid : Prop := Claim7.holds Tryd.pinned (.plain (OpenSpec.upto viewsAddsSpec)) viewsAddsUptoCard

/-- THE SECOND FORM's CARD OF 'roundtablelaw22.ViewsContain'. -/
def viewsContainUptoCard : Claim7 := { stood := { row := viewsContainUptoRow, standIns := [], harness := (true, "b56405ccce1a3fe1ea7d153cb84215f464199126504ef197818767f83bc1d450"), looks := false }, kinds := [], alts := [], laidByText := true, laidKinds := [.data, .data, .data], laidTests := true, laidLooks := .later }
def ViewsContainUptoCardSaid : Prop := Claim7.holds Tryd.pinned (.plain (OpenSpec.upto viewsContainSpec)) viewsContainUptoCard

/-- THE SECOND FORM's CARD OF 'roundtablelaw22.ViewsSpeak'. -/
def viewsSpeakUptoCard : Claim7 := { stood := { row := viewsSpeakUptoRow, standIns := [], harness := (true, "b56405ccce1a3fe1ea7d153cb84215f464199126504ef197818767f83bc1d450"), looks := false }, kinds := [], alts := [], laidByText := true, laidKinds := [.data, .data, .data], laidTests := true, laidLooks := .later }
def ViewsSpeakUptoCardSaid : Prop := Claim7.holds Tryd.pinned (.plain (OpenSpec.upto viewsSpeakSpec)) viewsSpeakUptoCard

/-- THE SECOND FORM's CARD OF 'roundtablelaw22.ViewsChecks'. -/
def viewsChecksUptoCard : Claim7 := { stood := { row := viewsChecksUptoRow, standIns := [], harness := (true, "b56405ccce1a3fe1ea7d153cb84215f464199126504ef197818767f83bc1d450"), looks := false }, kinds := [], alts := [], laidByText := true, laidKinds := [.data, .data, .data], laidTests := true, laidLooks := .later }
def ViewsChecksUptoCardSaid : Prop := Claim7.holds Tryd.pinned (.plain (OpenSpec.upto viewsChecksSpec)) viewsChecksUptoCard

/-- THE SECOND FORM's CARD OF 'roundtablelaw22.ViewsSettle'. -/
def viewsSettleUptoCard : Claim7 := { stood := { row := viewsSettleUptoRow, standIns := [], harness := (true, "b56405ccce1a3fe1ea7d153cb84215f464199126504ef197818767f83bc1d450"), looks := false }, kinds := [], alts := [], laidByText := true, laidKinds := [.data, .data, .data], laidTests := true, laidLooks := .later }
def ViewsSettleUptoCardSaid : Prop := Claim7.holds Tryd.pinned (.plain (OpenSpec.upto viewsSettleSpec)) viewsSettleUptoCard

/-- THE SECOND FORM's CARD OF 'roundtablelaw22.ViewsContinue'. -/
def viewsContinueUptoCard : Claim7 := { stood := { row := viewsContinueUptoRow, standIns := [], harness := (true, "b56405ccce1a3fe1ea7d153cb84215f464199126504ef197818767f83bc1d450"), looks := false }, kinds := [], alts := [], laidByText := true, laidKinds := [.data, .data, .data], laidTests := true, laidLooks := .later }
def ViewsContinueUptoCardSaid : Prop := Claim7.holds Tryd.pinned (.plain (OpenSpec.upto viewsContinueSpec)) viewsContinueUptoCard

/-- THE SECOND FORM's CARD OF 'roundtablelaw22.ViewsRemember'. -/
def viewsRememberUptoCard : Claim7 := { stood := { row := viewsRememberUptoRow, standIns := [], harness := (true, "b56405ccce1a3fe1ea7d153cb84215f464199126504ef197818767f83bc1d450"), looks := false }, kinds := [], alts := [], laidByText := true, laidKinds := [.data, .data, .data], laidTests := true, laidLooks := .later }
def ViewsRememberUptoCardSaid : Prop := Claim7.holds Tryd.pinned (.plain (OpenSpec.upto viewsRememberSpec)) viewsRememberUptoCard

/-- THE SECOND FORM's CARD OF 'roundtablelaw22.ViewsGather'. -/
def viewsGatherUptoCard : Claim7 := { stood := { row := viewsGatherUptoRow, standIns := [], harness := (true, "b56405ccce1a3fe1ea7d153cb84215f464199126504ef197818767f83bc1d450"), looks := false }, kinds := [], alts := [], laidByText := true, laidKinds := [.data, .data, .data], laidTests := true, laidLooks := .later }
def ViewsGatherUptoCardSaid : Prop := Claim7.holds Tryd.pinned (.plain (OpenSpec.upto viewsGatherSpec)) viewsGatherUptoCard
end Rows
end Go.Proofs.YtdfnmapmnmecnaaDoor
