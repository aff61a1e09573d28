/-
  NARROWER THAN 'FOR EVERY INPUT', by the rows' own cells (each row's printed sentence says how): PointsAtoms: loops.
  DERIVED. THE GIVEN ROWS OF THIS SEAT. 14 by the template 'for every input the law returns true; each argument reads behind the call as it read before'; 0 by the template 'total and deterministic' (their statements: YtdkmpccfnnpnbaaGreatTotals.lean).
  GIVEN WITH THE SEED: the statements are not yours to turn. If you find one false, say at which input.
  Laid BY PROGRAM, IN A SANDBOX (cutbox-rows.mjs): the forced cells as the released guide's own fill.sh prints them over the translation 3e78822de18b938f… (all of the seat's roots in one cut). By AI agents, Wed Nov 11 2026. No macro, syntax, notation, axiom, sorry.
-/
import Derived.Test.YtdkmpccfnnpnbaaGreatChecked
import GoSem.Claim
import GoSem.ClaimJoined
import GoSem.ClaimMapViews
import Derived.JoinedTies
import Derived.KernelRfl
namespace Go.Proofs.YtdkmpccfnnpnbaaGreat
/- THE CELL 'sum', in the pinned program and in every row, IS THE sha256 OF THE DUMP (.gsa) THAT YtdkmpccfnnpnbaaGreatProg.lean LOADS. Nothing in Lean hashes anything: it is a label: what it is worth is what the hold of that sum in a sandbox is worth. -/
noncomputable def Tryz.pinned : Pinned := { name := "ytdkmpccfnnpnbaagreat", sum := "3e78822de18b938fb43e028e7cd1a2bf6ed7e5e12a04592bfb21912bb9ff88bb", checked := Tryz.checked }
namespace Rows
def none {H : Type} : Left H := { results := [], args := [] }

/-- 'roundtablelaw39.CommonComponents': WHATEVER THE INPUT: true; the input reads as it did. -/
def commonComponentsSpec : ChangeSpec := { name := "commonComponents", fn := fun _ => fun
  | [d1, d2] => { results := [.lit (.bool true)], args := [d1, d2] }
  | _ => none }
def commonComponentsRow : OpenClaim := { program := "ytdkmpccfnnpnbaagreat", sum := "3e78822de18b938fb43e028e7cd1a2bf6ed7e5e12a04592bfb21912bb9ff88bb", func := "roundtable/roundtablelaw39.CommonComponents", spec := "commonComponents", unfollowed := true, recurses := true, plainKeys := false, apart := false }
def CommonComponentsSaid : Prop := commonComponentsRow.holds Tryz.pinned (OpenSpec.ofChange commonComponentsSpec)

/-- ITS FALSE NEIGHBOUR: 'it returns false'. Refute it at one input. -/
def commonComponentsWrong : ChangeSpec := { name := "commonComponents", fn := fun _ => fun
  | [d1, d2] => { results := [.lit (.bool false)], args := [d1, d2] }
  | _ => none }
def CommonComponentsWrongFalsely : Prop := commonComponentsRow.holds Tryz.pinned (OpenSpec.ofChange commonComponentsWrong)

/-- 'roundtablelaw39.CommonHolds': WHATEVER THE INPUT: true; the input reads as it did. -/
def commonHoldsSpec : ChangeSpec := { name := "commonHolds", fn := fun _ => fun
  | [d1, d2, d3] => { results := [.lit (.bool true)], args := [d1, d2, d3] }
  | _ => none }
def commonHoldsRow : OpenClaim := { program := "ytdkmpccfnnpnbaagreat", sum := "3e78822de18b938fb43e028e7cd1a2bf6ed7e5e12a04592bfb21912bb9ff88bb", func := "roundtable/roundtablelaw39.CommonHolds", spec := "commonHolds", unfollowed := true, recurses := true, plainKeys := false, apart := false }
def CommonHoldsSaid : Prop := commonHoldsRow.holds Tryz.pinned (OpenSpec.ofChange commonHoldsSpec)

/-- ITS FALSE NEIGHBOUR: 'it returns false'. Refute it at one input. -/
def commonHoldsWrong : ChangeSpec := { name := "commonHolds", fn := fun _ => fun
  | [d1, d2, d3] => { results := [.lit (.bool false)], args := [d1, d2, d3] }
  | _ => none }
def CommonHoldsWrongFalsely : Prop := commonHoldsRow.holds Tryz.pinned (OpenSpec.ofChange commonHoldsWrong)

/-- 'roundtablelaw39.CommonWitnesses': WHATEVER THE INPUT: true; the input reads as it did. -/
def commonWitnessesSpec : ChangeSpec := { name := "commonWitnesses", fn := fun _ => fun
  | [d1, d2] => { results := [.lit (.bool true)], args := [d1, d2] }
  | _ => none }
def commonWitnessesRow : OpenClaim := { program := "ytdkmpccfnnpnbaagreat", sum := "3e78822de18b938fb43e028e7cd1a2bf6ed7e5e12a04592bfb21912bb9ff88bb", func := "roundtable/roundtablelaw39.CommonWitnesses", spec := "commonWitnesses", unfollowed := true, recurses := true, plainKeys := false, apart := false }
def CommonWitnessesSaid : Prop := commonWitnessesRow.holds Tryz.pinned (OpenSpec.ofChange commonWitnessesSpec)

/-- ITS FALSE NEIGHBOUR: 'it returns false'. Refute it at one input. -/
def commonWitnessesWrong : ChangeSpec := { name := "commonWitnesses", fn := fun _ => fun
  | [d1, d2] => { results := [.lit (.bool false)], args := [d1, d2] }
  | _ => none }
def CommonWitnessesWrongFalsely : Prop := commonWitnessesRow.holds Tryz.pinned (OpenSpec.ofChange commonWitnessesWrong)

/-- 'roundtablelaw39.CommonVerifies': WHATEVER THE INPUT: true; the input reads as it did. -/
def commonVerifiesSpec : ChangeSpec := { name := "commonVerifies", fn := fun _ => fun
  | [d1, d2, d3] => { results := [.lit (.bool true)], args := [d1, d2, d3] }
  | _ => none }
def commonVerifiesRow : OpenClaim := { program := "ytdkmpccfnnpnbaagreat", sum := "3e78822de18b938fb43e028e7cd1a2bf6ed7e5e12a04592bfb21912bb9ff88bb", func := "roundtable/roundtablelaw39.CommonVerifies", spec := "commonVerifies", unfollowed := true, recurses := true, plainKeys := false, apart := false }
def CommonVerifiesSaid : Prop := commonVerifiesRow.holds Tryz.pinned (OpenSpec.ofChange commonVerifiesSpec)

/-- ITS FALSE NEIGHBOUR: 'it returns false'. Refute it at one input. -/
def commonVerifiesWrong : ChangeSpec := { name := "commonVerifies", fn := fun _ => fun
  | [d1, d2, d3] => { results := [.lit (.bool false)], args := [d1, d2, d3] }
  | _ => none }
def CommonVerifiesWrongFalsely : Prop := commonVerifiesRow.holds Tryz.pinned (OpenSpec.ofChange commonVerifiesWrong)

/-- 'roundtablelaw39.CommonRefutes': WHATEVER THE INPUT: true; the input reads as it did. -/
def commonRefutesSpec : ChangeSpec := { name := "commonRefutes", fn := fun _ => fun
  | [d1, d2] => { results := [.lit (.bool true)], args := [d1, d2] }
  | _ => none }
def commonRefutesRow : OpenClaim := { program := "ytdkmpccfnnpnbaagreat", sum := "3e78822de18b938fb43e028e7cd1a2bf6ed7e5e12a04592bfb21912bb9ff88bb", func := "roundtable/roundtablelaw39.CommonRefutes", spec := "commonRefutes", unfollowed := true, recurses := true, plainKeys := false, apart := false }
def CommonRefutesSaid : Prop := commonRefutesRow.holds Tryz.pinned (OpenSpec.ofChange commonRefutesSpec)

/-- ITS FALSE NEIGHBOUR: 'it returns false'. Refute it at one input. -/
def commonRefutesWrong : ChangeSpec := { name := "commonRefutes", fn := fun _ => fun
  | [d1, d2] => { results := [.lit (.bool false)], args := [d1, d2] }
  | _ => none }
def CommonRefutesWrongFalsely : Prop := commonRefutesRow.holds Tryz.pinned (OpenSpec.ofChange commonRefutesWrong)

/-- 'roundtablelaw36.PointsClasses': WHATEVER THE INPUT: true; the input reads as it did. -/
def pointsClassesSpec : ChangeSpec := { name := "pointsClasses", fn := fun _ => fun
  | [d1, d2, d3] => { results := [.lit (.bool true)], args := [d1, d2, d3] }
  | _ => none }
def pointsClassesRow : OpenClaim := { program := "ytdkmpccfnnpnbaagreat", sum := "3e78822de18b938fb43e028e7cd1a2bf6ed7e5e12a04592bfb21912bb9ff88bb", func := "roundtable/roundtablelaw36.PointsClasses", spec := "pointsClasses", unfollowed := true, recurses := true, plainKeys := false, apart := false }
def PointsClassesSaid : Prop := pointsClassesRow.holds Tryz.pinned (OpenSpec.ofChange pointsClassesSpec)

/-- ITS FALSE NEIGHBOUR: 'it returns false'. Refute it at one input. -/
def pointsClassesWrong : ChangeSpec := { name := "pointsClasses", fn := fun _ => fun
  | [d1, d2, d3] => { results := [.lit (.bool false)], args := [d1, d2, d3] }
  | _ => none }
def PointsClassesWrongFalsely : Prop := pointsClassesRow.holds Tryz.pinned (OpenSpec.ofChange pointsClassesWrong)

/-- 'roundtablelaw36.PointsAtoms': WHATEVER THE INPUT: true; the input reads as it did. -/
def pointsAtomsSpec : ChangeSpec := { name := "pointsAtoms", fn := fun _ => fun
  | [d1, d2, d3] => { results := [.lit (.bool true)], args := [d1, d2, d3] }
  | _ => none }
def pointsAtomsRow : OpenClaim := { program := "ytdkmpccfnnpnbaagreat", sum := "3e78822de18b938fb43e028e7cd1a2bf6ed7e5e12a04592bfb21912bb9ff88bb", func := "roundtable/roundtablelaw36.PointsAtoms", spec := "pointsAtoms", unfollowed := true, recurses := true, loops := true, plainKeys := false, apart := false }
def PointsAtomsSaid : Prop := pointsAtomsRow.holds Tryz.pinned (OpenSpec.ofChange pointsAtomsSpec)

/-- ITS FALSE NEIGHBOUR: 'it returns false'. Refute it at one input. -/
def pointsAtomsWrong : ChangeSpec := { name := "pointsAtoms", fn := fun _ => fun
  | [d1, d2, d3] => { results := [.lit (.bool false)], args := [d1, d2, d3] }
  | _ => none }
def PointsAtomsWrongFalsely : Prop := pointsAtomsRow.holds Tryz.pinned (OpenSpec.ofChange pointsAtomsWrong)

/-- 'roundtablelaw36.PointsRemembers': WHATEVER THE INPUT: true; the input reads as it did. -/
def pointsRemembersSpec : ChangeSpec := { name := "pointsRemembers", fn := fun _ => fun
  | [d1, d2] => { results := [.lit (.bool true)], args := [d1, d2] }
  | _ => none }
def pointsRemembersRow : OpenClaim := { program := "ytdkmpccfnnpnbaagreat", sum := "3e78822de18b938fb43e028e7cd1a2bf6ed7e5e12a04592bfb21912bb9ff88bb", func := "roundtable/roundtablelaw36.PointsRemembers", spec := "pointsRemembers", unfollowed := true, recurses := true, plainKeys := false, apart := false }
def PointsRemembersSaid : Prop := pointsRemembersRow.holds Tryz.pinned (OpenSpec.ofChange pointsRemembersSpec)

/-- ITS FALSE NEIGHBOUR: 'it returns false'. Refute it at one input. -/
def pointsRemembersWrong : ChangeSpec := { name := "pointsRemembers", fn := fun _ => fun
  | [d1, d2] => { results := [.lit (.bool false)], args := [d1, d2] }
  | _ => none }
def PointsRemembersWrongFalsely : Prop := pointsRemembersRow.holds Tryz.pinned (OpenSpec.ofChange pointsRemembersWrong)

/-- 'roundtablelaw36.PointsHears': WHATEVER THE INPUT: true; the input reads as it did. -/
def pointsHearsSpec : ChangeSpec := { name := "pointsHears", fn := fun _ => fun
  | [d1, d2, d3] => { results := [.lit (.bool true)], args := [d1, d2, d3] }
  | _ => none }
def pointsHearsRow : OpenClaim := { program := "ytdkmpccfnnpnbaagreat", sum := "3e78822de18b938fb43e028e7cd1a2bf6ed7e5e12a04592bfb21912bb9ff88bb", func := "roundtable/roundtablelaw36.PointsHears", spec := "pointsHears", unfollowed := true, recurses := true, plainKeys := false, apart := false }
def PointsHearsSaid : Prop := pointsHearsRow.holds Tryz.pinned (OpenSpec.ofChange pointsHearsSpec)

/-- ITS FALSE NEIGHBOUR: 'it returns false'. Refute it at one input. -/
def pointsHearsWrong : ChangeSpec := { name := "pointsHears", fn := fun _ => fun
  | [d1, d2, d3] => { results := [.lit (.bool false)], args := [d1, d2, d3] }
  | _ => none }
def PointsHearsWrongFalsely : Prop := pointsHearsRow.holds Tryz.pinned (OpenSpec.ofChange pointsHearsWrong)

/-- 'roundtablelaw36.PointsNumbers': WHATEVER THE INPUT: true; the input reads as it did. -/
def pointsNumbersSpec : ChangeSpec := { name := "pointsNumbers", fn := fun _ => fun
  | [d1, d2, d3] => { results := [.lit (.bool true)], args := [d1, d2, d3] }
  | _ => none }
def pointsNumbersRow : OpenClaim := { program := "ytdkmpccfnnpnbaagreat", sum := "3e78822de18b938fb43e028e7cd1a2bf6ed7e5e12a04592bfb21912bb9ff88bb", func := "roundtable/roundtablelaw36.PointsNumbers", spec := "pointsNumbers", unfollowed := true, recurses := true, plainKeys := false, apart := false }
def PointsNumbersSaid : Prop := pointsNumbersRow.holds Tryz.pinned (OpenSpec.ofChange pointsNumbersSpec)

/-- ITS FALSE NEIGHBOUR: 'it returns false'. Refute it at one input. -/
def pointsNumbersWrong : ChangeSpec := { name := "pointsNumbers", fn := fun _ => fun
  | [d1, d2, d3] => { results := [.lit (.bool false)], args := [d1, d2, d3] }
  | _ => none }
def PointsNumbersWrongFalsely : Prop := pointsNumbersRow.holds Tryz.pinned (OpenSpec.ofChange pointsNumbersWrong)

/-- 'roundtablelaw36.PointsPlaces': WHATEVER THE INPUT: true; the input reads as it did. -/
def pointsPlacesSpec : ChangeSpec := { name := "pointsPlaces", fn := fun _ => fun
  | [d] => { results := [.lit (.bool true)], args := [d] }
  | _ => none }
def pointsPlacesRow : OpenClaim := { program := "ytdkmpccfnnpnbaagreat", sum := "3e78822de18b938fb43e028e7cd1a2bf6ed7e5e12a04592bfb21912bb9ff88bb", func := "roundtable/roundtablelaw36.PointsPlaces", spec := "pointsPlaces", unfollowed := true, recurses := true, plainKeys := false, apart := false }
def PointsPlacesSaid : Prop := pointsPlacesRow.holds Tryz.pinned (OpenSpec.ofChange pointsPlacesSpec)

/-- ITS FALSE NEIGHBOUR: 'it returns false'. Refute it at one input. -/
def pointsPlacesWrong : ChangeSpec := { name := "pointsPlaces", fn := fun _ => fun
  | [d] => { results := [.lit (.bool false)], args := [d] }
  | _ => none }
def PointsPlacesWrongFalsely : Prop := pointsPlacesRow.holds Tryz.pinned (OpenSpec.ofChange pointsPlacesWrong)

/-- 'roundtablelaw36.PointsFiner': WHATEVER THE INPUT: true; the input reads as it did. -/
def pointsFinerSpec : ChangeSpec := { name := "pointsFiner", fn := fun _ => fun
  | [d1, d2, d3] => { results := [.lit (.bool true)], args := [d1, d2, d3] }
  | _ => none }
def pointsFinerRow : OpenClaim := { program := "ytdkmpccfnnpnbaagreat", sum := "3e78822de18b938fb43e028e7cd1a2bf6ed7e5e12a04592bfb21912bb9ff88bb", func := "roundtable/roundtablelaw36.PointsFiner", spec := "pointsFiner", unfollowed := true, recurses := true, plainKeys := false, apart := false }
def PointsFinerSaid : Prop := pointsFinerRow.holds Tryz.pinned (OpenSpec.ofChange pointsFinerSpec)

/-- ITS FALSE NEIGHBOUR: 'it returns false'. Refute it at one input. -/
def pointsFinerWrong : ChangeSpec := { name := "pointsFiner", fn := fun _ => fun
  | [d1, d2, d3] => { results := [.lit (.bool false)], args := [d1, d2, d3] }
  | _ => none }
def PointsFinerWrongFalsely : Prop := pointsFinerRow.holds Tryz.pinned (OpenSpec.ofChange pointsFinerWrong)

/-- 'roundtablelaw39.CommonSpreads': WHATEVER THE INPUT: true; the input reads as it did. -/
def commonSpreadsSpec : ChangeSpec := { name := "commonSpreads", fn := fun _ => fun
  | [d1, d2, d3] => { results := [.lit (.bool true)], args := [d1, d2, d3] }
  | _ => none }
def commonSpreadsRow : OpenClaim := { program := "ytdkmpccfnnpnbaagreat", sum := "3e78822de18b938fb43e028e7cd1a2bf6ed7e5e12a04592bfb21912bb9ff88bb", func := "roundtable/roundtablelaw39.CommonSpreads", spec := "commonSpreads", unfollowed := true, recurses := true, plainKeys := false, apart := false }
def CommonSpreadsSaid : Prop := commonSpreadsRow.holds Tryz.pinned (OpenSpec.ofChange commonSpreadsSpec)

/-- ITS FALSE NEIGHBOUR: 'it returns false'. Refute it at one input. -/
def commonSpreadsWrong : ChangeSpec := { name := "commonSpreads", fn := fun _ => fun
  | [d1, d2, d3] => { results := [.lit (.bool false)], args := [d1, d2, d3] }
  | _ => none }
def CommonSpreadsWrongFalsely : Prop := commonSpreadsRow.holds Tryz.pinned (OpenSpec.ofChange commonSpreadsWrong)

/-- 'roundtablelaw39.CommonKnows': WHATEVER THE INPUT: true; the input reads as it did. -/
def commonKnowsSpec : ChangeSpec := { name := "commonKnows", fn := fun _ => fun
  | [d1, d2] => { results := [.lit (.bool true)], args := [d1, d2] }
  | _ => none }
def commonKnowsRow : OpenClaim := { program := "ytdkmpccfnnpnbaagreat", sum := "3e78822de18b938fb43e028e7cd1a2bf6ed7e5e12a04592bfb21912bb9ff88bb", func := "roundtable/roundtablelaw39.CommonKnows", spec := "commonKnows", unfollowed := true, recurses := true, plainKeys := false, apart := false }
def CommonKnowsSaid : Prop := commonKnowsRow.holds Tryz.pinned (OpenSpec.ofChange commonKnowsSpec)

/-- ITS FALSE NEIGHBOUR: 'it returns false'. Refute it at one input. -/
def commonKnowsWrong : ChangeSpec := { name := "commonKnows", fn := fun _ => fun
  | [d1, d2] => { results := [.lit (.bool false)], args := [d1, d2] }
  | _ => none }
def CommonKnowsWrongFalsely : Prop := commonKnowsRow.holds Tryz.pinned (OpenSpec.ofChange commonKnowsWrong)

/- THE SECOND FORM. 'bulk': how many values and letters a reading holds, each counted each time it is reached (what is shared counts as often as it is met; a slice's spare places count too). A statement '..UptoSaid' is the law's where the arguments, and the package variables that the reading takes, are together of bulk at most 1048576: NARROWER than '..Said'. Prove '..Said' where nothing that the law and all that it calls make is longer than what came in: it says more and counts as full. Else prove '..UptoSaid'. A law counts once. -/
mutual
def uptoBulk {H : Type} : DataW H → Nat
  | .lit (.string bytes) => bytes.length + 1
  | .lit _ => 1
  | .nil => 1
  | .ptr d => uptoBulk d + 1
  | .slice elems spare => uptoBulkAll elems + uptoBulkAll spare + 1
  | .agg parts => uptoBulkAll parts + 1
  | .iface _ d => uptoBulk d + 1
  | .map entries => uptoBulkEntries entries + 1
  | .held _ => 1
def uptoBulkAll {H : Type} : List (DataW H) → Nat
  | [] => 0
  | d :: r => uptoBulk d + uptoBulkAll r
def uptoBulkEntries {H : Type} : List (Lit × DataW H) → Nat
  | [] => 0
  | x :: r => uptoBulkEntry x + uptoBulkEntries r
def uptoBulkEntry {H : Type} : Lit × DataW H → Nat
  | (.string bytes, d) => bytes.length + uptoBulk d + 1
  | (_, d) => uptoBulk d + 1
 end
def uptoSmall : (H : Type) → List (DataW H) → Bool := fun _ ds => decide (uptoBulkAll ds ≤ 1048576)
def OpenSpec.upto (s : _root_.Go.ChangeSpec) : _root_.Go.OpenSpec := { _root_.Go.OpenSpec.ofChange s with cond := some uptoSmall }

/-- 'roundtablelaw39.CommonComponents', WHERE WHAT IT READS IS OF BULK AT MOST 1048576: true; the input reads as it did. -/
def commonComponentsUptoRow : OpenClaim := { program := "ytdkmpccfnnpnbaagreat", sum := "3e78822de18b938fb43e028e7cd1a2bf6ed7e5e12a04592bfb21912bb9ff88bb", func := "roundtable/roundtablelaw39.CommonComponents", spec := "commonComponents", unfollowed := true, recurses := true, plainKeys := false, apart := false, narrowed := true }
def CommonComponentsUptoSaid : Prop := commonComponentsUptoRow.holds Tryz.pinned (OpenSpec.upto commonComponentsSpec)

/-- 'roundtablelaw39.CommonHolds', WHERE WHAT IT READS IS OF BULK AT MOST 1048576: true; the input reads as it did. -/
def commonHoldsUptoRow : OpenClaim := { program := "ytdkmpccfnnpnbaagreat", sum := "3e78822de18b938fb43e028e7cd1a2bf6ed7e5e12a04592bfb21912bb9ff88bb", func := "roundtable/roundtablelaw39.CommonHolds", spec := "commonHolds", unfollowed := true, recurses := true, plainKeys := false, apart := false, narrowed := true }
def CommonHoldsUptoSaid : Prop := commonHoldsUptoRow.holds Tryz.pinned (OpenSpec.upto commonHoldsSpec)

/-- 'roundtablelaw39.CommonWitnesses', WHERE WHAT IT READS IS OF BULK AT MOST 1048576: true; the input reads as it did. -/
def commonWitnessesUptoRow : OpenClaim := { program := "ytdkmpccfnnpnbaagreat", sum := "3e78822de18b938fb43e028e7cd1a2bf6ed7e5e12a04592bfb21912bb9ff88bb", func := "roundtable/roundtablelaw39.CommonWitnesses", spec := "commonWitnesses", unfollowed := true, recurses := true, plainKeys := false, apart := false, narrowed := true }
def CommonWitnessesUptoSaid : Prop := commonWitnessesUptoRow.holds Tryz.pinned (OpenSpec.upto commonWitnessesSpec)

/-- 'roundtablelaw39.CommonVerifies', WHERE WHAT IT READS IS OF BULK AT MOST 1048576: true; the input reads as it did. -/
def commonVerifiesUptoRow : OpenClaim := { program := "ytdkmpccfnnpnbaagreat", sum := "3e78822de18b938fb43e028e7cd1a2bf6ed7e5e12a04592bfb21912bb9ff88bb", func := "roundtable/roundtablelaw39.CommonVerifies", spec := "commonVerifies", unfollowed := true, recurses := true, plainKeys := false, apart := false, narrowed := true }
def CommonVerifiesUptoSaid : Prop := commonVerifiesUptoRow.holds Tryz.pinned (OpenSpec.upto commonVerifiesSpec)

/-- 'roundtablelaw39.CommonRefutes', WHERE WHAT IT READS IS OF BULK AT MOST 1048576: true; the input reads as it did. -/
def commonRefutesUptoRow : OpenClaim := { program := "ytdkmpccfnnpnbaagreat", sum := "3e78822de18b938fb43e028e7cd1a2bf6ed7e5e12a04592bfb21912bb9ff88bb", func := "roundtable/roundtablelaw39.CommonRefutes", spec := "commonRefutes", unfollowed := true, recurses := true, plainKeys := false, apart := false, narrowed := true }
def CommonRefutesUptoSaid : Prop := commonRefutesUptoRow.holds Tryz.pinned (OpenSpec.upto commonRefutesSpec)

/-- 'roundtablelaw36.PointsClasses', WHERE WHAT IT READS IS OF BULK AT MOST 1048576: true; the input reads as it did. -/
def pointsClassesUptoRow : OpenClaim := { program := "ytdkmpccfnnpnbaagreat", sum := "3e78822de18b938fb43e028e7cd1a2bf6ed7e5e12a04592bfb21912bb9ff88bb", func := "roundtable/roundtablelaw36.PointsClasses", spec := "pointsClasses", unfollowed := true, recurses := true, plainKeys := false, apart := false, narrowed := true }
def PointsClassesUptoSaid : Prop := pointsClassesUptoRow.holds Tryz.pinned (OpenSpec.upto pointsClassesSpec)

/-- 'roundtablelaw36.PointsAtoms', WHERE WHAT IT READS IS OF BULK AT MOST 1048576: true; the input reads as it did. -/
def pointsAtomsUptoRow : OpenClaim := { program := "ytdkmpccfnnpnbaagreat", sum := "3e78822de18b938fb43e028e7cd1a2bf6ed7e5e12a04592bfb21912bb9ff88bb", func := "roundtable/roundtablelaw36.PointsAtoms", spec := "pointsAtoms", unfollowed := true, recurses := true, loops := true, plainKeys := false, apart := false, narrowed := true }
def PointsAtomsUptoSaid : Prop := pointsAtomsUptoRow.holds Tryz.pinned (OpenSpec.upto pointsAtomsSpec)

/-- 'roundtablelaw36.PointsRemembers', WHERE WHAT IT READS IS OF BULK AT MOST 1048576: true; the input reads as it did. -/
def pointsRemembersUptoRow : OpenClaim := { program := "ytdkmpccfnnpnbaagreat", sum := "3e78822de18b938fb43e028e7cd1a2bf6ed7e5e12a04592bfb21912bb9ff88bb", func := "roundtable/roundtablelaw36.PointsRemembers", spec := "pointsRemembers", unfollowed := true, recurses := true, plainKeys := false, apart := false, narrowed := true }
def PointsRemembersUptoSaid : Prop := pointsRemembersUptoRow.holds Tryz.pinned (OpenSpec.upto pointsRemembersSpec)

/-- 'roundtablelaw36.PointsHears', WHERE WHAT IT READS IS OF BULK AT MOST 1048576: true; the input reads as it did. -/
def pointsHearsUptoRow : OpenClaim := { program := "ytdkmpccfnnpnbaagreat", sum := "3e78822de18b938fb43e028e7cd1a2bf6ed7e5e12a04592bfb21912bb9ff88bb", func := "roundtable/roundtablelaw36.PointsHears", spec := "pointsHears", unfollowed := true, recurses := true, plainKeys := false, apart := false, narrowed := true }
def PointsHearsUptoSaid : Prop := pointsHearsUptoRow.holds Tryz.pinned (OpenSpec.upto pointsHearsSpec)

/-- 'roundtablelaw36.PointsNumbers', WHERE WHAT IT READS IS OF BULK AT MOST 1048576: true; the input reads as it did. -/
def pointsNumbersUptoRow : OpenClaim := { program := "ytdkmpccfnnpnbaagreat", sum := "3e78822de18b938fb43e028e7cd1a2bf6ed7e5e12a04592bfb21912bb9ff88bb", func := "roundtable/roundtablelaw36.PointsNumbers", spec := "pointsNumbers", unfollowed := true, recurses := true, plainKeys := false, apart := false, narrowed := true }
def PointsNumbersUptoSaid : Prop := pointsNumbersUptoRow.holds Tryz.pinned (OpenSpec.upto pointsNumbersSpec)

/-- 'roundtablelaw36.PointsPlaces', WHERE WHAT IT READS IS OF BULK AT MOST 1048576: true; the input reads as it did. -/
def pointsPlacesUptoRow : OpenClaim := { program := "ytdkmpccfnnpnbaagreat", sum := "3e78822de18b938fb43e028e7cd1a2bf6ed7e5e12a04592bfb21912bb9ff88bb", func := "roundtable/roundtablelaw36.PointsPlaces", spec := "pointsPlaces", unfollowed := true, recurses := true, plainKeys := false, apart := false, narrowed := true }
def PointsPlacesUptoSaid : Prop := pointsPlacesUptoRow.holds Tryz.pinned (OpenSpec.upto pointsPlacesSpec)

/-- 'roundtablelaw36.PointsFiner', WHERE WHAT IT READS IS OF BULK AT MOST 1048576: true; the input reads as it did. -/
def pointsFinerUptoRow : OpenClaim := { program := "ytdkmpccfnnpnbaagreat", sum := "3e78822de18b938fb43e028e7cd1a2bf6ed7e5e12a04592bfb21912bb9ff88bb", func := "roundtable/roundtablelaw36.PointsFiner", spec := "pointsFiner", unfollowed := true, recurses := true, plainKeys := false, apart := false, narrowed := true }
def PointsFinerUptoSaid : Prop := pointsFinerUptoRow.holds Tryz.pinned (OpenSpec.upto pointsFinerSpec)

/-- 'roundtablelaw39.CommonSpreads', WHERE WHAT IT READS IS OF BULK AT MOST 1048576: true; the input reads as it did. -/
def commonSpreadsUptoRow : OpenClaim := { program := "ytdkmpccfnnpnbaagreat", sum := "3e78822de18b938fb43e028e7cd1a2bf6ed7e5e12a04592bfb21912bb9ff88bb", func := "roundtable/roundtablelaw39.CommonSpreads", spec := "commonSpreads", unfollowed := true, recurses := true, plainKeys := false, apart := false, narrowed := true }
def CommonSpreadsUptoSaid : Prop := commonSpreadsUptoRow.holds Tryz.pinned (OpenSpec.upto commonSpreadsSpec)

/-- 'roundtablelaw39.CommonKnows', WHERE WHAT IT READS IS OF BULK AT MOST 1048576: true; the input reads as it did. -/
def commonKnowsUptoRow : OpenClaim := { program := "ytdkmpccfnnpnbaagreat", sum := "3e78822de18b938fb43e028e7cd1a2bf6ed7e5e12a04592bfb21912bb9ff88bb", func := "roundtable/roundtablelaw39.CommonKnows", spec := "commonKnows", unfollowed := true, recurses := true, plainKeys := false, apart := false, narrowed := true }
def CommonKnowsUptoSaid : Prop := commonKnowsUptoRow.holds Tryz.pinned (OpenSpec.upto commonKnowsSpec)

end Rows
end Go.Proofs.YtdkmpccfnnpnbaaGreat
