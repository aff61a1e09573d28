/-
  NARROWER THAN 'FOR EVERY INPUT', by the rows' own cells (each row's printed sentence says how): ViewsAdds: laid · ViewsContain: laid · ViewsSpeak: laid · ViewsChecks: laid · ViewsSettle: laid · ViewsContinue: laid · ViewsRemember: laid · ViewsGather: laid.
  DERIVED. THE GIVEN ROWS OF THIS SEAT. 8 by the template 'for every input the law returns true; each argument reads behind the call as it read before'; 0 by the template 'total and deterministic' (their statements: YtdfnmapmnmecnaaDoorTotals.lean).
  GIVEN WITH THE SEED: the statements are not yours to turn. If you find one false, say at which input.
  Laid BY PROGRAM, IN A SANDBOX (cutbox-rows.mjs): the forced cells as the released guide's own fill.sh prints them over the translation f07b310491b7ade9… (all of the seat's roots in one cut). By AI agents, Wed Nov 11 2026. No macro, syntax, notation, axiom, sorry.
-/
import Derived.Test.YtdfnmapmnmecnaaDoorChecked
import GoSem.Claim
import GoSem.ClaimJoined
import GoSem.ClaimMapViews
import Derived.JoinedTies
import Derived.KernelRfl
namespace Go.Proofs.YtdfnmapmnmecnaaDoor
/- THE CELL 'sum', in the pinned program and in every row, IS THE sha256 OF THE DUMP (.gsa) THAT YtdfnmapmnmecnaaDoorProg.lean LOADS. Nothing in Lean hashes anything: it is a label: what it is worth is what the hold of that sum in a sandbox is worth. -/
noncomputable def Tryd.pinned : Pinned := { name := "ytdfnmapmnmecnaadoor", sum := "f07b310491b7ade93aaa605de59f198a27f61f82912814195f9c0f32dab982b4", checked := Tryd.checked }
namespace Rows
def none {H : Type} : Left H := { results := [], args := [] }

/- WHAT THE LISTED PACKAGE-LEVEL VARIABLES READ AS WHEN THE CALL BEGINS. Each datum BY PROGRAM (the guide's laid-datum.mjs) off the statement by which the dump's own 'gosem.cut.vars' lays the variable. In a bare row this is a premise. The card (YtdfnmapmnmecnaaDoorCards.lean) ties it to the program's text. -/
def laid_math_bits_deBruijn32tab {H : Type} : DataW H := .agg [.lit (.int .u8 0), .lit (.int .u8 1), .lit (.int .u8 28), .lit (.int .u8 2), .lit (.int .u8 29), .lit (.int .u8 14), .lit (.int .u8 24), .lit (.int .u8 3), .lit (.int .u8 30), .lit (.int .u8 22), .lit (.int .u8 20), .lit (.int .u8 15), .lit (.int .u8 25), .lit (.int .u8 17), .lit (.int .u8 4), .lit (.int .u8 8), .lit (.int .u8 31), .lit (.int .u8 27), .lit (.int .u8 13), .lit (.int .u8 23), .lit (.int .u8 21), .lit (.int .u8 19), .lit (.int .u8 16), .lit (.int .u8 7), .lit (.int .u8 26), .lit (.int .u8 12), .lit (.int .u8 18), .lit (.int .u8 6), .lit (.int .u8 11), .lit (.int .u8 5), .lit (.int .u8 10), .lit (.int .u8 9)]
def laid_math_bits_deBruijn64tab {H : Type} : DataW H := .agg [.lit (.int .u8 0), .lit (.int .u8 1), .lit (.int .u8 56), .lit (.int .u8 2), .lit (.int .u8 57), .lit (.int .u8 49), .lit (.int .u8 28), .lit (.int .u8 3), .lit (.int .u8 61), .lit (.int .u8 58), .lit (.int .u8 42), .lit (.int .u8 50), .lit (.int .u8 38), .lit (.int .u8 29), .lit (.int .u8 17), .lit (.int .u8 4), .lit (.int .u8 62), .lit (.int .u8 47), .lit (.int .u8 59), .lit (.int .u8 36), .lit (.int .u8 45), .lit (.int .u8 43), .lit (.int .u8 51), .lit (.int .u8 22), .lit (.int .u8 53), .lit (.int .u8 39), .lit (.int .u8 33), .lit (.int .u8 30), .lit (.int .u8 24), .lit (.int .u8 18), .lit (.int .u8 12), .lit (.int .u8 5), .lit (.int .u8 63), .lit (.int .u8 55), .lit (.int .u8 48), .lit (.int .u8 27), .lit (.int .u8 60), .lit (.int .u8 41), .lit (.int .u8 37), .lit (.int .u8 16), .lit (.int .u8 46), .lit (.int .u8 35), .lit (.int .u8 44), .lit (.int .u8 21), .lit (.int .u8 52), .lit (.int .u8 32), .lit (.int .u8 23), .lit (.int .u8 11), .lit (.int .u8 54), .lit (.int .u8 26), .lit (.int .u8 40), .lit (.int .u8 15), .lit (.int .u8 34), .lit (.int .u8 20), .lit (.int .u8 31), .lit (.int .u8 10), .lit (.int .u8 25), .lit (.int .u8 14), .lit (.int .u8 19), .lit (.int .u8 9), .lit (.int .u8 13), .lit (.int .u8 8), .lit (.int .u8 7), .lit (.int .u8 6)]
def laid_internal_strconv_uint64pow10 {H : Type} : DataW H := .agg [.lit (.int .u64 1), .lit (.int .u64 10), .lit (.int .u64 100), .lit (.int .u64 1000), .lit (.int .u64 10000), .lit (.int .u64 100000), .lit (.int .u64 1000000), .lit (.int .u64 10000000), .lit (.int .u64 100000000), .lit (.int .u64 1000000000), .lit (.int .u64 10000000000), .lit (.int .u64 100000000000), .lit (.int .u64 1000000000000), .lit (.int .u64 10000000000000), .lit (.int .u64 100000000000000), .lit (.int .u64 1000000000000000), .lit (.int .u64 10000000000000000), .lit (.int .u64 100000000000000000), .lit (.int .u64 1000000000000000000), .lit (.int .u64 10000000000000000000)]

/-- 'roundtablelaw22.ViewsAdds': WHATEVER THE INPUT: true; the input reads as it did. -/
def viewsAddsSpec : ChangeSpec := { name := "viewsAdds", fn := fun _ => fun
  | [d1, d2] => { results := [.lit (.bool true)], args := [d1, d2] }
  | _ => none }
def viewsAddsRow : OpenClaim := { program := "ytdfnmapmnmecnaadoor", sum := "f07b310491b7ade93aaa605de59f198a27f61f82912814195f9c0f32dab982b4", func := "roundtable/roundtablelaw22.ViewsAdds", spec := "viewsAdds", inPlace := ["internal/abi.NoEscape"], unfollowed := true, recurses := true, named := ["internal/strconv.uint64pow10", "math/bits.deBruijn32tab", "math/bits.deBruijn64tab"], plainKeys := false, apart := false, laid := [("math/bits.deBruijn32tab", laid_math_bits_deBruijn32tab), ("math/bits.deBruijn64tab", laid_math_bits_deBruijn64tab), ("internal/strconv.uint64pow10", laid_internal_strconv_uint64pow10)] }
def ViewsAddsSaid : Prop := viewsAddsRow.holds Tryd.pinned (OpenSpec.ofChange viewsAddsSpec)

/-- ITS FALSE NEIGHBOUR: 'it returns false'. Refute it at one input. -/
def viewsAddsWrong : ChangeSpec := { name := "viewsAdds", fn := fun _ => fun
  | [d1, d2] => { results := [.lit (.bool false)], args := [d1, d2] }
  | _ => none }
def ViewsAddsWrongFalsely : Prop := viewsAddsRow.holds Tryd.pinned (OpenSpec.ofChange viewsAddsWrong)

/-- 'roundtablelaw22.ViewsContain': WHATEVER THE INPUT: true; the input reads as it did. -/
def viewsContainSpec : ChangeSpec := { name := "viewsContain", fn := fun _ => fun
  | [d1, d2] => { results := [.lit (.bool true)], args := [d1, d2] }
  | _ => none }
def viewsContainRow : OpenClaim := { program := "ytdfnmapmnmecnaadoor", sum := "f07b310491b7ade93aaa605de59f198a27f61f82912814195f9c0f32dab982b4", func := "roundtable/roundtablelaw22.ViewsContain", spec := "viewsContain", inPlace := ["internal/abi.NoEscape"], unfollowed := true, recurses := true, named := ["internal/strconv.uint64pow10", "math/bits.deBruijn32tab", "math/bits.deBruijn64tab"], plainKeys := false, apart := false, laid := [("math/bits.deBruijn32tab", laid_math_bits_deBruijn32tab), ("math/bits.deBruijn64tab", laid_math_bits_deBruijn64tab), ("internal/strconv.uint64pow10", laid_internal_strconv_uint64pow10)] }
def ViewsContainSaid : Prop := viewsContainRow.holds Tryd.pinned (OpenSpec.ofChange viewsContainSpec)

/-- ITS FALSE NEIGHBOUR: 'it returns false'. Refute it at one input. -/
def viewsContainWrong : ChangeSpec := { name := "viewsContain", fn := fun _ => fun
  | [d1, d2] => { results := [.lit (.bool false)], args := [d1, d2] }
  | _ => none }
def ViewsContainWrongFalsely : Prop := viewsContainRow.holds Tryd.pinned (OpenSpec.ofChange viewsContainWrong)

/-- 'roundtablelaw22.ViewsSpeak': WHATEVER THE INPUT: true; the input reads as it did. -/
def viewsSpeakSpec : ChangeSpec := { name := "viewsSpeak", fn := fun _ => fun
  | [d] => { results := [.lit (.bool true)], args := [d] }
  | _ => none }
def viewsSpeakRow : OpenClaim := { program := "ytdfnmapmnmecnaadoor", sum := "f07b310491b7ade93aaa605de59f198a27f61f82912814195f9c0f32dab982b4", func := "roundtable/roundtablelaw22.ViewsSpeak", spec := "viewsSpeak", inPlace := ["internal/abi.NoEscape"], unfollowed := true, recurses := true, named := ["internal/strconv.uint64pow10", "math/bits.deBruijn32tab", "math/bits.deBruijn64tab"], plainKeys := false, apart := false, laid := [("math/bits.deBruijn32tab", laid_math_bits_deBruijn32tab), ("math/bits.deBruijn64tab", laid_math_bits_deBruijn64tab), ("internal/strconv.uint64pow10", laid_internal_strconv_uint64pow10)] }
def ViewsSpeakSaid : Prop := viewsSpeakRow.holds Tryd.pinned (OpenSpec.ofChange viewsSpeakSpec)

/-- ITS FALSE NEIGHBOUR: 'it returns false'. Refute it at one input. -/
def viewsSpeakWrong : ChangeSpec := { name := "viewsSpeak", fn := fun _ => fun
  | [d] => { results := [.lit (.bool false)], args := [d] }
  | _ => none }
def ViewsSpeakWrongFalsely : Prop := viewsSpeakRow.holds Tryd.pinned (OpenSpec.ofChange viewsSpeakWrong)

/-- 'roundtablelaw22.ViewsChecks': WHATEVER THE INPUT: true; the input reads as it did. -/
def viewsChecksSpec : ChangeSpec := { name := "viewsChecks", fn := fun _ => fun
  | [d1, d2] => { results := [.lit (.bool true)], args := [d1, d2] }
  | _ => none }
def viewsChecksRow : OpenClaim := { program := "ytdfnmapmnmecnaadoor", sum := "f07b310491b7ade93aaa605de59f198a27f61f82912814195f9c0f32dab982b4", func := "roundtable/roundtablelaw22.ViewsChecks", spec := "viewsChecks", inPlace := ["internal/abi.NoEscape"], unfollowed := true, recurses := true, named := ["internal/strconv.uint64pow10", "math/bits.deBruijn32tab", "math/bits.deBruijn64tab"], plainKeys := false, apart := false, laid := [("math/bits.deBruijn32tab", laid_math_bits_deBruijn32tab), ("math/bits.deBruijn64tab", laid_math_bits_deBruijn64tab), ("internal/strconv.uint64pow10", laid_internal_strconv_uint64pow10)] }
def ViewsChecksSaid : Prop := viewsChecksRow.holds Tryd.pinned (OpenSpec.ofChange viewsChecksSpec)

/-- ITS FALSE NEIGHBOUR: 'it returns false'. Refute it at one input. -/
def viewsChecksWrong : ChangeSpec := { name := "viewsChecks", fn := fun _ => fun
  | [d1, d2] => { results := [.lit (.bool false)], args := [d1, d2] }
  | _ => none }
def ViewsChecksWrongFalsely : Prop := viewsChecksRow.holds Tryd.pinned (OpenSpec.ofChange viewsChecksWrong)

/-- 'roundtablelaw22.ViewsSettle': WHATEVER THE INPUT: true; the input reads as it did. -/
def viewsSettleSpec : ChangeSpec := { name := "viewsSettle", fn := fun _ => fun
  | [d1, d2] => { results := [.lit (.bool true)], args := [d1, d2] }
  | _ => none }
def viewsSettleRow : OpenClaim := { program := "ytdfnmapmnmecnaadoor", sum := "f07b310491b7ade93aaa605de59f198a27f61f82912814195f9c0f32dab982b4", func := "roundtable/roundtablelaw22.ViewsSettle", spec := "viewsSettle", inPlace := ["internal/abi.NoEscape"], unfollowed := true, recurses := true, named := ["internal/strconv.uint64pow10", "math/bits.deBruijn32tab", "math/bits.deBruijn64tab"], plainKeys := false, apart := false, laid := [("math/bits.deBruijn32tab", laid_math_bits_deBruijn32tab), ("math/bits.deBruijn64tab", laid_math_bits_deBruijn64tab), ("internal/strconv.uint64pow10", laid_internal_strconv_uint64pow10)] }
def ViewsSettleSaid : Prop := viewsSettleRow.holds Tryd.pinned (OpenSpec.ofChange viewsSettleSpec)

/-- ITS FALSE NEIGHBOUR: 'it returns false'. Refute it at one input. -/
def viewsSettleWrong : ChangeSpec := { name := "viewsSettle", fn := fun _ => fun
  | [d1, d2] => { results := [.lit (.bool false)], args := [d1, d2] }
  | _ => none }
def ViewsSettleWrongFalsely : Prop := viewsSettleRow.holds Tryd.pinned (OpenSpec.ofChange viewsSettleWrong)

/-- 'roundtablelaw22.ViewsContinue': WHATEVER THE INPUT: true; the input reads as it did. -/
def viewsContinueSpec : ChangeSpec := { name := "viewsContinue", fn := fun _ => fun
  | [d1, d2, d3] => { results := [.lit (.bool true)], args := [d1, d2, d3] }
  | _ => none }
def viewsContinueRow : OpenClaim := { program := "ytdfnmapmnmecnaadoor", sum := "f07b310491b7ade93aaa605de59f198a27f61f82912814195f9c0f32dab982b4", func := "roundtable/roundtablelaw22.ViewsContinue", spec := "viewsContinue", inPlace := ["internal/abi.NoEscape"], unfollowed := true, recurses := true, named := ["internal/strconv.uint64pow10", "math/bits.deBruijn32tab", "math/bits.deBruijn64tab"], plainKeys := false, apart := false, laid := [("math/bits.deBruijn32tab", laid_math_bits_deBruijn32tab), ("math/bits.deBruijn64tab", laid_math_bits_deBruijn64tab), ("internal/strconv.uint64pow10", laid_internal_strconv_uint64pow10)] }
def ViewsContinueSaid : Prop := viewsContinueRow.holds Tryd.pinned (OpenSpec.ofChange viewsContinueSpec)

/-- ITS FALSE NEIGHBOUR: 'it returns false'. Refute it at one input. -/
def viewsContinueWrong : ChangeSpec := { name := "viewsContinue", fn := fun _ => fun
  | [d1, d2, d3] => { results := [.lit (.bool false)], args := [d1, d2, d3] }
  | _ => none }
def ViewsContinueWrongFalsely : Prop := viewsContinueRow.holds Tryd.pinned (OpenSpec.ofChange viewsContinueWrong)

/-- 'roundtablelaw22.ViewsRemember': WHATEVER THE INPUT: true; the input reads as it did. -/
def viewsRememberSpec : ChangeSpec := { name := "viewsRemember", fn := fun _ => fun
  | [d1, d2] => { results := [.lit (.bool true)], args := [d1, d2] }
  | _ => none }
def viewsRememberRow : OpenClaim := { program := "ytdfnmapmnmecnaadoor", sum := "f07b310491b7ade93aaa605de59f198a27f61f82912814195f9c0f32dab982b4", func := "roundtable/roundtablelaw22.ViewsRemember", spec := "viewsRemember", inPlace := ["internal/abi.NoEscape"], unfollowed := true, recurses := true, named := ["internal/strconv.uint64pow10", "math/bits.deBruijn32tab", "math/bits.deBruijn64tab"], plainKeys := false, apart := false, laid := [("math/bits.deBruijn32tab", laid_math_bits_deBruijn32tab), ("math/bits.deBruijn64tab", laid_math_bits_deBruijn64tab), ("internal/strconv.uint64pow10", laid_internal_strconv_uint64pow10)] }
def ViewsRememberSaid : Prop := viewsRememberRow.holds Tryd.pinned (OpenSpec.ofChange viewsRememberSpec)

/-- ITS FALSE NEIGHBOUR: 'it returns false'. Refute it at one input. -/
def viewsRememberWrong : ChangeSpec := { name := "viewsRemember", fn := fun _ => fun
  | [d1, d2] => { results := [.lit (.bool false)], args := [d1, d2] }
  | _ => none }
def ViewsRememberWrongFalsely : Prop := viewsRememberRow.holds Tryd.pinned (OpenSpec.ofChange viewsRememberWrong)

/-- 'roundtablelaw22.ViewsGather': WHATEVER THE INPUT: true; the input reads as it did. -/
def viewsGatherSpec : ChangeSpec := { name := "viewsGather", fn := fun _ => fun
  | [d1, d2] => { results := [.lit (.bool true)], args := [d1, d2] }
  | _ => none }
def viewsGatherRow : OpenClaim := { program := "ytdfnmapmnmecnaadoor", sum := "f07b310491b7ade93aaa605de59f198a27f61f82912814195f9c0f32dab982b4", func := "roundtable/roundtablelaw22.ViewsGather", spec := "viewsGather", inPlace := ["internal/abi.NoEscape"], unfollowed := true, recurses := true, named := ["internal/strconv.uint64pow10", "math/bits.deBruijn32tab", "math/bits.deBruijn64tab"], plainKeys := false, apart := false, laid := [("math/bits.deBruijn32tab", laid_math_bits_deBruijn32tab), ("math/bits.deBruijn64tab", laid_math_bits_deBruijn64tab), ("internal/strconv.uint64pow10", laid_internal_strconv_uint64pow10)] }
def ViewsGatherSaid : Prop := viewsGatherRow.holds Tryd.pinned (OpenSpec.ofChange viewsGatherSpec)

/-- ITS FALSE NEIGHBOUR: 'it returns false'. Refute it at one input. -/
def viewsGatherWrong : ChangeSpec := { name := "viewsGather", fn := fun _ => fun
  | [d1, d2] => { results := [.lit (.bool false)], args := [d1, d2] }
  | _ => none }
def ViewsGatherWrongFalsely : Prop := viewsGatherRow.holds Tryd.pinned (OpenSpec.ofChange viewsGatherWrong)

/- THE SECOND FORM. 'bulk': how many values and letters a reading holds, each counted each time it is reached (what is shared counts as often as it is met; a slice's spare places count too). A statement '..UptoSaid' is the law's where the arguments, and the package variables that the reading takes, are together of bulk at most 1048576: NARROWER than '..Said'. Prove '..Said' where nothing that the law and all that it calls make is longer than what came in: it says more and counts as full. Else prove '..UptoSaid'. A law counts once. -/
mutual
def uptoBulk {H : Type} : DataW H → Nat
  | .lit (.string bytes) => bytes.length + 1
  | .lit _ => 1
  | .nil => 1
  | .ptr d => uptoBulk d + 1
  | .slice elems spare => uptoBulkAll elems + uptoBulkAll spare + 1
  | .agg parts => uptoBulkAll parts + 1
  | .iface _ d => uptoBulk d + 1
  | .map entries => uptoBulkEntries entries + 1
  | .held _ => 1
def uptoBulkAll {H : Type} : List (DataW H) → Nat
  | [] => 0
  | d :: r => uptoBulk d + uptoBulkAll r
def uptoBulkEntries {H : Type} : List (Lit × DataW H) → Nat
  | [] => 0
  | x :: r => uptoBulkEntry x + uptoBulkEntries r
def uptoBulkEntry {H : Type} : Lit × DataW H → Nat
  | (.string bytes, d) => bytes.length + uptoBulk d + 1
  | (_, d) => uptoBulk d + 1
 end
def uptoSmall : (H : Type) → List (DataW H) → Bool := fun _ ds => decide (uptoBulkAll ds ≤ 1048576)
def OpenSpec.upto (s : _root_.Go.ChangeSpec) : _root_.Go.OpenSpec := { _root_.Go.OpenSpec.ofChange s with cond := some uptoSmall }

/-- 'roundtablelaw22.ViewsAdds', WHERE WHAT IT READS IS OF BULK AT MOST 1048576: true; the input reads as it did. -/
def viewsAddsUptoRow : OpenClaim := { program := "ytdfnmapmnmecnaadoor", sum := "f07b310491b7ade93aaa605de59f198a27f61f82912814195f9c0f32dab982b4", func := "roundtable/roundtablelaw22.ViewsAdds", spec := "viewsAdds", inPlace := ["internal/abi.NoEscape"], unfollowed := true, recurses := true, named := ["internal/strconv.uint64pow10", "math/bits.deBruijn32tab", "math/bits.deBruijn64tab"], plainKeys := false, apart := false, laid := [("math/bits.deBruijn32tab", laid_math_bits_deBruijn32tab), ("math/bits.deBruijn64tab", laid_math_bits_deBruijn64tab), ("internal/strconv.uint64pow10", laid_internal_strconv_uint64pow10)], narrowed := true }
def ViewsAddsUptoSaid : Prop := viewsAddsUptoRow.holds Tryd.pinned (OpenSpec.upto viewsAddsSpec)

/-- 'roundtablelaw22.ViewsContain', WHERE WHAT IT READS IS OF BULK AT MOST 1048576: true; the input reads as it did. -/
def viewsContainUptoRow : OpenClaim := { program := "ytdfnmapmnmecnaadoor", sum := "f07b310491b7ade93aaa605de59f198a27f61f82912814195f9c0f32dab982b4", func := "roundtable/roundtablelaw22.ViewsContain", spec := "viewsContain", inPlace := ["internal/abi.NoEscape"], unfollowed := true, recurses := true, named := ["internal/strconv.uint64pow10", "math/bits.deBruijn32tab", "math/bits.deBruijn64tab"], plainKeys := false, apart := false, laid := [("math/bits.deBruijn32tab", laid_math_bits_deBruijn32tab), ("math/bits.deBruijn64tab", laid_math_bits_deBruijn64tab), ("internal/strconv.uint64pow10", laid_internal_strconv_uint64pow10)], narrowed := true }
def ViewsContainUptoSaid : Prop := viewsContainUptoRow.holds Tryd.pinned (OpenSpec.upto viewsContainSpec)

/-- 'roundtablelaw22.ViewsSpeak', WHERE WHAT IT READS IS OF BULK AT MOST 1048576: true; the input reads as it did. -/
def viewsSpeakUptoRow : OpenClaim := { program := "ytdfnmapmnmecnaadoor", sum := "f07b310491b7ade93aaa605de59f198a27f61f82912814195f9c0f32dab982b4", func := "roundtable/roundtablelaw22.ViewsSpeak", spec := "viewsSpeak", inPlace := ["internal/abi.NoEscape"], unfollowed := true, recurses := true, named := ["internal/strconv.uint64pow10", "math/bits.deBruijn32tab", "math/bits.deBruijn64tab"], plainKeys := false, apart := false, laid := [("math/bits.deBruijn32tab", laid_math_bits_deBruijn32tab), ("math/bits.deBruijn64tab", laid_math_bits_deBruijn64tab), ("internal/strconv.uint64pow10", laid_internal_strconv_uint64pow10)], narrowed := true }
def ViewsSpeakUptoSaid : Prop := viewsSpeakUptoRow.holds Tryd.pinned (OpenSpec.upto viewsSpeakSpec)

/-- 'roundtablelaw22.ViewsChecks', WHERE WHAT IT READS IS OF BULK AT MOST 1048576: true; the input reads as it did. -/
def viewsChecksUptoRow : OpenClaim := { program := "ytdfnmapmnmecnaadoor", sum := "f07b310491b7ade93aaa605de59f198a27f61f82912814195f9c0f32dab982b4", func := "roundtable/roundtablelaw22.ViewsChecks", spec := "viewsChecks", inPlace := ["internal/abi.NoEscape"], unfollowed := true, recurses := true, named := ["internal/strconv.uint64pow10", "math/bits.deBruijn32tab", "math/bits.deBruijn64tab"], plainKeys := false, apart := false, laid := [("math/bits.deBruijn32tab", laid_math_bits_deBruijn32tab), ("math/bits.deBruijn64tab", laid_math_bits_deBruijn64tab), ("internal/strconv.uint64pow10", laid_internal_strconv_uint64pow10)], narrowed := true }
def ViewsChecksUptoSaid : Prop := viewsChecksUptoRow.holds Tryd.pinned (OpenSpec.upto viewsChecksSpec)

/-- 'roundtablelaw22.ViewsSettle', WHERE WHAT IT READS IS OF BULK AT MOST 1048576: true; the input reads as it did. -/
def viewsSettleUptoRow : OpenClaim := { program := "ytdfnmapmnmecnaadoor", sum := "f07b310491b7ade93aaa605de59f198a27f61f82912814195f9c0f32dab982b4", func := "roundtable/roundtablelaw22.ViewsSettle", spec := "viewsSettle", inPlace := ["internal/abi.NoEscape"], unfollowed := true, recurses := true, named := ["internal/strconv.uint64pow10", "math/bits.deBruijn32tab", "math/bits.deBruijn64tab"], plainKeys := false, apart := false, laid := [("math/bits.deBruijn32tab", laid_math_bits_deBruijn32tab), ("math/bits.deBruijn64tab", laid_math_bits_deBruijn64tab), ("internal/strconv.uint64pow10", laid_internal_strconv_uint64pow10)], narrowed := true }
def ViewsSettleUptoSaid : Prop := viewsSettleUptoRow.holds Tryd.pinned (OpenSpec.upto viewsSettleSpec)

/-- 'roundtablelaw22.ViewsContinue', WHERE WHAT IT READS IS OF BULK AT MOST 1048576: true; the input reads as it did. -/
def viewsContinueUptoRow : OpenClaim := { program := "ytdfnmapmnmecnaadoor", sum := "f07b310491b7ade93aaa605de59f198a27f61f82912814195f9c0f32dab982b4", func := "roundtable/roundtablelaw22.ViewsContinue", spec := "viewsContinue", inPlace := ["internal/abi.NoEscape"], unfollowed := true, recurses := true, named := ["internal/strconv.uint64pow10", "math/bits.deBruijn32tab", "math/bits.deBruijn64tab"], plainKeys := false, apart := false, laid := [("math/bits.deBruijn32tab", laid_math_bits_deBruijn32tab), ("math/bits.deBruijn64tab", laid_math_bits_deBruijn64tab), ("internal/strconv.uint64pow10", laid_internal_strconv_uint64pow10)], narrowed := true }
def ViewsContinueUptoSaid : Prop := viewsContinueUptoRow.holds Tryd.pinned (OpenSpec.upto viewsContinueSpec)

/-- 'roundtablelaw22.ViewsRemember', WHERE WHAT IT READS IS OF BULK AT MOST 1048576: true; the input reads as it did. -/
def viewsRememberUptoRow : OpenClaim := { program := "ytdfnmapmnmecnaadoor", sum := "f07b310491b7ade93aaa605de59f198a27f61f82912814195f9c0f32dab982b4", func := "roundtable/roundtablelaw22.ViewsRemember", spec := "viewsRemember", inPlace := ["internal/abi.NoEscape"], unfollowed := true, recurses := true, named := ["internal/strconv.uint64pow10", "math/bits.deBruijn32tab", "math/bits.deBruijn64tab"], plainKeys := false, apart := false, laid := [("math/bits.deBruijn32tab", laid_math_bits_deBruijn32tab), ("math/bits.deBruijn64tab", laid_math_bits_deBruijn64tab), ("internal/strconv.uint64pow10", laid_internal_strconv_uint64pow10)], narrowed := true }
def ViewsRememberUptoSaid : Prop := viewsRememberUptoRow.holds Tryd.pinned (OpenSpec.upto viewsRememberSpec)

/-- 'roundtablelaw22.ViewsGather', WHERE WHAT IT READS IS OF BULK AT MOST 1048576: true; the input reads as it did. -/
def viewsGatherUptoRow : OpenClaim := { program := "ytdfnmapmnmecnaadoor", sum := "f07b310491b7ade93aaa605de59f198a27f61f82912814195f9c0f32dab982b4", func := "roundtable/roundtablelaw22.ViewsGather", spec := "viewsGather", inPlace := ["internal/abi.NoEscape"], unfollowed := true, recurses := true, named := ["internal/strconv.uint64pow10", "math/bits.deBruijn32tab", "math/bits.deBruijn64tab"], plainKeys := false, apart := false, laid := [("math/bits.deBruijn32tab", laid_math_bits_deBruijn32tab), ("math/bits.deBruijn64tab", laid_math_bits_deBruijn64tab), ("internal/strconv.uint64pow10", laid_internal_strconv_uint64pow10)], narrowed := true }
def ViewsGatherUptoSaid : Prop := viewsGatherUptoRow.holds Tryd.pinned (OpenSpec.upto viewsGatherSpec)

end Rows
end Go.Proofs.YtdfnmapmnmecnaaDoor
