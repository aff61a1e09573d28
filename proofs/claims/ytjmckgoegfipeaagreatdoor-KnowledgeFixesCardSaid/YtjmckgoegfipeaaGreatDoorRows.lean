/-
  NARROWER THAN 'FOR EVERY INPUT', by the rows' own cells (each row's printed sentence says how): KnowledgeKnows: laid · KnowledgeCommons: laid · KnowledgeEvals: loops, laid · KnowledgeIntrospects: laid · KnowledgeSplits: laid · KnowledgeCounts: laid · KnowledgeFixes: laid · KnowledgeInduces: laid.
  DERIVED. THE GIVEN ROWS OF THIS SEAT. 8 by the template 'for every input the law returns true; each argument reads behind the call as it read before'; 0 by the template 'total and deterministic' (their statements: YtjmckgoegfipeaaGreatDoorTotals.lean).
  GIVEN WITH THE SEED: the statements are not yours to turn. If you find one false, say at which input.
  Laid BY PROGRAM, IN A SANDBOX (cutbox-rows.mjs): the forced cells as the released guide's own fill.sh prints them over the translation 98831f73584b137d… (all of the seat's roots in one cut). By AI agents, Wed Nov 11 2026. No macro, syntax, notation, axiom, sorry.
-/
import Derived.Test.YtjmckgoegfipeaaGreatDoorChecked
import GoSem.Claim
import GoSem.ClaimJoined
import GoSem.ClaimMapViews
import Derived.JoinedTies
import Derived.KernelRfl
namespace Go.Proofs.YtjmckgoegfipeaaGreatDoor
/- THE CELL 'sum', in the pinned program and in every row, IS THE sha256 OF THE DUMP (.gsa) THAT YtjmckgoegfipeaaGreatDoorProg.lean LOADS. Nothing in Lean hashes anything: it is a label: what it is worth is what the hold of that sum in a sandbox is worth. -/
noncomputable def Tryz.pinned : Pinned := { name := "ytjmckgoegfipeaagreatdoor", sum := "98831f73584b137dfd6542955fce7ca1c5fbdce5add88ca56525fe7b682e81f8", checked := Tryz.checked }
namespace Rows
def none {H : Type} : Left H := { results := [], args := [] }

/- WHAT THE LISTED PACKAGE-LEVEL VARIABLES READ AS WHEN THE CALL BEGINS. Each datum BY PROGRAM (the guide's laid-datum.mjs) off the statement by which the dump's own 'gosem.cut.vars' lays the variable. In a bare row this is a premise. The card (YtjmckgoegfipeaaGreatDoorCards.lean) ties it to the program's text. -/
def laid_roundtable_formula_rows {H : Type} : DataW H := .agg [.agg [.lit (.bool false), .lit (.bool false), .lit (.bool false), .lit (.bool false), .lit (.bool false), .lit (.int .i64 0)], .agg [.lit (.bool true), .lit (.bool false), .lit (.bool false), .lit (.bool false), .lit (.bool false), .lit (.int .i64 0)], .agg [.lit (.bool false), .lit (.bool false), .lit (.bool false), .lit (.bool false), .lit (.bool false), .lit (.int .i64 0)], .agg [.lit (.bool true), .lit (.bool true), .lit (.bool false), .lit (.bool false), .lit (.bool false), .lit (.int .i64 0)], .agg [.lit (.bool true), .lit (.bool false), .lit (.bool false), .lit (.bool false), .lit (.bool false), .lit (.int .i64 0)], .agg [.lit (.bool true), .lit (.bool false), .lit (.bool false), .lit (.bool false), .lit (.bool false), .lit (.int .i64 0)], .agg [.lit (.bool false), .lit (.bool false), .lit (.bool false), .lit (.bool false), .lit (.bool false), .lit (.int .i64 0)], .agg [.lit (.bool false), .lit (.bool false), .lit (.bool false), .lit (.bool false), .lit (.bool false), .lit (.int .i64 0)], .agg [.lit (.bool false), .lit (.bool false), .lit (.bool false), .lit (.bool false), .lit (.bool false), .lit (.int .i64 9)], .agg [.lit (.bool false), .lit (.bool false), .lit (.bool false), .lit (.bool false), .lit (.bool false), .lit (.int .i64 8)], .agg [.lit (.bool true), .lit (.bool false), .lit (.bool false), .lit (.bool true), .lit (.bool false), .lit (.int .i64 0)], .agg [.lit (.bool false), .lit (.bool false), .lit (.bool true), .lit (.bool true), .lit (.bool false), .lit (.int .i64 0)], .agg [.lit (.bool false), .lit (.bool false), .lit (.bool true), .lit (.bool true), .lit (.bool false), .lit (.int .i64 0)], .agg [.lit (.bool false), .lit (.bool false), .lit (.bool true), .lit (.bool true), .lit (.bool false), .lit (.int .i64 0)], .agg [.lit (.bool false), .lit (.bool false), .lit (.bool false), .lit (.bool false), .lit (.bool true), .lit (.int .i64 0)], .agg [.lit (.bool false), .lit (.bool false), .lit (.bool false), .lit (.bool false), .lit (.bool true), .lit (.int .i64 16)], .agg [.lit (.bool false), .lit (.bool false), .lit (.bool false), .lit (.bool false), .lit (.bool true), .lit (.int .i64 15)], .agg [.lit (.bool false), .lit (.bool false), .lit (.bool false), .lit (.bool false), .lit (.bool true), .lit (.int .i64 0)]]

/-- 'roundtablelaw37.KnowledgeKnows': WHATEVER THE INPUT: true; the input reads as it did. -/
def knowledgeKnowsSpec : ChangeSpec := { name := "knowledgeKnows", fn := fun _ => fun
  | [d1, d2, d3] => { results := [.lit (.bool true)], args := [d1, d2, d3] }
  | _ => none }
def knowledgeKnowsRow : OpenClaim := { program := "ytjmckgoegfipeaagreatdoor", sum := "98831f73584b137dfd6542955fce7ca1c5fbdce5add88ca56525fe7b682e81f8", func := "roundtable/roundtablelaw37.KnowledgeKnows", spec := "knowledgeKnows", unfollowed := true, recurses := true, named := ["roundtable/formula.rows"], plainKeys := false, apart := false, laid := [("roundtable/formula.rows", laid_roundtable_formula_rows)] }
def KnowledgeKnowsSaid : Prop := knowledgeKnowsRow.holds Tryz.pinned (OpenSpec.ofChange knowledgeKnowsSpec)

/-- ITS FALSE NEIGHBOUR: 'it returns false'. Refute it at one input. -/
def knowledgeKnowsWrong : ChangeSpec := { name := "knowledgeKnows", fn := fun _ => fun
  | [d1, d2, d3] => { results := [.lit (.bool false)], args := [d1, d2, d3] }
  | _ => none }
def KnowledgeKnowsWrongFalsely : Prop := knowledgeKnowsRow.holds Tryz.pinned (OpenSpec.ofChange knowledgeKnowsWrong)

/-- 'roundtablelaw37.KnowledgeCommons': WHATEVER THE INPUT: true; the input reads as it did. -/
def knowledgeCommonsSpec : ChangeSpec := { name := "knowledgeCommons", fn := fun _ => fun
  | [d1, d2, d3] => { results := [.lit (.bool true)], args := [d1, d2, d3] }
  | _ => none }
def knowledgeCommonsRow : OpenClaim := { program := "ytjmckgoegfipeaagreatdoor", sum := "98831f73584b137dfd6542955fce7ca1c5fbdce5add88ca56525fe7b682e81f8", func := "roundtable/roundtablelaw37.KnowledgeCommons", spec := "knowledgeCommons", unfollowed := true, recurses := true, named := ["roundtable/formula.rows"], plainKeys := false, apart := false, laid := [("roundtable/formula.rows", laid_roundtable_formula_rows)] }
def KnowledgeCommonsSaid : Prop := knowledgeCommonsRow.holds Tryz.pinned (OpenSpec.ofChange knowledgeCommonsSpec)

/-- ITS FALSE NEIGHBOUR: 'it returns false'. Refute it at one input. -/
def knowledgeCommonsWrong : ChangeSpec := { name := "knowledgeCommons", fn := fun _ => fun
  | [d1, d2, d3] => { results := [.lit (.bool false)], args := [d1, d2, d3] }
  | _ => none }
def KnowledgeCommonsWrongFalsely : Prop := knowledgeCommonsRow.holds Tryz.pinned (OpenSpec.ofChange knowledgeCommonsWrong)

/-- 'roundtablelaw37.KnowledgeEvals': WHATEVER THE INPUT: true; the input reads as it did. -/
def knowledgeEvalsSpec : ChangeSpec := { name := "knowledgeEvals", fn := fun _ => fun
  | [d1, d2, d3] => { results := [.lit (.bool true)], args := [d1, d2, d3] }
  | _ => none }
def knowledgeEvalsRow : OpenClaim := { program := "ytjmckgoegfipeaagreatdoor", sum := "98831f73584b137dfd6542955fce7ca1c5fbdce5add88ca56525fe7b682e81f8", func := "roundtable/roundtablelaw37.KnowledgeEvals", spec := "knowledgeEvals", unfollowed := true, recurses := true, named := ["roundtable/formula.rows"], loops := true, plainKeys := false, apart := false, laid := [("roundtable/formula.rows", laid_roundtable_formula_rows)] }
def KnowledgeEvalsSaid : Prop := knowledgeEvalsRow.holds Tryz.pinned (OpenSpec.ofChange knowledgeEvalsSpec)

/-- ITS FALSE NEIGHBOUR: 'it returns false'. Refute it at one input. -/
def knowledgeEvalsWrong : ChangeSpec := { name := "knowledgeEvals", fn := fun _ => fun
  | [d1, d2, d3] => { results := [.lit (.bool false)], args := [d1, d2, d3] }
  | _ => none }
def KnowledgeEvalsWrongFalsely : Prop := knowledgeEvalsRow.holds Tryz.pinned (OpenSpec.ofChange knowledgeEvalsWrong)

/-- 'roundtablelaw37.KnowledgeIntrospects': WHATEVER THE INPUT: true; the input reads as it did. -/
def knowledgeIntrospectsSpec : ChangeSpec := { name := "knowledgeIntrospects", fn := fun _ => fun
  | [d1, d2, d3] => { results := [.lit (.bool true)], args := [d1, d2, d3] }
  | _ => none }
def knowledgeIntrospectsRow : OpenClaim := { program := "ytjmckgoegfipeaagreatdoor", sum := "98831f73584b137dfd6542955fce7ca1c5fbdce5add88ca56525fe7b682e81f8", func := "roundtable/roundtablelaw37.KnowledgeIntrospects", spec := "knowledgeIntrospects", unfollowed := true, recurses := true, named := ["roundtable/formula.rows"], plainKeys := false, apart := false, laid := [("roundtable/formula.rows", laid_roundtable_formula_rows)] }
def KnowledgeIntrospectsSaid : Prop := knowledgeIntrospectsRow.holds Tryz.pinned (OpenSpec.ofChange knowledgeIntrospectsSpec)

/-- ITS FALSE NEIGHBOUR: 'it returns false'. Refute it at one input. -/
def knowledgeIntrospectsWrong : ChangeSpec := { name := "knowledgeIntrospects", fn := fun _ => fun
  | [d1, d2, d3] => { results := [.lit (.bool false)], args := [d1, d2, d3] }
  | _ => none }
def KnowledgeIntrospectsWrongFalsely : Prop := knowledgeIntrospectsRow.holds Tryz.pinned (OpenSpec.ofChange knowledgeIntrospectsWrong)

/-- 'roundtablelaw37.KnowledgeSplits': WHATEVER THE INPUT: true; the input reads as it did. -/
def knowledgeSplitsSpec : ChangeSpec := { name := "knowledgeSplits", fn := fun _ => fun
  | [d1, d2, d3] => { results := [.lit (.bool true)], args := [d1, d2, d3] }
  | _ => none }
def knowledgeSplitsRow : OpenClaim := { program := "ytjmckgoegfipeaagreatdoor", sum := "98831f73584b137dfd6542955fce7ca1c5fbdce5add88ca56525fe7b682e81f8", func := "roundtable/roundtablelaw37.KnowledgeSplits", spec := "knowledgeSplits", unfollowed := true, recurses := true, named := ["roundtable/formula.rows"], plainKeys := false, apart := false, laid := [("roundtable/formula.rows", laid_roundtable_formula_rows)] }
def KnowledgeSplitsSaid : Prop := knowledgeSplitsRow.holds Tryz.pinned (OpenSpec.ofChange knowledgeSplitsSpec)

/-- ITS FALSE NEIGHBOUR: 'it returns false'. Refute it at one input. -/
def knowledgeSplitsWrong : ChangeSpec := { name := "knowledgeSplits", fn := fun _ => fun
  | [d1, d2, d3] => { results := [.lit (.bool false)], args := [d1, d2, d3] }
  | _ => none }
def KnowledgeSplitsWrongFalsely : Prop := knowledgeSplitsRow.holds Tryz.pinned (OpenSpec.ofChange knowledgeSplitsWrong)

/-- 'roundtablelaw37.KnowledgeCounts': WHATEVER THE INPUT: true; the input reads as it did. -/
def knowledgeCountsSpec : ChangeSpec := { name := "knowledgeCounts", fn := fun _ => fun
  | [d1, d2, d3] => { results := [.lit (.bool true)], args := [d1, d2, d3] }
  | _ => none }
def knowledgeCountsRow : OpenClaim := { program := "ytjmckgoegfipeaagreatdoor", sum := "98831f73584b137dfd6542955fce7ca1c5fbdce5add88ca56525fe7b682e81f8", func := "roundtable/roundtablelaw37.KnowledgeCounts", spec := "knowledgeCounts", unfollowed := true, recurses := true, named := ["roundtable/formula.rows"], plainKeys := false, apart := false, laid := [("roundtable/formula.rows", laid_roundtable_formula_rows)] }
def KnowledgeCountsSaid : Prop := knowledgeCountsRow.holds Tryz.pinned (OpenSpec.ofChange knowledgeCountsSpec)

/-- ITS FALSE NEIGHBOUR: 'it returns false'. Refute it at one input. -/
def knowledgeCountsWrong : ChangeSpec := { name := "knowledgeCounts", fn := fun _ => fun
  | [d1, d2, d3] => { results := [.lit (.bool false)], args := [d1, d2, d3] }
  | _ => none }
def KnowledgeCountsWrongFalsely : Prop := knowledgeCountsRow.holds Tryz.pinned (OpenSpec.ofChange knowledgeCountsWrong)

/-- 'roundtablelaw37.KnowledgeFixes': WHATEVER THE INPUT: true; the input reads as it did. -/
def knowledgeFixesSpec : ChangeSpec := { name := "knowledgeFixes", fn := fun _ => fun
  | [d1, d2, d3] => { results := [.lit (.bool true)], args := [d1, d2, d3] }
  | _ => none }
def knowledgeFixesRow : OpenClaim := { program := "ytjmckgoegfipeaagreatdoor", sum := "98831f73584b137dfd6542955fce7ca1c5fbdce5add88ca56525fe7b682e81f8", func := "roundtable/roundtablelaw37.KnowledgeFixes", spec := "knowledgeFixes", unfollowed := true, recurses := true, named := ["roundtable/formula.rows"], plainKeys := false, apart := false, laid := [("roundtable/formula.rows", laid_roundtable_formula_rows)] }
def KnowledgeFixesSaid : Prop := knowledgeFixesRow.holds Tryz.pinned (OpenSpec.ofChange knowledgeFixesSpec)

/-- ITS FALSE NEIGHBOUR: 'it returns false'. Refute it at one input. -/
def knowledgeFixesWrong : ChangeSpec := { name := "knowledgeFixes", fn := fun _ => fun
  | [d1, d2, d3] => { results := [.lit (.bool false)], args := [d1, d2, d3] }
  | _ => none }
def KnowledgeFixesWrongFalsely : Prop := knowledgeFixesRow.holds Tryz.pinned (OpenSpec.ofChange knowledgeFixesWrong)

/-- 'roundtablelaw37.KnowledgeInduces': WHATEVER THE INPUT: true; the input reads as it did. -/
def knowledgeInducesSpec : ChangeSpec := { name := "knowledgeInduces", fn := fun _ => fun
  | [d1, d2, d3] => { results := [.lit (.bool true)], args := [d1, d2, d3] }
  | _ => none }
def knowledgeInducesRow : OpenClaim := { program := "ytjmckgoegfipeaagreatdoor", sum := "98831f73584b137dfd6542955fce7ca1c5fbdce5add88ca56525fe7b682e81f8", func := "roundtable/roundtablelaw37.KnowledgeInduces", spec := "knowledgeInduces", unfollowed := true, recurses := true, named := ["roundtable/formula.rows"], plainKeys := false, apart := false, laid := [("roundtable/formula.rows", laid_roundtable_formula_rows)] }
def KnowledgeInducesSaid : Prop := knowledgeInducesRow.holds Tryz.pinned (OpenSpec.ofChange knowledgeInducesSpec)

/-- ITS FALSE NEIGHBOUR: 'it returns false'. Refute it at one input. -/
def knowledgeInducesWrong : ChangeSpec := { name := "knowledgeInduces", fn := fun _ => fun
  | [d1, d2, d3] => { results := [.lit (.bool false)], args := [d1, d2, d3] }
  | _ => none }
def KnowledgeInducesWrongFalsely : Prop := knowledgeInducesRow.holds Tryz.pinned (OpenSpec.ofChange knowledgeInducesWrong)

/- THE SECOND FORM. 'bulk': how many values and letters a reading holds, each counted each time it is reached (what is shared counts as often as it is met; a slice's spare places count too). A statement '..UptoSaid' is the law's where the arguments, and the package variables that the reading takes, are together of bulk at most 1048576: NARROWER than '..Said'. Prove '..Said' where nothing that the law and all that it calls make is longer than what came in: it says more and counts as full. Else prove '..UptoSaid'. A law counts once. -/
mutual
def uptoBulk {H : Type} : DataW H → Nat
  | .lit (.string bytes) => bytes.length + 1
  | .lit _ => 1
  | .nil => 1
  | .ptr d => uptoBulk d + 1
  | .slice elems spare => uptoBulkAll elems + uptoBulkAll spare + 1
  | .agg parts => uptoBulkAll parts + 1
  | .iface _ d => uptoBulk d + 1
  | .map entries => uptoBulkEntries entries + 1
  | .held _ => 1
def uptoBulkAll {H : Type} : List (DataW H) → Nat
  | [] => 0
  | d :: r => uptoBulk d + uptoBulkAll r
def uptoBulkEntries {H : Type} : List (Lit × DataW H) → Nat
  | [] => 0
  | x :: r => uptoBulkEntry x + uptoBulkEntries r
def uptoBulkEntry {H : Type} : Lit × DataW H → Nat
  | (.string bytes, d) => bytes.length + uptoBulk d + 1
  | (_, d) => uptoBulk d + 1
 end
def uptoSmall : (H : Type) → List (DataW H) → Bool := fun _ ds => decide (uptoBulkAll ds ≤ 1048576)
def OpenSpec.upto (s : _root_.Go.ChangeSpec) : _root_.Go.OpenSpec := { _root_.Go.OpenSpec.ofChange s with cond := some uptoSmall }

/-- 'roundtablelaw37.KnowledgeKnows', WHERE WHAT IT READS IS OF BULK AT MOST 1048576: true; the input reads as it did. -/
def knowledgeKnowsUptoRow : OpenClaim := { program := "ytjmckgoegfipeaagreatdoor", sum := "98831f73584b137dfd6542955fce7ca1c5fbdce5add88ca56525fe7b682e81f8", func := "roundtable/roundtablelaw37.KnowledgeKnows", spec := "knowledgeKnows", unfollowed := true, recurses := true, named := ["roundtable/formula.rows"], plainKeys := false, apart := false, laid := [("roundtable/formula.rows", laid_roundtable_formula_rows)], narrowed := true }
def KnowledgeKnowsUptoSaid : Prop := knowledgeKnowsUptoRow.holds Tryz.pinned (OpenSpec.upto knowledgeKnowsSpec)

/-- 'roundtablelaw37.KnowledgeCommons', WHERE WHAT IT READS IS OF BULK AT MOST 1048576: true; the input reads as it did. -/
def knowledgeCommonsUptoRow : OpenClaim := { program := "ytjmckgoegfipeaagreatdoor", sum := "98831f73584b137dfd6542955fce7ca1c5fbdce5add88ca56525fe7b682e81f8", func := "roundtable/roundtablelaw37.KnowledgeCommons", spec := "knowledgeCommons", unfollowed := true, recurses := true, named := ["roundtable/formula.rows"], plainKeys := false, apart := false, laid := [("roundtable/formula.rows", laid_roundtable_formula_rows)], narrowed := true }
def KnowledgeCommonsUptoSaid : Prop := knowledgeCommonsUptoRow.holds Tryz.pinned (OpenSpec.upto knowledgeCommonsSpec)

/-- 'roundtablelaw37.KnowledgeEvals', WHERE WHAT IT READS IS OF BULK AT MOST 1048576: true; the input reads as it did. -/
def knowledgeEvalsUptoRow : OpenClaim := { program := "ytjmckgoegfipeaagreatdoor", sum := "98831f73584b137dfd6542955fce7ca1c5fbdce5add88ca56525fe7b682e81f8", func := "roundtable/roundtablelaw37.KnowledgeEvals", spec := "knowledgeEvals", unfollowed := true, recurses := true, named := ["roundtable/formula.rows"], loops := true, plainKeys := false, apart := false, laid := [("roundtable/formula.rows", laid_roundtable_formula_rows)], narrowed := true }
def KnowledgeEvalsUptoSaid : Prop := knowledgeEvalsUptoRow.holds Tryz.pinned (OpenSpec.upto knowledgeEvalsSpec)

/-- 'roundtablelaw37.KnowledgeIntrospects', WHERE WHAT IT READS IS OF BULK AT MOST 1048576: true; the input reads as it did. -/
def knowledgeIntrospectsUptoRow : OpenClaim := { program := "ytjmckgoegfipeaagreatdoor", sum := "98831f73584b137dfd6542955fce7ca1c5fbdce5add88ca56525fe7b682e81f8", func := "roundtable/roundtablelaw37.KnowledgeIntrospects", spec := "knowledgeIntrospects", unfollowed := true, recurses := true, named := ["roundtable/formula.rows"], plainKeys := false, apart := false, laid := [("roundtable/formula.rows", laid_roundtable_formula_rows)], narrowed := true }
def KnowledgeIntrospectsUptoSaid : Prop := knowledgeIntrospectsUptoRow.holds Tryz.pinned (OpenSpec.upto knowledgeIntrospectsSpec)

/-- 'roundtablelaw37.KnowledgeSplits', WHERE WHAT IT READS IS OF BULK AT MOST 1048576: true; the input reads as it did. -/
def knowledgeSplitsUptoRow : OpenClaim := { program := "ytjmckgoegfipeaagreatdoor", sum := "98831f73584b137dfd6542955fce7ca1c5fbdce5add88ca56525fe7b682e81f8", func := "roundtable/roundtablelaw37.KnowledgeSplits", spec := "knowledgeSplits", unfollowed := true, recurses := true, named := ["roundtable/formula.rows"], plainKeys := false, apart := false, laid := [("roundtable/formula.rows", laid_roundtable_formula_rows)], narrowed := true }
def KnowledgeSplitsUptoSaid : Prop := knowledgeSplitsUptoRow.holds Tryz.pinned (OpenSpec.upto knowledgeSplitsSpec)

/-- 'roundtablelaw37.KnowledgeCounts', WHERE WHAT IT READS IS OF BULK AT MOST 1048576: true; the input reads as it did. -/
def knowledgeCountsUptoRow : OpenClaim := { program := "ytjmckgoegfipeaagreatdoor", sum := "98831f73584b137dfd6542955fce7ca1c5fbdce5add88ca56525fe7b682e81f8", func := "roundtable/roundtablelaw37.KnowledgeCounts", spec := "knowledgeCounts", unfollowed := true, recurses := true, named := ["roundtable/formula.rows"], plainKeys := false, apart := false, laid := [("roundtable/formula.rows", laid_roundtable_formula_rows)], narrowed := true }
def KnowledgeCountsUptoSaid : Prop := knowledgeCountsUptoRow.holds Tryz.pinned (OpenSpec.upto knowledgeCountsSpec)

/-- 'roundtablelaw37.KnowledgeFixes', WHERE WHAT IT READS IS OF BULK AT MOST 1048576: true; the input reads as it did. -/
def knowledgeFixesUptoRow : OpenClaim := { program := "ytjmckgoegfipeaagreatdoor", sum := "98831f73584b137dfd6542955fce7ca1c5fbdce5add88ca56525fe7b682e81f8", func := "roundtable/roundtablelaw37.KnowledgeFixes", spec := "knowledgeFixes", unfollowed := true, recurses := true, named := ["roundtable/formula.rows"], plainKeys := false, apart := false, laid := [("roundtable/formula.rows", laid_roundtable_formula_rows)], narrowed := true }
def KnowledgeFixesUptoSaid : Prop := knowledgeFixesUptoRow.holds Tryz.pinned (OpenSpec.upto knowledgeFixesSpec)

/-- 'roundtablelaw37.KnowledgeInduces', WHERE WHAT IT READS IS OF BULK AT MOST 1048576: true; the input reads as it did. -/
def knowledgeInducesUptoRow : OpenClaim := { program := "ytjmckgoegfipeaagreatdoor", sum := "98831f73584b137dfd6542955fce7ca1c5fbdce5add88ca56525fe7b682e81f8", func := "roundtable/roundtablelaw37.KnowledgeInduces", spec := "knowledgeInduces", unfollowed := true, recurses := true, named := ["roundtable/formula.rows"], plainKeys := false, apart := false, laid := [("roundtable/formula.rows", laid_roundtable_formula_rows)], narrowed := true }
def KnowledgeInducesUptoSaid : Prop := knowledgeInducesUptoRow.holds Tryz.pinned (OpenSpec.upto knowledgeInducesSpec)

end Rows
end Go.Proofs.YtjmckgoegfipeaaGreatDoor
