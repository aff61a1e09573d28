/-
  NARROWER THAN 'FOR EVERY INPUT', by the rows' own cells (each row's printed sentence says how): TopKnowledgeAxioms: loops · TopCommonAxioms: loops · TopTimeAxioms: loops · TopCommonWalks: loops.
  DERIVED. THE GIVEN ROWS OF THIS SEAT. 4 by the template 'for every input the law returns true; each argument reads behind the call as it read before'; 0 by the template 'total and deterministic' (their statements: YtkmbdfdaffmhjaaGreatTotals.lean).
  GIVEN WITH THE SEED: the statements are not yours to turn. If you find one false, say at which input.
  Laid BY PROGRAM, IN A SANDBOX (cutbox-rows.mjs): the forced cells as the released guide's own fill.sh prints them over the translation 8a634891c1fc490c… (all of the seat's roots in one cut). By AI agents, Wed Nov 11 2026. No macro, syntax, notation, axiom, sorry.
-/
import Derived.Test.YtkmbdfdaffmhjaaGreatChecked
import GoSem.Claim
import GoSem.ClaimJoined
import GoSem.ClaimMapViews
import Derived.JoinedTies
import Derived.KernelRfl
namespace Go.Proofs.YtkmbdfdaffmhjaaGreat
/- THE CELL 'sum', in the pinned program and in every row, IS THE sha256 OF THE DUMP (.gsa) THAT YtkmbdfdaffmhjaaGreatProg.lean LOADS. Nothing in Lean hashes anything: it is a label: what it is worth is what the hold of that sum in a sandbox is worth. -/
noncomputable def Tryz.pinned : Pinned := { name := "ytkmbdfdaffmhjaagreat", sum := "8a634891c1fc490c4167cd2997e8a7044799f20113580c686f634fb67ddab662", checked := Tryz.checked }
namespace Rows
def none {H : Type} : Left H := { results := [], args := [] }

/-- 'roundtabletop.TopKnowledgeAxioms': WHATEVER THE INPUT: true; the input reads as it did. -/
def topKnowledgeAxiomsSpec : ChangeSpec := { name := "topKnowledgeAxioms", fn := fun _ => fun
  | [d1, d2, d3] => { results := [.lit (.bool true)], args := [d1, d2, d3] }
  | _ => none }
def topKnowledgeAxiomsRow : OpenClaim := { program := "ytkmbdfdaffmhjaagreat", sum := "8a634891c1fc490c4167cd2997e8a7044799f20113580c686f634fb67ddab662", func := "roundtable/roundtabletop.TopKnowledgeAxioms", spec := "topKnowledgeAxioms", unfollowed := true, recurses := true, loops := true, plainKeys := false, apart := false }
def TopKnowledgeAxiomsSaid : Prop := topKnowledgeAxiomsRow.holds Tryz.pinned (OpenSpec.ofChange topKnowledgeAxiomsSpec)

/-- ITS FALSE NEIGHBOUR: 'it returns false'. Refute it at one input. -/
def topKnowledgeAxiomsWrong : ChangeSpec := { name := "topKnowledgeAxioms", fn := fun _ => fun
  | [d1, d2, d3] => { results := [.lit (.bool false)], args := [d1, d2, d3] }
  | _ => none }
def TopKnowledgeAxiomsWrongFalsely : Prop := topKnowledgeAxiomsRow.holds Tryz.pinned (OpenSpec.ofChange topKnowledgeAxiomsWrong)

/-- 'roundtabletop.TopCommonAxioms': WHATEVER THE INPUT: true; the input reads as it did. -/
def topCommonAxiomsSpec : ChangeSpec := { name := "topCommonAxioms", fn := fun _ => fun
  | [d1, d2, d3] => { results := [.lit (.bool true)], args := [d1, d2, d3] }
  | _ => none }
def topCommonAxiomsRow : OpenClaim := { program := "ytkmbdfdaffmhjaagreat", sum := "8a634891c1fc490c4167cd2997e8a7044799f20113580c686f634fb67ddab662", func := "roundtable/roundtabletop.TopCommonAxioms", spec := "topCommonAxioms", unfollowed := true, recurses := true, loops := true, plainKeys := false, apart := false }
def TopCommonAxiomsSaid : Prop := topCommonAxiomsRow.holds Tryz.pinned (OpenSpec.ofChange topCommonAxiomsSpec)

/-- ITS FALSE NEIGHBOUR: 'it returns false'. Refute it at one input. -/
def topCommonAxiomsWrong : ChangeSpec := { name := "topCommonAxioms", fn := fun _ => fun
  | [d1, d2, d3] => { results := [.lit (.bool false)], args := [d1, d2, d3] }
  | _ => none }
def TopCommonAxiomsWrongFalsely : Prop := topCommonAxiomsRow.holds Tryz.pinned (OpenSpec.ofChange topCommonAxiomsWrong)

/-- 'roundtabletop.TopTimeAxioms': WHATEVER THE INPUT: true; the input reads as it did. -/
def topTimeAxiomsSpec : ChangeSpec := { name := "topTimeAxioms", fn := fun _ => fun
  | [d1, d2, d3] => { results := [.lit (.bool true)], args := [d1, d2, d3] }
  | _ => none }
def topTimeAxiomsRow : OpenClaim := { program := "ytkmbdfdaffmhjaagreat", sum := "8a634891c1fc490c4167cd2997e8a7044799f20113580c686f634fb67ddab662", func := "roundtable/roundtabletop.TopTimeAxioms", spec := "topTimeAxioms", unfollowed := true, recurses := true, loops := true, plainKeys := false, apart := false }
def TopTimeAxiomsSaid : Prop := topTimeAxiomsRow.holds Tryz.pinned (OpenSpec.ofChange topTimeAxiomsSpec)

/-- ITS FALSE NEIGHBOUR: 'it returns false'. Refute it at one input. -/
def topTimeAxiomsWrong : ChangeSpec := { name := "topTimeAxioms", fn := fun _ => fun
  | [d1, d2, d3] => { results := [.lit (.bool false)], args := [d1, d2, d3] }
  | _ => none }
def TopTimeAxiomsWrongFalsely : Prop := topTimeAxiomsRow.holds Tryz.pinned (OpenSpec.ofChange topTimeAxiomsWrong)

/-- 'roundtabletop.TopCommonWalks': WHATEVER THE INPUT: true; the input reads as it did. -/
def topCommonWalksSpec : ChangeSpec := { name := "topCommonWalks", fn := fun _ => fun
  | [d1, d2, d3] => { results := [.lit (.bool true)], args := [d1, d2, d3] }
  | _ => none }
def topCommonWalksRow : OpenClaim := { program := "ytkmbdfdaffmhjaagreat", sum := "8a634891c1fc490c4167cd2997e8a7044799f20113580c686f634fb67ddab662", func := "roundtable/roundtabletop.TopCommonWalks", spec := "topCommonWalks", unfollowed := true, recurses := true, loops := true, plainKeys := false, apart := false }
def TopCommonWalksSaid : Prop := topCommonWalksRow.holds Tryz.pinned (OpenSpec.ofChange topCommonWalksSpec)

/-- ITS FALSE NEIGHBOUR: 'it returns false'. Refute it at one input. -/
def topCommonWalksWrong : ChangeSpec := { name := "topCommonWalks", fn := fun _ => fun
  | [d1, d2, d3] => { results := [.lit (.bool false)], args := [d1, d2, d3] }
  | _ => none }
def TopCommonWalksWrongFalsely : Prop := topCommonWalksRow.holds Tryz.pinned (OpenSpec.ofChange topCommonWalksWrong)

/- THE SECOND FORM. 'bulk': how many values and letters a reading holds, each counted each time it is reached (what is shared counts as often as it is met; a slice's spare places count too). A statement '..UptoSaid' is the law's where the arguments, and the package variables that the reading takes, are together of bulk at most 1048576: NARROWER than '..Said'. Prove '..Said' where nothing that the law and all that it calls make is longer than what came in: it says more and counts as full. Else prove '..UptoSaid'. A law counts once. -/
mutual
def uptoBulk {H : Type} : DataW H → Nat
  | .lit (.string bytes) => bytes.length + 1
  | .lit _ => 1
  | .nil => 1
  | .ptr d => uptoBulk d + 1
  | .slice elems spare => uptoBulkAll elems + uptoBulkAll spare + 1
  | .agg parts => uptoBulkAll parts + 1
  | .iface _ d => uptoBulk d + 1
  | .map entries => uptoBulkEntries entries + 1
  | .held _ => 1
def uptoBulkAll {H : Type} : List (DataW H) → Nat
  | [] => 0
  | d :: r => uptoBulk d + uptoBulkAll r
def uptoBulkEntries {H : Type} : List (Lit × DataW H) → Nat
  | [] => 0
  | x :: r => uptoBulkEntry x + uptoBulkEntries r
def uptoBulkEntry {H : Type} : Lit × DataW H → Nat
  | (.string bytes, d) => bytes.length + uptoBulk d + 1
  | (_, d) => uptoBulk d + 1
 end
def uptoSmall : (H : Type) → List (DataW H) → Bool := fun _ ds => decide (uptoBulkAll ds ≤ 1048576)
def OpenSpec.upto (s : _root_.Go.ChangeSpec) : _root_.Go.OpenSpec := { _root_.Go.OpenSpec.ofChange s with cond := some uptoSmall }

/-- 'roundtabletop.TopKnowledgeAxioms', WHERE WHAT IT READS IS OF BULK AT MOST 1048576: true; the input reads as it did. -/
def topKnowledgeAxiomsUptoRow : OpenClaim := { program := "ytkmbdfdaffmhjaagreat", sum := "8a634891c1fc490c4167cd2997e8a7044799f20113580c686f634fb67ddab662", func := "roundtable/roundtabletop.TopKnowledgeAxioms", spec := "topKnowledgeAxioms", unfollowed := true, recurses := true, loops := true, plainKeys := false, apart := false, narrowed := true }
def TopKnowledgeAxiomsUptoSaid : Prop := topKnowledgeAxiomsUptoRow.holds Tryz.pinned (OpenSpec.upto topKnowledgeAxiomsSpec)

/-- 'roundtabletop.TopCommonAxioms', WHERE WHAT IT READS IS OF BULK AT MOST 1048576: true; the input reads as it did. -/
def topCommonAxiomsUptoRow : OpenClaim := { program := "ytkmbdfdaffmhjaagreat", sum := "8a634891c1fc490c4167cd2997e8a7044799f20113580c686f634fb67ddab662", func := "roundtable/roundtabletop.TopCommonAxioms", spec := "topCommonAxioms", unfollowed := true, recurses := true, loops := true, plainKeys := false, apart := false, narrowed := true }
def TopCommonAxiomsUptoSaid : Prop := topCommonAxiomsUptoRow.holds Tryz.pinned (OpenSpec.upto topCommonAxiomsSpec)

/-- 'roundtabletop.TopTimeAxioms', WHERE WHAT IT READS IS OF BULK AT MOST 1048576: true; the input reads as it did. -/
def topTimeAxiomsUptoRow : OpenClaim := { program := "ytkmbdfdaffmhjaagreat", sum := "8a634891c1fc490c4167cd2997e8a7044799f20113580c686f634fb67ddab662", func := "roundtable/roundtabletop.TopTimeAxioms", spec := "topTimeAxioms", unfollowed := true, recurses := true, loops := true, plainKeys := false, apart := false, narrowed := true }
def TopTimeAxiomsUptoSaid : Prop := topTimeAxiomsUptoRow.holds Tryz.pinned (OpenSpec.upto topTimeAxiomsSpec)

/-- 'roundtabletop.TopCommonWalks', WHERE WHAT IT READS IS OF BULK AT MOST 1048576: true; the input reads as it did. -/
def topCommonWalksUptoRow : OpenClaim := { program := "ytkmbdfdaffmhjaagreat", sum := "8a634891c1fc490c4167cd2997e8a7044799f20113580c686f634fb67ddab662", func := "roundtable/roundtabletop.TopCommonWalks", spec := "topCommonWalks", unfollowed := true, recurses := true, loops := true, plainKeys := false, apart := false, narrowed := true }
def TopCommonWalksUptoSaid : Prop := topCommonWalksUptoRow.holds Tryz.pinned (OpenSpec.upto topCommonWalksSpec)

end Rows
end Go.Proofs.YtkmbdfdaffmhjaaGreat
