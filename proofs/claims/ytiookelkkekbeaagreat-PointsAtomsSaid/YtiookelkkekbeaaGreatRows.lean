/-
  NARROWER THAN 'FOR EVERY INPUT', by the rows' own cells (each row's printed sentence says how): PointsAtoms: loops.
  DERIVED. THE GIVEN ROWS OF THIS SEAT. 3 by the template 'for every input the law returns true; each argument reads behind the call as it read before'; 0 by the template 'total and deterministic' (their statements: YtiookelkkekbeaaGreatTotals.lean).
  GIVEN WITH THE SEED: the statements are not yours to turn. If you find one false, say at which input.
  Laid BY PROGRAM, IN A SANDBOX (cutbox-rows.mjs): the forced cells as the released guide's own fill.sh prints them over the translation 58cd8772f36b0544… (all of the seat's roots in one cut). By AI agents, Wed Nov 11 2026. No macro, syntax, notation, axiom, sorry.
-/
import Derived.Test.YtiookelkkekbeaaGreatChecked
import GoSem.Claim
import GoSem.ClaimJoined
import GoSem.ClaimMapViews
import Derived.JoinedTies
import Derived.KernelRfl
namespace Go.Proofs.YtiookelkkekbeaaGreat
/- THE CELL 'sum', in the pinned program and in every row, IS THE sha256 OF THE DUMP (.gsa) THAT YtiookelkkekbeaaGreatProg.lean LOADS. Nothing in Lean hashes anything: it is a label: what it is worth is what the hold of that sum in a sandbox is worth. -/
noncomputable def Tryz.pinned : Pinned := { name := "ytiookelkkekbeaagreat", sum := "58cd8772f36b0544059337e1820fc12f16367ad1736d0a3d80eb6640d36795f4", checked := Tryz.checked }
namespace Rows
def none {H : Type} : Left H := { results := [], args := [] }

/-- 'roundtablelaw36.PointsAtoms': WHATEVER THE INPUT: true; the input reads as it did. -/
def pointsAtomsSpec : ChangeSpec := { name := "pointsAtoms", fn := fun _ => fun
  | [d1, d2, d3] => { results := [.lit (.bool true)], args := [d1, d2, d3] }
  | _ => none }
def pointsAtomsRow : OpenClaim := { program := "ytiookelkkekbeaagreat", sum := "58cd8772f36b0544059337e1820fc12f16367ad1736d0a3d80eb6640d36795f4", func := "roundtable/roundtablelaw36.PointsAtoms", spec := "pointsAtoms", unfollowed := true, recurses := true, loops := true, plainKeys := false, apart := false }
def PointsAtomsSaid : Prop := pointsAtomsRow.holds Tryz.pinned (OpenSpec.ofChange pointsAtomsSpec)

/-- ITS FALSE NEIGHBOUR: 'it returns false'. Refute it at one input. -/
def pointsAtomsWrong : ChangeSpec := { name := "pointsAtoms", fn := fun _ => fun
  | [d1, d2, d3] => { results := [.lit (.bool false)], args := [d1, d2, d3] }
  | _ => none }
def PointsAtomsWrongFalsely : Prop := pointsAtomsRow.holds Tryz.pinned (OpenSpec.ofChange pointsAtomsWrong)

/-- 'roundtablelaw36.PointsHears': WHATEVER THE INPUT: true; the input reads as it did. -/
def pointsHearsSpec : ChangeSpec := { name := "pointsHears", fn := fun _ => fun
  | [d1, d2, d3] => { results := [.lit (.bool true)], args := [d1, d2, d3] }
  | _ => none }
def pointsHearsRow : OpenClaim := { program := "ytiookelkkekbeaagreat", sum := "58cd8772f36b0544059337e1820fc12f16367ad1736d0a3d80eb6640d36795f4", func := "roundtable/roundtablelaw36.PointsHears", spec := "pointsHears", unfollowed := true, recurses := true, plainKeys := false, apart := false }
def PointsHearsSaid : Prop := pointsHearsRow.holds Tryz.pinned (OpenSpec.ofChange pointsHearsSpec)

/-- ITS FALSE NEIGHBOUR: 'it returns false'. Refute it at one input. -/
def pointsHearsWrong : ChangeSpec := { name := "pointsHears", fn := fun _ => fun
  | [d1, d2, d3] => { results := [.lit (.bool false)], args := [d1, d2, d3] }
  | _ => none }
def PointsHearsWrongFalsely : Prop := pointsHearsRow.holds Tryz.pinned (OpenSpec.ofChange pointsHearsWrong)

/-- 'roundtablelaw36.PointsFiner': WHATEVER THE INPUT: true; the input reads as it did. -/
def pointsFinerSpec : ChangeSpec := { name := "pointsFiner", fn := fun _ => fun
  | [d1, d2, d3] => { results := [.lit (.bool true)], args := [d1, d2, d3] }
  | _ => none }
def pointsFinerRow : OpenClaim := { program := "ytiookelkkekbeaagreat", sum := "58cd8772f36b0544059337e1820fc12f16367ad1736d0a3d80eb6640d36795f4", func := "roundtable/roundtablelaw36.PointsFiner", spec := "pointsFiner", unfollowed := true, recurses := true, plainKeys := false, apart := false }
def PointsFinerSaid : Prop := pointsFinerRow.holds Tryz.pinned (OpenSpec.ofChange pointsFinerSpec)

/-- ITS FALSE NEIGHBOUR: 'it returns false'. Refute it at one input. -/
def pointsFinerWrong : ChangeSpec := { name := "pointsFiner", fn := fun _ => fun
  | [d1, d2, d3] => { results := [.lit (.bool false)], args := [d1, d2, d3] }
  | _ => none }
def PointsFinerWrongFalsely : Prop := pointsFinerRow.holds Tryz.pinned (OpenSpec.ofChange pointsFinerWrong)

/- THE SECOND FORM. 'bulk': how many values and letters a reading holds, each counted each time it is reached (what is shared counts as often as it is met; a slice's spare places count too). A statement '..UptoSaid' is the law's where the arguments, and the package variables that the reading takes, are together of bulk at most 1048576: NARROWER than '..Said'. Prove '..Said' where nothing that the law and all that it calls make is longer than what came in: it says more and counts as full. Else prove '..UptoSaid'. A law counts once. -/
mutual
def uptoBulk {H : Type} : DataW H → Nat
  | .lit (.string bytes) => bytes.length + 1
  | .lit _ => 1
  | .nil => 1
  | .ptr d => uptoBulk d + 1
  | .slice elems spare => uptoBulkAll elems + uptoBulkAll spare + 1
  | .agg parts => uptoBulkAll parts + 1
  | .iface _ d => uptoBulk d + 1
  | .map entries => uptoBulkEntries entries + 1
  | .held _ => 1
def uptoBulkAll {H : Type} : List (DataW H) → Nat
  | [] => 0
  | d :: r => uptoBulk d + uptoBulkAll r
def uptoBulkEntries {H : Type} : List (Lit × DataW H) → Nat
  | [] => 0
  | x :: r => uptoBulkEntry x + uptoBulkEntries r
def uptoBulkEntry {H : Type} : Lit × DataW H → Nat
  | (.string bytes, d) => bytes.length + uptoBulk d + 1
  | (_, d) => uptoBulk d + 1
 end
def uptoSmall : (H : Type) → List (DataW H) → Bool := fun _ ds => decide (uptoBulkAll ds ≤ 1048576)
def OpenSpec.upto (s : _root_.Go.ChangeSpec) : _root_.Go.OpenSpec := { _root_.Go.OpenSpec.ofChange s with cond := some uptoSmall }

/-- 'roundtablelaw36.PointsAtoms', WHERE WHAT IT READS IS OF BULK AT MOST 1048576: true; the input reads as it did. -/
def pointsAtomsUptoRow : OpenClaim := { program := "ytiookelkkekbeaagreat", sum := "58cd8772f36b0544059337e1820fc12f16367ad1736d0a3d80eb6640d36795f4", func := "roundtable/roundtablelaw36.PointsAtoms", spec := "pointsAtoms", unfollowed := true, recurses := true, loops := true, plainKeys := false, apart := false, narrowed := true }
def PointsAtomsUptoSaid : Prop := pointsAtomsUptoRow.holds Tryz.pinned (OpenSpec.upto pointsAtomsSpec)

/-- 'roundtablelaw36.PointsHears', WHERE WHAT IT READS IS OF BULK AT MOST 1048576: true; the input reads as it did. -/
def pointsHearsUptoRow : OpenClaim := { program := "ytiookelkkekbeaagreat", sum := "58cd8772f36b0544059337e1820fc12f16367ad1736d0a3d80eb6640d36795f4", func := "roundtable/roundtablelaw36.PointsHears", spec := "pointsHears", unfollowed := true, recurses := true, plainKeys := false, apart := false, narrowed := true }
def PointsHearsUptoSaid : Prop := pointsHearsUptoRow.holds Tryz.pinned (OpenSpec.upto pointsHearsSpec)

/-- 'roundtablelaw36.PointsFiner', WHERE WHAT IT READS IS OF BULK AT MOST 1048576: true; the input reads as it did. -/
def pointsFinerUptoRow : OpenClaim := { program := "ytiookelkkekbeaagreat", sum := "58cd8772f36b0544059337e1820fc12f16367ad1736d0a3d80eb6640d36795f4", func := "roundtable/roundtablelaw36.PointsFiner", spec := "pointsFiner", unfollowed := true, recurses := true, plainKeys := false, apart := false, narrowed := true }
def PointsFinerUptoSaid : Prop := pointsFinerUptoRow.holds Tryz.pinned (OpenSpec.upto pointsFinerSpec)

end Rows
end Go.Proofs.YtiookelkkekbeaaGreat
