/-
  NARROWER THAN 'FOR EVERY INPUT', by the rows' own cells (each row's printed sentence says how): InsEncodes: laid · InsApart: laid · InsDecodes: laid · InsBack: laid · InsJoined: laid · InsStarts: laid.
  DERIVED. THE GIVEN ROWS OF THIS SEAT. 6 by the template 'for every input the law returns true; each argument reads behind the call as it read before'; 0 by the template 'total and deterministic' (their statements: YthmheblilgegcaaDoorTotals.lean).
  GIVEN WITH THE SEED: the statements are not yours to turn. If you find one false, say at which input.
  Laid BY PROGRAM, IN A SANDBOX (cutbox-rows.mjs): the forced cells as the released guide's own fill.sh prints them over the translation f88c0fb336dd783f… (all of the seat's roots in one cut). By AI agents, Wed Nov 11 2026. No macro, syntax, notation, axiom, sorry.
-/
import Derived.Test.YthmheblilgegcaaDoorChecked
import GoSem.Claim
import GoSem.ClaimJoined
import GoSem.ClaimMapViews
import Derived.JoinedTies
import Derived.KernelRfl
namespace Go.Proofs.YthmheblilgegcaaDoor
/- THE CELL 'sum', in the pinned program and in every row, IS THE sha256 OF THE DUMP (.gsa) THAT YthmheblilgegcaaDoorProg.lean LOADS. Nothing in Lean hashes anything: it is a label: what it is worth is what the hold of that sum in a sandbox is worth. -/
noncomputable def Tryd.pinned : Pinned := { name := "ythmheblilgegcaadoor", sum := "f88c0fb336dd783f2e7d5772ebaae36116d985271f62462336e31ad22a31e6e4", checked := Tryd.checked }
namespace Rows
def none {H : Type} : Left H := { results := [], args := [] }

/- WHAT THE LISTED PACKAGE-LEVEL VARIABLES READ AS WHEN THE CALL BEGINS. Each datum BY PROGRAM (the guide's laid-datum.mjs) off the statement by which the dump's own 'gosem.cut.vars' lays the variable. In a bare row this is a premise. The card (YthmheblilgegcaaDoorCards.lean) ties it to the program's text. -/
def laid_cotter_ins_shapes {H : Type} : DataW H := .agg [.lit (.int .u8 0), .lit (.int .u8 1), .lit (.int .u8 2), .lit (.int .u8 2), .lit (.int .u8 2), .lit (.int .u8 2), .lit (.int .u8 2), .lit (.int .u8 2), .lit (.int .u8 2), .lit (.int .u8 2), .lit (.int .u8 2), .lit (.int .u8 2), .lit (.int .u8 2), .lit (.int .u8 2), .lit (.int .u8 2), .lit (.int .u8 2), .lit (.int .u8 2), .lit (.int .u8 3), .lit (.int .u8 3), .lit (.int .u8 4), .lit (.int .u8 5), .lit (.int .u8 4), .lit (.int .u8 4), .lit (.int .u8 5), .lit (.int .u8 6), .lit (.int .u8 7), .lit (.int .u8 8), .lit (.int .u8 8), .lit (.int .u8 3), .lit (.int .u8 3), .lit (.int .u8 6), .lit (.int .u8 9), .lit (.int .u8 6), .lit (.int .u8 10)]

/-- 'cotterlaw03.InsEncodes': WHATEVER THE INPUT: true; the input reads as it did. -/
def insEncodesSpec : ChangeSpec := { name := "insEncodes", fn := fun _ => fun
  | [d] => { results := [.lit (.bool true)], args := [d] }
  | _ => none }
def insEncodesRow : OpenClaim := { program := "ythmheblilgegcaadoor", sum := "f88c0fb336dd783f2e7d5772ebaae36116d985271f62462336e31ad22a31e6e4", func := "cotter/cotterlaw03.InsEncodes", spec := "insEncodes", named := ["cotter/ins.shapes"], apart := false, laid := [("cotter/ins.shapes", laid_cotter_ins_shapes)] }
def InsEncodesSaid : Prop := insEncodesRow.holds Tryd.pinned (OpenSpec.ofChange insEncodesSpec)

/-- ITS FALSE NEIGHBOUR: 'it returns false'. Refute it at one input. -/
def insEncodesWrong : ChangeSpec := { name := "insEncodes", fn := fun _ => fun
  | [d] => { results := [.lit (.bool false)], args := [d] }
  | _ => none }
def InsEncodesWrongFalsely : Prop := insEncodesRow.holds Tryd.pinned (OpenSpec.ofChange insEncodesWrong)

/-- 'cotterlaw03.InsApart': WHATEVER THE INPUT: true; the input reads as it did. -/
def insApartSpec : ChangeSpec := { name := "insApart", fn := fun _ => fun
  | [d1, d2] => { results := [.lit (.bool true)], args := [d1, d2] }
  | _ => none }
def insApartRow : OpenClaim := { program := "ythmheblilgegcaadoor", sum := "f88c0fb336dd783f2e7d5772ebaae36116d985271f62462336e31ad22a31e6e4", func := "cotter/cotterlaw03.InsApart", spec := "insApart", named := ["cotter/ins.shapes"], apart := false, laid := [("cotter/ins.shapes", laid_cotter_ins_shapes)] }
def InsApartSaid : Prop := insApartRow.holds Tryd.pinned (OpenSpec.ofChange insApartSpec)

/-- ITS FALSE NEIGHBOUR: 'it returns false'. Refute it at one input. -/
def insApartWrong : ChangeSpec := { name := "insApart", fn := fun _ => fun
  | [d1, d2] => { results := [.lit (.bool false)], args := [d1, d2] }
  | _ => none }
def InsApartWrongFalsely : Prop := insApartRow.holds Tryd.pinned (OpenSpec.ofChange insApartWrong)

/-- 'cotterlaw03.InsDecodes': WHATEVER THE INPUT: true; the input reads as it did. -/
def insDecodesSpec : ChangeSpec := { name := "insDecodes", fn := fun _ => fun
  | [d1, d2] => { results := [.lit (.bool true)], args := [d1, d2] }
  | _ => none }
def insDecodesRow : OpenClaim := { program := "ythmheblilgegcaadoor", sum := "f88c0fb336dd783f2e7d5772ebaae36116d985271f62462336e31ad22a31e6e4", func := "cotter/cotterlaw03.InsDecodes", spec := "insDecodes", named := ["cotter/ins.shapes"], apart := false, laid := [("cotter/ins.shapes", laid_cotter_ins_shapes)] }
def InsDecodesSaid : Prop := insDecodesRow.holds Tryd.pinned (OpenSpec.ofChange insDecodesSpec)

/-- ITS FALSE NEIGHBOUR: 'it returns false'. Refute it at one input. -/
def insDecodesWrong : ChangeSpec := { name := "insDecodes", fn := fun _ => fun
  | [d1, d2] => { results := [.lit (.bool false)], args := [d1, d2] }
  | _ => none }
def InsDecodesWrongFalsely : Prop := insDecodesRow.holds Tryd.pinned (OpenSpec.ofChange insDecodesWrong)

/-- 'cotterlaw03.InsBack': WHATEVER THE INPUT: true; the input reads as it did. -/
def insBackSpec : ChangeSpec := { name := "insBack", fn := fun _ => fun
  | [d1, d2] => { results := [.lit (.bool true)], args := [d1, d2] }
  | _ => none }
def insBackRow : OpenClaim := { program := "ythmheblilgegcaadoor", sum := "f88c0fb336dd783f2e7d5772ebaae36116d985271f62462336e31ad22a31e6e4", func := "cotter/cotterlaw03.InsBack", spec := "insBack", named := ["cotter/ins.shapes"], apart := false, laid := [("cotter/ins.shapes", laid_cotter_ins_shapes)] }
def InsBackSaid : Prop := insBackRow.holds Tryd.pinned (OpenSpec.ofChange insBackSpec)

/-- ITS FALSE NEIGHBOUR: 'it returns false'. Refute it at one input. -/
def insBackWrong : ChangeSpec := { name := "insBack", fn := fun _ => fun
  | [d1, d2] => { results := [.lit (.bool false)], args := [d1, d2] }
  | _ => none }
def InsBackWrongFalsely : Prop := insBackRow.holds Tryd.pinned (OpenSpec.ofChange insBackWrong)

/-- 'cotterlaw03.InsJoined': WHATEVER THE INPUT: true; the input reads as it did. -/
def insJoinedSpec : ChangeSpec := { name := "insJoined", fn := fun _ => fun
  | [d1, d2] => { results := [.lit (.bool true)], args := [d1, d2] }
  | _ => none }
def insJoinedRow : OpenClaim := { program := "ythmheblilgegcaadoor", sum := "f88c0fb336dd783f2e7d5772ebaae36116d985271f62462336e31ad22a31e6e4", func := "cotter/cotterlaw03.InsJoined", spec := "insJoined", named := ["cotter/ins.shapes"], apart := false, laid := [("cotter/ins.shapes", laid_cotter_ins_shapes)] }
def InsJoinedSaid : Prop := insJoinedRow.holds Tryd.pinned (OpenSpec.ofChange insJoinedSpec)

/-- ITS FALSE NEIGHBOUR: 'it returns false'. Refute it at one input. -/
def insJoinedWrong : ChangeSpec := { name := "insJoined", fn := fun _ => fun
  | [d1, d2] => { results := [.lit (.bool false)], args := [d1, d2] }
  | _ => none }
def InsJoinedWrongFalsely : Prop := insJoinedRow.holds Tryd.pinned (OpenSpec.ofChange insJoinedWrong)

/-- 'cotterlaw03.InsStarts': WHATEVER THE INPUT: true; the input reads as it did. -/
def insStartsSpec : ChangeSpec := { name := "insStarts", fn := fun _ => fun
  | [d1, d2] => { results := [.lit (.bool true)], args := [d1, d2] }
  | _ => none }
def insStartsRow : OpenClaim := { program := "ythmheblilgegcaadoor", sum := "f88c0fb336dd783f2e7d5772ebaae36116d985271f62462336e31ad22a31e6e4", func := "cotter/cotterlaw03.InsStarts", spec := "insStarts", named := ["cotter/ins.shapes"], apart := false, laid := [("cotter/ins.shapes", laid_cotter_ins_shapes)] }
def InsStartsSaid : Prop := insStartsRow.holds Tryd.pinned (OpenSpec.ofChange insStartsSpec)

/-- ITS FALSE NEIGHBOUR: 'it returns false'. Refute it at one input. -/
def insStartsWrong : ChangeSpec := { name := "insStarts", fn := fun _ => fun
  | [d1, d2] => { results := [.lit (.bool false)], args := [d1, d2] }
  | _ => none }
def InsStartsWrongFalsely : Prop := insStartsRow.holds Tryd.pinned (OpenSpec.ofChange insStartsWrong)

/- THE SECOND FORM. 'bulk': how many values and letters a reading holds, each counted each time it is reached (what is shared counts as often as it is met; a slice's spare places count too). A statement '..UptoSaid' is the law's where the arguments, and the package variables that the reading takes, are together of bulk at most 1048576: NARROWER than '..Said'. Prove '..Said' where nothing that the law and all that it calls make is longer than what came in: it says more and counts as full. Else prove '..UptoSaid'. A law counts once. -/
mutual
def uptoBulk {H : Type} : DataW H → Nat
  | .lit (.string bytes) => bytes.length + 1
  | .lit _ => 1
  | .nil => 1
  | .ptr d => uptoBulk d + 1
  | .slice elems spare => uptoBulkAll elems + uptoBulkAll spare + 1
  | .agg parts => uptoBulkAll parts + 1
  | .iface _ d => uptoBulk d + 1
  | .map entries => uptoBulkEntries entries + 1
  | .held _ => 1
def uptoBulkAll {H : Type} : List (DataW H) → Nat
  | [] => 0
  | d :: r => uptoBulk d + uptoBulkAll r
def uptoBulkEntries {H : Type} : List (Lit × DataW H) → Nat
  | [] => 0
  | x :: r => uptoBulkEntry x + uptoBulkEntries r
def uptoBulkEntry {H : Type} : Lit × DataW H → Nat
  | (.string bytes, d) => bytes.length + uptoBulk d + 1
  | (_, d) => uptoBulk d + 1
 end
def uptoSmall : (H : Type) → List (DataW H) → Bool := fun _ ds => decide (uptoBulkAll ds ≤ 1048576)
def OpenSpec.upto (s : _root_.Go.ChangeSpec) : _root_.Go.OpenSpec := { _root_.Go.OpenSpec.ofChange s with cond := some uptoSmall }

/-- 'cotterlaw03.InsEncodes', WHERE WHAT IT READS IS OF BULK AT MOST 1048576: true; the input reads as it did. -/
def insEncodesUptoRow : OpenClaim := { program := "ythmheblilgegcaadoor", sum := "f88c0fb336dd783f2e7d5772ebaae36116d985271f62462336e31ad22a31e6e4", func := "cotter/cotterlaw03.InsEncodes", spec := "insEncodes", named := ["cotter/ins.shapes"], apart := false, laid := [("cotter/ins.shapes", laid_cotter_ins_shapes)], narrowed := true }
def InsEncodesUptoSaid : Prop := insEncodesUptoRow.holds Tryd.pinned (OpenSpec.upto insEncodesSpec)

/-- 'cotterlaw03.InsApart', WHERE WHAT IT READS IS OF BULK AT MOST 1048576: true; the input reads as it did. -/
def insApartUptoRow : OpenClaim := { program := "ythmheblilgegcaadoor", sum := "f88c0fb336dd783f2e7d5772ebaae36116d985271f62462336e31ad22a31e6e4", func := "cotter/cotterlaw03.InsApart", spec := "insApart", named := ["cotter/ins.shapes"], apart := false, laid := [("cotter/ins.shapes", laid_cotter_ins_shapes)], narrowed := true }
def InsApartUptoSaid : Prop := insApartUptoRow.holds Tryd.pinned (OpenSpec.upto insApartSpec)

/-- 'cotterlaw03.InsDecodes', WHERE WHAT IT READS IS OF BULK AT MOST 1048576: true; the input reads as it did. -/
def insDecodesUptoRow : OpenClaim := { program := "ythmheblilgegcaadoor", sum := "f88c0fb336dd783f2e7d5772ebaae36116d985271f62462336e31ad22a31e6e4", func := "cotter/cotterlaw03.InsDecodes", spec := "insDecodes", named := ["cotter/ins.shapes"], apart := false, laid := [("cotter/ins.shapes", laid_cotter_ins_shapes)], narrowed := true }
def InsDecodesUptoSaid : Prop := insDecodesUptoRow.holds Tryd.pinned (OpenSpec.upto insDecodesSpec)

/-- 'cotterlaw03.InsBack', WHERE WHAT IT READS IS OF BULK AT MOST 1048576: true; the input reads as it did. -/
def insBackUptoRow : OpenClaim := { program := "ythmheblilgegcaadoor", sum := "f88c0fb336dd783f2e7d5772ebaae36116d985271f62462336e31ad22a31e6e4", func := "cotter/cotterlaw03.InsBack", spec := "insBack", named := ["cotter/ins.shapes"], apart := false, laid := [("cotter/ins.shapes", laid_cotter_ins_shapes)], narrowed := true }
def InsBackUptoSaid : Prop := insBackUptoRow.holds Tryd.pinned (OpenSpec.upto insBackSpec)

/-- 'cotterlaw03.InsJoined', WHERE WHAT IT READS IS OF BULK AT MOST 1048576: true; the input reads as it did. -/
def insJoinedUptoRow : OpenClaim := { program := "ythmheblilgegcaadoor", sum := "f88c0fb336dd783f2e7d5772ebaae36116d985271f62462336e31ad22a31e6e4", func := "cotter/cotterlaw03.InsJoined", spec := "insJoined", named := ["cotter/ins.shapes"], apart := false, laid := [("cotter/ins.shapes", laid_cotter_ins_shapes)], narrowed := true }
def InsJoinedUptoSaid : Prop := insJoinedUptoRow.holds Tryd.pinned (OpenSpec.upto insJoinedSpec)

/-- 'cotterlaw03.InsStarts', WHERE WHAT IT READS IS OF BULK AT MOST 1048576: true; the input reads as it did. -/
def insStartsUptoRow : OpenClaim := { program := "ythmheblilgegcaadoor", sum := "f88c0fb336dd783f2e7d5772ebaae36116d985271f62462336e31ad22a31e6e4", func := "cotter/cotterlaw03.InsStarts", spec := "insStarts", named := ["cotter/ins.shapes"], apart := false, laid := [("cotter/ins.shapes", laid_cotter_ins_shapes)], narrowed := true }
def InsStartsUptoSaid : Prop := insStartsUptoRow.holds Tryd.pinned (OpenSpec.upto insStartsSpec)

end Rows
end Go.Proofs.YthmheblilgegcaaDoor
