/-
  NARROWER THAN 'FOR EVERY INPUT', by the rows' own cells (each row's printed sentence says how): ImageWrites: laid · ImageReads: laid · ImageBack: laid · ImageRuns: laid.
  DERIVED. THE GIVEN ROWS OF THIS SEAT. 4 by the template 'for every input the law returns true; each argument reads behind the call as it read before'; 0 by the template 'total and deterministic' (their statements: YtimhcpmfhebbhaaDoorTotals.lean).
  GIVEN WITH THE SEED: the statements are not yours to turn. If you find one false, say at which input.
  Laid BY PROGRAM, IN A SANDBOX (cutbox-rows.mjs): the forced cells as the released guide's own fill.sh prints them over the translation c3d5c0cb368b826a… (all of the seat's roots in one cut). By AI agents, Wed Nov 11 2026. No macro, syntax, notation, axiom, sorry.
-/
import Derived.Test.YtimhcpmfhebbhaaDoorChecked
import GoSem.Claim
import GoSem.ClaimJoined
import GoSem.ClaimMapViews
import Derived.JoinedTies
import Derived.KernelRfl
namespace Go.Proofs.YtimhcpmfhebbhaaDoor
/- THE CELL 'sum', in the pinned program and in every row, IS THE sha256 OF THE DUMP (.gsa) THAT YtimhcpmfhebbhaaDoorProg.lean LOADS. Nothing in Lean hashes anything: it is a label: what it is worth is what the hold of that sum in a sandbox is worth. -/
noncomputable def Tryd.pinned : Pinned := { name := "ytimhcpmfhebbhaadoor", sum := "c3d5c0cb368b826aba87bd33d2ea2150a4cc32e4a91d9f1b6a36272bbb23de82", checked := Tryd.checked }
namespace Rows
def none {H : Type} : Left H := { results := [], args := [] }

/- WHAT THE LISTED PACKAGE-LEVEL VARIABLES READ AS WHEN THE CALL BEGINS. Each datum BY PROGRAM (the guide's laid-datum.mjs) off the statement by which the dump's own 'gosem.cut.vars' lays the variable. In a bare row this is a premise. The card (YtimhcpmfhebbhaaDoorCards.lean) ties it to the program's text. -/
def laid_cotter_ins_shapes {H : Type} : DataW H := .agg [.lit (.int .u8 0), .lit (.int .u8 1), .lit (.int .u8 2), .lit (.int .u8 2), .lit (.int .u8 2), .lit (.int .u8 2), .lit (.int .u8 2), .lit (.int .u8 2), .lit (.int .u8 2), .lit (.int .u8 2), .lit (.int .u8 2), .lit (.int .u8 2), .lit (.int .u8 2), .lit (.int .u8 2), .lit (.int .u8 2), .lit (.int .u8 2), .lit (.int .u8 2), .lit (.int .u8 3), .lit (.int .u8 3), .lit (.int .u8 4), .lit (.int .u8 5), .lit (.int .u8 4), .lit (.int .u8 4), .lit (.int .u8 5), .lit (.int .u8 6), .lit (.int .u8 7), .lit (.int .u8 8), .lit (.int .u8 8), .lit (.int .u8 3), .lit (.int .u8 3), .lit (.int .u8 6), .lit (.int .u8 9), .lit (.int .u8 6), .lit (.int .u8 10)]

/-- 'cotterlaw08.ImageWrites': WHATEVER THE INPUT: true; the input reads as it did. -/
def imageWritesSpec : ChangeSpec := { name := "imageWrites", fn := fun _ => fun
  | [d] => { results := [.lit (.bool true)], args := [d] }
  | _ => none }
def imageWritesRow : OpenClaim := { program := "ytimhcpmfhebbhaadoor", sum := "c3d5c0cb368b826aba87bd33d2ea2150a4cc32e4a91d9f1b6a36272bbb23de82", func := "cotter/cotterlaw08.ImageWrites", spec := "imageWrites", unfollowed := true, recurses := true, named := ["cotter/ins.shapes"], apart := false, laid := [("cotter/ins.shapes", laid_cotter_ins_shapes)] }
def ImageWritesSaid : Prop := imageWritesRow.holds Tryd.pinned (OpenSpec.ofChange imageWritesSpec)

/-- ITS FALSE NEIGHBOUR: 'it returns false'. Refute it at one input. -/
def imageWritesWrong : ChangeSpec := { name := "imageWrites", fn := fun _ => fun
  | [d] => { results := [.lit (.bool false)], args := [d] }
  | _ => none }
def ImageWritesWrongFalsely : Prop := imageWritesRow.holds Tryd.pinned (OpenSpec.ofChange imageWritesWrong)

/-- 'cotterlaw08.ImageReads': WHATEVER THE INPUT: true; the input reads as it did. -/
def imageReadsSpec : ChangeSpec := { name := "imageReads", fn := fun _ => fun
  | [d] => { results := [.lit (.bool true)], args := [d] }
  | _ => none }
def imageReadsRow : OpenClaim := { program := "ytimhcpmfhebbhaadoor", sum := "c3d5c0cb368b826aba87bd33d2ea2150a4cc32e4a91d9f1b6a36272bbb23de82", func := "cotter/cotterlaw08.ImageReads", spec := "imageReads", unfollowed := true, recurses := true, named := ["cotter/ins.shapes"], apart := false, laid := [("cotter/ins.shapes", laid_cotter_ins_shapes)] }
def ImageReadsSaid : Prop := imageReadsRow.holds Tryd.pinned (OpenSpec.ofChange imageReadsSpec)

/-- ITS FALSE NEIGHBOUR: 'it returns false'. Refute it at one input. -/
def imageReadsWrong : ChangeSpec := { name := "imageReads", fn := fun _ => fun
  | [d] => { results := [.lit (.bool false)], args := [d] }
  | _ => none }
def ImageReadsWrongFalsely : Prop := imageReadsRow.holds Tryd.pinned (OpenSpec.ofChange imageReadsWrong)

/-- 'cotterlaw08.ImageBack': WHATEVER THE INPUT: true; the input reads as it did. -/
def imageBackSpec : ChangeSpec := { name := "imageBack", fn := fun _ => fun
  | [d1, d2] => { results := [.lit (.bool true)], args := [d1, d2] }
  | _ => none }
def imageBackRow : OpenClaim := { program := "ytimhcpmfhebbhaadoor", sum := "c3d5c0cb368b826aba87bd33d2ea2150a4cc32e4a91d9f1b6a36272bbb23de82", func := "cotter/cotterlaw08.ImageBack", spec := "imageBack", unfollowed := true, recurses := true, named := ["cotter/ins.shapes"], apart := false, laid := [("cotter/ins.shapes", laid_cotter_ins_shapes)] }
def ImageBackSaid : Prop := imageBackRow.holds Tryd.pinned (OpenSpec.ofChange imageBackSpec)

/-- ITS FALSE NEIGHBOUR: 'it returns false'. Refute it at one input. -/
def imageBackWrong : ChangeSpec := { name := "imageBack", fn := fun _ => fun
  | [d1, d2] => { results := [.lit (.bool false)], args := [d1, d2] }
  | _ => none }
def ImageBackWrongFalsely : Prop := imageBackRow.holds Tryd.pinned (OpenSpec.ofChange imageBackWrong)

/-- 'cotterlaw08.ImageRuns': WHATEVER THE INPUT: true; the input reads as it did. -/
def imageRunsSpec : ChangeSpec := { name := "imageRuns", fn := fun _ => fun
  | [d1, d2] => { results := [.lit (.bool true)], args := [d1, d2] }
  | _ => none }
def imageRunsRow : OpenClaim := { program := "ytimhcpmfhebbhaadoor", sum := "c3d5c0cb368b826aba87bd33d2ea2150a4cc32e4a91d9f1b6a36272bbb23de82", func := "cotter/cotterlaw08.ImageRuns", spec := "imageRuns", unfollowed := true, recurses := true, named := ["cotter/ins.shapes"], apart := false, laid := [("cotter/ins.shapes", laid_cotter_ins_shapes)] }
def ImageRunsSaid : Prop := imageRunsRow.holds Tryd.pinned (OpenSpec.ofChange imageRunsSpec)

/-- ITS FALSE NEIGHBOUR: 'it returns false'. Refute it at one input. -/
def imageRunsWrong : ChangeSpec := { name := "imageRuns", fn := fun _ => fun
  | [d1, d2] => { results := [.lit (.bool false)], args := [d1, d2] }
  | _ => none }
def ImageRunsWrongFalsely : Prop := imageRunsRow.holds Tryd.pinned (OpenSpec.ofChange imageRunsWrong)

/- THE SECOND FORM. 'bulk': how many values and letters a reading holds, each counted each time it is reached (what is shared counts as often as it is met; a slice's spare places count too). A statement '..UptoSaid' is the law's where the arguments, and the package variables that the reading takes, are together of bulk at most 1048576: NARROWER than '..Said'. Prove '..Said' where nothing that the law and all that it calls make is longer than what came in: it says more and counts as full. Else prove '..UptoSaid'. A law counts once. -/
mutual
def uptoBulk {H : Type} : DataW H → Nat
  | .lit (.string bytes) => bytes.length + 1
  | .lit _ => 1
  | .nil => 1
  | .ptr d => uptoBulk d + 1
  | .slice elems spare => uptoBulkAll elems + uptoBulkAll spare + 1
  | .agg parts => uptoBulkAll parts + 1
  | .iface _ d => uptoBulk d + 1
  | .map entries => uptoBulkEntries entries + 1
  | .held _ => 1
def uptoBulkAll {H : Type} : List (DataW H) → Nat
  | [] => 0
  | d :: r => uptoBulk d + uptoBulkAll r
def uptoBulkEntries {H : Type} : List (Lit × DataW H) → Nat
  | [] => 0
  | x :: r => uptoBulkEntry x + uptoBulkEntries r
def uptoBulkEntry {H : Type} : Lit × DataW H → Nat
  | (.string bytes, d) => bytes.length + uptoBulk d + 1
  | (_, d) => uptoBulk d + 1
 end
def uptoSmall : (H : Type) → List (DataW H) → Bool := fun _ ds => decide (uptoBulkAll ds ≤ 1048576)
def OpenSpec.upto (s : _root_.Go.ChangeSpec) : _root_.Go.OpenSpec := { _root_.Go.OpenSpec.ofChange s with cond := some uptoSmall }

/-- 'cotterlaw08.ImageWrites', WHERE WHAT IT READS IS OF BULK AT MOST 1048576: true; the input reads as it did. -/
def imageWritesUptoRow : OpenClaim := { program := "ytimhcpmfhebbhaadoor", sum := "c3d5c0cb368b826aba87bd33d2ea2150a4cc32e4a91d9f1b6a36272bbb23de82", func := "cotter/cotterlaw08.ImageWrites", spec := "imageWrites", unfollowed := true, recurses := true, named := ["cotter/ins.shapes"], apart := false, laid := [("cotter/ins.shapes", laid_cotter_ins_shapes)], narrowed := true }
def ImageWritesUptoSaid : Prop := imageWritesUptoRow.holds Tryd.pinned (OpenSpec.upto imageWritesSpec)

/-- 'cotterlaw08.ImageReads', WHERE WHAT IT READS IS OF BULK AT MOST 1048576: true; the input reads as it did. -/
def imageReadsUptoRow : OpenClaim := { program := "ytimhcpmfhebbhaadoor", sum := "c3d5c0cb368b826aba87bd33d2ea2150a4cc32e4a91d9f1b6a36272bbb23de82", func := "cotter/cotterlaw08.ImageReads", spec := "imageReads", unfollowed := true, recurses := true, named := ["cotter/ins.shapes"], apart := false, laid := [("cotter/ins.shapes", laid_cotter_ins_shapes)], narrowed := true }
def ImageReadsUptoSaid : Prop := imageReadsUptoRow.holds Tryd.pinned (OpenSpec.upto imageReadsSpec)

/-- 'cotterlaw08.ImageBack', WHERE WHAT IT READS IS OF BULK AT MOST 1048576: true; the input reads as it did. -/
def imageBackUptoRow : OpenClaim := { program := "ytimhcpmfhebbhaadoor", sum := "c3d5c0cb368b826aba87bd33d2ea2150a4cc32e4a91d9f1b6a36272bbb23de82", func := "cotter/cotterlaw08.ImageBack", spec := "imageBack", unfollowed := true, recurses := true, named := ["cotter/ins.shapes"], apart := false, laid := [("cotter/ins.shapes", laid_cotter_ins_shapes)], narrowed := true }
def ImageBackUptoSaid : Prop := imageBackUptoRow.holds Tryd.pinned (OpenSpec.upto imageBackSpec)

/-- 'cotterlaw08.ImageRuns', WHERE WHAT IT READS IS OF BULK AT MOST 1048576: true; the input reads as it did. -/
def imageRunsUptoRow : OpenClaim := { program := "ytimhcpmfhebbhaadoor", sum := "c3d5c0cb368b826aba87bd33d2ea2150a4cc32e4a91d9f1b6a36272bbb23de82", func := "cotter/cotterlaw08.ImageRuns", spec := "imageRuns", unfollowed := true, recurses := true, named := ["cotter/ins.shapes"], apart := false, laid := [("cotter/ins.shapes", laid_cotter_ins_shapes)], narrowed := true }
def ImageRunsUptoSaid : Prop := imageRunsUptoRow.holds Tryd.pinned (OpenSpec.upto imageRunsSpec)

end Rows
end Go.Proofs.YtimhcpmfhebbhaaDoor
