/-
  NARROWER THAN 'FOR EVERY INPUT', by the rows' own cells (each row's printed sentence says how): StepStarts: laid · StepFinishes: laid · StepTurns: laid · StepShifted: laid · StepNear: laid · StepPlain: laid.
  DERIVED. THE GIVEN ROWS OF THIS SEAT. 6 by the template 'for every input the law returns true; each argument reads behind the call as it read before'; 0 by the template 'total and deterministic' (their statements: YtjlfjkpbooholaaDoorTotals.lean).
  GIVEN WITH THE SEED: the statements are not yours to turn. If you find one false, say at which input.
  Laid BY PROGRAM, IN A SANDBOX (cutbox-rows.mjs): the forced cells as the released guide's own fill.sh prints them over the translation 51d1d1fd9c1e952f… (all of the seat's roots in one cut). By AI agents, Wed Nov 11 2026. No macro, syntax, notation, axiom, sorry.
-/
import Derived.Test.YtjlfjkpbooholaaDoorChecked
import GoSem.Claim
import GoSem.ClaimJoined
import GoSem.ClaimMapViews
import Derived.JoinedTies
import Derived.KernelRfl
namespace Go.Proofs.YtjlfjkpbooholaaDoor
/- THE CELL 'sum', in the pinned program and in every row, IS THE sha256 OF THE DUMP (.gsa) THAT YtjlfjkpbooholaaDoorProg.lean LOADS. Nothing in Lean hashes anything: it is a label: what it is worth is what the hold of that sum in a sandbox is worth. -/
noncomputable def Tryd.pinned : Pinned := { name := "ytjlfjkpbooholaadoor", sum := "51d1d1fd9c1e952f45976b16dc24a7d722d6a5d2767a3a8714e8905581cd7278", checked := Tryd.checked }
namespace Rows
def none {H : Type} : Left H := { results := [], args := [] }

/- WHAT THE LISTED PACKAGE-LEVEL VARIABLES READ AS WHEN THE CALL BEGINS. Each datum BY PROGRAM (the guide's laid-datum.mjs) off the statement by which the dump's own 'gosem.cut.vars' lays the variable. In a bare row this is a premise. The card (YtjlfjkpbooholaaDoorCards.lean) ties it to the program's text. -/
def laid_cotter_ins_shapes {H : Type} : DataW H := .agg [.lit (.int .u8 0), .lit (.int .u8 1), .lit (.int .u8 2), .lit (.int .u8 2), .lit (.int .u8 2), .lit (.int .u8 2), .lit (.int .u8 2), .lit (.int .u8 2), .lit (.int .u8 2), .lit (.int .u8 2), .lit (.int .u8 2), .lit (.int .u8 2), .lit (.int .u8 2), .lit (.int .u8 2), .lit (.int .u8 2), .lit (.int .u8 2), .lit (.int .u8 2), .lit (.int .u8 3), .lit (.int .u8 3), .lit (.int .u8 4), .lit (.int .u8 5), .lit (.int .u8 4), .lit (.int .u8 4), .lit (.int .u8 5), .lit (.int .u8 6), .lit (.int .u8 7), .lit (.int .u8 8), .lit (.int .u8 8), .lit (.int .u8 3), .lit (.int .u8 3), .lit (.int .u8 6), .lit (.int .u8 9), .lit (.int .u8 6), .lit (.int .u8 10)]

/-- 'cotterlaw04.StepStarts': WHATEVER THE INPUT: true; the input reads as it did. -/
def stepStartsSpec : ChangeSpec := { name := "stepStarts", fn := fun _ => fun
  | [d1, d2, d3] => { results := [.lit (.bool true)], args := [d1, d2, d3] }
  | _ => none }
def stepStartsRow : OpenClaim := { program := "ytjlfjkpbooholaadoor", sum := "51d1d1fd9c1e952f45976b16dc24a7d722d6a5d2767a3a8714e8905581cd7278", func := "cotter/cotterlaw04.StepStarts", spec := "stepStarts", unfollowed := true, recurses := true, named := ["cotter/ins.shapes"], apart := false, laid := [("cotter/ins.shapes", laid_cotter_ins_shapes)] }
def StepStartsSaid : Prop := stepStartsRow.holds Tryd.pinned (OpenSpec.ofChange stepStartsSpec)

/-- ITS FALSE NEIGHBOUR: 'it returns false'. Refute it at one input. -/
def stepStartsWrong : ChangeSpec := { name := "stepStarts", fn := fun _ => fun
  | [d1, d2, d3] => { results := [.lit (.bool false)], args := [d1, d2, d3] }
  | _ => none }
def StepStartsWrongFalsely : Prop := stepStartsRow.holds Tryd.pinned (OpenSpec.ofChange stepStartsWrong)

/-- 'cotterlaw04.StepFinishes': WHATEVER THE INPUT: true; the input reads as it did. -/
def stepFinishesSpec : ChangeSpec := { name := "stepFinishes", fn := fun _ => fun
  | [d1, d2, d3] => { results := [.lit (.bool true)], args := [d1, d2, d3] }
  | _ => none }
def stepFinishesRow : OpenClaim := { program := "ytjlfjkpbooholaadoor", sum := "51d1d1fd9c1e952f45976b16dc24a7d722d6a5d2767a3a8714e8905581cd7278", func := "cotter/cotterlaw04.StepFinishes", spec := "stepFinishes", unfollowed := true, recurses := true, named := ["cotter/ins.shapes"], apart := false, laid := [("cotter/ins.shapes", laid_cotter_ins_shapes)] }
def StepFinishesSaid : Prop := stepFinishesRow.holds Tryd.pinned (OpenSpec.ofChange stepFinishesSpec)

/-- ITS FALSE NEIGHBOUR: 'it returns false'. Refute it at one input. -/
def stepFinishesWrong : ChangeSpec := { name := "stepFinishes", fn := fun _ => fun
  | [d1, d2, d3] => { results := [.lit (.bool false)], args := [d1, d2, d3] }
  | _ => none }
def StepFinishesWrongFalsely : Prop := stepFinishesRow.holds Tryd.pinned (OpenSpec.ofChange stepFinishesWrong)

/-- 'cotterlaw04.StepTurns': WHATEVER THE INPUT: true; the input reads as it did. -/
def stepTurnsSpec : ChangeSpec := { name := "stepTurns", fn := fun _ => fun
  | [d1, d2, d3] => { results := [.lit (.bool true)], args := [d1, d2, d3] }
  | _ => none }
def stepTurnsRow : OpenClaim := { program := "ytjlfjkpbooholaadoor", sum := "51d1d1fd9c1e952f45976b16dc24a7d722d6a5d2767a3a8714e8905581cd7278", func := "cotter/cotterlaw04.StepTurns", spec := "stepTurns", unfollowed := true, recurses := true, named := ["cotter/ins.shapes"], apart := false, laid := [("cotter/ins.shapes", laid_cotter_ins_shapes)] }
def StepTurnsSaid : Prop := stepTurnsRow.holds Tryd.pinned (OpenSpec.ofChange stepTurnsSpec)

/-- ITS FALSE NEIGHBOUR: 'it returns false'. Refute it at one input. -/
def stepTurnsWrong : ChangeSpec := { name := "stepTurns", fn := fun _ => fun
  | [d1, d2, d3] => { results := [.lit (.bool false)], args := [d1, d2, d3] }
  | _ => none }
def StepTurnsWrongFalsely : Prop := stepTurnsRow.holds Tryd.pinned (OpenSpec.ofChange stepTurnsWrong)

/-- 'cotterlaw04.StepShifted': WHATEVER THE INPUT: true; the input reads as it did. -/
def stepShiftedSpec : ChangeSpec := { name := "stepShifted", fn := fun _ => fun
  | [d] => { results := [.lit (.bool true)], args := [d] }
  | _ => none }
def stepShiftedRow : OpenClaim := { program := "ytjlfjkpbooholaadoor", sum := "51d1d1fd9c1e952f45976b16dc24a7d722d6a5d2767a3a8714e8905581cd7278", func := "cotter/cotterlaw04.StepShifted", spec := "stepShifted", unfollowed := true, recurses := true, named := ["cotter/ins.shapes"], apart := false, laid := [("cotter/ins.shapes", laid_cotter_ins_shapes)] }
def StepShiftedSaid : Prop := stepShiftedRow.holds Tryd.pinned (OpenSpec.ofChange stepShiftedSpec)

/-- ITS FALSE NEIGHBOUR: 'it returns false'. Refute it at one input. -/
def stepShiftedWrong : ChangeSpec := { name := "stepShifted", fn := fun _ => fun
  | [d] => { results := [.lit (.bool false)], args := [d] }
  | _ => none }
def StepShiftedWrongFalsely : Prop := stepShiftedRow.holds Tryd.pinned (OpenSpec.ofChange stepShiftedWrong)

/-- 'cotterlaw04.StepNear': WHATEVER THE INPUT: true; the input reads as it did. -/
def stepNearSpec : ChangeSpec := { name := "stepNear", fn := fun _ => fun
  | [d] => { results := [.lit (.bool true)], args := [d] }
  | _ => none }
def stepNearRow : OpenClaim := { program := "ytjlfjkpbooholaadoor", sum := "51d1d1fd9c1e952f45976b16dc24a7d722d6a5d2767a3a8714e8905581cd7278", func := "cotter/cotterlaw04.StepNear", spec := "stepNear", unfollowed := true, recurses := true, named := ["cotter/ins.shapes"], apart := false, laid := [("cotter/ins.shapes", laid_cotter_ins_shapes)] }
def StepNearSaid : Prop := stepNearRow.holds Tryd.pinned (OpenSpec.ofChange stepNearSpec)

/-- ITS FALSE NEIGHBOUR: 'it returns false'. Refute it at one input. -/
def stepNearWrong : ChangeSpec := { name := "stepNear", fn := fun _ => fun
  | [d] => { results := [.lit (.bool false)], args := [d] }
  | _ => none }
def StepNearWrongFalsely : Prop := stepNearRow.holds Tryd.pinned (OpenSpec.ofChange stepNearWrong)

/-- 'cotterlaw04.StepPlain': WHATEVER THE INPUT: true; the input reads as it did. -/
def stepPlainSpec : ChangeSpec := { name := "stepPlain", fn := fun _ => fun
  | [d1, d2, d3] => { results := [.lit (.bool true)], args := [d1, d2, d3] }
  | _ => none }
def stepPlainRow : OpenClaim := { program := "ytjlfjkpbooholaadoor", sum := "51d1d1fd9c1e952f45976b16dc24a7d722d6a5d2767a3a8714e8905581cd7278", func := "cotter/cotterlaw04.StepPlain", spec := "stepPlain", unfollowed := true, recurses := true, named := ["cotter/ins.shapes"], apart := false, laid := [("cotter/ins.shapes", laid_cotter_ins_shapes)] }
def StepPlainSaid : Prop := stepPlainRow.holds Tryd.pinned (OpenSpec.ofChange stepPlainSpec)

/-- ITS FALSE NEIGHBOUR: 'it returns false'. Refute it at one input. -/
def stepPlainWrong : ChangeSpec := { name := "stepPlain", fn := fun _ => fun
  | [d1, d2, d3] => { results := [.lit (.bool false)], args := [d1, d2, d3] }
  | _ => none }
def StepPlainWrongFalsely : Prop := stepPlainRow.holds Tryd.pinned (OpenSpec.ofChange stepPlainWrong)

/- THE SECOND FORM. 'bulk': how many values and letters a reading holds, each counted each time it is reached (what is shared counts as often as it is met; a slice's spare places count too). A statement '..UptoSaid' is the law's where the arguments, and the package variables that the reading takes, are together of bulk at most 1048576: NARROWER than '..Said'. Prove '..Said' where nothing that the law and all that it calls make is longer than what came in: it says more and counts as full. Else prove '..UptoSaid'. A law counts once. -/
mutual
def uptoBulk {H : Type} : DataW H → Nat
  | .lit (.string bytes) => bytes.length + 1
  | .lit _ => 1
  | .nil => 1
  | .ptr d => uptoBulk d + 1
  | .slice elems spare => uptoBulkAll elems + uptoBulkAll spare + 1
  | .agg parts => uptoBulkAll parts + 1
  | .iface _ d => uptoBulk d + 1
  | .map entries => uptoBulkEntries entries + 1
  | .held _ => 1
def uptoBulkAll {H : Type} : List (DataW H) → Nat
  | [] => 0
  | d :: r => uptoBulk d + uptoBulkAll r
def uptoBulkEntries {H : Type} : List (Lit × DataW H) → Nat
  | [] => 0
  | x :: r => uptoBulkEntry x + uptoBulkEntries r
def uptoBulkEntry {H : Type} : Lit × DataW H → Nat
  | (.string bytes, d) => bytes.length + uptoBulk d + 1
  | (_, d) => uptoBulk d + 1
 end
def uptoSmall : (H : Type) → List (DataW H) → Bool := fun _ ds => decide (uptoBulkAll ds ≤ 1048576)
def OpenSpec.upto (s : _root_.Go.ChangeSpec) : _root_.Go.OpenSpec := { _root_.Go.OpenSpec.ofChange s with cond := some uptoSmall }

/-- 'cotterlaw04.StepStarts', WHERE WHAT IT READS IS OF BULK AT MOST 1048576: true; the input reads as it did. -/
def stepStartsUptoRow : OpenClaim := { program := "ytjlfjkpbooholaadoor", sum := "51d1d1fd9c1e952f45976b16dc24a7d722d6a5d2767a3a8714e8905581cd7278", func := "cotter/cotterlaw04.StepStarts", spec := "stepStarts", unfollowed := true, recurses := true, named := ["cotter/ins.shapes"], apart := false, laid := [("cotter/ins.shapes", laid_cotter_ins_shapes)], narrowed := true }
def StepStartsUptoSaid : Prop := stepStartsUptoRow.holds Tryd.pinned (OpenSpec.upto stepStartsSpec)

/-- 'cotterlaw04.StepFinishes', WHERE WHAT IT READS IS OF BULK AT MOST 1048576: true; the input reads as it did. -/
def stepFinishesUptoRow : OpenClaim := { program := "ytjlfjkpbooholaadoor", sum := "51d1d1fd9c1e952f45976b16dc24a7d722d6a5d2767a3a8714e8905581cd7278", func := "cotter/cotterlaw04.StepFinishes", spec := "stepFinishes", unfollowed := true, recurses := true, named := ["cotter/ins.shapes"], apart := false, laid := [("cotter/ins.shapes", laid_cotter_ins_shapes)], narrowed := true }
def StepFinishesUptoSaid : Prop := stepFinishesUptoRow.holds Tryd.pinned (OpenSpec.upto stepFinishesSpec)

/-- 'cotterlaw04.StepTurns', WHERE WHAT IT READS IS OF BULK AT MOST 1048576: true; the input reads as it did. -/
def stepTurnsUptoRow : OpenClaim := { program := "ytjlfjkpbooholaadoor", sum := "51d1d1fd9c1e952f45976b16dc24a7d722d6a5d2767a3a8714e8905581cd7278", func := "cotter/cotterlaw04.StepTurns", spec := "stepTurns", unfollowed := true, recurses := true, named := ["cotter/ins.shapes"], apart := false, laid := [("cotter/ins.shapes", laid_cotter_ins_shapes)], narrowed := true }
def StepTurnsUptoSaid : Prop := stepTurnsUptoRow.holds Tryd.pinned (OpenSpec.upto stepTurnsSpec)

/-- 'cotterlaw04.StepShifted', WHERE WHAT IT READS IS OF BULK AT MOST 1048576: true; the input reads as it did. -/
def stepShiftedUptoRow : OpenClaim := { program := "ytjlfjkpbooholaadoor", sum := "51d1d1fd9c1e952f45976b16dc24a7d722d6a5d2767a3a8714e8905581cd7278", func := "cotter/cotterlaw04.StepShifted", spec := "stepShifted", unfollowed := true, recurses := true, named := ["cotter/ins.shapes"], apart := false, laid := [("cotter/ins.shapes", laid_cotter_ins_shapes)], narrowed := true }
def StepShiftedUptoSaid : Prop := stepShiftedUptoRow.holds Tryd.pinned (OpenSpec.upto stepShiftedSpec)

/-- 'cotterlaw04.StepNear', WHERE WHAT IT READS IS OF BULK AT MOST 1048576: true; the input reads as it did. -/
def stepNearUptoRow : OpenClaim := { program := "ytjlfjkpbooholaadoor", sum := "51d1d1fd9c1e952f45976b16dc24a7d722d6a5d2767a3a8714e8905581cd7278", func := "cotter/cotterlaw04.StepNear", spec := "stepNear", unfollowed := true, recurses := true, named := ["cotter/ins.shapes"], apart := false, laid := [("cotter/ins.shapes", laid_cotter_ins_shapes)], narrowed := true }
def StepNearUptoSaid : Prop := stepNearUptoRow.holds Tryd.pinned (OpenSpec.upto stepNearSpec)

/-- 'cotterlaw04.StepPlain', WHERE WHAT IT READS IS OF BULK AT MOST 1048576: true; the input reads as it did. -/
def stepPlainUptoRow : OpenClaim := { program := "ytjlfjkpbooholaadoor", sum := "51d1d1fd9c1e952f45976b16dc24a7d722d6a5d2767a3a8714e8905581cd7278", func := "cotter/cotterlaw04.StepPlain", spec := "stepPlain", unfollowed := true, recurses := true, named := ["cotter/ins.shapes"], apart := false, laid := [("cotter/ins.shapes", laid_cotter_ins_shapes)], narrowed := true }
def StepPlainUptoSaid : Prop := stepPlainUptoRow.holds Tryd.pinned (OpenSpec.upto stepPlainSpec)

end Rows
end Go.Proofs.YtjlfjkpbooholaaDoor
