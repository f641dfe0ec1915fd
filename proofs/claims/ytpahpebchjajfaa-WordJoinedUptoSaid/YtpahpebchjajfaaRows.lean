/-
  No cell of these rows narrows 'for every input' (looked for: loops, veiled, ifaces, maps, wideKeys, modest, calm, conditions, laid).
  DERIVED. THE GIVEN ROWS OF THIS SEAT. 9 by the template 'for every input the law returns true; each argument reads behind the call as it read before'; 0 by the template 'total and deterministic' (their statements: YtpahpebchjajfaaTotals.lean).
  GIVEN WITH THE SEED: the statements are not yours to turn. If you find one false, say at which input.
  Laid BY PROGRAM, IN A SANDBOX (cutbox-rows.mjs): the forced cells as the released guide's own fill.sh prints them over the translation c7d679534b308a42… (all of the seat's roots in one cut). By AI agents, Wed Nov 11 2026. No macro, syntax, notation, axiom, sorry.
-/
import Derived.Test.YtpahpebchjajfaaChecked
import GoSem.Claim
import GoSem.ClaimJoined
import GoSem.ClaimMapViews
import Derived.JoinedTies
import Derived.KernelRfl
namespace Go.Proofs.Ytpahpebchjajfaa
/- THE CELL 'sum', in the pinned program and in every row, IS THE sha256 OF THE DUMP (.gsa) THAT YtpahpebchjajfaaProg.lean LOADS. Nothing in Lean hashes anything: it is a label: what it is worth is what the hold of that sum in a sandbox is worth. -/
noncomputable def Try.pinned : Pinned := { name := "ytpahpebchjajfaa", sum := "c7d679534b308a422669904d9b5561302550061f52c5ad3f74a5de9b1ec9330c", checked := Try.checked }
namespace Rows
def none {H : Type} : Left H := { results := [], args := [] }

/-- 'cotterlaw01.WordBin': WHATEVER THE INPUT: true; the input reads as it did. -/
def wordBinSpec : ChangeSpec := { name := "wordBin", fn := fun _ => fun
  | [d1, d2, d3] => { results := [.lit (.bool true)], args := [d1, d2, d3] }
  | _ => none }
def wordBinRow : OpenClaim := { program := "ytpahpebchjajfaa", sum := "c7d679534b308a422669904d9b5561302550061f52c5ad3f74a5de9b1ec9330c", func := "cotter/cotterlaw01.WordBin", spec := "wordBin", apart := false }
def WordBinSaid : Prop := wordBinRow.holds Try.pinned (OpenSpec.ofChange wordBinSpec)

/-- ITS FALSE NEIGHBOUR: 'it returns false'. Refute it at one input. -/
def wordBinWrong : ChangeSpec := { name := "wordBin", fn := fun _ => fun
  | [d1, d2, d3] => { results := [.lit (.bool false)], args := [d1, d2, d3] }
  | _ => none }
def WordBinWrongFalsely : Prop := wordBinRow.holds Try.pinned (OpenSpec.ofChange wordBinWrong)

/-- 'cotterlaw01.WordAll': WHATEVER THE INPUT: true; the input reads as it did. -/
def wordAllSpec : ChangeSpec := { name := "wordAll", fn := fun _ => fun
  | [d] => { results := [.lit (.bool true)], args := [d] }
  | _ => none }
def wordAllRow : OpenClaim := { program := "ytpahpebchjajfaa", sum := "c7d679534b308a422669904d9b5561302550061f52c5ad3f74a5de9b1ec9330c", func := "cotter/cotterlaw01.WordAll", spec := "wordAll", apart := false }
def WordAllSaid : Prop := wordAllRow.holds Try.pinned (OpenSpec.ofChange wordAllSpec)

/-- ITS FALSE NEIGHBOUR: 'it returns false'. Refute it at one input. -/
def wordAllWrong : ChangeSpec := { name := "wordAll", fn := fun _ => fun
  | [d] => { results := [.lit (.bool false)], args := [d] }
  | _ => none }
def WordAllWrongFalsely : Prop := wordAllRow.holds Try.pinned (OpenSpec.ofChange wordAllWrong)

/-- 'cotterlaw01.WordJoined': WHATEVER THE INPUT: true; the input reads as it did. -/
def wordJoinedSpec : ChangeSpec := { name := "wordJoined", fn := fun _ => fun
  | [d1, d2] => { results := [.lit (.bool true)], args := [d1, d2] }
  | _ => none }
def wordJoinedRow : OpenClaim := { program := "ytpahpebchjajfaa", sum := "c7d679534b308a422669904d9b5561302550061f52c5ad3f74a5de9b1ec9330c", func := "cotter/cotterlaw01.WordJoined", spec := "wordJoined", apart := false }
def WordJoinedSaid : Prop := wordJoinedRow.holds Try.pinned (OpenSpec.ofChange wordJoinedSpec)

/-- ITS FALSE NEIGHBOUR: 'it returns false'. Refute it at one input. -/
def wordJoinedWrong : ChangeSpec := { name := "wordJoined", fn := fun _ => fun
  | [d1, d2] => { results := [.lit (.bool false)], args := [d1, d2] }
  | _ => none }
def WordJoinedWrongFalsely : Prop := wordJoinedRow.holds Try.pinned (OpenSpec.ofChange wordJoinedWrong)

/-- 'cotterlaw01.WordTurns': WHATEVER THE INPUT: true; the input reads as it did. -/
def wordTurnsSpec : ChangeSpec := { name := "wordTurns", fn := fun _ => fun
  | [d1, d2] => { results := [.lit (.bool true)], args := [d1, d2] }
  | _ => none }
def wordTurnsRow : OpenClaim := { program := "ytpahpebchjajfaa", sum := "c7d679534b308a422669904d9b5561302550061f52c5ad3f74a5de9b1ec9330c", func := "cotter/cotterlaw01.WordTurns", spec := "wordTurns", apart := false }
def WordTurnsSaid : Prop := wordTurnsRow.holds Try.pinned (OpenSpec.ofChange wordTurnsSpec)

/-- ITS FALSE NEIGHBOUR: 'it returns false'. Refute it at one input. -/
def wordTurnsWrong : ChangeSpec := { name := "wordTurns", fn := fun _ => fun
  | [d1, d2] => { results := [.lit (.bool false)], args := [d1, d2] }
  | _ => none }
def WordTurnsWrongFalsely : Prop := wordTurnsRow.holds Try.pinned (OpenSpec.ofChange wordTurnsWrong)

/-- 'cotterlaw01.WordDivides': WHATEVER THE INPUT: true; the input reads as it did. -/
def wordDividesSpec : ChangeSpec := { name := "wordDivides", fn := fun _ => fun
  | [d1, d2] => { results := [.lit (.bool true)], args := [d1, d2] }
  | _ => none }
def wordDividesRow : OpenClaim := { program := "ytpahpebchjajfaa", sum := "c7d679534b308a422669904d9b5561302550061f52c5ad3f74a5de9b1ec9330c", func := "cotter/cotterlaw01.WordDivides", spec := "wordDivides", apart := false }
def WordDividesSaid : Prop := wordDividesRow.holds Try.pinned (OpenSpec.ofChange wordDividesSpec)

/-- ITS FALSE NEIGHBOUR: 'it returns false'. Refute it at one input. -/
def wordDividesWrong : ChangeSpec := { name := "wordDivides", fn := fun _ => fun
  | [d1, d2] => { results := [.lit (.bool false)], args := [d1, d2] }
  | _ => none }
def WordDividesWrongFalsely : Prop := wordDividesRow.holds Try.pinned (OpenSpec.ofChange wordDividesWrong)

/-- 'cotterlaw01.WordShifts': WHATEVER THE INPUT: true; the input reads as it did. -/
def wordShiftsSpec : ChangeSpec := { name := "wordShifts", fn := fun _ => fun
  | [d1, d2] => { results := [.lit (.bool true)], args := [d1, d2] }
  | _ => none }
def wordShiftsRow : OpenClaim := { program := "ytpahpebchjajfaa", sum := "c7d679534b308a422669904d9b5561302550061f52c5ad3f74a5de9b1ec9330c", func := "cotter/cotterlaw01.WordShifts", spec := "wordShifts", apart := false }
def WordShiftsSaid : Prop := wordShiftsRow.holds Try.pinned (OpenSpec.ofChange wordShiftsSpec)

/-- ITS FALSE NEIGHBOUR: 'it returns false'. Refute it at one input. -/
def wordShiftsWrong : ChangeSpec := { name := "wordShifts", fn := fun _ => fun
  | [d1, d2] => { results := [.lit (.bool false)], args := [d1, d2] }
  | _ => none }
def WordShiftsWrongFalsely : Prop := wordShiftsRow.holds Try.pinned (OpenSpec.ofChange wordShiftsWrong)

/-- 'cotterlaw01.WordTakes': WHATEVER THE INPUT: true; the input reads as it did. -/
def wordTakesSpec : ChangeSpec := { name := "wordTakes", fn := fun _ => fun
  | [d1, d2, d3] => { results := [.lit (.bool true)], args := [d1, d2, d3] }
  | _ => none }
def wordTakesRow : OpenClaim := { program := "ytpahpebchjajfaa", sum := "c7d679534b308a422669904d9b5561302550061f52c5ad3f74a5de9b1ec9330c", func := "cotter/cotterlaw01.WordTakes", spec := "wordTakes", apart := false }
def WordTakesSaid : Prop := wordTakesRow.holds Try.pinned (OpenSpec.ofChange wordTakesSpec)

/-- ITS FALSE NEIGHBOUR: 'it returns false'. Refute it at one input. -/
def wordTakesWrong : ChangeSpec := { name := "wordTakes", fn := fun _ => fun
  | [d1, d2, d3] => { results := [.lit (.bool false)], args := [d1, d2, d3] }
  | _ => none }
def WordTakesWrongFalsely : Prop := wordTakesRow.holds Try.pinned (OpenSpec.ofChange wordTakesWrong)

/-- 'cotterlaw01.WordBytes': WHATEVER THE INPUT: true; the input reads as it did. -/
def wordBytesSpec : ChangeSpec := { name := "wordBytes", fn := fun _ => fun
  | [d1, d2, d3] => { results := [.lit (.bool true)], args := [d1, d2, d3] }
  | _ => none }
def wordBytesRow : OpenClaim := { program := "ytpahpebchjajfaa", sum := "c7d679534b308a422669904d9b5561302550061f52c5ad3f74a5de9b1ec9330c", func := "cotter/cotterlaw01.WordBytes", spec := "wordBytes", apart := false }
def WordBytesSaid : Prop := wordBytesRow.holds Try.pinned (OpenSpec.ofChange wordBytesSpec)

/-- ITS FALSE NEIGHBOUR: 'it returns false'. Refute it at one input. -/
def wordBytesWrong : ChangeSpec := { name := "wordBytes", fn := fun _ => fun
  | [d1, d2, d3] => { results := [.lit (.bool false)], args := [d1, d2, d3] }
  | _ => none }
def WordBytesWrongFalsely : Prop := wordBytesRow.holds Try.pinned (OpenSpec.ofChange wordBytesWrong)

/-- 'cotterlaw01.WordBack': WHATEVER THE INPUT: true; the input reads as it did. -/
def wordBackSpec : ChangeSpec := { name := "wordBack", fn := fun _ => fun
  | [d1, d2] => { results := [.lit (.bool true)], args := [d1, d2] }
  | _ => none }
def wordBackRow : OpenClaim := { program := "ytpahpebchjajfaa", sum := "c7d679534b308a422669904d9b5561302550061f52c5ad3f74a5de9b1ec9330c", func := "cotter/cotterlaw01.WordBack", spec := "wordBack", apart := false }
def WordBackSaid : Prop := wordBackRow.holds Try.pinned (OpenSpec.ofChange wordBackSpec)

/-- ITS FALSE NEIGHBOUR: 'it returns false'. Refute it at one input. -/
def wordBackWrong : ChangeSpec := { name := "wordBack", fn := fun _ => fun
  | [d1, d2] => { results := [.lit (.bool false)], args := [d1, d2] }
  | _ => none }
def WordBackWrongFalsely : Prop := wordBackRow.holds Try.pinned (OpenSpec.ofChange wordBackWrong)

/- THE SECOND FORM. 'bulk': how many values and letters a reading holds, each counted each time it is reached (what is shared counts as often as it is met; a slice's spare places count too). A statement '..UptoSaid' is the law's where the arguments, and the package variables that the reading takes, are together of bulk at most 1048576: NARROWER than '..Said'. Prove '..Said' where nothing that the law and all that it calls make is longer than what came in: it says more and counts as full. Else prove '..UptoSaid'. A law counts once. -/
mutual
def uptoBulk {H : Type} : DataW H → Nat
  | .lit (.string bytes) => bytes.length + 1
  | .lit _ => 1
  | .nil => 1
  | .ptr d => uptoBulk d + 1
  | .slice elems spare => uptoBulkAll elems + uptoBulkAll spare + 1
  | .agg parts => uptoBulkAll parts + 1
  | .iface _ d => uptoBulk d + 1
  | .map entries => uptoBulkEntries entries + 1
  | .held _ => 1
def uptoBulkAll {H : Type} : List (DataW H) → Nat
  | [] => 0
  | d :: r => uptoBulk d + uptoBulkAll r
def uptoBulkEntries {H : Type} : List (Lit × DataW H) → Nat
  | [] => 0
  | x :: r => uptoBulkEntry x + uptoBulkEntries r
def uptoBulkEntry {H : Type} : Lit × DataW H → Nat
  | (.string bytes, d) => bytes.length + uptoBulk d + 1
  | (_, d) => uptoBulk d + 1
 end
def uptoSmall : (H : Type) → List (DataW H) → Bool := fun _ ds => decide (uptoBulkAll ds ≤ 1048576)
def OpenSpec.upto (s : _root_.Go.ChangeSpec) : _root_.Go.OpenSpec := { _root_.Go.OpenSpec.ofChange s with cond := some uptoSmall }

/-- 'cotterlaw01.WordBin', WHERE WHAT IT READS IS OF BULK AT MOST 1048576: true; the input reads as it did. -/
def wordBinUptoRow : OpenClaim := { program := "ytpahpebchjajfaa", sum := "c7d679534b308a422669904d9b5561302550061f52c5ad3f74a5de9b1ec9330c", func := "cotter/cotterlaw01.WordBin", spec := "wordBin", apart := false, narrowed := true }
def WordBinUptoSaid : Prop := wordBinUptoRow.holds Try.pinned (OpenSpec.upto wordBinSpec)

/-- 'cotterlaw01.WordAll', WHERE WHAT IT READS IS OF BULK AT MOST 1048576: true; the input reads as it did. -/
def wordAllUptoRow : OpenClaim := { program := "ytpahpebchjajfaa", sum := "c7d679534b308a422669904d9b5561302550061f52c5ad3f74a5de9b1ec9330c", func := "cotter/cotterlaw01.WordAll", spec := "wordAll", apart := false, narrowed := true }
def WordAllUptoSaid : Prop := wordAllUptoRow.holds Try.pinned (OpenSpec.upto wordAllSpec)

/-- 'cotterlaw01.WordJoined', WHERE WHAT IT READS IS OF BULK AT MOST 1048576: true; the input reads as it did. -/
def wordJoinedUptoRow : OpenClaim := { program := "ytpahpebchjajfaa", sum := "c7d679534b308a422669904d9b5561302550061f52c5ad3f74a5de9b1ec9330c", func := "cotter/cotterlaw01.WordJoined", spec := "wordJoined", apart := false, narrowed := true }
def WordJoinedUptoSaid : Prop := wordJoinedUptoRow.holds Try.pinned (OpenSpec.upto wordJoinedSpec)

/-- 'cotterlaw01.WordTurns', WHERE WHAT IT READS IS OF BULK AT MOST 1048576: true; the input reads as it did. -/
def wordTurnsUptoRow : OpenClaim := { program := "ytpahpebchjajfaa", sum := "c7d679534b308a422669904d9b5561302550061f52c5ad3f74a5de9b1ec9330c", func := "cotter/cotterlaw01.WordTurns", spec := "wordTurns", apart := false, narrowed := true }
def WordTurnsUptoSaid : Prop := wordTurnsUptoRow.holds Try.pinned (OpenSpec.upto wordTurnsSpec)

/-- 'cotterlaw01.WordDivides', WHERE WHAT IT READS IS OF BULK AT MOST 1048576: true; the input reads as it did. -/
def wordDividesUptoRow : OpenClaim := { program := "ytpahpebchjajfaa", sum := "c7d679534b308a422669904d9b5561302550061f52c5ad3f74a5de9b1ec9330c", func := "cotter/cotterlaw01.WordDivides", spec := "wordDivides", apart := false, narrowed := true }
def WordDividesUptoSaid : Prop := wordDividesUptoRow.holds Try.pinned (OpenSpec.upto wordDividesSpec)

/-- 'cotterlaw01.WordShifts', WHERE WHAT IT READS IS OF BULK AT MOST 1048576: true; the input reads as it did. -/
def wordShiftsUptoRow : OpenClaim := { program := "ytpahpebchjajfaa", sum := "c7d679534b308a422669904d9b5561302550061f52c5ad3f74a5de9b1ec9330c", func := "cotter/cotterlaw01.WordShifts", spec := "wordShifts", apart := false, narrowed := true }
def WordShiftsUptoSaid : Prop := wordShiftsUptoRow.holds Try.pinned (OpenSpec.upto wordShiftsSpec)

/-- 'cotterlaw01.WordTakes', WHERE WHAT IT READS IS OF BULK AT MOST 1048576: true; the input reads as it did. -/
def wordTakesUptoRow : OpenClaim := { program := "ytpahpebchjajfaa", sum := "c7d679534b308a422669904d9b5561302550061f52c5ad3f74a5de9b1ec9330c", func := "cotter/cotterlaw01.WordTakes", spec := "wordTakes", apart := false, narrowed := true }
def WordTakesUptoSaid : Prop := wordTakesUptoRow.holds Try.pinned (OpenSpec.upto wordTakesSpec)

/-- 'cotterlaw01.WordBytes', WHERE WHAT IT READS IS OF BULK AT MOST 1048576: true; the input reads as it did. -/
def wordBytesUptoRow : OpenClaim := { program := "ytpahpebchjajfaa", sum := "c7d679534b308a422669904d9b5561302550061f52c5ad3f74a5de9b1ec9330c", func := "cotter/cotterlaw01.WordBytes", spec := "wordBytes", apart := false, narrowed := true }
def WordBytesUptoSaid : Prop := wordBytesUptoRow.holds Try.pinned (OpenSpec.upto wordBytesSpec)

/-- 'cotterlaw01.WordBack', WHERE WHAT IT READS IS OF BULK AT MOST 1048576: true; the input reads as it did. -/
def wordBackUptoRow : OpenClaim := { program := "ytpahpebchjajfaa", sum := "c7d679534b308a422669904d9b5561302550061f52c5ad3f74a5de9b1ec9330c", func := "cotter/cotterlaw01.WordBack", spec := "wordBack", apart := false, narrowed := true }
def WordBackUptoSaid : Prop := wordBackUptoRow.holds Try.pinned (OpenSpec.upto wordBackSpec)

end Rows
end Go.Proofs.Ytpahpebchjajfaa
