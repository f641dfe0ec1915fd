/-
  No cell of these rows narrows 'for every input' (looked for: loops, veiled, ifaces, maps, wideKeys, modest, calm, conditions, laid).
  DERIVED. THE GIVEN ROWS OF THIS SEAT. 5 by the template 'for every input the law returns true; each argument reads behind the call as it read before'; 0 by the template 'total and deterministic' (their statements: YtkanhnhagjopkaaTotals.lean).
  GIVEN WITH THE SEED: the statements are not yours to turn. If you find one false, say at which input.
  Laid BY PROGRAM, IN A SANDBOX (cutbox-rows.mjs): the forced cells as the released guide's own fill.sh prints them over the translation 6de58d99622a1e02… (all of the seat's roots in one cut). By AI agents, Wed Nov 11 2026. No macro, syntax, notation, axiom, sorry.
-/
import Derived.Test.YtkanhnhagjopkaaChecked
import GoSem.Claim
import GoSem.ClaimJoined
import GoSem.ClaimMapViews
import Derived.JoinedTies
import Derived.KernelRfl
namespace Go.Proofs.Ytkanhnhagjopkaa
/- THE CELL 'sum', in the pinned program and in every row, IS THE sha256 OF THE DUMP (.gsa) THAT YtkanhnhagjopkaaProg.lean LOADS. Nothing in Lean hashes anything: it is a label: what it is worth is what the hold of that sum in a sandbox is worth. -/
noncomputable def Try.pinned : Pinned := { name := "ytkanhnhagjopkaa", sum := "6de58d99622a1e02c75d17e67e19d6e98347a4a31e017ec26d6ceb23a235774d", checked := Try.checked }
namespace Rows
def none {H : Type} : Left H := { results := [], args := [] }

/-- 'cotterlaw02.MemStays': WHATEVER THE INPUT: true; the input reads as it did. -/
def memStaysSpec : ChangeSpec := { name := "memStays", fn := fun _ => fun
  | [d] => { results := [.lit (.bool true)], args := [d] }
  | _ => none }
def memStaysRow : OpenClaim := { program := "ytkanhnhagjopkaa", sum := "6de58d99622a1e02c75d17e67e19d6e98347a4a31e017ec26d6ceb23a235774d", func := "cotter/cotterlaw02.MemStays", spec := "memStays", unfollowed := true, recurses := true, apart := false }
def MemStaysSaid : Prop := memStaysRow.holds Try.pinned (OpenSpec.ofChange memStaysSpec)

/-- ITS FALSE NEIGHBOUR: 'it returns false'. Refute it at one input. -/
def memStaysWrong : ChangeSpec := { name := "memStays", fn := fun _ => fun
  | [d] => { results := [.lit (.bool false)], args := [d] }
  | _ => none }
def MemStaysWrongFalsely : Prop := memStaysRow.holds Try.pinned (OpenSpec.ofChange memStaysWrong)

/-- 'cotterlaw02.MemScripts': WHATEVER THE INPUT: true; the input reads as it did. -/
def memScriptsSpec : ChangeSpec := { name := "memScripts", fn := fun _ => fun
  | [d1, d2] => { results := [.lit (.bool true)], args := [d1, d2] }
  | _ => none }
def memScriptsRow : OpenClaim := { program := "ytkanhnhagjopkaa", sum := "6de58d99622a1e02c75d17e67e19d6e98347a4a31e017ec26d6ceb23a235774d", func := "cotter/cotterlaw02.MemScripts", spec := "memScripts", unfollowed := true, recurses := true, apart := false }
def MemScriptsSaid : Prop := memScriptsRow.holds Try.pinned (OpenSpec.ofChange memScriptsSpec)

/-- ITS FALSE NEIGHBOUR: 'it returns false'. Refute it at one input. -/
def memScriptsWrong : ChangeSpec := { name := "memScripts", fn := fun _ => fun
  | [d1, d2] => { results := [.lit (.bool false)], args := [d1, d2] }
  | _ => none }
def MemScriptsWrongFalsely : Prop := memScriptsRow.holds Try.pinned (OpenSpec.ofChange memScriptsWrong)

/-- 'cotterlaw02.MemWords': WHATEVER THE INPUT: true; the input reads as it did. -/
def memWordsSpec : ChangeSpec := { name := "memWords", fn := fun _ => fun
  | [d1, d2] => { results := [.lit (.bool true)], args := [d1, d2] }
  | _ => none }
def memWordsRow : OpenClaim := { program := "ytkanhnhagjopkaa", sum := "6de58d99622a1e02c75d17e67e19d6e98347a4a31e017ec26d6ceb23a235774d", func := "cotter/cotterlaw02.MemWords", spec := "memWords", unfollowed := true, recurses := true, apart := false }
def MemWordsSaid : Prop := memWordsRow.holds Try.pinned (OpenSpec.ofChange memWordsSpec)

/-- ITS FALSE NEIGHBOUR: 'it returns false'. Refute it at one input. -/
def memWordsWrong : ChangeSpec := { name := "memWords", fn := fun _ => fun
  | [d1, d2] => { results := [.lit (.bool false)], args := [d1, d2] }
  | _ => none }
def MemWordsWrongFalsely : Prop := memWordsRow.holds Try.pinned (OpenSpec.ofChange memWordsWrong)

/-- 'cotterlaw02.MemJoins': WHATEVER THE INPUT: true; the input reads as it did. -/
def memJoinsSpec : ChangeSpec := { name := "memJoins", fn := fun _ => fun
  | [d1, d2, d3] => { results := [.lit (.bool true)], args := [d1, d2, d3] }
  | _ => none }
def memJoinsRow : OpenClaim := { program := "ytkanhnhagjopkaa", sum := "6de58d99622a1e02c75d17e67e19d6e98347a4a31e017ec26d6ceb23a235774d", func := "cotter/cotterlaw02.MemJoins", spec := "memJoins", unfollowed := true, recurses := true, apart := false }
def MemJoinsSaid : Prop := memJoinsRow.holds Try.pinned (OpenSpec.ofChange memJoinsSpec)

/-- ITS FALSE NEIGHBOUR: 'it returns false'. Refute it at one input. -/
def memJoinsWrong : ChangeSpec := { name := "memJoins", fn := fun _ => fun
  | [d1, d2, d3] => { results := [.lit (.bool false)], args := [d1, d2, d3] }
  | _ => none }
def MemJoinsWrongFalsely : Prop := memJoinsRow.holds Try.pinned (OpenSpec.ofChange memJoinsWrong)

/-- 'cotterlaw02.MemEven': WHATEVER THE INPUT: true; the input reads as it did. -/
def memEvenSpec : ChangeSpec := { name := "memEven", fn := fun _ => fun
  | [d1, d2, d3] => { results := [.lit (.bool true)], args := [d1, d2, d3] }
  | _ => none }
def memEvenRow : OpenClaim := { program := "ytkanhnhagjopkaa", sum := "6de58d99622a1e02c75d17e67e19d6e98347a4a31e017ec26d6ceb23a235774d", func := "cotter/cotterlaw02.MemEven", spec := "memEven", unfollowed := true, recurses := true, apart := false }
def MemEvenSaid : Prop := memEvenRow.holds Try.pinned (OpenSpec.ofChange memEvenSpec)

/-- ITS FALSE NEIGHBOUR: 'it returns false'. Refute it at one input. -/
def memEvenWrong : ChangeSpec := { name := "memEven", fn := fun _ => fun
  | [d1, d2, d3] => { results := [.lit (.bool false)], args := [d1, d2, d3] }
  | _ => none }
def MemEvenWrongFalsely : Prop := memEvenRow.holds Try.pinned (OpenSpec.ofChange memEvenWrong)

/- THE SECOND FORM. 'bulk': how many values and letters a reading holds, each counted each time it is reached (what is shared counts as often as it is met; a slice's spare places count too). A statement '..UptoSaid' is the law's where the arguments, and the package variables that the reading takes, are together of bulk at most 1048576: NARROWER than '..Said'. Prove '..Said' where nothing that the law and all that it calls make is longer than what came in: it says more and counts as full. Else prove '..UptoSaid'. A law counts once. -/
mutual
def uptoBulk {H : Type} : DataW H → Nat
  | .lit (.string bytes) => bytes.length + 1
  | .lit _ => 1
  | .nil => 1
  | .ptr d => uptoBulk d + 1
  | .slice elems spare => uptoBulkAll elems + uptoBulkAll spare + 1
  | .agg parts => uptoBulkAll parts + 1
  | .iface _ d => uptoBulk d + 1
  | .map entries => uptoBulkEntries entries + 1
  | .held _ => 1
def uptoBulkAll {H : Type} : List (DataW H) → Nat
  | [] => 0
  | d :: r => uptoBulk d + uptoBulkAll r
def uptoBulkEntries {H : Type} : List (Lit × DataW H) → Nat
  | [] => 0
  | x :: r => uptoBulkEntry x + uptoBulkEntries r
def uptoBulkEntry {H : Type} : Lit × DataW H → Nat
  | (.string bytes, d) => bytes.length + uptoBulk d + 1
  | (_, d) => uptoBulk d + 1
 end
def uptoSmall : (H : Type) → List (DataW H) → Bool := fun _ ds => decide (uptoBulkAll ds ≤ 1048576)
def OpenSpec.upto (s : _root_.Go.ChangeSpec) : _root_.Go.OpenSpec := { _root_.Go.OpenSpec.ofChange s with cond := some uptoSmall }

/-- 'cotterlaw02.MemStays', WHERE WHAT IT READS IS OF BULK AT MOST 1048576: true; the input reads as it did. -/
def memStaysUptoRow : OpenClaim := { program := "ytkanhnhagjopkaa", sum := "6de58d99622a1e02c75d17e67e19d6e98347a4a31e017ec26d6ceb23a235774d", func := "cotter/cotterlaw02.MemStays", spec := "memStays", unfollowed := true, recurses := true, apart := false, narrowed := true }
def MemStaysUptoSaid : Prop := memStaysUptoRow.holds Try.pinned (OpenSpec.upto memStaysSpec)

/-- 'cotterlaw02.MemScripts', WHERE WHAT IT READS IS OF BULK AT MOST 1048576: true; the input reads as it did. -/
def memScriptsUptoRow : OpenClaim := { program := "ytkanhnhagjopkaa", sum := "6de58d99622a1e02c75d17e67e19d6e98347a4a31e017ec26d6ceb23a235774d", func := "cotter/cotterlaw02.MemScripts", spec := "memScripts", unfollowed := true, recurses := true, apart := false, narrowed := true }
def MemScriptsUptoSaid : Prop := memScriptsUptoRow.holds Try.pinned (OpenSpec.upto memScriptsSpec)

/-- 'cotterlaw02.MemWords', WHERE WHAT IT READS IS OF BULK AT MOST 1048576: true; the input reads as it did. -/
def memWordsUptoRow : OpenClaim := { program := "ytkanhnhagjopkaa", sum := "6de58d99622a1e02c75d17e67e19d6e98347a4a31e017ec26d6ceb23a235774d", func := "cotter/cotterlaw02.MemWords", spec := "memWords", unfollowed := true, recurses := true, apart := false, narrowed := true }
def MemWordsUptoSaid : Prop := memWordsUptoRow.holds Try.pinned (OpenSpec.upto memWordsSpec)

/-- 'cotterlaw02.MemJoins', WHERE WHAT IT READS IS OF BULK AT MOST 1048576: true; the input reads as it did. -/
def memJoinsUptoRow : OpenClaim := { program := "ytkanhnhagjopkaa", sum := "6de58d99622a1e02c75d17e67e19d6e98347a4a31e017ec26d6ceb23a235774d", func := "cotter/cotterlaw02.MemJoins", spec := "memJoins", unfollowed := true, recurses := true, apart := false, narrowed := true }
def MemJoinsUptoSaid : Prop := memJoinsUptoRow.holds Try.pinned (OpenSpec.upto memJoinsSpec)

/-- 'cotterlaw02.MemEven', WHERE WHAT IT READS IS OF BULK AT MOST 1048576: true; the input reads as it did. -/
def memEvenUptoRow : OpenClaim := { program := "ytkanhnhagjopkaa", sum := "6de58d99622a1e02c75d17e67e19d6e98347a4a31e017ec26d6ceb23a235774d", func := "cotter/cotterlaw02.MemEven", spec := "memEven", unfollowed := true, recurses := true, apart := false, narrowed := true }
def MemEvenUptoSaid : Prop := memEvenUptoRow.holds Try.pinned (OpenSpec.upto memEvenSpec)

end Rows
end Go.Proofs.Ytkanhnhagjopkaa
