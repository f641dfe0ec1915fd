/-
  No cell of these rows narrows 'for every input' (looked for: loops, veiled, ifaces, maps, wideKeys, modest, calm, conditions, laid).
  DERIVED. THE GIVEN ROWS OF THIS SEAT. 5 by the template 'for every input the law returns true; each argument reads behind the call as it read before'; 0 by the template 'total and deterministic' (their statements: YtilmndkbloodbaaTotals.lean).
  GIVEN WITH THE SEED: the statements are not yours to turn. If you find one false, say at which input.
  Laid BY PROGRAM, IN A SANDBOX (cutbox-rows.mjs): the forced cells as the released guide's own fill.sh prints them over the translation 19616d079b08f8b0… (all of the seat's roots in one cut). By AI agents, Wed Nov 11 2026. No macro, syntax, notation, axiom, sorry.
-/
import Derived.Test.YtilmndkbloodbaaChecked
import GoSem.Claim
import GoSem.ClaimJoined
import GoSem.ClaimMapViews
import Derived.JoinedTies
import Derived.KernelRfl
namespace Go.Proofs.Ytilmndkbloodbaa
/- THE CELL 'sum', in the pinned program and in every row, IS THE sha256 OF THE DUMP (.gsa) THAT YtilmndkbloodbaaProg.lean LOADS. Nothing in Lean hashes anything: it is a label: what it is worth is what the hold of that sum in a sandbox is worth. -/
noncomputable def Try.pinned : Pinned := { name := "ytilmndkbloodbaa", sum := "19616d079b08f8b00c5f54a1629db191423d9ed618a737796e32cc85214812bb", checked := Try.checked }
namespace Rows
def none {H : Type} : Left H := { results := [], args := [] }

/-- 'cotterlaw06.ObjfWrites': WHATEVER THE INPUT: true; the input reads as it did. -/
def objfWritesSpec : ChangeSpec := { name := "objfWrites", fn := fun _ => fun
  | [d] => { results := [.lit (.bool true)], args := [d] }
  | _ => none }
def objfWritesRow : OpenClaim := { program := "ytilmndkbloodbaa", sum := "19616d079b08f8b00c5f54a1629db191423d9ed618a737796e32cc85214812bb", func := "cotter/cotterlaw06.ObjfWrites", spec := "objfWrites", unfollowed := true, recurses := true, apart := false }
def ObjfWritesSaid : Prop := objfWritesRow.holds Try.pinned (OpenSpec.ofChange objfWritesSpec)

/-- ITS FALSE NEIGHBOUR: 'it returns false'. Refute it at one input. -/
def objfWritesWrong : ChangeSpec := { name := "objfWrites", fn := fun _ => fun
  | [d] => { results := [.lit (.bool false)], args := [d] }
  | _ => none }
def ObjfWritesWrongFalsely : Prop := objfWritesRow.holds Try.pinned (OpenSpec.ofChange objfWritesWrong)

/-- 'cotterlaw06.ObjfReads': WHATEVER THE INPUT: true; the input reads as it did. -/
def objfReadsSpec : ChangeSpec := { name := "objfReads", fn := fun _ => fun
  | [d] => { results := [.lit (.bool true)], args := [d] }
  | _ => none }
def objfReadsRow : OpenClaim := { program := "ytilmndkbloodbaa", sum := "19616d079b08f8b00c5f54a1629db191423d9ed618a737796e32cc85214812bb", func := "cotter/cotterlaw06.ObjfReads", spec := "objfReads", unfollowed := true, recurses := true, apart := false }
def ObjfReadsSaid : Prop := objfReadsRow.holds Try.pinned (OpenSpec.ofChange objfReadsSpec)

/-- ITS FALSE NEIGHBOUR: 'it returns false'. Refute it at one input. -/
def objfReadsWrong : ChangeSpec := { name := "objfReads", fn := fun _ => fun
  | [d] => { results := [.lit (.bool false)], args := [d] }
  | _ => none }
def ObjfReadsWrongFalsely : Prop := objfReadsRow.holds Try.pinned (OpenSpec.ofChange objfReadsWrong)

/-- 'cotterlaw06.ObjfBack': WHATEVER THE INPUT: true; the input reads as it did. -/
def objfBackSpec : ChangeSpec := { name := "objfBack", fn := fun _ => fun
  | [d1, d2] => { results := [.lit (.bool true)], args := [d1, d2] }
  | _ => none }
def objfBackRow : OpenClaim := { program := "ytilmndkbloodbaa", sum := "19616d079b08f8b00c5f54a1629db191423d9ed618a737796e32cc85214812bb", func := "cotter/cotterlaw06.ObjfBack", spec := "objfBack", unfollowed := true, recurses := true, apart := false }
def ObjfBackSaid : Prop := objfBackRow.holds Try.pinned (OpenSpec.ofChange objfBackSpec)

/-- ITS FALSE NEIGHBOUR: 'it returns false'. Refute it at one input. -/
def objfBackWrong : ChangeSpec := { name := "objfBack", fn := fun _ => fun
  | [d1, d2] => { results := [.lit (.bool false)], args := [d1, d2] }
  | _ => none }
def ObjfBackWrongFalsely : Prop := objfBackRow.holds Try.pinned (OpenSpec.ofChange objfBackWrong)

/-- 'cotterlaw06.ObjfCuts': WHATEVER THE INPUT: true; the input reads as it did. -/
def objfCutsSpec : ChangeSpec := { name := "objfCuts", fn := fun _ => fun
  | [d1, d2, d3] => { results := [.lit (.bool true)], args := [d1, d2, d3] }
  | _ => none }
def objfCutsRow : OpenClaim := { program := "ytilmndkbloodbaa", sum := "19616d079b08f8b00c5f54a1629db191423d9ed618a737796e32cc85214812bb", func := "cotter/cotterlaw06.ObjfCuts", spec := "objfCuts", unfollowed := true, recurses := true, apart := false }
def ObjfCutsSaid : Prop := objfCutsRow.holds Try.pinned (OpenSpec.ofChange objfCutsSpec)

/-- ITS FALSE NEIGHBOUR: 'it returns false'. Refute it at one input. -/
def objfCutsWrong : ChangeSpec := { name := "objfCuts", fn := fun _ => fun
  | [d1, d2, d3] => { results := [.lit (.bool false)], args := [d1, d2, d3] }
  | _ => none }
def ObjfCutsWrongFalsely : Prop := objfCutsRow.holds Try.pinned (OpenSpec.ofChange objfCutsWrong)

/-- 'cotterlaw06.ObjfApart': WHATEVER THE INPUT: true; the input reads as it did. -/
def objfApartSpec : ChangeSpec := { name := "objfApart", fn := fun _ => fun
  | [d1, d2] => { results := [.lit (.bool true)], args := [d1, d2] }
  | _ => none }
def objfApartRow : OpenClaim := { program := "ytilmndkbloodbaa", sum := "19616d079b08f8b00c5f54a1629db191423d9ed618a737796e32cc85214812bb", func := "cotter/cotterlaw06.ObjfApart", spec := "objfApart", unfollowed := true, recurses := true, apart := false }
def ObjfApartSaid : Prop := objfApartRow.holds Try.pinned (OpenSpec.ofChange objfApartSpec)

/-- ITS FALSE NEIGHBOUR: 'it returns false'. Refute it at one input. -/
def objfApartWrong : ChangeSpec := { name := "objfApart", fn := fun _ => fun
  | [d1, d2] => { results := [.lit (.bool false)], args := [d1, d2] }
  | _ => none }
def ObjfApartWrongFalsely : Prop := objfApartRow.holds Try.pinned (OpenSpec.ofChange objfApartWrong)

/- THE SECOND FORM. 'bulk': how many values and letters a reading holds, each counted each time it is reached (what is shared counts as often as it is met; a slice's spare places count too). A statement '..UptoSaid' is the law's where the arguments, and the package variables that the reading takes, are together of bulk at most 1048576: NARROWER than '..Said'. Prove '..Said' where nothing that the law and all that it calls make is longer than what came in: it says more and counts as full. Else prove '..UptoSaid'. A law counts once. -/
mutual
def uptoBulk {H : Type} : DataW H → Nat
  | .lit (.string bytes) => bytes.length + 1
  | .lit _ => 1
  | .nil => 1
  | .ptr d => uptoBulk d + 1
  | .slice elems spare => uptoBulkAll elems + uptoBulkAll spare + 1
  | .agg parts => uptoBulkAll parts + 1
  | .iface _ d => uptoBulk d + 1
  | .map entries => uptoBulkEntries entries + 1
  | .held _ => 1
def uptoBulkAll {H : Type} : List (DataW H) → Nat
  | [] => 0
  | d :: r => uptoBulk d + uptoBulkAll r
def uptoBulkEntries {H : Type} : List (Lit × DataW H) → Nat
  | [] => 0
  | x :: r => uptoBulkEntry x + uptoBulkEntries r
def uptoBulkEntry {H : Type} : Lit × DataW H → Nat
  | (.string bytes, d) => bytes.length + uptoBulk d + 1
  | (_, d) => uptoBulk d + 1
 end
def uptoSmall : (H : Type) → List (DataW H) → Bool := fun _ ds => decide (uptoBulkAll ds ≤ 1048576)
def OpenSpec.upto (s : _root_.Go.ChangeSpec) : _root_.Go.OpenSpec := { _root_.Go.OpenSpec.ofChange s with cond := some uptoSmall }

/-- 'cotterlaw06.ObjfWrites', WHERE WHAT IT READS IS OF BULK AT MOST 1048576: true; the input reads as it did. -/
def objfWritesUptoRow : OpenClaim := { program := "ytilmndkbloodbaa", sum := "19616d079b08f8b00c5f54a1629db191423d9ed618a737796e32cc85214812bb", func := "cotter/cotterlaw06.ObjfWrites", spec := "objfWrites", unfollowed := true, recurses := true, apart := false, narrowed := true }
def ObjfWritesUptoSaid : Prop := objfWritesUptoRow.holds Try.pinned (OpenSpec.upto objfWritesSpec)

/-- 'cotterlaw06.ObjfReads', WHERE WHAT IT READS IS OF BULK AT MOST 1048576: true; the input reads as it did. -/
def objfReadsUptoRow : OpenClaim := { program := "ytilmndkbloodbaa", sum := "19616d079b08f8b00c5f54a1629db191423d9ed618a737796e32cc85214812bb", func := "cotter/cotterlaw06.ObjfReads", spec := "objfReads", unfollowed := true, recurses := true, apart := false, narrowed := true }
def ObjfReadsUptoSaid : Prop := objfReadsUptoRow.holds Try.pinned (OpenSpec.upto objfReadsSpec)

/-- 'cotterlaw06.ObjfBack', WHERE WHAT IT READS IS OF BULK AT MOST 1048576: true; the input reads as it did. -/
def objfBackUptoRow : OpenClaim := { program := "ytilmndkbloodbaa", sum := "19616d079b08f8b00c5f54a1629db191423d9ed618a737796e32cc85214812bb", func := "cotter/cotterlaw06.ObjfBack", spec := "objfBack", unfollowed := true, recurses := true, apart := false, narrowed := true }
def ObjfBackUptoSaid : Prop := objfBackUptoRow.holds Try.pinned (OpenSpec.upto objfBackSpec)

/-- 'cotterlaw06.ObjfCuts', WHERE WHAT IT READS IS OF BULK AT MOST 1048576: true; the input reads as it did. -/
def objfCutsUptoRow : OpenClaim := { program := "ytilmndkbloodbaa", sum := "19616d079b08f8b00c5f54a1629db191423d9ed618a737796e32cc85214812bb", func := "cotter/cotterlaw06.ObjfCuts", spec := "objfCuts", unfollowed := true, recurses := true, apart := false, narrowed := true }
def ObjfCutsUptoSaid : Prop := objfCutsUptoRow.holds Try.pinned (OpenSpec.upto objfCutsSpec)

/-- 'cotterlaw06.ObjfApart', WHERE WHAT IT READS IS OF BULK AT MOST 1048576: true; the input reads as it did. -/
def objfApartUptoRow : OpenClaim := { program := "ytilmndkbloodbaa", sum := "19616d079b08f8b00c5f54a1629db191423d9ed618a737796e32cc85214812bb", func := "cotter/cotterlaw06.ObjfApart", spec := "objfApart", unfollowed := true, recurses := true, apart := false, narrowed := true }
def ObjfApartUptoSaid : Prop := objfApartUptoRow.holds Try.pinned (OpenSpec.upto objfApartSpec)

end Rows
end Go.Proofs.Ytilmndkbloodbaa
