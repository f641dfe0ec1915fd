/-
  No cell of these rows narrows 'for every input' (looked for: loops, veiled, ifaces, maps, wideKeys, modest, calm, conditions, laid).
  DERIVED. THE GIVEN ROWS OF THIS SEAT. 6 by the template 'for every input the law returns true; each argument reads behind the call as it read before'; 0 by the template 'total and deterministic' (their statements: YteaealmnmmcbpaaTotals.lean).
  GIVEN WITH THE SEED: the statements are not yours to turn. If you find one false, say at which input.
  Laid BY PROGRAM, IN A SANDBOX (cutbox-rows.mjs): the forced cells as the released guide's own fill.sh prints them over the translation d15630f94943e07c… (all of the seat's roots in one cut). By AI agents, Wed Nov 11 2026. No macro, syntax, notation, axiom, sorry.
-/
import Derived.Test.YteaealmnmmcbpaaChecked
import GoSem.Claim
import GoSem.ClaimJoined
import GoSem.ClaimMapViews
import Derived.JoinedTies
import Derived.KernelRfl
namespace Go.Proofs.Yteaealmnmmcbpaa
/- THE CELL 'sum', in the pinned program and in every row, IS THE sha256 OF THE DUMP (.gsa) THAT YteaealmnmmcbpaaProg.lean LOADS. Nothing in Lean hashes anything: it is a label: what it is worth is what the hold of that sum in a sandbox is worth. -/
noncomputable def Try.pinned : Pinned := { name := "yteaealmnmmcbpaa", sum := "d15630f94943e07c25ca09c1b39f168719ba6bd5d793dbc72e194cd304d41a38", checked := Try.checked }
namespace Rows
def none {H : Type} : Left H := { results := [], args := [] }

/-- 'cotterlaw07.LinkLinks': WHATEVER THE INPUT: true; the input reads as it did. -/
def linkLinksSpec : ChangeSpec := { name := "linkLinks", fn := fun _ => fun
  | [d] => { results := [.lit (.bool true)], args := [d] }
  | _ => none }
def linkLinksRow : OpenClaim := { program := "yteaealmnmmcbpaa", sum := "d15630f94943e07c25ca09c1b39f168719ba6bd5d793dbc72e194cd304d41a38", func := "cotter/cotterlaw07.LinkLinks", spec := "linkLinks", unfollowed := true, recurses := true, apart := false }
def LinkLinksSaid : Prop := linkLinksRow.holds Try.pinned (OpenSpec.ofChange linkLinksSpec)

/-- ITS FALSE NEIGHBOUR: 'it returns false'. Refute it at one input. -/
def linkLinksWrong : ChangeSpec := { name := "linkLinks", fn := fun _ => fun
  | [d] => { results := [.lit (.bool false)], args := [d] }
  | _ => none }
def LinkLinksWrongFalsely : Prop := linkLinksRow.holds Try.pinned (OpenSpec.ofChange linkLinksWrong)

/-- 'cotterlaw07.LinkOrder': WHATEVER THE INPUT: true; the input reads as it did. -/
def linkOrderSpec : ChangeSpec := { name := "linkOrder", fn := fun _ => fun
  | [d1, d2] => { results := [.lit (.bool true)], args := [d1, d2] }
  | _ => none }
def linkOrderRow : OpenClaim := { program := "yteaealmnmmcbpaa", sum := "d15630f94943e07c25ca09c1b39f168719ba6bd5d793dbc72e194cd304d41a38", func := "cotter/cotterlaw07.LinkOrder", spec := "linkOrder", unfollowed := true, recurses := true, apart := false }
def LinkOrderSaid : Prop := linkOrderRow.holds Try.pinned (OpenSpec.ofChange linkOrderSpec)

/-- ITS FALSE NEIGHBOUR: 'it returns false'. Refute it at one input. -/
def linkOrderWrong : ChangeSpec := { name := "linkOrder", fn := fun _ => fun
  | [d1, d2] => { results := [.lit (.bool false)], args := [d1, d2] }
  | _ => none }
def LinkOrderWrongFalsely : Prop := linkOrderRow.holds Try.pinned (OpenSpec.ofChange linkOrderWrong)

/-- 'cotterlaw07.LinkKeeps': WHATEVER THE INPUT: true; the input reads as it did. -/
def linkKeepsSpec : ChangeSpec := { name := "linkKeeps", fn := fun _ => fun
  | [d] => { results := [.lit (.bool true)], args := [d] }
  | _ => none }
def linkKeepsRow : OpenClaim := { program := "yteaealmnmmcbpaa", sum := "d15630f94943e07c25ca09c1b39f168719ba6bd5d793dbc72e194cd304d41a38", func := "cotter/cotterlaw07.LinkKeeps", spec := "linkKeeps", unfollowed := true, recurses := true, apart := false }
def LinkKeepsSaid : Prop := linkKeepsRow.holds Try.pinned (OpenSpec.ofChange linkKeepsSpec)

/-- ITS FALSE NEIGHBOUR: 'it returns false'. Refute it at one input. -/
def linkKeepsWrong : ChangeSpec := { name := "linkKeeps", fn := fun _ => fun
  | [d] => { results := [.lit (.bool false)], args := [d] }
  | _ => none }
def LinkKeepsWrongFalsely : Prop := linkKeepsRow.holds Try.pinned (OpenSpec.ofChange linkKeepsWrong)

/-- 'cotterlaw07.LinkLands': WHATEVER THE INPUT: true; the input reads as it did. -/
def linkLandsSpec : ChangeSpec := { name := "linkLands", fn := fun _ => fun
  | [d] => { results := [.lit (.bool true)], args := [d] }
  | _ => none }
def linkLandsRow : OpenClaim := { program := "yteaealmnmmcbpaa", sum := "d15630f94943e07c25ca09c1b39f168719ba6bd5d793dbc72e194cd304d41a38", func := "cotter/cotterlaw07.LinkLands", spec := "linkLands", unfollowed := true, recurses := true, apart := false }
def LinkLandsSaid : Prop := linkLandsRow.holds Try.pinned (OpenSpec.ofChange linkLandsSpec)

/-- ITS FALSE NEIGHBOUR: 'it returns false'. Refute it at one input. -/
def linkLandsWrong : ChangeSpec := { name := "linkLands", fn := fun _ => fun
  | [d] => { results := [.lit (.bool false)], args := [d] }
  | _ => none }
def LinkLandsWrongFalsely : Prop := linkLandsRow.holds Try.pinned (OpenSpec.ofChange linkLandsWrong)

/-- 'cotterlaw07.LinkNames': WHATEVER THE INPUT: true; the input reads as it did. -/
def linkNamesSpec : ChangeSpec := { name := "linkNames", fn := fun _ => fun
  | [d1, d2, d3] => { results := [.lit (.bool true)], args := [d1, d2, d3] }
  | _ => none }
def linkNamesRow : OpenClaim := { program := "yteaealmnmmcbpaa", sum := "d15630f94943e07c25ca09c1b39f168719ba6bd5d793dbc72e194cd304d41a38", func := "cotter/cotterlaw07.LinkNames", spec := "linkNames", unfollowed := true, recurses := true, apart := false }
def LinkNamesSaid : Prop := linkNamesRow.holds Try.pinned (OpenSpec.ofChange linkNamesSpec)

/-- ITS FALSE NEIGHBOUR: 'it returns false'. Refute it at one input. -/
def linkNamesWrong : ChangeSpec := { name := "linkNames", fn := fun _ => fun
  | [d1, d2, d3] => { results := [.lit (.bool false)], args := [d1, d2, d3] }
  | _ => none }
def LinkNamesWrongFalsely : Prop := linkNamesRow.holds Try.pinned (OpenSpec.ofChange linkNamesWrong)

/-- 'cotterlaw07.LinkMore': WHATEVER THE INPUT: true; the input reads as it did. -/
def linkMoreSpec : ChangeSpec := { name := "linkMore", fn := fun _ => fun
  | [d1, d2] => { results := [.lit (.bool true)], args := [d1, d2] }
  | _ => none }
def linkMoreRow : OpenClaim := { program := "yteaealmnmmcbpaa", sum := "d15630f94943e07c25ca09c1b39f168719ba6bd5d793dbc72e194cd304d41a38", func := "cotter/cotterlaw07.LinkMore", spec := "linkMore", unfollowed := true, recurses := true, apart := false }
def LinkMoreSaid : Prop := linkMoreRow.holds Try.pinned (OpenSpec.ofChange linkMoreSpec)

/-- ITS FALSE NEIGHBOUR: 'it returns false'. Refute it at one input. -/
def linkMoreWrong : ChangeSpec := { name := "linkMore", fn := fun _ => fun
  | [d1, d2] => { results := [.lit (.bool false)], args := [d1, d2] }
  | _ => none }
def LinkMoreWrongFalsely : Prop := linkMoreRow.holds Try.pinned (OpenSpec.ofChange linkMoreWrong)

/- THE SECOND FORM. 'bulk': how many values and letters a reading holds, each counted each time it is reached (what is shared counts as often as it is met; a slice's spare places count too). A statement '..UptoSaid' is the law's where the arguments, and the package variables that the reading takes, are together of bulk at most 1048576: NARROWER than '..Said'. Prove '..Said' where nothing that the law and all that it calls make is longer than what came in: it says more and counts as full. Else prove '..UptoSaid'. A law counts once. -/
mutual
def uptoBulk {H : Type} : DataW H → Nat
  | .lit (.string bytes) => bytes.length + 1
  | .lit _ => 1
  | .nil => 1
  | .ptr d => uptoBulk d + 1
  | .slice elems spare => uptoBulkAll elems + uptoBulkAll spare + 1
  | .agg parts => uptoBulkAll parts + 1
  | .iface _ d => uptoBulk d + 1
  | .map entries => uptoBulkEntries entries + 1
  | .held _ => 1
def uptoBulkAll {H : Type} : List (DataW H) → Nat
  | [] => 0
  | d :: r => uptoBulk d + uptoBulkAll r
def uptoBulkEntries {H : Type} : List (Lit × DataW H) → Nat
  | [] => 0
  | x :: r => uptoBulkEntry x + uptoBulkEntries r
def uptoBulkEntry {H : Type} : Lit × DataW H → Nat
  | (.string bytes, d) => bytes.length + uptoBulk d + 1
  | (_, d) => uptoBulk d + 1
 end
def uptoSmall : (H : Type) → List (DataW H) → Bool := fun _ ds => decide (uptoBulkAll ds ≤ 1048576)
def OpenSpec.upto (s : _root_.Go.ChangeSpec) : _root_.Go.OpenSpec := { _root_.Go.OpenSpec.ofChange s with cond := some uptoSmall }

/-- 'cotterlaw07.LinkLinks', WHERE WHAT IT READS IS OF BULK AT MOST 1048576: true; the input reads as it did. -/
def linkLinksUptoRow : OpenClaim := { program := "yteaealmnmmcbpaa", sum := "d15630f94943e07c25ca09c1b39f168719ba6bd5d793dbc72e194cd304d41a38", func := "cotter/cotterlaw07.LinkLinks", spec := "linkLinks", unfollowed := true, recurses := true, apart := false, narrowed := true }
def LinkLinksUptoSaid : Prop := linkLinksUptoRow.holds Try.pinned (OpenSpec.upto linkLinksSpec)

/-- 'cotterlaw07.LinkOrder', WHERE WHAT IT READS IS OF BULK AT MOST 1048576: true; the input reads as it did. -/
def linkOrderUptoRow : OpenClaim := { program := "yteaealmnmmcbpaa", sum := "d15630f94943e07c25ca09c1b39f168719ba6bd5d793dbc72e194cd304d41a38", func := "cotter/cotterlaw07.LinkOrder", spec := "linkOrder", unfollowed := true, recurses := true, apart := false, narrowed := true }
def LinkOrderUptoSaid : Prop := linkOrderUptoRow.holds Try.pinned (OpenSpec.upto linkOrderSpec)

/-- 'cotterlaw07.LinkKeeps', WHERE WHAT IT READS IS OF BULK AT MOST 1048576: true; the input reads as it did. -/
def linkKeepsUptoRow : OpenClaim := { program := "yteaealmnmmcbpaa", sum := "d15630f94943e07c25ca09c1b39f168719ba6bd5d793dbc72e194cd304d41a38", func := "cotter/cotterlaw07.LinkKeeps", spec := "linkKeeps", unfollowed := true, recurses := true, apart := false, narrowed := true }
def LinkKeepsUptoSaid : Prop := linkKeepsUptoRow.holds Try.pinned (OpenSpec.upto linkKeepsSpec)

/-- 'cotterlaw07.LinkLands', WHERE WHAT IT READS IS OF BULK AT MOST 1048576: true; the input reads as it did. -/
def linkLandsUptoRow : OpenClaim := { program := "yteaealmnmmcbpaa", sum := "d15630f94943e07c25ca09c1b39f168719ba6bd5d793dbc72e194cd304d41a38", func := "cotter/cotterlaw07.LinkLands", spec := "linkLands", unfollowed := true, recurses := true, apart := false, narrowed := true }
def LinkLandsUptoSaid : Prop := linkLandsUptoRow.holds Try.pinned (OpenSpec.upto linkLandsSpec)

/-- 'cotterlaw07.LinkNames', WHERE WHAT IT READS IS OF BULK AT MOST 1048576: true; the input reads as it did. -/
def linkNamesUptoRow : OpenClaim := { program := "yteaealmnmmcbpaa", sum := "d15630f94943e07c25ca09c1b39f168719ba6bd5d793dbc72e194cd304d41a38", func := "cotter/cotterlaw07.LinkNames", spec := "linkNames", unfollowed := true, recurses := true, apart := false, narrowed := true }
def LinkNamesUptoSaid : Prop := linkNamesUptoRow.holds Try.pinned (OpenSpec.upto linkNamesSpec)

/-- 'cotterlaw07.LinkMore', WHERE WHAT IT READS IS OF BULK AT MOST 1048576: true; the input reads as it did. -/
def linkMoreUptoRow : OpenClaim := { program := "yteaealmnmmcbpaa", sum := "d15630f94943e07c25ca09c1b39f168719ba6bd5d793dbc72e194cd304d41a38", func := "cotter/cotterlaw07.LinkMore", spec := "linkMore", unfollowed := true, recurses := true, apart := false, narrowed := true }
def LinkMoreUptoSaid : Prop := linkMoreUptoRow.holds Try.pinned (OpenSpec.upto linkMoreSpec)

end Rows
end Go.Proofs.Yteaealmnmmcbpaa
