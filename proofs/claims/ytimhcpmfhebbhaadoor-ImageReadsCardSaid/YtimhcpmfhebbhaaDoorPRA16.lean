/-
  Texts of the proofs of ImageReads, cut to what the proofs reach and packed by a program of this session (wip/packs.py). Each part begins with what it says; conditions: those told there.
-/
import Derived.ChangeArms
import Derived.WideShapes
import Derived.ShutString
namespace Go.Proofs.YtimhcpmfhebbhaaDoor.Flat
open Go.ChangeShapes Go.WideShapes
inductive Leaf
 | int (k : IntKind)
 | bool
 | str
def Leaf.Ok : Leaf → Value → Prop
 | .int k, v => ∃ n, v = .int k n ∧ (Lit.int k n).wf = true
 | .bool, v => ∃ b, v = .bool b
 | .str, v => ∃ s : ByteArray, v = .string s ∧ s.size ≤ maxLen
def AllOk : List Leaf → List Value → Prop
 | [], [] => True
 | l :: ls, v :: vs => l.Ok v ∧ AllOk ls vs
 | _, _ => False
theorem AllOk.append : ∀ {l1 : List Leaf} {c1 : List Value} {l2 : List Leaf} {c2 : List Value}, AllOk l1 c1 → AllOk l2 c2 → AllOk (l1 ++ l2) (c1 ++ c2)
 | [], [], _, _, _, h => h
 | [], _ :: _, _, _, h, _ => h.elim
 | _ :: _, [], _, _, h, _ => h.elim
 | _ :: _, _ :: _, _, _, h, k => ⟨h.1, AllOk.append h.2 k⟩
theorem AllOk.length : ∀ {l : List Leaf} {c : List Value}, AllOk l c → c.length = l.length
 | [], [], _ => rfl
 | [], _ :: _, h => h.elim
 | _ :: _, [], h => h.elim
 | _ :: _, _ :: _, h => by simp [AllOk.length h.2]
theorem AllOk.cons {l : Leaf} {ls : List Leaf} : ∀ {cs : List Value}, AllOk (l :: ls) cs → ∃ v vs, cs = v :: vs ∧ l.Ok v ∧ AllOk ls vs
 | [], h => h.elim
 | v :: vs, h => ⟨v, vs, rfl, h.1, h.2⟩
theorem AllOk.nil : ∀ {cs : List Value}, AllOk [] cs → cs = []
 | [], _ => rfl
 | _ :: _, h => h.elim
def fieldsL (P : Program) (g : TypeId → Option (List Leaf)) : List Field → Nat → Option (List Leaf)
 | [], _ => some []
 | f :: fs, off => if f.offset = off then match g f.type with
  | some l => if l.length = P.cellsOf f.type then (fieldsL P g fs (off + l.length)).map (l ++ ·) else none
  | none => none
  else none
def leaves (P : Program) : Nat → TypeId → Option (List Leaf)
 | 0, _ => none
 | n + 1, t => match P.underlying t with
  | some (.int k) => some [.int k]
  | some .bool => some [.bool]
  | some .string => some [.str]
  | some (.struct fs) => match fieldsL P (leaves P n) fs.toList 0 with
   | some l => if l.length = P.cellsOf t then some l else none
   | none => none
  | some (.array m e) => match leaves P n e with
   | some l => if l.length = P.cellsOf e ∧ P.cellsOf t = m * l.length then some (List.replicate m l).flatten else none
   | none => none
  | _ => none
section
variable {H : Type} {enc : TypeId × Value → H} {P : Program} {w : World} {base : Nat} {spare : Nat → Bool} {held : Bool}
end
end Go.Proofs.YtimhcpmfhebbhaaDoor.Flat
