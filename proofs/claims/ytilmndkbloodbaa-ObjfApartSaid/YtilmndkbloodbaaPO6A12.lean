/-
  Texts of the proofs of ObjfWrites, ObjfReads, ObjfBack, ObjfCuts, ObjfApart, cut to what the proofs reach and packed by a program of this session (wip/packs.py). Each part begins with what it says; conditions: those told there.
-/
import Derived.ChangeArms
import Derived.WideShapes
import Derived.ShutString
import Derived.Lib.SmallJoins
import Derived.Deep.Slices
import Derived.SizedLaws
import Derived.Test.YtilmndkbloodbaaPO6A11
/-
  A value whose type holds nothing but whole numbers, bools and texts, however its structs and arrays are nested, as the reader reads it: its cells one by one. No condition.
-/
namespace Go.Proofs.Ytilmndkbloodbaa.Flat
open Go.ChangeShapes Go.WideShapes

inductive Leaf
  | int (k : IntKind)
  | bool
  | str
def Leaf.Ok : Leaf → Value → Prop
  | .int k, v => ∃ n, v = .int k n ∧ (Lit.int k n).wf = true
  | .bool, v => ∃ b, v = .bool b
  | .str, v => ∃ s : ByteArray, v = .string s ∧ s.size ≤ maxLen
def AllOk : List Leaf → List Value → Prop
  | [], [] => True
  | l :: ls, v :: vs => l.Ok v ∧ AllOk ls vs
  | _, _ => False
theorem AllOk.append : ∀ {l1 : List Leaf} {c1 : List Value} {l2 : List Leaf} {c2 : List Value}, AllOk l1 c1 → AllOk l2 c2 → AllOk (l1 ++ l2) (c1 ++ c2)
  | [], [], _, _, _, h => h
  | [], _ :: _, _, _, h, _ => h.elim
  | _ :: _, [], _, _, h, _ => h.elim
  | _ :: _, _ :: _, _, _, h, k => ⟨h.1, AllOk.append h.2 k⟩
theorem AllOk.length : ∀ {l : List Leaf} {c : List Value}, AllOk l c → c.length = l.length
  | [], [], _ => rfl
  | [], _ :: _, h => h.elim
  | _ :: _, [], h => h.elim
  | _ :: _, _ :: _, h => by simp [AllOk.length h.2]
theorem AllOk.cons {l : Leaf} {ls : List Leaf} : ∀ {cs : List Value}, AllOk (l :: ls) cs → ∃ v vs, cs = v :: vs ∧ l.Ok v ∧ AllOk ls vs
  | [], h => h.elim
  | v :: vs, h => ⟨v, vs, rfl, h.1, h.2⟩
theorem AllOk.nil : ∀ {cs : List Value}, AllOk [] cs → cs = []
  | [], _ => rfl
  | _ :: _, h => h.elim

def fieldsL (P : Program) (g : TypeId → Option (List Leaf)) : List Field → Nat → Option (List Leaf)
  | [], _ => some []
  | f :: fs, off => if f.offset = off then match g f.type with
    | some l => if l.length = P.cellsOf f.type then (fieldsL P g fs (off + l.length)).map (l ++ ·) else none
    | none => none
    else none
def leaves (P : Program) : Nat → TypeId → Option (List Leaf)
  | 0, _ => none
  | n + 1, t => match P.underlying t with
    | some (.int k) => some [.int k]
    | some .bool => some [.bool]
    | some .string => some [.str]
    | some (.struct fs) => match fieldsL P (leaves P n) fs.toList 0 with
      | some l => if l.length = P.cellsOf t then some l else none
      | none => none
    | some (.array m e) => match leaves P n e with
      | some l => if l.length = P.cellsOf e ∧ P.cellsOf t = m * l.length then some (List.replicate m l).flatten else none
      | none => none
    | _ => none

section
variable {H : Type} {enc : TypeId × Value → H} {P : Program} {w : World} {base : Nat} {spare : Nat → Bool} {held : Bool}

end
end Go.Proofs.Ytilmndkbloodbaa.Flat

namespace Go.Proofs.Ytilmndkbloodbaa.M
end Go.Proofs.Ytilmndkbloodbaa.M
/-
  Layer 6: ObjfReads: the walk. Condition: a text of at most 2^47 bytes.
-/
namespace Go.Proofs.Ytilmndkbloodbaa.M
open Go.RowKit Go.Proofs.YtilmndkbloodbaaW.PrintWords Go.Proofs.Ytilmndkbloodbaa.Num Go.Proofs.Ytilmndkbloodbaa.Seven Go.Proofs.Ytilmndkbloodbaa.Word1 Go.Proofs.Ytilmndkbloodbaa.Obj
set_option linter.unusedVariables false
set_option linter.unusedSimpArgs false
/-- The two readings under way: the object a (its data are overwritten), the object b. -/
structure Two (w W : World) (B : Nat) (ga gb : Nat) (q : Obj6) (xs : List Int) (A1 : Option Addr) (c1 : Nat) (A2 : Option Addr) (c2 : Nat) (A3 : Option Addr) (c3 : Nat) (B1 : Option Addr) (d1 : Nat) (B2 : Option Addr) (d2 : Nat) (B3 : Option Addr) (d3 : Nat) : Prop where
  below : Below w.heap.size w W
  boxa : W.heap[ga]? = some (.cells #[.string q.1, .slice A1 q.2.1.length c1, .slice A2 q.2.2.1.length c2, .slice A3 q.2.2.2.length c3] 26 (0, 0))
  boxb : W.heap[gb]? = some (.cells #[.string q.1, .slice B1 q.2.1.length d1, .slice B2 q.2.2.1.length d2, .slice B3 q.2.2.2.length d3] 26 (0, 0))
  ra : Kd.R (Kd.int .i64) 2 W w.heap.size (fun _ => True) (.slice A1 q.2.1.length c1) xs
  len : xs.length = q.2.1.length
  r1 : Kd.R (Kd.int .i64) 2 W B (fun x => B ≤ x) (.slice B1 q.2.1.length d1) q.2.1
  r2 : Kd.R k41 41 W B (fun x => B ≤ x) (.slice B2 q.2.2.1.length d2) q.2.2.1
  r3 : Kd.R k43 43 W B (fun x => B ≤ x) (.slice B3 q.2.2.2.length d3) q.2.2.2
  lo : ∀ g, A1 = some ⟨g, 0, none⟩ → g < ga
  hi : ga < B ∧ B ≤ gb ∧ w.heap.size ≤ ga
section
variable {w W W' : World} {B ga gb : Nat} {q : Obj6} {xs : List Int} {A1 A2 A3 B1 B2 B3 : Option Addr} {c1 c2 c3 d1 d2 d3 : Nat}
theorem Two.put (H : Two w W B ga gb q xs A1 c1 A2 c2 A3 c3 B1 d1 B2 d2 B3 d3) {g : Nat} (hg : A1 = some ⟨g, 0, none⟩) (i x : Int) : Two w (W.setCell ⟨g, i.toNat, none⟩ (.int .i64 x)) B ga gb q (xs.set i.toNat x) A1 c1 A2 c2 A3 c3 B1 d1 B2 d2 B3 d3 := by
  have hlo := H.lo g hg
  have hhi := H.hi
  have hlen := H.len
  have hra := H.ra
  subst hg
  rw [← hlen] at hra
  have hp := Kd.R_put (enc := Value.int .i64) (h1 := fun _ => rfl) hra i x
  have hbase : w.heap.size ≤ g := own_base (Kd.own_of_R H.ra) g rfl
  refine ⟨H.below.setCell hbase _, blk_far H.boxa (by simp; omega) _, blk_far H.boxb (by simp; omega) _, ?_, by rw [List.length_set]; exact hlen, Kd.R_far H.r1 (fun k hk => by simp; omega) _, Kd.R_far H.r2 (fun k hk => by simp; omega) _, Kd.R_far H.r3 (fun k hk => by simp; omega) _, H.lo, H.hi⟩
  rw [← hlen]
  exact hp.1
end
end Go.Proofs.Ytilmndkbloodbaa.M

namespace Go.Proofs.Ytilmndkbloodbaa.M
end Go.Proofs.Ytilmndkbloodbaa.M
namespace Go.Proofs.Ytilmndkbloodbaa.M
end Go.Proofs.Ytilmndkbloodbaa.M
namespace Go.Proofs.Ytilmndkbloodbaa.M
end Go.Proofs.Ytilmndkbloodbaa.M
