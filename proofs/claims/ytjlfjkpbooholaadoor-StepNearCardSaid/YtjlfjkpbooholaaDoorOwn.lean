/-
  This session's own words for the walks: a call's and a builtin's gate, shifts as Go tells them, a store behind another one in a region that draws its order. No condition.
-/
import Derived.Test.YtjlfjkpbooholaaDoorWWords
import Derived.Test.YtjlfjkpbooholaaDoorWLast
namespace Go.Proofs.YtjlfjkpbooholaaDoorW.PrintWords
open Go.RowKit

section
variable {P : Program} {ops : Array Oper} {rest : List Oper} {o : Oper} {a : Act} {Q : Exit → Act → World → Prop} {W : World}
theorem gate_callee {f : FuncId} {as : Array Operand} {ts : Array TypeId} (_ho : o.op = .call { callee := .value (.func f), args := as, argTypes := ts })
    (h : wpList P ops Q (o :: rest) a W) : wpList P ops Q (o :: rest) a W := h
theorem gate_builtin {b : Builtin} {xs : Array Operand} {ts : Array TypeId} (_ho : o.op = .call { callee := .builtin b, args := xs, argTypes := ts })
    (h : wpList P ops Q (o :: rest) a W) : wpList P ops Q (o :: rest) a W := h
end
theorem drewN_self (w : World) (n : Nat) : w.drewN n = w.drewN n := rfl
def shl (k : IntKind) (x y : Int) : Int := k.wrap (x * 2 ^ min y.toNat k.bits)
def shr (k : IntKind) (x y : Int) : Int := x / 2 ^ min y.toNat k.bits
theorem shl_small {k : IntKind} {x y j : Int} (h : shl k x y = j) (hy : y ≤ k.bits) : k.wrap (x * 2 ^ y.toNat) = j := by
  subst h
  unfold shl
  rw [Nat.min_eq_left (by omega)]
theorem shr_small {k : IntKind} {x y j : Int} (h : shr k x y = j) (hy : y ≤ k.bits) : x / 2 ^ y.toNat = j := by
  subst h
  unfold shr
  rw [Nat.min_eq_left (by omega)]
end Go.Proofs.YtjlfjkpbooholaaDoorW.PrintWords

namespace Go.Proofs.YtjlfjkpbooholaaDoorW.PrintLast
/-- A store whose place holds something that may be written: told for any world, so that what was stored before is not looked into. -/
theorem skip_at {P : Program} {ops : Array Oper} {Q : Exit → Act → World → Prop} {oi : Oper} {a : Act} {w : World} {K : Act → World → Prop} {ad : Addr} {old v : Value} (hw : Region.wanted oi (yielded ops a.tmps) = true) (hN : oi.dst = none)
    (hrun : ∀ W : World, W.cell? ad = some old → W.frozen? ad = false → (execOp a.eval oi).run P W = .ok .skip (W.setCell ad v))
    (hc : w.cell? ad = some old) (hf : w.frozen? ad = false) (h : K a (w.setCell ad v)) :
    if Region.wanted oi (yielded ops a.tmps) = true then Oper.wp P oi a w K Q else K (a.put none undef) w :=
  skip_ hw hN (hrun w hc hf) h
end Go.Proofs.YtjlfjkpbooholaaDoorW.PrintLast
