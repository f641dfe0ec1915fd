/-
  This session's own words for the walks: a store behind another one in a region that draws its order. No condition.
-/
import Derived.Test.YthmheblilgegcaaDoorWWords
import Derived.Test.YthmheblilgegcaaDoorWLast
namespace Go.Proofs.YthmheblilgegcaaDoorW.PrintLast

/-- A store whose place holds something that may be written: told for any world, so that what was stored before is not looked into. -/
theorem skip_at {P : Program} {ops : Array Oper} {Q : Exit → Act → World → Prop} {oi : Oper} {a : Act} {w : World} {K : Act → World → Prop} {ad : Addr} {old v : Value} (hw : Region.wanted oi (yielded ops a.tmps) = true) (hN : oi.dst = none)
    (hrun : ∀ W : World, W.cell? ad = some old → W.frozen? ad = false → (execOp a.eval oi).run P W = .ok .skip (W.setCell ad v))
    (hc : w.cell? ad = some old) (hf : w.frozen? ad = false) (h : K a (w.setCell ad v)) :
    if Region.wanted oi (yielded ops a.tmps) = true then Oper.wp P oi a w K Q else K (a.put none undef) w :=
  skip_ hw hN (hrun w hc hf) h

end Go.Proofs.YthmheblilgegcaaDoorW.PrintLast
