/-
  The table that package ins keeps (shapes), as a fact on a world; it holds in every world that keeps what was there. No condition.
-/
import Derived.Test.YtjlfjkpbooholaaDoorWWords
import Derived.Test.YtjlfjkpbooholaaDoorWLast
namespace Go.Proofs.YtjlfjkpbooholaaDoor.M
open Go.RowKit Go.Proofs.YtjlfjkpbooholaaDoorW.PrintWords Go.Proofs.YtjlfjkpbooholaaDoorW.PrintLast

def shapeTab : List Int := [0, 1, 2, 2, 2, 2, 2, 2, 2, 2, 2, 2, 2, 2, 2, 2, 2, 3, 3, 4, 5, 4, 4, 5, 6, 7, 8, 8, 3, 3, 6, 9, 6, 10]
/-- The variable's block (0) holds the table. -/
def Glob (w : World) : Prop := ∀ i, i < 34 → w.cell? ⟨0, i, none⟩ = some (.int .u8 (shapeTab.getD i 0))
theorem Glob.below {B : Nat} {w w' : World} (h : Glob w) (hb : Below B w w') (hB : B = w.heap.size) : Glob w' := by
  subst hB
  intro i hi
  exact pw_cell_below hb (h i hi)
theorem Glob.drawn {w w' : World} (h : Glob w) (hb : Drawn0 w w') : Glob w' := h.below hb.below rfl

end Go.Proofs.YtjlfjkpbooholaaDoor.M
