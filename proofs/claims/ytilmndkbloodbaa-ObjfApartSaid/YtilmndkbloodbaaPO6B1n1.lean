/-
  Texts of the proofs of ObjfWrites, ObjfReads, ObjfBack, ObjfApart, cut to what the proofs reach and packed by a program of this session (wip/packs.py). Each part begins with what it says; conditions: those told there.
-/
import Derived.Test.YtilmndkbloodbaaPO6A11
/-
  Layer 6: the contracts over objects, case by case, for the laws' walks; and the plain facts of forms (their size, that unlike objects have unlike ones, that a beginning of one is none's). No condition but those told at each.
-/
namespace Go.Proofs.Ytilmndkbloodbaa.M
open Go.RowKit Go.Proofs.YtilmndkbloodbaaW.PrintWords Go.Proofs.Ytilmndkbloodbaa.Num Go.Proofs.Ytilmndkbloodbaa.Seven Go.Proofs.Ytilmndkbloodbaa.Word1 Go.Proofs.Ytilmndkbloodbaa.Obj
set_option linter.unusedVariables false
set_option linter.unusedSimpArgs false
/-! ### Plain -/
/-! ### Case by case -/
theorem same_yes {w : World} {v v' : Value} {o p : Obj6} (h : Ob w v o) (h' : Ob w v' p) (z1 : o.2.1.length ≤ 9223372036854775806) (z2 : o.2.2.1.length ≤ 9223372036854775806) (z3 : o.2.2.2.length ≤ 9223372036854775806) (e : o = p) : Calls Try.prog 15 #[v, v'] w fun e w' => e = .returned (.bool true) ∧ Below w.heap.size w w' :=
  (same_c h h' z1 z2 z3).mono fun x w' ⟨b, hi, h1, h2⟩ => ⟨by rw [h1, hi.2 e], h2⟩
end Go.Proofs.Ytilmndkbloodbaa.M

