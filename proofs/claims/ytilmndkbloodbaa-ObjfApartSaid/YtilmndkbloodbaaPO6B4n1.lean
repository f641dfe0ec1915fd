/-
  Texts of the proofs of ObjfBack, ObjfCuts, ObjfApart, cut to what the proofs reach and packed by a program of this session (wip/packs.py). Each part begins with what it says; conditions: those told there.
-/
import Derived.Test.YtilmndkbloodbaaPO6B2n1
/-
  Layer 6: the contracts over objects, case by case, for the laws' walks; and the plain facts of forms (their size, that unlike objects have unlike ones, that a beginning of one is none's). No condition but those told at each.
-/
namespace Go.Proofs.Ytilmndkbloodbaa.M
open Go.RowKit Go.Proofs.YtilmndkbloodbaaW.PrintWords Go.Proofs.Ytilmndkbloodbaa.Num Go.Proofs.Ytilmndkbloodbaa.Seven Go.Proofs.Ytilmndkbloodbaa.Word1 Go.Proofs.Ytilmndkbloodbaa.Obj
set_option linter.unusedVariables false
set_option linter.unusedSimpArgs false
/-! ### Plain -/
theorem empty_append (a : ByteArray) : a ++ (⟨#[]⟩ : ByteArray) = a := bytesOf_inj (by rw [bytesOf_append, show bytesOf (⟨#[]⟩ : ByteArray) = [] from rfl, List.append_nil])
theorem rd_formO {o : Obj6} (hm : mayO o = true) (hw : wordsOk o.2.1) : rdO (formO o) = (o, 0) := by
  have h := rd_form hm hw ⟨#[]⟩
  rw [empty_append, if_pos (show (⟨#[]⟩ : ByteArray).size = 0 from rfl)] at h
  exact h
/-! ### Case by case -/
theorem write_yes {w : World} {v : Value} {o : Obj6} (h : Ob w v o) (hw : wordsOk o.2.1) (hm : mayO o = true) : Calls Try.prog 11 #[v] w fun e w' => e = .returned (.tuple #[.string (formO o), .int .i64 0]) ∧ Below w.heap.size w w' := by
  have := write_c h hw
  unfold wrO at this
  rw [if_pos hm] at this
  exact this
theorem write_no {w : World} {v : Value} {o : Obj6} (h : Ob w v o) (hw : wordsOk o.2.1) (hm : mayO o = false) : Calls Try.prog 11 #[v] w fun e w' => e = .returned (.tuple #[.string ⟨#[]⟩, .int .i64 1]) ∧ Below w.heap.size w w' := by
  have := write_c h hw
  unfold wrO at this
  rw [if_neg (by rw [hm]; simp)] at this
  exact this
end Go.Proofs.Ytilmndkbloodbaa.M

