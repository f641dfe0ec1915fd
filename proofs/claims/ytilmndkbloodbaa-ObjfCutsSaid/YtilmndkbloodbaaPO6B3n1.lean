/-
  Texts of the proofs of ObjfReads, ObjfBack, ObjfCuts, cut to what the proofs reach and packed by a program of this session (wip/packs.py). Each part begins with what it says; conditions: those told there.
-/
import Derived.Test.YtilmndkbloodbaaPO6A11
/-
  Layer 6: the contracts once more, over objects as values (Ob): for the laws' walks. Conditions: the words of data are of 64 bits; texts of at most 2^48 bytes.
-/
namespace Go.Proofs.Ytilmndkbloodbaa.M
open Go.RowKit Go.Proofs.YtilmndkbloodbaaW.PrintWords Go.Proofs.Ytilmndkbloodbaa.Num Go.Proofs.Ytilmndkbloodbaa.Seven Go.Proofs.Ytilmndkbloodbaa.Word1 Go.Proofs.Ytilmndkbloodbaa.Obj
set_option linter.unusedVariables false
set_option linter.unusedSimpArgs false
/-! ### What the laws lean on -/
theorem rd_back {s : ByteArray} (h : (rdO s).2 = 0) : formO (rdO s).1 = s ∧ mayO (rdO s).1 = true ∧ wordsOk (rdO s).1.2.1 := by
  unfold rdO at *
  cases e : readA s with
  | none => rw [e] at h; simp at h
  | some x =>
    obtain ⟨c, d, y, r⟩ := x
    have hb := read_back e
    refine ⟨?_, hb.2.1, hb.2.2⟩
    unfold formO
    dsimp only
    rw [← hb.1, str_bytesOf]
end Go.Proofs.Ytilmndkbloodbaa.M

/-
  Layer 6: the contracts over objects, case by case, for the laws' walks; and the plain facts of forms (their size, that unlike objects have unlike ones, that a beginning of one is none's). No condition but those told at each.
-/
namespace Go.Proofs.Ytilmndkbloodbaa.M
open Go.RowKit Go.Proofs.YtilmndkbloodbaaW.PrintWords Go.Proofs.Ytilmndkbloodbaa.Num Go.Proofs.Ytilmndkbloodbaa.Seven Go.Proofs.Ytilmndkbloodbaa.Word1 Go.Proofs.Ytilmndkbloodbaa.Obj
set_option linter.unusedVariables false
set_option linter.unusedSimpArgs false
/-! ### Plain -/
theorem rd_two (s : ByteArray) : (rdO s).2 = 0 ∨ (rdO s).2 = 9 := by
  unfold rdO
  cases readA s with
  | none => exact .inr rfl
  | some x => exact .inl rfl
theorem rd_none {s : ByteArray} (h : (rdO s).2 = 9) : rdO s = (emptyO, 9) := by
  unfold rdO at *
  cases e : readA s with
  | none => rfl
  | some x => rw [e] at h; simp at h
/-! ### Case by case -/
end Go.Proofs.Ytilmndkbloodbaa.M

