/-
  Small lemmas for the laws of package ins (plain Lean). Condition: the instructions' fields are of 64 bits with a sign.
-/
import Derived.Test.YthmheblilgegcaaDoorForm3
import Derived.Test.YthmheblilgegcaaDoorM7
namespace Go.Proofs.YthmheblilgegcaaDoor.Ins
open Go.RowKit Go.Proofs.YthmheblilgegcaaDoor.M Go.Proofs.YthmheblilgegcaaDoor.Num Go.Proofs.YthmheblilgegcaaDoor.Seven Go.Proofs.YthmheblilgegcaaDoor.Word1 Go.Proofs.YthmheblilgegcaaDoorW.PrintWords Go.Proofs.YthmheblilgegcaaDoorW.PrintLast

def I64 (n : Int) : Prop := -9223372036854775808 ≤ n ∧ n < 9223372036854775808

theorem live_60 : cotterlaw03_live.f 60 = some true := by decide +kernel
theorem live_at {k : Nat} (h : 60 ≤ k) : cotterlaw03_live.f k = some true := at_rounds (fun k => cotterlaw03_live.mono k) h live_60

theorem toList_inj {s t : ByteArray} (h : s.toList = t.toList) : s = t := by
  rw [ByteArray.toList_eq, ByteArray.toList_eq] at h
  cases s; cases t
  simp only at h
  rw [Array.toList_inj.1 h]

theorem encR_ok {op a b n : Int} (h : (encR op a b n).2 = 0) : May op a b n ∧ NFits op n ∧ (encR op a b n).1 = strOfNums (formL op a b n) := by
  unfold encR at h ⊢
  by_cases hM : May op a b n
  · rw [if_pos hM] at h ⊢
    by_cases hN : NFits op n
    · rw [if_pos hN] at h ⊢
      exact ⟨hM, hN, rfl⟩
    · rw [if_neg hN] at h; cases h
  · rw [if_neg hM] at h; cases h

end Go.Proofs.YthmheblilgegcaaDoor.Ins
