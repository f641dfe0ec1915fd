/-
  InsEncodes: any instruction's form, or that it has none, and its size, are the document's (plain Lean). Condition: the instruction's fields are of 64 bits with a sign.
-/
import Derived.Test.YthmheblilgegcaaDoorRef3
import Derived.Test.YthmheblilgegcaaDoorM11
namespace Go.Proofs.YthmheblilgegcaaDoor.Ins
open Go.RowKit Go.Proofs.YthmheblilgegcaaDoor.M Go.Proofs.YthmheblilgegcaaDoor.Num Go.Proofs.YthmheblilgegcaaDoor.Seven Go.Proofs.YthmheblilgegcaaDoor.Word1 Go.Proofs.YthmheblilgegcaaDoorW.PrintWords Go.Proofs.YthmheblilgegcaaDoorW.PrintLast

theorem InsEncodes (a0 a1 a2 a3 : Int) (ha3 : I64 a3) : cotterlaw03_InsEncodes.f 100 a0 a1 a2 a3 = some true := by
  unfold cotterlaw03_InsEncodes.f
  rw [enc_f 100 (by omega) _ _ _ _ ha3.1 ha3.2, renc_f 100 (by omega) _ _ _ _ ha3.1 ha3.2]
  simp only [Option.bind_some, if_true]
  rw [Size_f a0 99, rSize_f a0 93]
  simp only [Option.bind_some, if_true]
  rw [live_at (by omega)]
  rfl

end Go.Proofs.YthmheblilgegcaaDoor.Ins
