/-
  Texts of the proofs of MemWords, MemJoins, cut to what the proofs reach and packed by a program of this session (wip/packs.py). Each part begins with what it says; conditions: those told there.
-/
import Derived.Test.YtkanhnhagjopkaaPSA3
/-
  Layer 2, plain: what the document's functions on lists of addresses compute. Conditions: lengths that any memory can hold; 'put' into a rising list.
-/
namespace Go.Proofs.Ytkanhnhagjopkaa.M
open Go.RowKit Go.Proofs.YtkanhnhagjopkaaW.PrintWords Go.Proofs.Ytkanhnhagjopkaa.Num
set_option linter.unusedVariables false
set_option linter.unusedSimpArgs false
theorem up1 (i : Nat) (h : i ≤ 9000000000000000) : wrap64 ((i : Int) + 1) = ((i + 1 : Nat) : Int) := by
  rw [wrap64_id (by omega) (by omega)]
  omega
end Go.Proofs.Ytkanhnhagjopkaa.M

