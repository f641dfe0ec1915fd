/-
  The document's Same says yes of a list and itself (plain Lean). Condition: a list of at most 4000000 instructions.
-/
import Derived.Test.YthmheblilgegcaaDoorAll3
import Derived.Test.YthmheblilgegcaaDoorM13
namespace Go.Proofs.YthmheblilgegcaaDoor.Ins
open Go.RowKit Go.Proofs.YthmheblilgegcaaDoor.M Go.Proofs.YthmheblilgegcaaDoor.Num Go.Proofs.YthmheblilgegcaaDoor.Seven Go.Proofs.YthmheblilgegcaaDoor.Word1 Go.Proofs.YthmheblilgegcaaDoorW.PrintWords Go.Proofs.YthmheblilgegcaaDoorW.PrintLast

theorem same_l0 (l : List S23) (hm : l.length ≤ 4000000) : ∀ (d k i : Nat), l.length - i = d → i ≤ l.length → d < k → cotterref03_Same.l0 k l l i = some true := by
  intro d
  induction d with
  | zero =>
    intro k i hd hi hk
    obtain ⟨k, rfl⟩ : ∃ m, k = m + 1 := ⟨k - 1, by omega⟩
    simp only [cotterref03_Same.l0]
    rw [if_neg (by omega)]
  | succ d ih =>
    intro k i hd hi hk
    obtain ⟨k, rfl⟩ : ∃ m, k = m + 1 := ⟨k - 1, by omega⟩
    simp only [cotterref03_Same.l0]
    rw [if_pos (by omega), if_pos (by omega), if_pos (by omega), if_neg (by simp), wrap64_id (by omega) (by omega), show ((i : Int) + 1) = ((i + 1 : Nat) : Int) by omega]
    exact ih k (i + 1) (by omega) (by omega) (by omega)
theorem same_f (l : List S23) (hm : l.length ≤ 4000000) (k : Nat) (hk : l.length < k) : cotterref03_Same.f k l l = some true := by
  unfold cotterref03_Same.f
  rw [if_pos rfl]
  exact same_l0 l hm l.length k 0 (by omega) (by omega) hk

end Go.Proofs.YthmheblilgegcaaDoor.Ins
