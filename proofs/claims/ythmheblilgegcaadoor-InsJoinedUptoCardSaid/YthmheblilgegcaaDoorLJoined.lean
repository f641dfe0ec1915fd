/-
  InsJoined: two texts one behind the other are the instructions of both (plain Lean). Condition: texts of at most 1048576 bytes.
-/
import Derived.Test.YthmheblilgegcaaDoorSame3
import Derived.Test.YthmheblilgegcaaDoorM17
namespace Go.Proofs.YthmheblilgegcaaDoor.Ins
open Go.RowKit Go.Proofs.YthmheblilgegcaaDoor.M Go.Proofs.YthmheblilgegcaaDoor.Num Go.Proofs.YthmheblilgegcaaDoor.Seven Go.Proofs.YthmheblilgegcaaDoor.Word1 Go.Proofs.YthmheblilgegcaaDoorW.PrintWords Go.Proofs.YthmheblilgegcaaDoorW.PrintLast

theorem InsJoined (s t : ByteArray) (hs : s.size ≤ 1048576) (ht : t.size ≤ 1048576) : cotterlaw03_InsJoined.f (s.size + t.size + 300) s t = some true := by
  unfold cotterlaw03_InsJoined.f
  have hl := live_at (k := s.size + t.size + 299) (by omega)
  have hj : ∀ a b, cotterlaw03_InsJoined.j0 (s.size + t.size + 300) s t a b true = some true := by
    intro a b
    simp only [cotterlaw03_InsJoined.j0, if_true, hl, Option.bind_some]
  rcases all_f s (by omega) (s.size + t.size + 300) (by omega) with ⟨a, a1, a2, a3, a4⟩ | h
  · rw [a4]
    simp only [Option.bind_some]
    rcases all_f t (by omega) (s.size + t.size + 300) (by omega) with ⟨b, b1, b2, b3, b4⟩ | h
    · rw [b4]
      simp only [Option.bind_some, if_true]
      have e : ((0 : Int) != 0) = false := rfl
      rw [e]
      simp only [cotterlaw03_InsJoined.j0, Bool.false_eq_true, if_false]
      have hfl : (formsS (a ++ b)).length = s.size + t.size := by rw [formsS_append, List.length_append, ← a1, ← b1, bytesOf_length, bytesOf_length]
      have est : s ++ t = strOfNums (formsS (a ++ b)) := by rw [formsS_append, ← a1, ← b1, ← str_append, str_bytesOf, str_bytesOf]
      rw [if_pos (by omega), est, all_forms (a ++ b) (by
        intro i hi
        rcases List.mem_append.1 hi with h | h
        · exact a2 i h
        · exact b2 i h) (by omega) _ (by omega)]
      simp only [Option.bind_some, List.nil_append, List.length_nil]
      rw [if_pos (by omega), if_pos (by omega), if_pos trivial, same_f (a ++ b) (by rw [List.length_append]; omega) _ (by rw [List.length_append]; omega)]
      simp only [Option.bind_some, if_true, hl]
    · rw [h]
      simp only [Option.bind_some, if_true]
      have e : ((9 : Int) != 0) = true := rfl
      rw [e]
      exact hj _ _
  · rw [h]
    simp only [Option.bind_some]
    rcases all_f t (by omega) (s.size + t.size + 300) (by omega) with ⟨b, b1, b2, b3, b4⟩ | h
    · rw [b4]
      simp only [Option.bind_some]
      rw [if_neg (by decide)]
      exact hj _ _
    · rw [h]
      simp only [Option.bind_some]
      rw [if_neg (by decide)]
      exact hj _ _

end Go.Proofs.YthmheblilgegcaaDoor.Ins
