/-
  WordAll: any numbers, one behind the other, are the document's text; the list is as it was. Conditions: each number is of 64 bits without a sign; at most 1048576 of them (the statement's second form).
-/
import Derived.Test.YtpahpebchjajfaaM6
import Derived.Test.YtpahpebchjajfaaRef1
namespace Go.Proofs.Ytpahpebchjajfaa.Upto
open Go.RowKit Go.Proofs.Ytpahpebchjajfaa.M Go.Proofs.Ytpahpebchjajfaa.Num Go.Proofs.YtpahpebchjajfaaW.PrintWords Go.Proofs.YtpahpebchjajfaaW.PrintLast

def cotterlaw01_WordAll.PureU : Prop := ∀ (l0 : List Int), l0.length ≤ maxLen → l0.length * 8 ≤ 140737488351232 → (∀ x ∈ l0, (Lit.int .u64 x).wf = true) → l0.length ≤ 1048576 → ∃ k, cotterlaw01_WordAll.f k l0 = some true

theorem live_40a : cotterlaw01_live.f 40 = some true := by decide +kernel
theorem live_at {k : Nat} (h : 40 ≤ k) : cotterlaw01_live.f k = some true := at_rounds (fun k => cotterlaw01_live.mono k) h live_40a

theorem same_l0 (l : List Int) (hl : Word1.Us l) (hm : l.length ≤ 1048576) : ∀ (d k i : Nat), l.length - i = d → i ≤ l.length → d + l.length + 60 < k →
    cotterlaw01_WordAll.l0 k l l (strOfNums (Word1.allL l)) i = some true := by
  intro d
  induction d with
  | zero =>
    intro k i hd hi hk
    obtain ⟨k, rfl⟩ : ∃ m, k = m + 1 := ⟨k - 1, by omega⟩
    simp only [cotterlaw01_WordAll.l0]
    rw [if_neg (by omega), Word1.rall_f l hl (by omega) k (by omega)]
    simp only [Option.bind_some, if_true]
    rw [live_at (by omega)]
    rfl
  | succ d ih =>
    intro k i hd hi hk
    obtain ⟨k, rfl⟩ : ∃ m, k = m + 1 := ⟨k - 1, by omega⟩
    simp only [cotterlaw01_WordAll.l0]
    rw [if_pos (by omega), if_pos (by omega), if_pos (by omega)]
    simp only [if_true]
    rw [wrap64_id (by omega) (by omega), show ((i : Int) + 1) = ((i + 1 : Nat) : Int) by omega]
    exact ih k (i + 1) (by omega) (by omega) (by omega)

theorem WordAllUpto : cotterlaw01_WordAll.PureU := by
  intro l _ _ hw hm
  have hl : Word1.Us l := fun x hx => wf_u64 (hw x hx)
  refine ⟨2 * l.length + 100, ?_⟩
  unfold cotterlaw01_WordAll.f
  rw [if_pos (by simp; omega), List.nil_append]
  simp only [Option.bind_some]
  rw [Word1.all_f l hl (by omega) _ (by omega)]
  simp only [Option.bind_some]
  exact same_l0 l hl hm l.length _ 0 (by omega) (by omega) (by omega)

end Go.Proofs.Ytpahpebchjajfaa.Upto
