/-
  WordJoined: two lists of numbers one behind the other are read one by one. Conditions: each number is of 64 bits without a sign; at most 1048576 in each list (the statement's second form).
-/
import Derived.Test.YtpahpebchjajfaaM7
import Derived.Test.YtpahpebchjajfaaPut1
namespace Go.Proofs.Ytpahpebchjajfaa.Upto
open Go.RowKit Go.Proofs.Ytpahpebchjajfaa.M Go.Proofs.Ytpahpebchjajfaa.Num Go.Proofs.Ytpahpebchjajfaa.Seven Go.Proofs.YtpahpebchjajfaaW.PrintWords Go.Proofs.YtpahpebchjajfaaW.PrintLast

def cotterlaw01_WordJoined.PureU : Prop := ∀ (l0 : List Int) (l1 : List Int), l0.length ≤ maxLen → l0.length * 8 ≤ 140737488351232 → (∀ x ∈ l0, (Lit.int .u64 x).wf = true) → l1.length ≤ maxLen → l1.length * 8 ≤ 140737488351232 → (∀ x ∈ l1, (Lit.int .u64 x).wf = true) → l0.length ≤ 1048576 → l1.length ≤ 1048576 → ∃ k, cotterlaw01_WordJoined.f k l0 l1 = some true

theorem live_40j : cotterlaw01_live.f 40 = some true := by decide +kernel
theorem live_atj {k : Nat} (h : 40 ≤ k) : cotterlaw01_live.f k = some true := at_rounds (fun k => cotterlaw01_live.mono k) h live_40j

/-- What is read at a place where some number's form begins. -/
theorem take_all (a : List Int) (u : Nat) (r : List Int) (ha : Bs a) (hr : Bs r) (hu : u < 18446744073709551616) :
    Word1.takeR (strOfNums (a ++ (putL u ++ r))) (a.length : Int) = ((u : Int), ((a.length + (putL u).length : Nat) : Int), 0) := by
  unfold Word1.takeR
  rw [if_neg (by rw [strOfNums_size]; simp; omega), bytesOf_str (ha.append ((putL_bs u).append hr)), Int.toNat_natCast, List.drop_left,
    takeL_putL u u 0 r (Nat.le_refl _) (by simpa using hu) (.inl rfl)]
  simp

theorem join_l0 (l : List Int) (hl : Word1.Us l) (hm : l.length ≤ 2097152) : ∀ (d k i : Nat), l.length - i = d → i ≤ l.length → d + 60 < k →
    cotterlaw01_WordJoined.l0 k l (strOfNums (Word1.allL l)) ((Word1.allL (l.take i)).length : Int) i = some true := by
  intro d
  induction d with
  | zero =>
    intro k i hd hi hk
    obtain ⟨k, rfl⟩ : ∃ m, k = m + 1 := ⟨k - 1, by omega⟩
    simp only [cotterlaw01_WordJoined.l0]
    rw [if_neg (by omega), List.take_of_length_le (by omega), strOfNums_size]
    simp only [if_true]
    rw [live_atj (by omega)]
    rfl
  | succ d ih =>
    intro k i hd hi hk
    obtain ⟨k, rfl⟩ : ∃ m, k = m + 1 := ⟨k - 1, by omega⟩
    simp only [cotterlaw01_WordJoined.l0]
    have hlt : i < l.length := by omega
    have hr : rd l (i : Int) = l[i] := by
      unfold rd
      rw [Int.toNat_natCast, List.getD_eq_getElem?_getD, List.getElem?_eq_getElem hlt]
      rfl
    have hu := hl l[i] (List.getElem_mem hlt)
    have hlen := Word1.allL_len l hl
    have e2 : Word1.allL l = Word1.allL (l.take i) ++ (putL l[i].toNat ++ Word1.allL (l.drop (i + 1))) := by
      have h := Word1.allL_append (l.take i) (l.drop i)
      rw [List.take_append_drop] at h
      rw [h, List.drop_eq_getElem_cons hlt]
      simp only [Word1.allL, List.flatMap_cons]
    have e3 : (Word1.allL (l.take (i + 1))).length = (Word1.allL (l.take i)).length + (putL l[i].toNat).length := by
      rw [List.take_succ_eq_append_getElem hlt, Word1.allL_append, List.length_append]
      simp [Word1.allL]
    have hp := putL_pos l[i].toNat
    have ht : word_Take.f k (strOfNums (Word1.allL l)) ((Word1.allL (l.take i)).length : Int) = some (l[i], ((Word1.allL (l.take (i + 1))).length : Int), 0) := by
      rw [Word1.take_f _ _ (by rw [strOfNums_size]; omega) k (by omega), e2, take_all _ _ _ (Word1.allL_bs _) (Word1.allL_bs _) (by omega), e3]
      congr 2
      omega
    rw [if_pos (by omega), ht]
    simp only [Option.bind_some, if_true]
    rw [if_pos (by omega), if_pos hr.symm, if_neg (by omega), wrap64_id (by omega) (by omega), show ((i : Int) + 1) = ((i + 1 : Nat) : Int) by omega]
    exact ih k (i + 1) (by omega) (by omega) (by omega)

theorem WordJoinedUpto : cotterlaw01_WordJoined.PureU := by
  intro a b _ _ ha _ _ hb hma hmb
  have hla : Word1.Us a := fun x hx => wf_u64 (ha x hx)
  have hlb : Word1.Us b := fun x hx => wf_u64 (hb x hx)
  have hl : Word1.Us (a ++ b) := by
    intro x hx
    rcases List.mem_append.1 hx with h | h
    · exact hla x h
    · exact hlb x h
  have na := Word1.allL_len a hla
  have nb := Word1.allL_len b hlb
  refine ⟨2 * a.length + 2 * b.length + 100, ?_⟩
  unfold cotterlaw01_WordJoined.f
  rw [if_pos (by simp; omega), List.nil_append]
  simp only [Option.bind_some]
  rw [if_pos (by omega), Word1.all_f a hla (by omega) _ (by omega), Word1.all_f b hlb (by omega) _ (by omega), Word1.all_f (a ++ b) hl (by rw [List.length_append]; omega) _ (by rw [List.length_append]; omega)]
  simp only [Option.bind_some]
  rw [if_pos (by rw [strOfNums_size, strOfNums_size]; omega), str_append, ← Word1.allL_append]
  simp only [if_true]
  exact join_l0 (a ++ b) hl (by rw [List.length_append]; omega) (a ++ b).length _ 0 (by omega) (by omega) (by rw [List.length_append]; omega)

end Go.Proofs.Ytpahpebchjajfaa.Upto
