/-
  InsBack: what is written is read as it was (plain Lean). Conditions: fields of 64 bits with a sign; a text of at most 1048576 bytes.
-/
import Derived.Test.YthmheblilgegcaaDoorAll3
import Derived.Test.YthmheblilgegcaaDoorM16
namespace Go.Proofs.YthmheblilgegcaaDoor.Ins
open Go.RowKit Go.Proofs.YthmheblilgegcaaDoor.M Go.Proofs.YthmheblilgegcaaDoor.Num Go.Proofs.YthmheblilgegcaaDoor.Seven Go.Proofs.YthmheblilgegcaaDoor.Word1 Go.Proofs.YthmheblilgegcaaDoorW.PrintWords Go.Proofs.YthmheblilgegcaaDoorW.PrintLast

theorem rd_at (l : List S23) (i : Nat) (h : i < l.length) : rd_T23 l (i : Int) = l[i] := by
  unfold rd_T23
  rw [Int.toNat_natCast, List.getD_eq_getElem?_getD, List.getElem?_eq_getElem h]
  rfl

theorem encR_formS {i : S23} (h : OkS i) : encR i.f0 i.f1 i.f2 i.f3 = (strOfNums (formS i), 0) := by
  unfold encR formS
  rw [if_pos h.1, if_pos h.2.1]

theorem back_l0 (s : ByteArray) (hs : s.size ≤ 1048576) (l : List S23) (hl : ∀ i ∈ l, OkS i) (hb : bytesOf s = formsS l) (hll : l.length ≤ s.size) : ∀ (d k i : Nat), l.length - i = d → i ≤ l.length → d + 100 < k →
    cotterlaw03_InsBack.l0 k s l (strOfNums (formsS (l.take i))) i = some true := by
  have hbound : ∀ i : Nat, (formsS (l.take i)).length ≤ s.size := by
    intro i
    have h1 := formsS_append (l.take i) (l.drop i)
    rw [List.take_append_drop, ← hb] at h1
    have h2 := congrArg List.length h1
    rw [bytesOf_length, List.length_append] at h2
    omega
  intro d
  induction d with
  | zero =>
    intro k i hd hi hk
    obtain ⟨k, rfl⟩ : ∃ m, k = m + 1 := ⟨k - 1, by omega⟩
    simp only [cotterlaw03_InsBack.l0]
    have e : strOfNums (formsS (l.take i)) = s := by rw [List.take_of_length_le (by omega), ← hb, str_bytesOf]
    rw [if_neg (by omega), e, if_pos rfl, live_at (by omega)]
    rfl
  | succ d ih =>
    intro k i hd hi hk
    obtain ⟨k, rfl⟩ : ∃ m, k = m + 1 := ⟨k - 1, by omega⟩
    simp only [cotterlaw03_InsBack.l0]
    have hlt : i < l.length := by omega
    have hi := hl l[i] (List.getElem_mem hlt)
    have hp := formS_pos hi
    have hbd := hbound i
    rw [if_pos (by omega), if_pos (by omega), rd_at l i hlt, enc_f k (by omega) _ _ _ _ hi.2.2.1 hi.2.2.2, encR_formS hi]
    simp only [Option.bind_some, if_true]
    have e : strOfNums (formsS (l.take i)) ++ strOfNums (formS l[i]) = strOfNums (formsS (l.take (i + 1))) := by
      rw [str_append, List.take_succ_eq_append_getElem hlt, formsS_append]
      congr 2
      simp [formsS]
    rw [if_pos (by rw [strOfNums_size, strOfNums_size]; omega), e, wrap64_id (by omega) (by omega), show ((i : Int) + 1) = ((i + 1 : Nat) : Int) by omega]
    exact ih k (i + 1) (by omega) (by omega) (by omega)

theorem back_j0 (s : ByteArray) (hs : s.size ≤ 1048576) (k : Nat) (hk : s.size + 200 < k) : cotterlaw03_InsBack.j0 k s = some true := by
  obtain ⟨k, rfl⟩ : ∃ m, k = m + 1 := ⟨k - 1, by omega⟩
  simp only [cotterlaw03_InsBack.j0]
  rcases all_f s (by omega) k (by omega) with ⟨is, h1, h2, h3, h4⟩ | h
  · rw [h4]
    simp only [Option.bind_some, if_true]
    have h := back_l0 s hs is h2 h1 h3 is.length k 0 (by omega) (by omega) (by omega)
    simpa [formsS, strOfNums] using h
  · rw [h]
    simp only [Option.bind_some]
    rw [if_neg (by decide), if_pos (by decide), live_at (by omega)]
    rfl

theorem InsBack (a0 a1 a2 a3 : Int) (s : ByteArray) (ha3 : I64 a3) (hs : s.size ≤ 1048576) : cotterlaw03_InsBack.f (s.size + 300) a0 a1 a2 a3 s = some true := by
  unfold cotterlaw03_InsBack.f
  rw [enc_f _ (by omega) _ _ _ _ ha3.1 ha3.2]
  simp only [Option.bind_some]
  have hj := back_j0 s hs (s.size + 300) (by omega)
  by_cases h1 : (encR a0 a1 a2 a3).2 = 0
  · obtain ⟨hM, hN, hE⟩ := encR_ok h1
    have hi : OkS ⟨a0, a1, a2, a3⟩ := ⟨hM, hN, ha3⟩
    have hp := formS_pos hi
    have hp2 : (formL a0 a1 a2 a3).length ≤ 10 := hp.2
    have hfl := formL_len a0 a1 a2 a3 hM.1
    have hd : decR (strOfNums (formL a0 a1 a2 a3)) 0 = (a0, a1, a2, a3, ((formL a0 a1 a2 a3).length : Int), 0) := by
      have h := dec_ok (strOfNums (formL a0 a1 a2 a3)) 0 ⟨a0, a1, a2, a3⟩ [] hi (by omega) (by rw [List.drop_zero, bytesOf_str (formL_bs hM), List.append_nil]; rfl)
      simpa [formS] using h
    rw [if_pos h1, hE, dec_f _ 0 (by rw [strOfNums_size]; omega) _ (by omega), hd]
    simp only [Option.bind_some, if_true]
    rw [if_neg (by simp), strOfNums_size, if_pos rfl, Size_f a0 (s.size + 299)]
    simp only [Option.bind_some]
    rw [if_pos hfl]
    exact hj
  · rw [if_neg h1]
    exact hj

end Go.Proofs.YthmheblilgegcaaDoor.Ins
