/-
  InsApart: unlike instructions have unlike forms, and none is the beginning of another one's (plain Lean). Condition: the instructions' fields are of 64 bits with a sign.
-/
import Derived.Test.YthmheblilgegcaaDoorForm3
import Derived.Test.YthmheblilgegcaaDoorM10
import Derived.Test.YthmheblilgegcaaDoorM12
namespace Go.Proofs.YthmheblilgegcaaDoor.Ins
open Go.RowKit Go.Proofs.YthmheblilgegcaaDoor.M Go.Proofs.YthmheblilgegcaaDoor.Num Go.Proofs.YthmheblilgegcaaDoor.Seven Go.Proofs.YthmheblilgegcaaDoor.Word1 Go.Proofs.YthmheblilgegcaaDoorW.PrintWords Go.Proofs.YthmheblilgegcaaDoorW.PrintLast

def I64 (n : Int) : Prop := -9223372036854775808 ≤ n ∧ n < 9223372036854775808

theorem live_60 : cotterlaw03_live.f 60 = some true := by decide +kernel
theorem live_at {k : Nat} (h : 60 ≤ k) : cotterlaw03_live.f k = some true := at_rounds (fun k => cotterlaw03_live.mono k) h live_60

theorem toList_inj {s t : ByteArray} (h : s.toList = t.toList) : s = t := by
  rw [ByteArray.toList_eq, ByteArray.toList_eq] at h
  cases s; cases t
  simp only at h
  rw [Array.toList_inj.1 h]

theorem encR_ok {op a b n : Int} (h : (encR op a b n).2 = 0) : May op a b n ∧ NFits op n ∧ (encR op a b n).1 = strOfNums (formL op a b n) := by
  unfold encR at h ⊢
  by_cases hM : May op a b n
  · rw [if_pos hM] at h ⊢
    by_cases hN : NFits op n
    · rw [if_pos hN] at h ⊢
      exact ⟨hM, hN, rfl⟩
    · rw [if_neg hN] at h; cases h
  · rw [if_neg hM] at h; cases h

theorem InsApart (a0 a1 a2 a3 b0 b1 b2 b3 : Int) (ha3 : I64 a3) (hb3 : I64 b3) : cotterlaw03_InsApart.f 100 a0 a1 a2 a3 b0 b1 b2 b3 = some true := by
  unfold cotterlaw03_InsApart.f
  rw [enc_f 100 (by omega) _ _ _ _ ha3.1 ha3.2, enc_f 100 (by omega) _ _ _ _ hb3.1 hb3.2]
  simp only [Option.bind_some]
  have hl := live_at (k := 99) (by omega)
  by_cases h1 : (encR a0 a1 a2 a3).2 = 0
  · rw [if_pos h1]
    by_cases h2 : (encR b0 b1 b2 b3).2 = 0
    · rw [if_pos h2]
      by_cases h3 : (a0 == b0 && (a1 == b1 && (a2 == b2 && (a3 == b3)))) = true
      · rw [if_pos h3]
        simp only [cotterlaw03_InsApart.j0, if_true, hl, Option.bind_some]
      · rw [if_neg h3]
        obtain ⟨hM, hN, hE⟩ := encR_ok h1
        obtain ⟨hM2, hN2, hE2⟩ := encR_ok h2
        simp only [cotterlaw03_InsApart.j0]
        rw [hE, hE2]
        by_cases h4 : ((strOfNums (formL a0 a1 a2 a3)).size : Int) > ((strOfNums (formL b0 b1 b2 b3)).size : Int)
        · rw [if_pos (decide_eq_true h4), hl]
          rfl
        · have e : decide (((strOfNums (formL a0 a1 a2 a3)).size : Int) > ((strOfNums (formL b0 b1 b2 b3)).size : Int)) = false := decide_eq_false h4
          rw [e, if_neg (by decide), if_pos (by omega), if_pos (by omega), Int.toNat_natCast, if_neg, hl]
          · rfl
          · intro h
            have h' := toList_inj h
            have h5 := congrArg bytesOf h'
            rw [bytesOf_extract, List.drop_zero, bytesOf_str (formL_bs hM), bytesOf_str (formL_bs hM2), strOfNums_size, Nat.sub_zero] at h5
            have g1 := decL_form [] hM2 hN2 hb3.1 hb3.2
            have g2 := decL_form ((formL b0 b1 b2 b3).drop (formL a0 a1 a2 a3).length) hM hN ha3.1 ha3.2
            rw [List.append_nil] at g1
            have e2 : formL a0 a1 a2 a3 ++ (formL b0 b1 b2 b3).drop (formL a0 a1 a2 a3).length = formL b0 b1 b2 b3 := by
              conv => lhs; lhs; rw [← h5]
              exact List.take_append_drop _ _
            rw [e2, g1] at g2
            simp only [Option.some.injEq, Prod.mk.injEq] at g2
            obtain ⟨rfl, rfl, rfl, rfl⟩ := g2
            simp at h3
    · rw [if_neg h2]
      simp only [cotterlaw03_InsApart.j0, if_true, hl, Option.bind_some]
  · rw [if_neg h1]
    simp only [cotterlaw03_InsApart.j0, if_true, hl, Option.bind_some]

end Go.Proofs.YthmheblilgegcaaDoor.Ins
