/-
  InsStarts: code put together of two instructions is both parts' instructions (plain Lean). Condition: the instructions' fields are of 64 bits with a sign.
-/
import Derived.Test.YthmheblilgegcaaDoorAll3
import Derived.Test.YthmheblilgegcaaDoorM18
namespace Go.Proofs.YthmheblilgegcaaDoor.Ins
open Go.RowKit Go.Proofs.YthmheblilgegcaaDoor.M Go.Proofs.YthmheblilgegcaaDoor.Num Go.Proofs.YthmheblilgegcaaDoor.Seven Go.Proofs.YthmheblilgegcaaDoor.Word1 Go.Proofs.YthmheblilgegcaaDoorW.PrintWords Go.Proofs.YthmheblilgegcaaDoorW.PrintLast

theorem InsStarts (a0 a1 a2 a3 b0 b1 b2 b3 : Int) (ha3 : I64 a3) (hb3 : I64 b3) : cotterlaw03_InsStarts.f 200 a0 a1 a2 a3 b0 b1 b2 b3 = some true := by
  unfold cotterlaw03_InsStarts.f
  rw [enc_f 200 (by omega) _ _ _ _ ha3.1 ha3.2, enc_f 200 (by omega) _ _ _ _ hb3.1 hb3.2]
  simp only [Option.bind_some]
  have hl := live_at (k := 199) (by omega)
  by_cases h1 : (encR a0 a1 a2 a3).2 = 0
  · rw [if_pos h1]
    by_cases h2 : (encR b0 b1 b2 b3).2 = 0
    · obtain ⟨hM, hN, hE⟩ := encR_ok h1
      obtain ⟨hM2, hN2, hE2⟩ := encR_ok h2
      have e : ((encR b0 b1 b2 b3).2 != 0) = false := by rw [h2]; rfl
      have hi : OkS ⟨a0, a1, a2, a3⟩ := ⟨hM, hN, ha3⟩
      have hj : OkS ⟨b0, b1, b2, b3⟩ := ⟨hM2, hN2, hb3⟩
      have p1 := formS_pos hi
      have p2 := formS_pos hj
      have hall : ins_All.f 199 (strOfNums (formsS [⟨a0, a1, a2, a3⟩, ⟨b0, b1, b2, b3⟩])) = some ([⟨a0, a1, a2, a3⟩, ⟨b0, b1, b2, b3⟩], 0) := by
        have hlen : (formsS [(⟨a0, a1, a2, a3⟩ : S23), ⟨b0, b1, b2, b3⟩]).length ≤ 20 := by
          simp only [formsS, List.flatMap_cons, List.flatMap_nil, List.append_nil, List.length_append]
          omega
        refine all_forms _ ?_ (by omega) 199 (by omega)
        intro x hx
        simp only [List.mem_cons, List.not_mem_nil, or_false] at hx
        rcases hx with rfl | rfl
        · exact hi
        · exact hj
      have ef : strOfNums (formL a0 a1 a2 a3) ++ strOfNums (formL b0 b1 b2 b3) = strOfNums (formsS [⟨a0, a1, a2, a3⟩, ⟨b0, b1, b2, b3⟩]) := by
        rw [str_append]
        simp [formsS, formS]
      have hz1 : ((formL a0 a1 a2 a3).length : Int) = size (shp a0) := formL_len _ _ _ _ hM.1
      have hz0 : (formL a0 a1 a2 a3).length ≤ 10 := p1.2
      have hz2 : (formL b0 b1 b2 b3).length ≤ 10 := p2.2
      rw [e, hE, hE2]
      simp only [cotterlaw03_InsStarts.j0, Bool.false_eq_true, if_false]
      rw [if_pos (by rw [strOfNums_size, strOfNums_size]; omega), ef, hall]
      simp only [Option.bind_some, if_true, List.length_cons, List.length_nil]
      rw [if_pos (by decide), if_pos (by decide), if_pos (by simp [rd_T23]), if_pos (by decide), if_pos (by simp [rd_T23]), Size_f a0 198]
      simp only [Option.bind_some]
      rw [strOfNums_size, if_pos hz1, hl]
      rfl
    · have e : ((encR b0 b1 b2 b3).2 != 0) = true := by simpa using h2
      rw [e]
      simp only [cotterlaw03_InsStarts.j0, if_true, hl, Option.bind_some]
  · rw [if_neg h1]
    simp only [cotterlaw03_InsStarts.j0, if_true, hl, Option.bind_some]

end Go.Proofs.YthmheblilgegcaaDoor.Ins
