/-
  What the document's Size and Encode (cotterref03) answer is what the program's do (plain Lean). Conditions: an instruction's fields are of 64 bits with a sign.
-/
import Derived.Test.YthmheblilgegcaaDoorLib3
import Derived.Test.YthmheblilgegcaaDoorRefB1
import Derived.Test.YthmheblilgegcaaDoorM8
import Derived.Test.YthmheblilgegcaaDoorM9
import Derived.Test.YthmheblilgegcaaDoorM10
import Derived.Test.YthmheblilgegcaaDoorM11
namespace Go.Proofs.YthmheblilgegcaaDoor.Ins
open Go.RowKit Go.Proofs.YthmheblilgegcaaDoor.M Go.Proofs.YthmheblilgegcaaDoor.Num Go.Proofs.YthmheblilgegcaaDoor.Seven Go.Proofs.YthmheblilgegcaaDoor.Word1 Go.Proofs.YthmheblilgegcaaDoorW.PrintWords Go.Proofs.YthmheblilgegcaaDoorW.PrintLast

theorem form_f (op : Int) (k : Nat) : cotterref03_form.f (k + 7) op = some (shp op) := by
  by_cases h0 : op < 0 ∨ op ≥ 34
  · have hs : shp op = 0 := by
      unfold shp
      rcases h0 with h | h
      · rw [if_pos h]
      · rw [if_neg (by omega), if_pos h]
    rw [hs]
    have hn : ∀ c : Int, 0 ≤ c → c < 34 → (op == c) = false := by
      intro c h1 h2
      have : op ≠ c := by omega
      simpa using this
    have hn' : ∀ c : Int, 0 ≤ c → c < 34 → ¬ op = c := by
      intro c h1 h2
      omega
    have hj : cotterref03_form.j0 (k + 7) op false = some 0 := by
      simp only [cotterref03_form.j0, cotterref03_form.j1, cotterref03_form.j2, cotterref03_form.j3, cotterref03_form.j4, cotterref03_form.j5]
      simp only [hn 29 (by omega) (by omega), hn 22 (by omega) (by omega), hn 23 (by omega) (by omega), hn 32 (by omega) (by omega), hn 27 (by omega) (by omega), hn' 17 (by omega) (by omega), hn' 18 (by omega) (by omega), hn' 28 (by omega) (by omega),
        hn' 19 (by omega) (by omega), hn' 21 (by omega) (by omega), hn' 20 (by omega) (by omega), hn' 24 (by omega) (by omega), hn' 30 (by omega) (by omega), hn' 25 (by omega) (by omega), hn' 26 (by omega) (by omega), hn' 31 (by omega) (by omega), hn' 33 (by omega) (by omega),
        Bool.false_eq_true, if_false]
    unfold cotterref03_form.f
    rw [if_neg (by omega)]
    by_cases h2 : op ≥ 2
    · rw [if_pos h2, decide_eq_false (by omega)]
      exact hj
    · rw [if_neg h2]
      exact hj
  · have key : ∀ i : Fin 34, cotterref03_form.f 7 (i.val : Int) = some (shp (i.val : Int)) := by decide +kernel
    have h := key ⟨op.toNat, by omega⟩
    simp only at h
    rw [show ((op.toNat : Nat) : Int) = op by omega] at h
    exact at_rounds (fun k => cotterref03_form.mono op k) (show 7 ≤ k + 7 by omega) h

theorem parts_f {s : Int} (h0 : 0 ≤ s) (h1 : s ≤ 10) (k : Nat) : cotterref03_parts.f (k + 1) s = some (decide (regs s > 0), decide (regs s = 2), width s) := by
  rcases eleven h0 h1 with rfl | rfl | rfl | rfl | rfl | rfl | rfl | rfl | rfl | rfl | rfl <;> rfl

theorem rSize_f (op : Int) (k : Nat) : cotterref03_Size.f (k + 7) op = some (size (shp op)) := by
  have hr := shp_range op
  unfold cotterref03_Size.f
  rw [form_f]
  simp only [Option.bind_some]
  generalize shp op = s at *
  by_cases hz : s = 0
  · rw [if_pos hz]; subst hz; rfl
  · rw [if_neg hz, parts_f hr.1 hr.2]
    simp only [Option.bind_some, decide_eq_true_eq]
    have hw := width_nonneg s
    unfold size
    rw [if_neg hz]
    by_cases hp : regs s > 0
    · rw [if_pos hp, if_pos hp, wrap64_id (n := width s + 1) (by omega) (by omega), wrap64_id (by omega) (by omega)]
      congr 1
      omega
    · rw [if_neg hp, if_neg hp, wrap64_id (by omega) (by omega)]

theorem renc_j2 (k : Nat) (hk : 14 < k) (s n : Int) (x : List Int) (op a b : Int) (hn0 : -9223372036854775808 ≤ n) (hn1 : n < 9223372036854775808) (hx : x.length < 1000) :
    cotterref03_Encode.j2 k (width s) (strOfNums x) op a b n = some (if width s > 0 → Fits n (width s) then (strOfNums (x ++ leL n (width s).toNat), 0) else (⟨#[]⟩, 7)) := by
  obtain ⟨k, rfl⟩ : ∃ m, k = m + 1 := ⟨k - 1, by omega⟩
  have hw := width_nonneg s
  have hwc := width_cases s
  simp only [cotterref03_Encode.j2]
  by_cases hp : width s > 0
  · rw [if_pos hp, rbytes_f n (width s) hn0 hn1 _ (by omega)]
    simp only [Option.bind_some]
    have hz : width s = 1 ∨ width s = 4 ∨ width s = 8 := by omega
    unfold bytesR
    rw [if_pos hz]
    by_cases hF : Fits n (width s)
    · rw [if_pos hF, if_pos (fun _ => hF)]
      simp only [if_true]
      rw [strOfNums_size, strOfNums_size, leL_len, if_pos (by omega), str_append]
    · have hno : ¬ (width s > 0 → Fits n (width s)) := fun h => hF (h hp)
      rw [if_neg hF, if_neg hno]
      simp
  · rw [if_neg hp, if_pos (fun h => absurd h hp), show (width s).toNat = 0 by omega]
    simp [leL]

theorem renc_j1 (k : Nat) (hk : 16 < k) (s n op a b : Int) (hop : 0 ≤ op ∧ op < 34) (ha : 0 ≤ a ∧ a < 8) (hb : 0 ≤ b ∧ b < 8) (hn0 : -9223372036854775808 ≤ n) (hn1 : n < 9223372036854775808) :
    cotterref03_Encode.j1 k (decide (regs s > 0)) (decide (regs s = 2)) (width s) false op a b n = some (if width s > 0 → Fits n (width s) then (strOfNums (op :: (regL s a b ++ leL n (width s).toNat)), 0) else (⟨#[]⟩, 7)) := by
  obtain ⟨k, rfl⟩ : ∃ m, k = m + 1 := ⟨k - 1, by omega⟩
  have hrc := regs_cases s
  simp only [cotterref03_Encode.j1, Bool.false_eq_true, if_false, Option.bind_some, decide_eq_true_eq]
  rw [show op % 256 = op by omega]
  unfold regL
  by_cases h2 : regs s = 2
  · rw [if_pos h2, if_neg (show ¬ regs s = 1 by omega), if_pos h2, if_pos (by rw [strOfNums_size, strOfNums_size]; simp), str_append, renc_j2 k (by omega) s n _ op a b hn0 hn1 (by simp)]
    have e : wrap64 (wrap64 (16 * a) + b) % 256 = 16 * a + b := by
      rw [wrap64_id (n := 16 * a) (by omega) (by omega), wrap64_id (by omega) (by omega)]
      omega
    rw [e]
    simp
  · rw [if_neg h2]
    by_cases h1 : regs s > 0
    · rw [if_pos h1, if_pos (show regs s = 1 by omega), if_pos (by rw [strOfNums_size, strOfNums_size]; simp), str_append, renc_j2 k (by omega) s n _ op a b hn0 hn1 (by simp), show a % 256 = a by omega]
      simp
    · rw [if_neg h1, if_neg (show ¬ regs s = 1 by omega), if_neg h2, renc_j2 k (by omega) s n _ op a b hn0 hn1 (by simp)]
      simp

theorem renc_f (k : Nat) (hk : 30 < k) (op a b n : Int) (hn0 : -9223372036854775808 ≤ n) (hn1 : n < 9223372036854775808) : cotterref03_Encode.f k op a b n = some (encR op a b n) := by
  obtain ⟨k, rfl⟩ : ∃ m, k = m + 7 := ⟨k - 7, by omega⟩
  have hr := shp_range op
  have hbad : ∀ c, ¬ May op a b n → c = true → cotterref03_Encode.j0 (k + 7) (shp op) (decide (regs (shp op) > 0)) (decide (regs (shp op) = 2)) (width (shp op)) c op a b n = some (encR op a b n) := by
    intro c hM hc
    subst hc
    unfold encR
    rw [if_neg hM]
    simp [cotterref03_Encode.j0]
  have hgood : May op a b n → cotterref03_Encode.j0 (k + 7) (shp op) (decide (regs (shp op) > 0)) (decide (regs (shp op) = 2)) (width (shp op)) false op a b n = some (encR op a b n) := by
    intro hM
    have hop := shp_pos hM.1
    have hj := renc_j1 (k + 6) (by omega) (shp op) n op a b hop ⟨hM.2.1, hM.2.2.1⟩ ⟨hM.2.2.2.1, hM.2.2.2.2.1⟩ hn0 hn1
    have htrue : cotterref03_Encode.j1 (k + 6) (decide (regs (shp op) > 0)) (decide (regs (shp op) = 2)) (width (shp op)) true op a b n = some (⟨#[]⟩, 7) := by simp [cotterref03_Encode.j1]
    unfold encR
    rw [if_pos hM]
    simp only [cotterref03_Encode.j0, Bool.false_eq_true, if_false]
    by_cases ht : shp op = 10
    · rw [if_pos ht]
      by_cases hn : n < 0
      · rw [if_pos hn, if_neg (fun h : NFits op n => h.1 ⟨ht, hn⟩)]
        exact htrue
      · rw [if_neg hn]
        by_cases h127 : n > 127
        · have hw1 : width (shp op) = 1 := by rw [ht]; rfl
          have hno : ¬ NFits op n := by
            intro h
            have := h.2 (by omega)
            rw [hw1] at this
            unfold Fits at this
            omega
          rw [decide_eq_true h127, if_neg hno]
          exact htrue
        · rw [decide_eq_false h127, hj]
          by_cases hF : width (shp op) > 0 → Fits n (width (shp op))
          · rw [if_pos hF, if_pos (show NFits op n from ⟨fun h => hn h.2, hF⟩)]; rfl
          · rw [if_neg hF, if_neg (fun h : NFits op n => hF h.2)]
    · rw [if_neg ht, hj]
      by_cases hF : width (shp op) > 0 → Fits n (width (shp op))
      · rw [if_pos hF, if_pos (show NFits op n from ⟨fun h => ht h.1, hF⟩)]; rfl
      · rw [if_neg hF, if_neg (fun h : NFits op n => hF h.2)]
  have hlast : (shp op ≠ 0 ∧ 0 ≤ a ∧ a < 8 ∧ 0 ≤ b ∧ b < 8 ∧ (regs (shp op) < 2 → b = 0) ∧ (regs (shp op) < 1 → a = 0)) →
      (if width (shp op) = 0 then cotterref03_Encode.j0 (k + 7) (shp op) (decide (regs (shp op) > 0)) (decide (regs (shp op) = 2)) (width (shp op)) (n != 0) op a b n else cotterref03_Encode.j0 (k + 7) (shp op) (decide (regs (shp op) > 0)) (decide (regs (shp op) = 2)) (width (shp op)) false op a b n) = some (encR op a b n) := by
    intro ⟨q1, q2, q3, q4, q5, q6, q7⟩
    by_cases hw : width (shp op) = 0
    · rw [if_pos hw]
      by_cases hn : n = 0
      · have e : (n != 0) = false := by simpa using hn
        rw [e]
        exact hgood ⟨q1, q2, q3, q4, q5, q6, q7, fun _ => hn⟩
      · have e : (n != 0) = true := by simpa using hn
        exact hbad _ (fun h => hn (h.2.2.2.2.2.2.2 hw)) e
    · rw [if_neg hw]
      exact hgood ⟨q1, q2, q3, q4, q5, q6, q7, fun h => absurd h hw⟩
  have hrc := regs_cases (shp op)
  unfold cotterref03_Encode.f
  rw [form_f]
  simp only [Option.bind_some]
  rw [parts_f (k := k + 6) hr.1 hr.2]
  simp only [Option.bind_some]
  by_cases h0 : shp op = 0
  · rw [if_pos h0]
    exact hbad _ (fun h => h.1 h0) rfl
  rw [if_neg h0]
  by_cases a1 : a < 0
  · rw [if_pos a1]; exact hbad _ (fun h => by have := h.2.1; omega) rfl
  rw [if_neg a1]
  by_cases a2 : a > 7
  · rw [if_pos a2]; exact hbad _ (fun h => by have := h.2.2.1; omega) rfl
  rw [if_neg a2]
  by_cases b1 : b < 0
  · rw [if_pos b1]; exact hbad _ (fun h => by have := h.2.2.2.1; omega) rfl
  rw [if_neg b1]
  by_cases b2 : b > 7
  · rw [if_pos b2]; exact hbad _ (fun h => by have := h.2.2.2.2.1; omega) rfl
  rw [if_neg b2]
  simp only [decide_eq_true_eq]
  by_cases hp : regs (shp op) > 0
  · rw [if_pos hp]
    by_cases h2 : regs (shp op) = 2
    · rw [if_pos h2]
      exact hlast ⟨h0, by omega, by omega, by omega, by omega, fun h => by omega, fun h => by omega⟩
    · rw [if_neg h2]
      by_cases hb0 : b = 0
      · rw [if_pos hb0]
        exact hlast ⟨h0, by omega, by omega, by omega, by omega, fun _ => hb0, fun h => by omega⟩
      · rw [if_neg hb0]
        exact hbad _ (fun h => hb0 (h.2.2.2.2.2.1 (by omega))) rfl
  · rw [if_neg hp]
    have h2 : ¬ regs (shp op) = 2 := by omega
    by_cases ha0 : a = 0
    · rw [if_pos ha0, if_neg h2]
      by_cases hb0 : b = 0
      · rw [if_pos hb0]
        exact hlast ⟨h0, by omega, by omega, by omega, by omega, fun _ => hb0, fun _ => ha0⟩
      · rw [if_neg hb0]
        exact hbad _ (fun h => hb0 (h.2.2.2.2.2.1 (by omega))) rfl
    · rw [if_neg ha0]
      exact hbad _ (fun h => ha0 (h.2.2.2.2.2.2.1 (by omega))) rfl

end Go.Proofs.YthmheblilgegcaaDoor.Ins
