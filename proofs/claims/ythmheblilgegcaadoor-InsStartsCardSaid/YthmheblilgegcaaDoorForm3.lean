/-
  An instruction's form is read as it was written, and written as it was read (plain Lean). Conditions: numbers of 64 bits with a sign; bytes.
-/
import Derived.Test.YthmheblilgegcaaDoorDec3
namespace Go.Proofs.YthmheblilgegcaaDoor.Ins
open Go.RowKit Go.Proofs.YthmheblilgegcaaDoor.M Go.Proofs.YthmheblilgegcaaDoor.Num Go.Proofs.YthmheblilgegcaaDoor.Seven Go.Proofs.YthmheblilgegcaaDoor.Word1 Go.Proofs.YthmheblilgegcaaDoorW.PrintWords Go.Proofs.YthmheblilgegcaaDoorW.PrintLast

theorem width_cases (s : Int) : width s = 0 ∨ width s = 1 ∨ width s = 4 ∨ width s = 8 := by
  unfold width
  split
  · omega
  · split
    · omega
    · split <;> omega

theorem regs_cases (s : Int) : regs s = 0 ∨ regs s = 1 ∨ regs s = 2 := by
  unfold regs
  split
  · omega
  · split <;> omega

theorem numV_leL {n w : Int} (h0 : -9223372036854775808 ≤ n) (h1 : n < 9223372036854775808) (hF : Fits n w) : numV (leL n w.toNat) = n := by
  have h := num_bytes n w h0 h1 hF
  have hz : w = 1 ∨ w = 4 ∨ w = 8 := by unfold Fits at hF; omega
  unfold bytesR at h
  rw [if_pos hz, if_pos hF] at h
  have h2 := numR_V (strOfNums (leL n w.toNat))
  rw [h, bytesOf_str (leL_bs _ _)] at h2
  exact h2.symm

theorem numV_fits {l : List Int} {w : Int} (hb : Bs l) (hl : (l.length : Int) = w) (hw : w = 1 ∨ w = 4 ∨ w = 8) : Fits (numV l) w ∧ leL (numV l) w.toNat = l ∧ -9223372036854775808 ≤ numV l ∧ numV l < 9223372036854775808 := by
  have hr := unleL_range l hb
  have e := leL_unleL l hb
  unfold numV Fits
  rcases hw with rfl | rfl | rfl
  · have h1 : l.length = 1 := by omega
    rw [if_pos h1]
    rw [h1] at hr e
    have e2 := leL_mod ((unleL l + 128) % 256 - 128) 1 1 (by omega)
    have e3 := leL_mod (unleL l) 1 1 (by omega)
    have e4 : ((unleL l + 128) % 256 - 128) % 256 ^ 1 = unleL l % 256 ^ 1 := by simp
    rw [e4, e3, e] at e2
    exact ⟨by omega, e2.symm, by omega, by omega⟩
  · have h1 : l.length = 4 := by omega
    rw [if_neg (by omega), if_pos h1]
    rw [h1] at hr e
    have p4 : (256 : Int) ^ 4 = 4294967296 := by decide
    have e2 := leL_mod ((unleL l + 2147483648) % 4294967296 - 2147483648) 4 4 (by omega)
    have e3 := leL_mod (unleL l) 4 4 (by omega)
    have e4 : ((unleL l + 2147483648) % 4294967296 - 2147483648) % 256 ^ 4 = unleL l % 256 ^ 4 := by rw [p4]; omega
    rw [e4, e3, e] at e2
    exact ⟨by omega, e2.symm, by omega, by omega⟩
  · have h1 : l.length = 8 := by omega
    rw [if_neg (by omega), if_neg (by omega), if_pos h1]
    rw [h1] at hr e
    have p8 : (256 : Int) ^ 8 = 18446744073709551616 := by decide
    have e2 := leL_mod (wrap64 (unleL l)) 8 8 (by omega)
    have e3 := leL_mod (unleL l) 8 8 (by omega)
    have e4 : wrap64 (unleL l) % 256 ^ 8 = unleL l % 256 ^ 8 := by rw [p8]; unfold wrap64; omega
    rw [e4, e3, e] at e2
    have hw := wrap64_range (unleL l)
    exact ⟨by omega, e2.symm, hw.1, hw.2⟩

attribute [local irreducible] shp regs width size numV unleL bt bytesOf

theorem decL_form {op a b n : Int} (r : List Int) (hM : May op a b n) (hN : NFits op n) (h0 : -9223372036854775808 ≤ n) (h1 : n < 9223372036854775808) : decL (formL op a b n ++ r) = some (op, a, b, n) := by
  have hM' := hM
  obtain ⟨hz, ha0, ha1, hb0, hb1, hB, hA, hW⟩ := hM
  have hl := formL_len op a b n hz
  have hsz := width_size hz
  have hwn := width_nonneg (shp op)
  have hrl := regL_len (shp op) a b
  have hnum : numOf (shp op) (formL op a b n ++ r) = n := by
    unfold numOf
    by_cases hp : width (shp op) > 0
    · rw [if_pos hp]
      have e : (formL op a b n ++ r).drop (size (shp op) - width (shp op)).toNat = leL n (width (shp op)).toNat ++ r := by
        have e1 : formL op a b n ++ r = (op :: regL (shp op) a b) ++ (leL n (width (shp op)).toNat ++ r) := by unfold formL; simp
        have e2 : (size (shp op) - width (shp op)).toNat = (op :: regL (shp op) a b).length := by
          have e3 : ((formL op a b n).length : Int) = ((op :: regL (shp op) a b).length : Int) + width (shp op) := by
            unfold formL
            rw [List.length_cons, List.length_append, leL_len, List.length_cons]
            omega
          omega
        rw [e1, e2, List.drop_left]
      rw [e, List.take_left' (by rw [leL_len]), numV_leL h0 h1 (hN.2 hp)]
    · rw [if_neg hp, hW (by omega)]
  have hregs : regsOf (shp op) ((regL (shp op) a b ++ leL n (width (shp op)).toNat ++ r).getD 0 0) = (a, b) := by
    unfold regsOf regL
    by_cases hr1 : regs (shp op) = 1
    · rw [if_pos hr1, if_pos hr1, hB (by omega)]
      rfl
    · rw [if_neg hr1, if_neg hr1]
      by_cases hr2 : regs (shp op) = 2
      · rw [if_pos hr2, if_pos hr2]
        simp only [List.cons_append, List.nil_append, List.getD_cons_zero]
        congr 1 <;> omega
      · rw [if_neg hr2]
        have hr0 : regs (shp op) < 1 := by
          have := regs_cases (shp op)
          omega
        rw [hA hr0, hB (by omega)]
  have ef : formL op a b n ++ r = op :: (regL (shp op) a b ++ leL n (width (shp op)).toNat ++ r) := by unfold formL; simp
  have hlen : ¬ (shp op = 0 ∨ ((formL op a b n ++ r).length : Int) < size (shp op)) := by
    rw [List.length_append]
    omega
  rw [ef] at hnum hlen ⊢
  simp only [decL]
  rw [if_neg hlen, hregs, hnum, if_pos ⟨ha1, hb1, hN.1⟩]

theorem decL_some {l : List Int} (hb : Bs l) {op a b n : Int} (h : decL l = some (op, a, b, n)) :
    May op a b n ∧ NFits op n ∧ -9223372036854775808 ≤ n ∧ n < 9223372036854775808 ∧ size (shp op) ≤ (l.length : Int) ∧ 0 < size (shp op) ∧ l.take (size (shp op)).toNat = formL op a b n := by
  cases l with
  | nil => cases h
  | cons c r =>
    simp only [decL] at h
    by_cases hc : shp c = 0 ∨ ((c :: r).length : Int) < size (shp c)
    · rw [if_pos hc] at h; cases h
    · rw [if_neg hc] at h
      have hz : shp c ≠ 0 := fun e => hc (.inl e)
      have hl : size (shp c) ≤ ((c :: r).length : Int) := by omega
      have hsz := width_size hz
      have hwn := width_nonneg (shp c)
      have hwc := width_cases (shp c)
      have hrc := regs_cases (shp c)
      by_cases hg : (regsOf (shp c) (r.getD 0 0)).1 < 8 ∧ (regsOf (shp c) (r.getD 0 0)).2 < 8 ∧ ¬ (shp c = 10 ∧ numOf (shp c) (c :: r) < 0)
      · rw [if_pos hg] at h
        simp only [Option.some.injEq, Prod.mk.injEq] at h
        obtain ⟨rfl, ha, hbb, hn⟩ := h
        rw [hn, ha, hbb] at hg
        -- the byte behind the first one
        have hr0 : 0 < regs (shp c) → ∃ d r', r = d :: r' ∧ 0 ≤ d ∧ d < 256 := by
          intro hp
          have := hsz.2.2 hp
          cases r with
          | nil => simp at hl; omega
          | cons d r' => exact ⟨d, r', rfl, hb d (by simp)⟩
        have hab : regL (shp c) a b = r.take (regL (shp c) a b).length ∧ 0 ≤ a ∧ 0 ≤ b ∧ (regs (shp c) < 2 → b = 0) ∧ (regs (shp c) < 1 → a = 0) := by
          unfold regsOf at ha hbb
          unfold regL
          rcases hrc with h0 | h1 | h2
          · rw [if_neg (by omega), if_neg (by omega)] at ha hbb
            rw [if_neg (by omega), if_neg (by omega)]
            refine ⟨by simp, by simp at ha; omega, by simp at hbb; omega, fun _ => by simp at hbb; omega, fun _ => by simp at ha; omega⟩
          · obtain ⟨d, r', rfl, d0, d1⟩ := hr0 (by omega)
            rw [if_pos h1] at ha hbb
            rw [if_pos h1]
            simp only [List.getD_cons_zero] at ha hbb
            refine ⟨by simp [ha], by omega, by omega, fun _ => by omega, fun _ => by omega⟩
          · obtain ⟨d, r', rfl, d0, d1⟩ := hr0 (by omega)
            rw [if_neg (by omega), if_pos h2] at ha hbb
            rw [if_neg (by omega), if_pos h2]
            simp only [List.getD_cons_zero] at ha hbb
            refine ⟨by simp; omega, by omega, by omega, fun _ => by omega, fun _ => by omega⟩
        obtain ⟨hreg, ha0, hb0, hB, hA⟩ := hab
        clear hr0
        have hrl := regL_len (shp c) a b
        have hrs : ((regL (shp c) a b).length : Int) = size (shp c) - width (shp c) - 1 := by
          by_cases hp : regs (shp c) > 0
          · rw [if_pos hp] at hrl; have := hsz.2.2 hp; omega
          · rw [if_neg hp] at hrl
            have : size (shp c) = 1 + width (shp c) := by
              unfold size
              rw [if_neg hz, if_neg hp]
            omega
        -- the number
        have hnum : -9223372036854775808 ≤ n ∧ n < 9223372036854775808 ∧ (width (shp c) > 0 → Fits n (width (shp c))) ∧ (width (shp c) = 0 → n = 0) ∧ leL n (width (shp c)).toNat = (r.drop (regL (shp c) a b).length).take (width (shp c)).toNat := by
          unfold numOf at hn
          by_cases hp : width (shp c) > 0
          · rw [if_pos hp] at hn
            have e : (c :: r).drop (size (shp c) - width (shp c)).toNat = r.drop (regL (shp c) a b).length := by
              rw [show (size (shp c) - width (shp c)).toNat = (regL (shp c) a b).length + 1 by omega]
              rfl
            rw [e] at hn
            have hlen : (((r.drop (regL (shp c) a b).length).take (width (shp c)).toNat).length : Int) = width (shp c) := by
              rw [List.length_take, List.length_drop]
              simp only [List.length_cons] at hl
              omega
            have hbs : Bs ((r.drop (regL (shp c) a b).length).take (width (shp c)).toNat) := Bs.take (Bs.drop (fun x hx => hb x (List.mem_cons_of_mem _ hx)) _) _
            obtain ⟨g1, g2, g3, g4⟩ := numV_fits hbs hlen (by omega)
            rw [hn] at g1 g2 g3 g4
            exact ⟨g3, g4, fun _ => g1, fun h => by omega, g2⟩
          · rw [if_neg hp] at hn
            have hw0 : width (shp c) = 0 := by omega
            exact ⟨by omega, by omega, fun h => absurd h hp, fun _ => hn.symm, by rw [hw0]; simp [leL]⟩
        obtain ⟨n0, n1, hF, hW, hle⟩ := hnum
        refine ⟨⟨hz, ha0, hg.1, hb0, hg.2.1, hB, hA, hW⟩, ⟨hg.2.2, hF⟩, n0, n1, hl, by omega, ?_⟩
        unfold formL
        rw [show (size (shp c)).toNat = ((regL (shp c) a b).length + (width (shp c)).toNat) + 1 by omega, List.take_succ_cons, List.take_add, ← hle, ← hreg]
      · rw [if_neg hg] at h; cases h

theorem size_le (s : Int) (h : 0 ≤ s ∧ s ≤ 10) : size s ≤ 10 := by
  rcases eleven h.1 h.2 with rfl | rfl | rfl | rfl | rfl | rfl | rfl | rfl | rfl | rfl | rfl <;> decide +kernel

end Go.Proofs.YthmheblilgegcaaDoor.Ins
