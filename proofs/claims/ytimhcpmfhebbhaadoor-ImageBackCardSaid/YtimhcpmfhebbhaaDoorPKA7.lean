/-
  Texts of the proofs of ImageBack, cut to what the proofs reach and packed by a program of this session (wip/packs.py). Each part begins with what it says; conditions: those told there.
-/
import Derived.Test.YtimhcpmfhebbhaaDoorPKA6
/-
  What the document's Size and Encode (cotterref03) answer is what the program's do (plain Lean). Conditions: an instruction's fields are of 64 bits with a sign.
-/
namespace Go.Proofs.YtimhcpmfhebbhaaDoor.Ins
open Go.RowKit Go.Proofs.YtimhcpmfhebbhaaDoor.M Go.Proofs.YtimhcpmfhebbhaaDoor.Num Go.Proofs.YtimhcpmfhebbhaaDoor.Seven Go.Proofs.YtimhcpmfhebbhaaDoor.Word1 Go.Proofs.YtimhcpmfhebbhaaDoorW.PrintWords Go.Proofs.YtimhcpmfhebbhaaDoorW.PrintLast

theorem form_f (op : Int) (k : Nat) : cotterref03_form.f (k + 7) op = some (shp op) := by
  by_cases h0 : op < 0 ∨ op ≥ 34
  · have hs : shp op = 0 := by
      unfold shp
      rcases h0 with h | h
      · rw [if_pos h]
      · rw [if_neg (by omega), if_pos h]
    rw [hs]
    have hn : ∀ c : Int, 0 ≤ c → c < 34 → (op == c) = false := by
      intro c h1 h2
      have : op ≠ c := by omega
      simpa using this
    have hn' : ∀ c : Int, 0 ≤ c → c < 34 → ¬ op = c := by
      intro c h1 h2
      omega
    have hj : cotterref03_form.j0 (k + 7) op false = some 0 := by
      simp only [cotterref03_form.j0, cotterref03_form.j1, cotterref03_form.j2, cotterref03_form.j3, cotterref03_form.j4, cotterref03_form.j5]
      simp only [hn 29 (by omega) (by omega), hn 22 (by omega) (by omega), hn 23 (by omega) (by omega), hn 32 (by omega) (by omega), hn 27 (by omega) (by omega), hn' 17 (by omega) (by omega), hn' 18 (by omega) (by omega), hn' 28 (by omega) (by omega),
        hn' 19 (by omega) (by omega), hn' 21 (by omega) (by omega), hn' 20 (by omega) (by omega), hn' 24 (by omega) (by omega), hn' 30 (by omega) (by omega), hn' 25 (by omega) (by omega), hn' 26 (by omega) (by omega), hn' 31 (by omega) (by omega), hn' 33 (by omega) (by omega),
        Bool.false_eq_true, if_false]
    unfold cotterref03_form.f
    rw [if_neg (by omega)]
    by_cases h2 : op ≥ 2
    · rw [if_pos h2, decide_eq_false (by omega)]
      exact hj
    · rw [if_neg h2]
      exact hj
  · have key : ∀ i : Fin 34, cotterref03_form.f 7 (i.val : Int) = some (shp (i.val : Int)) := by decide +kernel
    have h := key ⟨op.toNat, by omega⟩
    simp only at h
    rw [show ((op.toNat : Nat) : Int) = op by omega] at h
    exact at_rounds (fun k => cotterref03_form.mono op k) (show 7 ≤ k + 7 by omega) h

theorem parts_f {s : Int} (h0 : 0 ≤ s) (h1 : s ≤ 10) (k : Nat) : cotterref03_parts.f (k + 1) s = some (decide (regs s > 0), decide (regs s = 2), width s) := by
  rcases eleven h0 h1 with rfl | rfl | rfl | rfl | rfl | rfl | rfl | rfl | rfl | rfl | rfl <;> rfl

theorem rSize_f (op : Int) (k : Nat) : cotterref03_Size.f (k + 7) op = some (size (shp op)) := by
  have hr := shp_range op
  unfold cotterref03_Size.f
  rw [form_f]
  simp only [Option.bind_some]
  generalize shp op = s at *
  by_cases hz : s = 0
  · rw [if_pos hz]; subst hz; rfl
  · rw [if_neg hz, parts_f hr.1 hr.2]
    simp only [Option.bind_some, decide_eq_true_eq]
    have hw := width_nonneg s
    unfold size
    rw [if_neg hz]
    by_cases hp : regs s > 0
    · rw [if_pos hp, if_pos hp, wrap64_id (n := width s + 1) (by omega) (by omega), wrap64_id (by omega) (by omega)]
      congr 1
      omega
    · rw [if_neg hp, if_neg hp, wrap64_id (by omega) (by omega)]

theorem renc_j2 (k : Nat) (hk : 14 < k) (s n : Int) (x : List Int) (op a b : Int) (hn0 : -9223372036854775808 ≤ n) (hn1 : n < 9223372036854775808) (hx : x.length < 1000) :
    cotterref03_Encode.j2 k (width s) (strOfNums x) op a b n = some (if width s > 0 → Fits n (width s) then (strOfNums (x ++ leL n (width s).toNat), 0) else (⟨#[]⟩, 7)) := by
  obtain ⟨k, rfl⟩ : ∃ m, k = m + 1 := ⟨k - 1, by omega⟩
  have hw := width_nonneg s
  have hwc := width_cases s
  simp only [cotterref03_Encode.j2]
  by_cases hp : width s > 0
  · rw [if_pos hp, rbytes_f n (width s) hn0 hn1 _ (by omega)]
    simp only [Option.bind_some]
    have hz : width s = 1 ∨ width s = 4 ∨ width s = 8 := by omega
    unfold bytesR
    rw [if_pos hz]
    by_cases hF : Fits n (width s)
    · rw [if_pos hF, if_pos (fun _ => hF)]
      simp only [if_true]
      rw [strOfNums_size, strOfNums_size, leL_len, if_pos (by omega), str_append]
    · have hno : ¬ (width s > 0 → Fits n (width s)) := fun h => hF (h hp)
      rw [if_neg hF, if_neg hno]
      simp
  · rw [if_neg hp, if_pos (fun h => absurd h hp), show (width s).toNat = 0 by omega]
    simp [leL]

theorem renc_j1 (k : Nat) (hk : 16 < k) (s n op a b : Int) (hop : 0 ≤ op ∧ op < 34) (ha : 0 ≤ a ∧ a < 8) (hb : 0 ≤ b ∧ b < 8) (hn0 : -9223372036854775808 ≤ n) (hn1 : n < 9223372036854775808) :
    cotterref03_Encode.j1 k (decide (regs s > 0)) (decide (regs s = 2)) (width s) false op a b n = some (if width s > 0 → Fits n (width s) then (strOfNums (op :: (regL s a b ++ leL n (width s).toNat)), 0) else (⟨#[]⟩, 7)) := by
  obtain ⟨k, rfl⟩ : ∃ m, k = m + 1 := ⟨k - 1, by omega⟩
  have hrc := regs_cases s
  simp only [cotterref03_Encode.j1, Bool.false_eq_true, if_false, Option.bind_some, decide_eq_true_eq]
  rw [show op % 256 = op by omega]
  unfold regL
  by_cases h2 : regs s = 2
  · rw [if_pos h2, if_neg (show ¬ regs s = 1 by omega), if_pos h2, if_pos (by rw [strOfNums_size, strOfNums_size]; simp), str_append, renc_j2 k (by omega) s n _ op a b hn0 hn1 (by simp)]
    have e : wrap64 (wrap64 (16 * a) + b) % 256 = 16 * a + b := by
      rw [wrap64_id (n := 16 * a) (by omega) (by omega), wrap64_id (by omega) (by omega)]
      omega
    rw [e]
    simp
  · rw [if_neg h2]
    by_cases h1 : regs s > 0
    · rw [if_pos h1, if_pos (show regs s = 1 by omega), if_pos (by rw [strOfNums_size, strOfNums_size]; simp), str_append, renc_j2 k (by omega) s n _ op a b hn0 hn1 (by simp), show a % 256 = a by omega]
      simp
    · rw [if_neg h1, if_neg (show ¬ regs s = 1 by omega), if_neg h2, renc_j2 k (by omega) s n _ op a b hn0 hn1 (by simp)]
      simp

theorem renc_f (k : Nat) (hk : 30 < k) (op a b n : Int) (hn0 : -9223372036854775808 ≤ n) (hn1 : n < 9223372036854775808) : cotterref03_Encode.f k op a b n = some (encR op a b n) := by
  obtain ⟨k, rfl⟩ : ∃ m, k = m + 7 := ⟨k - 7, by omega⟩
  have hr := shp_range op
  have hbad : ∀ c, ¬ May op a b n → c = true → cotterref03_Encode.j0 (k + 7) (shp op) (decide (regs (shp op) > 0)) (decide (regs (shp op) = 2)) (width (shp op)) c op a b n = some (encR op a b n) := by
    intro c hM hc
    subst hc
    unfold encR
    rw [if_neg hM]
    simp [cotterref03_Encode.j0]
  have hgood : May op a b n → cotterref03_Encode.j0 (k + 7) (shp op) (decide (regs (shp op) > 0)) (decide (regs (shp op) = 2)) (width (shp op)) false op a b n = some (encR op a b n) := by
    intro hM
    have hop := shp_pos hM.1
    have hj := renc_j1 (k + 6) (by omega) (shp op) n op a b hop ⟨hM.2.1, hM.2.2.1⟩ ⟨hM.2.2.2.1, hM.2.2.2.2.1⟩ hn0 hn1
    have htrue : cotterref03_Encode.j1 (k + 6) (decide (regs (shp op) > 0)) (decide (regs (shp op) = 2)) (width (shp op)) true op a b n = some (⟨#[]⟩, 7) := by simp [cotterref03_Encode.j1]
    unfold encR
    rw [if_pos hM]
    simp only [cotterref03_Encode.j0, Bool.false_eq_true, if_false]
    by_cases ht : shp op = 10
    · rw [if_pos ht]
      by_cases hn : n < 0
      · rw [if_pos hn, if_neg (fun h : NFits op n => h.1 ⟨ht, hn⟩)]
        exact htrue
      · rw [if_neg hn]
        by_cases h127 : n > 127
        · have hw1 : width (shp op) = 1 := by rw [ht]; rfl
          have hno : ¬ NFits op n := by
            intro h
            have := h.2 (by omega)
            rw [hw1] at this
            unfold Fits at this
            omega
          rw [decide_eq_true h127, if_neg hno]
          exact htrue
        · rw [decide_eq_false h127, hj]
          by_cases hF : width (shp op) > 0 → Fits n (width (shp op))
          · rw [if_pos hF, if_pos (show NFits op n from ⟨fun h => hn h.2, hF⟩)]; rfl
          · rw [if_neg hF, if_neg (fun h : NFits op n => hF h.2)]
    · rw [if_neg ht, hj]
      by_cases hF : width (shp op) > 0 → Fits n (width (shp op))
      · rw [if_pos hF, if_pos (show NFits op n from ⟨fun h => ht h.1, hF⟩)]; rfl
      · rw [if_neg hF, if_neg (fun h : NFits op n => hF h.2)]
  have hlast : (shp op ≠ 0 ∧ 0 ≤ a ∧ a < 8 ∧ 0 ≤ b ∧ b < 8 ∧ (regs (shp op) < 2 → b = 0) ∧ (regs (shp op) < 1 → a = 0)) →
      (if width (shp op) = 0 then cotterref03_Encode.j0 (k + 7) (shp op) (decide (regs (shp op) > 0)) (decide (regs (shp op) = 2)) (width (shp op)) (n != 0) op a b n else cotterref03_Encode.j0 (k + 7) (shp op) (decide (regs (shp op) > 0)) (decide (regs (shp op) = 2)) (width (shp op)) false op a b n) = some (encR op a b n) := by
    intro ⟨q1, q2, q3, q4, q5, q6, q7⟩
    by_cases hw : width (shp op) = 0
    · rw [if_pos hw]
      by_cases hn : n = 0
      · have e : (n != 0) = false := by simpa using hn
        rw [e]
        exact hgood ⟨q1, q2, q3, q4, q5, q6, q7, fun _ => hn⟩
      · have e : (n != 0) = true := by simpa using hn
        exact hbad _ (fun h => hn (h.2.2.2.2.2.2.2 hw)) e
    · rw [if_neg hw]
      exact hgood ⟨q1, q2, q3, q4, q5, q6, q7, fun h => absurd h hw⟩
  have hrc := regs_cases (shp op)
  unfold cotterref03_Encode.f
  rw [form_f]
  simp only [Option.bind_some]
  rw [parts_f (k := k + 6) hr.1 hr.2]
  simp only [Option.bind_some]
  by_cases h0 : shp op = 0
  · rw [if_pos h0]
    exact hbad _ (fun h => h.1 h0) rfl
  rw [if_neg h0]
  by_cases a1 : a < 0
  · rw [if_pos a1]; exact hbad _ (fun h => by have := h.2.1; omega) rfl
  rw [if_neg a1]
  by_cases a2 : a > 7
  · rw [if_pos a2]; exact hbad _ (fun h => by have := h.2.2.1; omega) rfl
  rw [if_neg a2]
  by_cases b1 : b < 0
  · rw [if_pos b1]; exact hbad _ (fun h => by have := h.2.2.2.1; omega) rfl
  rw [if_neg b1]
  by_cases b2 : b > 7
  · rw [if_pos b2]; exact hbad _ (fun h => by have := h.2.2.2.2.1; omega) rfl
  rw [if_neg b2]
  simp only [decide_eq_true_eq]
  by_cases hp : regs (shp op) > 0
  · rw [if_pos hp]
    by_cases h2 : regs (shp op) = 2
    · rw [if_pos h2]
      exact hlast ⟨h0, by omega, by omega, by omega, by omega, fun h => by omega, fun h => by omega⟩
    · rw [if_neg h2]
      by_cases hb0 : b = 0
      · rw [if_pos hb0]
        exact hlast ⟨h0, by omega, by omega, by omega, by omega, fun _ => hb0, fun h => by omega⟩
      · rw [if_neg hb0]
        exact hbad _ (fun h => hb0 (h.2.2.2.2.2.1 (by omega))) rfl
  · rw [if_neg hp]
    have h2 : ¬ regs (shp op) = 2 := by omega
    by_cases ha0 : a = 0
    · rw [if_pos ha0, if_neg h2]
      by_cases hb0 : b = 0
      · rw [if_pos hb0]
        exact hlast ⟨h0, by omega, by omega, by omega, by omega, fun _ => hb0, fun _ => ha0⟩
      · rw [if_neg hb0]
        exact hbad _ (fun h => hb0 (h.2.2.2.2.2.1 (by omega))) rfl
    · rw [if_neg ha0]
      exact hbad _ (fun h => ha0 (h.2.2.2.2.2.2.1 (by omega))) rfl

end Go.Proofs.YtimhcpmfhebbhaaDoor.Ins

/-
  What ins.All answers, said by lists of instructions (plain Lean). Conditions: fields of 64 bits with a sign; texts of at most 1048576 bytes.
-/
namespace Go.Proofs.YtimhcpmfhebbhaaDoor.Ins
open Go.RowKit Go.Proofs.YtimhcpmfhebbhaaDoor.M Go.Proofs.YtimhcpmfhebbhaaDoor.Num Go.Proofs.YtimhcpmfhebbhaaDoor.Seven Go.Proofs.YtimhcpmfhebbhaaDoor.Word1 Go.Proofs.YtimhcpmfhebbhaaDoorW.PrintWords Go.Proofs.YtimhcpmfhebbhaaDoorW.PrintLast

def formS (i : S79) : List Int := formL i.f0 i.f1 i.f2 i.f3
def OkS (i : S79) : Prop := May i.f0 i.f1 i.f2 i.f3 ∧ NFits i.f0 i.f3 ∧ I64 i.f3
def formsS (l : List S79) : List Int := l.flatMap formS
theorem formsS_cons (i : S79) (l : List S79) : formsS (i :: l) = formS i ++ formsS l := rfl
theorem formsS_append (a b : List S79) : formsS (a ++ b) = formsS a ++ formsS b := by simp [formsS]
theorem formS_pos {i : S79} (h : OkS i) : 0 < (formS i).length ∧ (formS i).length ≤ 10 := by
  have h1 := formL_len i.f0 i.f1 i.f2 i.f3 h.1.1
  have h2 := width_size h.1.1
  have h3 := width_nonneg (shp i.f0)
  have h4 := size_le _ (shp_range i.f0)
  unfold formS
  omega

theorem dec_ok (s : ByteArray) (p : Nat) (i : S79) (r : List Int) (hi : OkS i) (hp : p ≤ s.size) (h : (bytesOf s).drop p = formS i ++ r) : decR s p = (i.f0, i.f1, i.f2, i.f3, ((p + (formS i).length : Nat) : Int), 0) := by
  have hd := decL_form r hi.1 hi.2.1 hi.2.2.1 hi.2.2.2
  have hl := formL_len i.f0 i.f1 i.f2 i.f3 hi.1.1
  unfold decR
  rw [if_neg (by omega), Int.toNat_natCast, h]
  unfold formS
  rw [hd]
  simp only [Prod.mk.injEq, true_and, and_true]
  omega

/-- Either some instructions' forms stand from the place on, or none do, and All says so. -/
theorem all_total (s : ByteArray) (hs : s.size ≤ 140737488351232) : ∀ (m k p : Nat) (acc : List S79), s.size - p ≤ m → p ≤ s.size → acc.length + m < 4398046511104 → m + 30 < k →
    (∃ is : List S79, (bytesOf s).drop p = formsS is ∧ (∀ i ∈ is, OkS i) ∧ is.length ≤ m ∧ ins_All.l0 k s acc p = some (acc ++ is, 0)) ∨ (ins_All.l0 k s acc p = some ([], 9) ∧ ¬ ∃ is : List S79, (bytesOf s).drop p = formsS is ∧ ∀ i ∈ is, OkS i) := by
  intro m
  induction m with
  | zero =>
    intro k p acc hm hp ha hk
    obtain ⟨k, rfl⟩ : ∃ m, k = m + 1 := ⟨k - 1, by omega⟩
    refine .inl ⟨[], ?_, by simp, by simp, ?_⟩
    · rw [List.drop_eq_nil_of_le (by rw [bytesOf_length]; omega)]; rfl
    · simp only [ins_All.l0]
      rw [if_neg (by omega), List.append_nil]
  | succ m ih =>
    intro k p acc hm hp ha hk
    obtain ⟨k, rfl⟩ : ∃ m, k = m + 1 := ⟨k - 1, by omega⟩
    by_cases hlt : p < s.size
    · simp only [ins_All.l0]
      rw [if_pos (by omega), dec_f s p hs k (by omega)]
      simp only [Option.bind_some]
      cases hd : decL ((bytesOf s).drop p) with
      | none =>
        have e : decR s p = (0, 0, 0, 0, 0, 9) := by
          unfold decR
          rw [if_neg (by omega), Int.toNat_natCast, hd]
        right
        rw [e, if_neg (by simp)]
        refine ⟨rfl, ?_⟩
        rintro ⟨is, h1, h2⟩
        cases is with
        | nil =>
          have h3 := congrArg List.length h1
          rw [List.length_drop, bytesOf_length] at h3
          simp [formsS] at h3
          omega
        | cons i is =>
          rw [h1, formsS_cons] at hd
          have hi := h2 i (by simp)
          unfold formS at hd
          rw [decL_form _ hi.1 hi.2.1 hi.2.2.1 hi.2.2.2] at hd
          cases hd
      | some q =>
        obtain ⟨op, a, b, n⟩ := q
        obtain ⟨hM, hN, n0, n1, hl, hpos, htk⟩ := decL_some ((bytesOf_Bs s).drop p) hd
        have hI : OkS ⟨op, a, b, n⟩ := ⟨hM, hN, n0, n1⟩
        have hfl := formL_len op a b n hM.1
        have hsplit : (bytesOf s).drop p = formS ⟨op, a, b, n⟩ ++ (bytesOf s).drop (p + (formS ⟨op, a, b, n⟩).length) := by
          have e1 : (formS ⟨op, a, b, n⟩).length = (size (shp op)).toNat := by unfold formS; simp only; omega
          rw [e1, ← List.drop_drop]
          have e2 : formS ⟨op, a, b, n⟩ = ((bytesOf s).drop p).take (size (shp op)).toNat := htk.symm
          rw [e2, List.take_append_drop]
        have hlen : p + (formS ⟨op, a, b, n⟩).length ≤ s.size := by
          rw [List.length_drop, bytesOf_length] at hl
          unfold formS
          simp only
          omega
        have hfp := formS_pos hI
        rw [dec_ok s p ⟨op, a, b, n⟩ _ hI hp hsplit]
        simp only [if_true]
        rw [if_pos (by omega)]
        rcases ih k (p + (formS ⟨op, a, b, n⟩).length) (acc ++ [⟨op, a, b, n⟩]) (by omega) hlen (by rw [List.length_append]; simp; omega) (by omega) with ⟨is, h1, h2, h3, h4⟩ | ⟨h1, h2⟩
        · refine .inl ⟨⟨op, a, b, n⟩ :: is, ?_, ?_, by simp; omega, ?_⟩
          · rw [hsplit, h1]; rfl
          · intro i hi
            rcases List.mem_cons.1 hi with rfl | hi
            · exact hI
            · exact h2 i hi
          · rw [h4]; simp
        · refine .inr ⟨h1, ?_⟩
          rintro ⟨is, g1, g2⟩
          cases is with
          | nil =>
            have h3 := congrArg List.length g1
            rw [List.length_drop, bytesOf_length] at h3
            simp [formsS] at h3
            omega
          | cons i is =>
            have hi := g2 i (by simp)
            have g3 := decL_form (formsS is) hi.1 hi.2.1 hi.2.2.1 hi.2.2.2
            rw [formsS_cons] at g1
            have e4 : formL i.f0 i.f1 i.f2 i.f3 ++ formsS is = (bytesOf s).drop p := g1.symm
            rw [e4, hd] at g3
            simp only [Option.some.injEq, Prod.mk.injEq] at g3
            obtain ⟨x1, x2, x3, x4⟩ := g3
            have e5 : formS ⟨op, a, b, n⟩ = formS i := by unfold formS; simp only [x1, x2, x3, x4]
            refine h2 ⟨is, ?_, fun j hj => g2 j (by simp [hj])⟩
            rw [e5, ← List.drop_drop, g1, List.drop_left]
    · refine .inl ⟨[], ?_, by simp, by simp, ?_⟩
      · rw [List.drop_eq_nil_of_le (by rw [bytesOf_length]; omega)]; rfl
      · simp only [ins_All.l0]
        rw [if_neg (by omega), List.append_nil]

/-- Forms are read in one way alone. -/
theorem forms_inj : ∀ (a b : List S79), (∀ i ∈ a, OkS i) → (∀ i ∈ b, OkS i) → formsS a = formsS b → a = b := by
  intro a
  induction a with
  | nil =>
    intro b _ hb h
    cases b with
    | nil => rfl
    | cons j b =>
      have := (formS_pos (hb j (by simp))).1
      have h2 := congrArg List.length h
      rw [formsS_cons, List.length_append] at h2
      have hz : (formsS ([] : List S79)).length = 0 := rfl
      omega
  | cons i a ih =>
    intro b ha hb h
    cases b with
    | nil =>
      have := (formS_pos (ha i (by simp))).1
      have h2 := congrArg List.length h
      rw [formsS_cons, List.length_append] at h2
      have hz : (formsS ([] : List S79)).length = 0 := rfl
      omega
    | cons j b =>
      have hi := ha i (by simp)
      have hj := hb j (by simp)
      have g1 := decL_form (formsS a) hi.1 hi.2.1 hi.2.2.1 hi.2.2.2
      have g2 := decL_form (formsS b) hj.1 hj.2.1 hj.2.2.1 hj.2.2.2
      have h' : formL i.f0 i.f1 i.f2 i.f3 ++ formsS a = formL j.f0 j.f1 j.f2 j.f3 ++ formsS b := h
      rw [h', g2] at g1
      simp only [Option.some.injEq, Prod.mk.injEq] at g1
      obtain ⟨x1, x2, x3, x4⟩ := g1
      have e : i = j := by cases i; cases j; simp_all
      subst e
      rw [ih b (fun x hx => ha x (by simp [hx])) (fun x hx => hb x (by simp [hx])) (List.append_cancel_left h')]

theorem formsS_bs (l : List S79) (h : ∀ i ∈ l, OkS i) : Bs (formsS l) := by
  intro x hx
  obtain ⟨i, hi, hxi⟩ := List.mem_flatMap.1 hx
  exact formL_bs (h i hi).1 x hxi

/-- All of forms is what they are the forms of. -/
theorem all_forms (l : List S79) (h : ∀ i ∈ l, OkS i) (hl : (formsS l).length ≤ 4000000) (k : Nat) (hk : (formsS l).length + 40 < k) : ins_All.f k (strOfNums (formsS l)) = some (l, 0) := by
  unfold ins_All.f
  have e := bytesOf_str (formsS_bs l h)
  rcases all_total (strOfNums (formsS l)) (by rw [strOfNums_size]; omega) (formsS l).length k 0 [] (by rw [strOfNums_size]; omega) (by omega) (by simp; omega) (by omega) with ⟨is, h1, h2, _, h4⟩ | ⟨_, h2⟩
  · rw [List.drop_zero, e] at h1
    have := forms_inj _ _ h h2 h1
    subst this
    simpa using h4
  · exact absurd ⟨l, by rw [List.drop_zero, e], h⟩ h2

theorem all_f (s : ByteArray) (hs : s.size ≤ 4000000) (k : Nat) (hk : s.size + 40 < k) :
    (∃ is : List S79, bytesOf s = formsS is ∧ (∀ i ∈ is, OkS i) ∧ is.length ≤ s.size ∧ ins_All.f k s = some (is, 0)) ∨ ins_All.f k s = some ([], 9) := by
  unfold ins_All.f
  rcases all_total s (by omega) s.size k 0 [] (by omega) (by omega) (by simp; omega) (by omega) with ⟨is, h1, h2, h3, h4⟩ | ⟨h1, _⟩
  · exact .inl ⟨is, by simpa using h1, h2, h3, by simpa using h4⟩
  · exact .inr h1

end Go.Proofs.YtimhcpmfhebbhaaDoor.Ins

/-
  InsDecodes: the instruction that begins at any place of any bytes, and all of them, are the document's (plain Lean). Condition: a text of at most 1048576 bytes.
-/
namespace Go.Proofs.YtimhcpmfhebbhaaDoor.Ins
open Go.RowKit Go.Proofs.YtimhcpmfhebbhaaDoor.M Go.Proofs.YtimhcpmfhebbhaaDoor.Num Go.Proofs.YtimhcpmfhebbhaaDoor.Seven Go.Proofs.YtimhcpmfhebbhaaDoor.Word1 Go.Proofs.YtimhcpmfhebbhaaDoorW.PrintWords Go.Proofs.YtimhcpmfhebbhaaDoorW.PrintLast

theorem enc_ok_iff {op a b n : Int} (hz : shp op ≠ 0) (ha : 0 ≤ a) (hb : 0 ≤ b) (hB : regs (shp op) < 2 → b = 0) (hA : regs (shp op) < 1 → a = 0) (hW : width (shp op) = 0 → n = 0) (hF : width (shp op) > 0 → Fits n (width (shp op))) :
    (encR op a b n).2 = 0 ↔ (a < 8 ∧ b < 8 ∧ ¬ (shp op = 10 ∧ n < 0)) := by
  constructor
  · intro h
    obtain ⟨hM, hN, _⟩ := encR_ok h
    exact ⟨hM.2.2.1, hM.2.2.2.2.1, hN.1⟩
  · intro ⟨h1, h2, h3⟩
    unfold encR
    rw [if_pos (show May op a b n from ⟨hz, ha, h1, hb, h2, hB, hA, hW⟩), if_pos (show NFits op n from ⟨h3, hF⟩)]

attribute [local irreducible] shp regs width size numV unleL bt bytesOf encR

theorem rdec_f (s : ByteArray) (at_ : Int) (hs : s.size ≤ 140737488351232) (k : Nat) (hk : 60 < k) : cotterref03_Decode.f k s at_ = some (decR s at_) := by
  obtain ⟨k, rfl⟩ : ∃ m, k = m + 12 := ⟨k - 12, by omega⟩
  unfold cotterref03_Decode.f decR
  by_cases h0 : at_ < 0
  · rw [if_pos h0, if_pos (.inl h0)]
    simp [cotterref03_Decode.j0]
  rw [if_neg h0]
  by_cases h1 : at_ > (s.size : Int)
  · have e : decide (at_ > (s.size : Int)) = true := decide_eq_true h1
    rw [e, if_pos (.inr h1)]
    simp [cotterref03_Decode.j0]
  have e : decide (at_ > (s.size : Int)) = false := decide_eq_false h1
  rw [e, if_neg (by omega)]
  obtain ⟨p, rfl⟩ := Int.eq_ofNat_of_zero_le (show 0 ≤ at_ by omega)
  rw [Int.toNat_natCast]
  simp only [cotterref03_Decode.j0, Bool.false_eq_true, if_false]
  by_cases h2 : (p : Int) = (s.size : Int)
  · rw [if_pos h2, List.drop_eq_nil_of_le (by rw [bytesOf_length]; omega)]
    rfl
  have hlt : p < s.size := by omega
  rw [if_neg h2, if_pos (by omega), if_pos (by omega)]
  have hbr := bt_range s p
  have hw : wrap64 (bt s p) = bt s p := wrap64_id (by omega) (by omega)
  have hbs := (bytesOf_Bs s).drop (p + 1)
  rw [hw, rSize_f (k := k + 4), bt_drop s p hlt]
  simp only [Option.bind_some, decL]
  have hr := shp_range (bt s p)
  generalize hop : bt s p = op at *
  have hlen : ((op :: (bytesOf s).drop (p + 1)).length : Int) = (s.size : Int) - p := by
    rw [List.length_cons, List.length_drop, bytesOf_length]; omega
  rw [hlen]
  by_cases hz : shp op = 0
  · rw [hz, if_pos (show size 0 = 0 by with_unfolding_all rfl), if_pos (.inl rfl)]
    simp [cotterref03_Decode.j1]
  have hsz := width_size hz
  have hwn := width_nonneg (shp op)
  have hwc := width_cases (shp op)
  have hrc := regs_cases (shp op)
  have hs10 := size_le (shp op) hr
  rw [if_neg (by omega), wrap64_id (n := (p : Int) + size (shp op)) (by omega) (by omega)]
  by_cases hl : (s.size : Int) - p < size (shp op)
  · have e1 : decide ((p : Int) + size (shp op) > (s.size : Int)) = true := decide_eq_true (by omega)
    rw [e1, if_pos (.inr hl)]
    simp [cotterref03_Decode.j1]
  have e1 : decide ((p : Int) + size (shp op) > (s.size : Int)) = false := decide_eq_false (by omega)
  rw [e1, if_neg (by omega)]
  simp only [cotterref03_Decode.j1, Bool.false_eq_true, if_false]
  rw [form_f (k := k + 3)]
  simp only [Option.bind_some]
  rw [parts_f (k := k + 9) hr.1 hr.2]
  simp only [Option.bind_some, decide_eq_true_eq]
  have hp1 : wrap64 ((p : Int) + 1) = ((p + 1 : Nat) : Int) := by rw [wrap64_id (by omega) (by omega)]; omega
  rw [hp1]
  clear e e1 hp1 hw hbr
  have hnum : (width (shp op) > 0 → Fits (numOf (shp op) (op :: (bytesOf s).drop (p + 1))) (width (shp op))) ∧ (width (shp op) = 0 → numOf (shp op) (op :: (bytesOf s).drop (p + 1)) = 0) ∧
      -9223372036854775808 ≤ numOf (shp op) (op :: (bytesOf s).drop (p + 1)) ∧ numOf (shp op) (op :: (bytesOf s).drop (p + 1)) < 9223372036854775808 := by
    unfold numOf
    by_cases hp : width (shp op) > 0
    · rw [if_pos hp]
      have hb2 : Bs (op :: (bytesOf s).drop (p + 1)) := by
        rw [show op :: (bytesOf s).drop (p + 1) = (bytesOf s).drop p by rw [bt_drop s p hlt, hop]]
        exact (bytesOf_Bs s).drop p
      have hl2 : ((((op :: (bytesOf s).drop (p + 1)).drop (size (shp op) - width (shp op)).toNat).take (width (shp op)).toNat).length : Int) = width (shp op) := by
        rw [List.length_take, List.length_drop]
        omega
      obtain ⟨g1, _, g3, g4⟩ := numV_fits ((hb2.drop (size (shp op) - width (shp op)).toNat).take (width (shp op)).toNat) hl2 (by omega)
      exact ⟨fun _ => g1, fun h => by omega, g3, g4⟩
    · rw [if_neg hp]
      exact ⟨fun h => absurd h hp, fun _ => rfl, by omega, by omega⟩
  clear hlen
  -- the number, and the end, in one form
  have tail : ∀ a b : Int, 0 ≤ a → 0 ≤ b → (regs (shp op) < 2 → b = 0) → (regs (shp op) < 1 → a = 0) → cotterref03_Decode.j2 (k + 10) s p (size (shp op)) (width (shp op)) op a b 0 =
      some (if a < 8 ∧ b < 8 ∧ ¬ (shp op = 10 ∧ numOf (shp op) (op :: (bytesOf s).drop (p + 1)) < 0) then (op, a, b, numOf (shp op) (op :: (bytesOf s).drop (p + 1)), (p : Int) + size (shp op), 0) else (0, 0, 0, 0, 0, 9)) := by
    intro a b ha hb hB hA
    have hiff := enc_ok_iff (n := numOf (shp op) (op :: (bytesOf s).drop (p + 1))) hz ha hb hB hA hnum.2.1 hnum.1
    have hfin : ∀ (x : Int × Int × Int × Int × Int × Int), (if (encR op a b (numOf (shp op) (op :: (bytesOf s).drop (p + 1)))).2 = 0 then some x else some (0, 0, 0, 0, 0, 9)) =
        some (if a < 8 ∧ b < 8 ∧ ¬ (shp op = 10 ∧ numOf (shp op) (op :: (bytesOf s).drop (p + 1)) < 0) then x else (0, 0, 0, 0, 0, 9)) := by
      intro x
      by_cases hc : (encR op a b (numOf (shp op) (op :: (bytesOf s).drop (p + 1)))).2 = 0
      · rw [if_pos hc, if_pos (hiff.1 hc)]
      · rw [if_neg hc, if_neg (fun h => hc (hiff.2 h))]
    simp only [cotterref03_Decode.j2]
    rw [wrap64_id (n := (p : Int) + size (shp op)) (by omega) (by omega)]
    by_cases hp : width (shp op) > 0
    · have hlo : wrap64 ((p : Int) + size (shp op) - width (shp op)) = ((p + (size (shp op) - width (shp op)).toNat : Nat) : Int) := lo_eq (by omega) (by omega) (by omega) (by omega)
      rw [if_pos hp, hlo, if_pos (by omega), if_pos (by omega), if_pos (by omega), Int.toNat_natCast]
      have hsx : (s.extract (p + (size (shp op) - width (shp op)).toNat) ((p : Int) + size (shp op)).toNat).size = (width (shp op)).toNat := by
        rw [ByteArray.size_extract]
        omega
      have hbx := bytesOf_extract s (p + (size (shp op) - width (shp op)).toNat) ((p : Int) + size (shp op)).toNat
      generalize s.extract (p + (size (shp op) - width (shp op)).toNat) ((p : Int) + size (shp op)).toNat = X at hsx hbx ⊢
      have hx1 : X.size ≤ 8 := by omega
      clear hsx
      have hnf : cotterref01_Number.f (k + 9) X = some (numR X) := rnumber_f X (Nat.le_trans hx1 (by decide)) (k + 9) (by omega)
      rw [hnf]
      simp only [Option.bind_some]
      have e3 : (numR X).1 = numOf (shp op) (op :: (bytesOf s).drop (p + 1)) := by
        rw [numR_V, hbx]
        unfold numOf
        rw [if_pos hp, show op :: (bytesOf s).drop (p + 1) = (bytesOf s).drop p by rw [bt_drop s p hlt, hop], List.drop_drop]
        congr 2
        omega
      rw [e3, renc_f (k + 9) (by omega) op a b _ hnum.2.2.1 hnum.2.2.2]
      simp only [Option.bind_some]
      exact hfin _
    · have hn0 : numOf (shp op) (op :: (bytesOf s).drop (p + 1)) = 0 := hnum.2.1 (by omega)
      rw [if_neg hp]
      rw [hn0] at hfin hnum ⊢
      rw [renc_f (k + 9) (by omega) op a b 0 (by omega) (by omega)]
      simp only [Option.bind_some]
      exact hfin _
  have hn1 : regs (shp op) > 0 → p + 1 < s.size := by
    intro h
    have := hsz.2.2 h
    omega
  have fin : ∀ q : Int × Int, 0 ≤ q.1 → 0 ≤ q.2 → (regs (shp op) < 2 → q.2 = 0) → (regs (shp op) < 1 → q.1 = 0) → regsOf (shp op) (((bytesOf s).drop (p + 1)).getD 0 0) = q → cotterref03_Decode.j2 (k + 10) s p (size (shp op)) (width (shp op)) op q.1 q.2 0 =
      some (match (if (regsOf (shp op) (((bytesOf s).drop (p + 1)).getD 0 0)).1 < 8 ∧ (regsOf (shp op) (((bytesOf s).drop (p + 1)).getD 0 0)).2 < 8 ∧ ¬ (shp op = 10 ∧ numOf (shp op) (op :: (bytesOf s).drop (p + 1)) < 0) then
          some (op, (regsOf (shp op) (((bytesOf s).drop (p + 1)).getD 0 0)).1, (regsOf (shp op) (((bytesOf s).drop (p + 1)).getD 0 0)).2, numOf (shp op) (op :: (bytesOf s).drop (p + 1))) else none : Option (Int × Int × Int × Int)) with
        | none => (0, 0, 0, 0, 0, 9)
        | some (op, a, b, n) => (op, a, b, n, (p : Int) + size (shp op), 0)) := by
    intro q h1 h2 hB hA hq
    rw [hq, tail q.1 q.2 h1 h2 hB hA]
    split
    · rfl
    · rfl
  clear hnum tail
  by_cases hr2 : regs (shp op) = 2
  · have hb2 := bt_range s (p + 1 : Nat)
    have hw2 : wrap64 (bt s (p + 1 : Nat)) = bt s (p + 1 : Nat) := wrap64_id (by omega) (by omega)
    have hm : Int.tmod (bt s (p + 1 : Nat)) 16 = bt s (p + 1 : Nat) % 16 := Int.tmod_eq_emod_of_nonneg (by omega)
    have hd : Int.tdiv (bt s (p + 1 : Nat)) 16 = bt s (p + 1 : Nat) / 16 := Int.tdiv_eq_ediv_of_nonneg (by omega)
    rw [if_pos hr2, if_pos (by omega), if_pos (by have := hn1 (by omega); omega), hw2, hm, hd, wrap64_id (n := bt s (p + 1 : Nat) / 16) (by omega) (by omega)]
    exact fin (bt s (p + 1 : Nat) / 16, bt s (p + 1 : Nat) % 16) (by simp only; omega) (by simp only; omega) (fun h => by omega) (fun h => by omega) (by unfold regsOf; rw [if_neg (by omega), if_pos hr2, getD_next s p (hn1 (by omega))])
  · rw [if_neg hr2]
    by_cases hr1 : regs (shp op) > 0
    · have hb2 := bt_range s (p + 1 : Nat)
      rw [if_pos hr1, if_pos (by omega), if_pos (by have := hn1 (by omega); omega), wrap64_id (n := bt s (p + 1 : Nat)) (by omega) (by omega)]
      exact fin (bt s (p + 1 : Nat), 0) (by simp only; omega) (by simp) (fun _ => rfl) (fun h => by omega) (by unfold regsOf; rw [if_pos (by omega), getD_next s p (hn1 (by omega))])
    · rw [if_neg hr1]
      exact fin (0, 0) (by simp) (by simp) (fun _ => rfl) (fun _ => rfl) (by unfold regsOf; rw [if_neg (by omega), if_neg hr2])

/-- Either some instructions' forms stand from the place on, or none do, and All says so. -/
theorem rall_total (s : ByteArray) (hs : s.size ≤ 140737488351232) : ∀ (m k p : Nat) (acc : List S79), s.size - p ≤ m → p ≤ s.size → acc.length + m < 4398046511104 → m + 80 < k →
    (∃ is : List S79, (bytesOf s).drop p = formsS is ∧ (∀ i ∈ is, OkS i) ∧ is.length ≤ m ∧ cotterref03_All.l0 k s acc p = some (acc ++ is, 0)) ∨ (cotterref03_All.l0 k s acc p = some ([], 9) ∧ ¬ ∃ is : List S79, (bytesOf s).drop p = formsS is ∧ ∀ i ∈ is, OkS i) := by
  intro m
  induction m with
  | zero =>
    intro k p acc hm hp ha hk
    obtain ⟨k, rfl⟩ : ∃ m, k = m + 1 := ⟨k - 1, by omega⟩
    refine .inl ⟨[], ?_, by simp, by simp, ?_⟩
    · rw [List.drop_eq_nil_of_le (by rw [bytesOf_length]; omega)]; rfl
    · simp only [cotterref03_All.l0]
      rw [if_neg (by omega), List.append_nil]
  | succ m ih =>
    intro k p acc hm hp ha hk
    obtain ⟨k, rfl⟩ : ∃ m, k = m + 1 := ⟨k - 1, by omega⟩
    by_cases hlt : p < s.size
    · simp only [cotterref03_All.l0]
      rw [if_pos (by omega), rdec_f s p hs k (by omega)]
      simp only [Option.bind_some]
      cases hd : decL ((bytesOf s).drop p) with
      | none =>
        have e : decR s p = (0, 0, 0, 0, 0, 9) := by
          unfold decR
          rw [if_neg (by omega), Int.toNat_natCast, hd]
        right
        rw [e, if_neg (by simp)]
        refine ⟨rfl, ?_⟩
        rintro ⟨is, h1, h2⟩
        cases is with
        | nil =>
          have h3 := congrArg List.length h1
          rw [List.length_drop, bytesOf_length] at h3
          simp [formsS] at h3
          omega
        | cons i is =>
          rw [h1, formsS_cons] at hd
          have hi := h2 i (by simp)
          unfold formS at hd
          rw [decL_form _ hi.1 hi.2.1 hi.2.2.1 hi.2.2.2] at hd
          cases hd
      | some q =>
        obtain ⟨op, a, b, n⟩ := q
        obtain ⟨hM, hN, n0, n1, hl, hpos, htk⟩ := decL_some ((bytesOf_Bs s).drop p) hd
        have hI : OkS ⟨op, a, b, n⟩ := ⟨hM, hN, n0, n1⟩
        have hfl := formL_len op a b n hM.1
        have hsplit : (bytesOf s).drop p = formS ⟨op, a, b, n⟩ ++ (bytesOf s).drop (p + (formS ⟨op, a, b, n⟩).length) := by
          have e1 : (formS ⟨op, a, b, n⟩).length = (size (shp op)).toNat := by unfold formS; simp only; omega
          rw [e1, ← List.drop_drop]
          have e2 : formS ⟨op, a, b, n⟩ = ((bytesOf s).drop p).take (size (shp op)).toNat := htk.symm
          rw [e2, List.take_append_drop]
        have hlen : p + (formS ⟨op, a, b, n⟩).length ≤ s.size := by
          rw [List.length_drop, bytesOf_length] at hl
          unfold formS
          simp only
          omega
        have hfp := formS_pos hI
        rw [dec_ok s p ⟨op, a, b, n⟩ _ hI hp hsplit]
        simp only [if_true]
        rw [if_pos (by omega)]
        rcases ih k (p + (formS ⟨op, a, b, n⟩).length) (acc ++ [⟨op, a, b, n⟩]) (by omega) hlen (by rw [List.length_append]; simp; omega) (by omega) with ⟨is, h1, h2, h3, h4⟩ | ⟨h1, h2⟩
        · refine .inl ⟨⟨op, a, b, n⟩ :: is, ?_, ?_, by simp; omega, ?_⟩
          · rw [hsplit, h1]; rfl
          · intro i hi
            rcases List.mem_cons.1 hi with rfl | hi
            · exact hI
            · exact h2 i hi
          · rw [h4]; simp
        · refine .inr ⟨h1, ?_⟩
          rintro ⟨is, g1, g2⟩
          cases is with
          | nil =>
            have h3 := congrArg List.length g1
            rw [List.length_drop, bytesOf_length] at h3
            simp [formsS] at h3
            omega
          | cons i is =>
            have hi := g2 i (by simp)
            have g3 := decL_form (formsS is) hi.1 hi.2.1 hi.2.2.1 hi.2.2.2
            rw [formsS_cons] at g1
            have e4 : formL i.f0 i.f1 i.f2 i.f3 ++ formsS is = (bytesOf s).drop p := g1.symm
            rw [e4, hd] at g3
            simp only [Option.some.injEq, Prod.mk.injEq] at g3
            obtain ⟨x1, x2, x3, x4⟩ := g3
            have e5 : formS ⟨op, a, b, n⟩ = formS i := by unfold formS; simp only [x1, x2, x3, x4]
            refine h2 ⟨is, ?_, fun j hj => g2 j (by simp [hj])⟩
            rw [e5, ← List.drop_drop, g1, List.drop_left]
    · refine .inl ⟨[], ?_, by simp, by simp, ?_⟩
      · rw [List.drop_eq_nil_of_le (by rw [bytesOf_length]; omega)]; rfl
      · simp only [cotterref03_All.l0]
        rw [if_neg (by omega), List.append_nil]


theorem rall_same (s : ByteArray) (hs : s.size ≤ 1048576) (k : Nat) (hk : s.size + 100 < k) : ∃ is e, is.length ≤ s.size ∧ ins_All.f k s = some (is, e) ∧ cotterref03_All.f k s = some (is, e) := by
  unfold ins_All.f cotterref03_All.f
  rcases all_total s (by omega) s.size k 0 [] (by omega) (by omega) (by simp; omega) (by omega) with ⟨is, h1, h2, h3, h4⟩ | ⟨h1, h2⟩
  · rcases rall_total s (by omega) s.size k 0 [] (by omega) (by omega) (by simp; omega) (by omega) with ⟨js, g1, g2, g3, g4⟩ | ⟨g1, g2⟩
    · have e := forms_inj is js h2 g2 (h1.symm.trans g1)
      subst e
      exact ⟨is, 0, h3, by simpa using h4, by simpa using g4⟩
    · exact absurd ⟨is, h1, h2⟩ g2
  · rcases rall_total s (by omega) s.size k 0 [] (by omega) (by omega) (by simp; omega) (by omega) with ⟨js, g1, g2, g3, g4⟩ | ⟨g1, g2⟩
    · exact absurd ⟨js, g1, g2⟩ h2
    · exact ⟨[], 9, by simp, h1, g1⟩

end Go.Proofs.YtimhcpmfhebbhaaDoor.Ins

/-
  Layer 8: image.starts: the walk. Conditions: those told at each; the global table's fact Glob.
-/
namespace Go.Proofs.YtimhcpmfhebbhaaDoor.M
set_option maxRecDepth 100000
open Go.RowKit Go.Proofs.YtimhcpmfhebbhaaDoorW.PrintWords Go.Proofs.YtimhcpmfhebbhaaDoorW.PrintLast Go.Proofs.YtimhcpmfhebbhaaDoor.Num Go.Proofs.YtimhcpmfhebbhaaDoor.Seven Go.Proofs.YtimhcpmfhebbhaaDoor.Ins
set_option linter.unusedVariables false
set_option linter.unusedSimpArgs false
/-- Where each instruction begins. -/
def places (at_ : Nat) : List S79 → List (Int × S79)
  | [] => []
  | i :: is => ((at_ : Int), i) :: places (at_ + (formS i).length) is
theorem places_append : ∀ (a b : List S79) (p : Nat), places p (a ++ b) = places p a ++ places (p + (formsS a).length) b
  | [], b, p => by simp [places, formsS]
  | i :: a, b, p => by rw [List.cons_append, places, places, places_append a b, formsS_cons, List.length_append, List.cons_append, Nat.add_assoc]
theorem places_lt : ∀ (is : List S79) (p : Nat), (∀ i ∈ is, OkS i) → ∀ q ∈ places p is, (p : Int) ≤ q.1 ∧ q.1 < ((p + (formsS is).length : Nat) : Int)
  | [], _, _, q, hq => by cases hq
  | i :: is, p, h, q, hq => by
    have hp := formS_pos (h i (by simp))
    rw [formsS_cons, List.length_append]
    rcases List.mem_cons.1 hq with rfl | hq
    · dsimp only; omega
    · have := places_lt is _ (fun i hi => h i (by simp [hi])) q hq
      omega
theorem formS_size {i : S79} (h : OkS i) : size (shp i.f0) = ((formS i).length : Int) := (formL_len _ _ _ _ h.1.1).symm
theorem R_mapI {α : Type} {k : Kd α} {e base : Nat} {W W' : World} {ok : Nat → Prop} {v : Value} {l : List α} {mb n : Nat} {D : SymD} {R : Value → Option (SymD × List MemPlace)} {q : TypeId} (h : k.R e W base ok v l) (hm : W.ownsMap Tryd.prog q R mb n D) (hg : W.grownBy W' (some mb)) : k.R e W' base ok v l := by
  refine Kd.R_mono (Kd.R_grown (Kd.R_bound h) hg (fun k hk => ?_)) (fun _ h => h.1)
  obtain ⟨_, _, _, q', _, cells, hc⟩ := hk
  intro e
  obtain ⟨es, clock, hb, _⟩ := hm
  injection e with e
  subst e
  rw [hc] at hb
  cases hb
theorem map_below {W W1 : World} {q : TypeId} {R : Value → Option (SymD × List MemPlace)} {b n : Nat} {D : SymD} (h : W.ownsMap Tryd.prog q R b n D) (hb : Below W.heap.size W W1) : W1.ownsMap Tryd.prog q R b n D := by
  have hlt := h.lt
  obtain ⟨es, clock, hb', F, hs, hD⟩ := h
  exact ⟨es, clock, (hb.block _ hlt).trans hb', F, hs, hD⟩
theorem size_c {w : World} (hG : Glob w) (op : Int) : Calls Tryd.prog 53 #[.int .i64 op] w fun e w' => e = .returned (.int .i64 (size (shp op))) ∧ Below w.heap.size w w' := by
  refine (ins_Size.calls 1 op _ w hG (Size_f op 0)).mono ?_
  rintro e w' ⟨h, ⟨m, rfl⟩⟩
  exact ⟨h, pw_below_drewN (Below.refl _ _) m⟩
theorem starts_no {w : World} (hG : Glob w) {s : ByteArray} {k : Nat} (hall : ins_All.f k s = some ([], 9)) :
    Calls Tryd.prog 32 #[.string s] w fun e w' => e = .returned (.tuple #[.map none, .bool false]) ∧ Below w.heap.size w w' := by
  have CA := Aside0.mk (ins_All.calls k s [] 9 w hG hall)
  clear hG hall
  go_enter Tryd.func32, Tryd.ntmps32
  go_wp2_with (first | (go_at_call 52; (with_reducible refine CA.out.mono ?_); rintro e w1 ⟨v0, rfl, ho, hb⟩; have HB := Aside0.mk hb; clear ho hb))
  go_ret2
  exact ⟨rfl, HB.out⟩
theorem forms_le : ∀ (l : List S79), (∀ i ∈ l, OkS i) → (formsS l).length ≤ 10 * l.length
  | [], _ => Nat.le_refl _
  | i :: l, h => by
    have h1 := formS_pos (h i (by simp))
    have h2 := forms_le l fun i hi => h i (by simp [hi])
    rw [formsS_cons, List.length_append, List.length_cons]
    omega
theorem make_hint (n : Nat) (hn : n ≤ 1000000) (w : World) : (Instr.makeMap 75 (some (.int .i64 (n : Int)))).run Tryd.prog w = .ok (.map (some w.heap.size)) (w.alloc (.map #[] 0)) := by
  simp [Instr.makeMap, run_underlying Tryd.underlying75, asInt, asIntOf, Result.andThen]
set_option maxHeartbeats 8000000 in
theorem starts_yes {w : World} (hG : Glob w) {s : ByteArray} {is : List S79} {k : Nat} (hall : ins_All.f k s = some (is, 0)) (hok : ∀ i ∈ is, OkS i) (hlen : is.length ≤ 1000000) :
    Calls Tryd.prog 32 #[.string s] w fun e w' => ∃ (mb n : Nat) (D : SymD), e = .returned (.tuple #[.map (some mb), .bool true]) ∧ w'.ownsMap Tryd.prog 3 RIns mb n D ∧ FndI D (places 0 is) ∧ n ≤ 1000000 ∧ w.heap.size ≤ mb ∧ Below w.heap.size w w' := by
  have CA := Aside0.mk (ins_All.calls k s is 0 w hG hall)
  have HG := Aside0.mk hG
  have HOK := Aside0.mk hok
  have hmm := make_hint is.length hlen
  clear hG hall hok
  go_enter Tryd.func32, Tryd.ntmps32
  go_wp2_with (first | (go_at_call 52; (with_reducible refine CA.out.mono ?_); rintro e w1 ⟨v0, rfl, ho, hb⟩; obtain ⟨A1, c1, rfl⟩ := Kd.R_slice ho; have HR := Aside0.mk ho; have HB := Aside0.mk hb; clear ho hb))
  have HM0 := Aside0.mk (World.ownsMap_made (P := Tryd.prog) (k := 3) (R := RIns) w1)
  have HR0 := Aside0.mk (Kd.R_alloc HR.out (.map #[] 0))
  have HB0 := Aside0.mk (below_alloc HB.out (.map #[] 0))
  have HS := Aside0.mk HB.out.size
  clear HR HB CA
  generalize w1.alloc (.map #[] 0) = W at *
  generalize w1.heap.size = mb at *
  go_loopw [7, 22] (fun v7 v22 wr => ∃ (k m : Nat) (D : SymD), k ≤ is.length ∧ v22 = .int .i64 k ∧ v7 = .int .i64 ((formsS (is.take k)).length : Nat) ∧ Aside0 (wr.ownsMap Tryd.prog 3 RIns mb m D) ∧ Aside0 (FndI D (places 0 (is.take k))) ∧ m ≤ k ∧ Aside0 (Kd.R k79 79 wr w.heap.size (fun _ => True) (.slice A1 is.length c1) is) ∧ Aside0 (Below w.heap.size w wr)) (fun _ v22 _ => is.length - (intOf v22).toNat)
  case atStart => exact ⟨0, 0, _, Nat.zero_le _, rfl, rfl, HM0, ⟨fndI_nil⟩, Nat.le_refl _, HR0, HB0⟩
  case round =>
    clear HR0 HB0 HM0
    obtain ⟨k, m, D, hk, rfl, rfl, HM, HF, hmk, HR, HB⟩ := hrel
    by_cases hlt : k < is.length
    case pos =>
      obtain ⟨ad, rfl, hx0, hx1, hx2, hx3⟩ := at_T79 (Kd.R_reads' HR.out).2.2 (k : Int) (by omega) (by omega)
      have hrd : rd_T79 is (k : Int) = is[k] := by simp [rd_T79, List.getD_eq_getElem?_getD, List.getElem?_eq_getElem hlt]
      rw [hrd] at hx0 hx1 hx2 hx3
      simp only [Int.toNat_natCast] at hx0 hx1 hx2 hx3
      have OK := Aside0.mk (HOK.out _ (List.getElem_mem hlt))
      have hfp := formS_pos OK.out
      have hsz := formS_size OK.out
      have hall : (formsS (is.take k)).length ≤ 10 * k := by
        have := forms_le (is.take k) (fun i hi => HOK.out i (List.mem_of_mem_take hi))
        rw [List.length_take] at this
        omega
      have hnew : ((places 0 (is.take k)).any fun q => decide (q.1 = ((formsS (is.take k)).length : Nat))) = false := by
        rw [List.any_eq_false]
        intro q hq
        have := places_lt _ 0 (fun i hi => HOK.out i (List.mem_of_mem_take hi)) q hq
        simp only [decide_eq_true_eq]
        omega
      have hF2 := fndI_put (i := is[k]) HF.out hnew
      have hpl : places 0 (is.take (k + 1)) = places 0 (is.take k) ++ [((((formsS (is.take k)).length : Nat) : Int), is[k])] := by rw [List.take_succ_eq_append_getElem hlt, places_append, Nat.zero_add]; rfl
      have hfl : (formsS (is.take (k + 1))).length = (formsS (is.take k)).length + (formS is[k]).length := by rw [List.take_succ_eq_append_getElem hlt, formsS_append, List.length_append]; simp [formsS]
      rw [← hpl] at hF2
      have HF2 := Aside0.mk hF2
      have HFL := Aside0.mk hfl
      generalize is[k] = i at *
      generalize hp : (formsS (is.take k)).length = p at *
      have hkey : keyOf Tryd.prog 3 (.int .i64 (p : Int)) = some (insKey p) := insKey_of (by omega) (by omega)
      have ew : wrap64 ((p : Int) + size (shp i.f0)) = ((p + (formS i).length : Nat) : Int) := by rw [hsz, wrap64_id (by omega) (by omega)]; omega
      have e2 : wrap64 ((k : Int) + 1) = ((k + 1 : Nat) : Int) := by clear ew; rw [wrap64_id (by omega) (by omega)]; omega
      have hlk : (k : Int) < (is.length : Int) := by omega
      clear HF hF2 hnew hpl hfl hrd hall hsz
      go_wp2_with (first
        | (at_mapUpdate; refine wpList_mapUpdate_own _ rfl _ _ _ 75 rfl 3 79 ins_law Tryd.underlying75 _ mb m _ rfl (by repeat (first | exact HM.out | apply World.ownsMap.drew | apply World.ownsMap.alloc)) (by unfold maxLen; omega) _ _ _ rfl rfl hkey _ [] (RIns_ins i) ?_; intro w2 hown2 hgrow2; have HM2 := Aside0.mk hown2; have HB2 := Aside0.mk (sym_grown (w := w) hgrow2 HS.out (below_alloc HB.out _)); have HR2 := Aside0.mk (R_mapI (Kd.R_alloc HR.out _) (World.ownsMap.alloc HM.out _) hgrow2); have BX2 := Aside0.mk (blk_grown (blk_new wr (.cells #[.int .i64 i.f0, .int .i64 i.f1, .int .i64 i.f2, .int .i64 i.f3] 79)) hgrow2 (fun e => by have := HM.out.lt; injection e with e; omega)); have kb0 : w2.cell? ⟨wr.heap.size, 0, none⟩ = some (.int .i64 i.f0) := (blk_cell BX2.out 0).trans rfl; clear hown2 hgrow2)
        | (go_at_call 53; (with_reducible refine (size_c (HG.out.below HB2.out rfl) i.f0).mono ?_); rintro e w3 ⟨rfl, hb⟩; have HM3 := Aside0.mk (map_below HM2.out hb); have HB3 := Aside0.mk (below_then HB2.out HB2.out.size hb); have HR3 := Aside0.mk (Kd.R_below HR2.out hb); clear hb))
      refine ⟨⟨k + 1, m + 1, _, by omega, by first | rfl | rw [e2], by first | rfl | (rw [HFL.out]; rw [ew]) | rw [HFL.out], HM3, HF2, by omega, HR3, HB3⟩, ?_⟩
      first | (rw [e2]; simp [intOf]; omega) | (simp [intOf]; omega)
    case neg =>
      obtain rfl : k = is.length := by omega
      rw [List.take_length] at HF
      go_wp2
      go_ret2
      exact ⟨mb, m, D, rfl, HM.out, HF.out, by omega, HS.out, HB.out⟩
end Go.Proofs.YtimhcpmfhebbhaaDoor.M

/-
  Layer 8: ins.Size turns nothing, not even the tape of orders. Condition: the global table's fact Glob.
-/
namespace Go.Proofs.YtimhcpmfhebbhaaDoor.M
set_option maxRecDepth 100000
open Go.RowKit Go.Proofs.YtimhcpmfhebbhaaDoorW.PrintWords Go.Proofs.YtimhcpmfhebbhaaDoorW.PrintLast Go.Proofs.YtimhcpmfhebbhaaDoor.Num Go.Proofs.YtimhcpmfhebbhaaDoor.Seven Go.Proofs.YtimhcpmfhebbhaaDoor.Ins
set_option linter.unusedVariables false
set_option linter.unusedSimpArgs false
theorem shapeOf_still (op : Int) (w : World) (hG : Glob w) : Calls Tryd.prog 76 #[.int .i64 op] w fun e w' => e = .returned (.int .u8 (shp op)) ∧ w' = w := by
  unfold shp
  by_cases c0 : op < 0
  · rw [if_pos c0]
    clear hG
    go_enter Tryd.func76, Tryd.ntmps76
    go_wp2
    all_goals go_ret
    all_goals exact ⟨rfl, rfl⟩
  · rw [if_neg c0]
    by_cases c1 : op ≥ 34
    · rw [if_pos c1]
      clear hG
      go_enter Tryd.func76, Tryd.ntmps76
      go_wp2
      all_goals go_ret
      all_goals exact ⟨rfl, rfl⟩
    · rw [if_neg c1]
      obtain ⟨n, rfl⟩ := Int.eq_ofNat_of_zero_le (show 0 ≤ op by omega)
      have hn : n < 34 := by omega
      have hc := hG n hn
      have hc2 : w.cell? ⟨0, n, none⟩ = some (.int .u8 (rd shapeTab (n : Int))) := by rw [hc]; rfl
      clear hc hG
      generalize rd shapeTab (n : Int) = r at *
      go_enter Tryd.func76, Tryd.ntmps76
      go_wp2
      all_goals go_ret
      all_goals exact ⟨rfl, rfl⟩
theorem regs_still (s : Int) (h0 : 0 ≤ s) (h1 : s ≤ 10) (w : World) : Calls Tryd.prog 91 #[.int .u8 s] w fun e w' => e = .returned (.int .i64 (regs s)) ∧ w' = w := by
  rcases eleven h0 h1 with rfl | rfl | rfl | rfl | rfl | rfl | rfl | rfl | rfl | rfl | rfl <;>
    (go_enter Tryd.func91, Tryd.ntmps91; go_wp2; go_ret; exact ⟨rfl, rfl⟩)
theorem width_still (s : Int) (h0 : 0 ≤ s) (h1 : s ≤ 10) (w : World) : Calls Tryd.prog 92 #[.int .u8 s] w fun e w' => e = .returned (.int .i64 (width s)) ∧ w' = w := by
  rcases eleven h0 h1 with rfl | rfl | rfl | rfl | rfl | rfl | rfl | rfl | rfl | rfl | rfl <;>
    (go_enter Tryd.func92, Tryd.ntmps92; go_wp2; go_ret; exact ⟨rfl, rfl⟩)
theorem siz_still (s : Int) (h0 : 0 ≤ s) (h1 : s ≤ 10) (w : World) : Calls Tryd.prog 77 #[.int .u8 s] w fun e w' => e = .returned (.int .i64 (size s)) ∧ w' = w := by
  have RS := Aside0.mk (regs_still s h0 h1)
  have WS := Aside0.mk (width_still s h0 h1)
  rcases eleven h0 h1 with rfl | rfl | rfl | rfl | rfl | rfl | rfl | rfl | rfl | rfl | rfl <;>
    (go_enter Tryd.func77, Tryd.ntmps77; go_wp2_with (first | (go_at_call 91; (with_reducible refine (RS.out _).mono ?_); rintro e w' ⟨rfl, rfl⟩) | (go_at_call 92; (with_reducible refine (WS.out _).mono ?_); rintro e w' ⟨rfl, rfl⟩)); go_ret; exact ⟨by first | rfl | kernel_rfl | decide, rfl⟩)
theorem size_still (op : Int) (w : World) (hG : Glob w) : Calls Tryd.prog 53 #[.int .i64 op] w fun e w' => e = .returned (.int .i64 (size (shp op))) ∧ w' = w := by
  have h := shp_range op
  have S1 := Aside0.mk (shapeOf_still op w hG)
  have S2 := Aside0.mk (siz_still (shp op) h.1 h.2 w)
  clear hG h
  go_enter Tryd.func53, Tryd.ntmps53
  go_wp2_with (first | (go_at_call 76; (with_reducible refine S1.out.mono ?_); rintro e w' ⟨rfl, rfl⟩) | (go_at_call 77; (with_reducible refine S2.out.mono ?_); rintro e w' ⟨rfl, rfl⟩))
  go_ret
  exact ⟨rfl, rfl⟩
end Go.Proofs.YtimhcpmfhebbhaaDoor.M

namespace Go.Proofs.YtimhcpmfhebbhaaDoor.M
end Go.Proofs.YtimhcpmfhebbhaaDoor.M
namespace Go.Proofs.YtimhcpmfhebbhaaDoor.M
end Go.Proofs.YtimhcpmfhebbhaaDoor.M
namespace Go.Proofs.YtimhcpmfhebbhaaDoor.M
end Go.Proofs.YtimhcpmfhebbhaaDoor.M
-- Written by a program of this session (wip/ownprint.py) over the translation. Lean checks it.
namespace Go.Proofs.YtimhcpmfhebbhaaDoor.M
open Go.RowKit Go.Proofs.YtimhcpmfhebbhaaDoorW.PrintWords Go.Proofs.YtimhcpmfhebbhaaDoorW.PrintLast
set_option linter.unusedVariables false
set_option linter.unusedSimpArgs false

/-! ### cotterref08_Check: function 15 -/
/-! ### cotterref08_Threads: function 13 -/
def cotterref08_Threads.l0 : Nat → List ByteArray → Int → ByteArray → List Int → List (S68) → Option (List ByteArray)
  | 0, _, _, _, _, _ => none
  | k + 1, x3, x4, x219000, x219001, x219002 => if x4 < (x219002.length : Int) then (if 0 ≤ x4 then (if ((rd_T68 x219002 x4).f1) = 3 then (if x3.length < 8796093022208 then (cotterref08_Threads.l0 k (x3 ++ [(rd_T68 x219002 x4).f0]) (wrap64 (x4 + 1)) x219000 x219001 x219002) else (none)) else (cotterref08_Threads.l0 k x3 (wrap64 (x4 + 1)) x219000 x219001 x219002)) else (none)) else (some x3)
def cotterref08_Threads.f (k : Nat) (a0_0 : ByteArray) (l0_1 : List Int) (l0_2 : List (S68)) : Option (List ByteArray) := cotterref08_Threads.l0 k ([] : List ByteArray) 0 a0_0 l0_1 l0_2
set_option maxHeartbeats 8000000 in
set_option maxRecDepth 100000 in
theorem cotterref08_Threads.calls (k : Nat) (a0_0 : ByteArray) (A0_1 : Option Addr) (c0_1 : Nat) (l0_1 : List Int) (A0_2 : Option Addr) (c0_2 : Nat) (l0_2 : List (S68)) (r : List ByteArray) (w : World) (hr0_1 : Kd.C (Kd.int .i64) w A0_1 l0_1.length l0_1) (hc0_1 : l0_1.length ≤ c0_1) (hr0_2 : Kd.C k68 w A0_2 l0_2.length l0_2) (hc0_2 : l0_2.length ≤ c0_2) (h : cotterref08_Threads.f k a0_0 l0_1 l0_2 = some r) :
    Calls Tryd.prog 13 #[.agg #[.string a0_0, .slice A0_1 l0_1.length c0_1, .slice A0_2 l0_2.length c0_2]] w fun e w' => ∃ v0_ : Value, e = .returned (v0_) ∧ Kd.R Kd.string 9 w' w.heap.size (fun _ => True) v0_ r ∧ Below w.heap.size w w' := by
  have hu25 := Tryd.underlying25
  have HR0_1 := Aside0.mk hr0_1
  have HC0_1 := Aside0.mk hc0_1
  clear hr0_1 hc0_1
  have HR0_2 := Aside0.mk hr0_2
  have HC0_2 := Aside0.mk hc0_2
  clear hr0_2 hc0_2
  have HB := Aside0.mk (Below.refl w.heap.size w)
  have H : (cotterref08_Threads.l0 k ([] : List ByteArray) 0 a0_0 l0_1 l0_2) = some r := h
  clear h
  have H' := Aside0.mk H
  clear H
  go_enter Tryd.func13, Tryd.ntmps13
  go_wp2_with (first | ((with_reducible refine gate_dst (N := 1) rfl ?_); refine box_event ?hg (N := 1) ?hd (cs := #[.string a0_0, .slice A0_1 l0_1.length c0_1, .slice A0_2 l0_2.length c0_2]) (t := 25) ?hr ?_; (case hd => rfl); (case hg => rfl); (case hr => first | (go_simp; done) | (go_simp; rfl)); intro gb218 hg w2 hbox hb; have n0_ := Aside0.mk (below_step (by repeat (first | (with_reducible first | exact HB.out | apply below_alloc | apply pw_below_drewN | apply below_drew1) | exact HB.out)) hb); have n1_ := Aside0.mk (hbox); have n2_ := Aside0.mk ((by rw [hg]; exact (below_size (by repeat (first | (with_reducible first | exact HB.out | apply below_alloc | apply pw_below_drewN | apply below_drew1) | exact HB.out))) : w.heap.size ≤ gb218)); have n3_ := Aside0.mk ((by rw [hg]; exact (below_size (by repeat (first | (with_reducible first | exact HB.out | apply below_alloc | apply pw_below_drewN | apply below_drew1) | exact HB.out))) : w.heap.size ≤ gb218)); clear HB; have HB := n0_; have BK218 := n1_; have GW218 := n2_; have GE218 := n3_; clear n0_ n1_ n2_ n3_; clear hb hbox hg))
  go_loopg [3, 4] k (fun kq v3 v4 w' => ∃ (x3_1 : List ByteArray) (x4_1 : Int), v4 = .int .i64 x4_1 ∧ Aside0 (cotterref08_Threads.l0 kq x3_1 x4_1 a0_0 l0_1 l0_2 = some r) ∧ Aside0 (kq ≤ k) ∧ Aside0 (Kd.R Kd.string 9 w' w.heap.size (fun _ => True) v3 x3_1) ∧ Aside0 (w'.heap[gb218]? = some (.cells #[.string a0_0, (.slice A0_1 l0_1.length c0_1), (.slice A0_2 l0_2.length c0_2)] 25 (0, 0))) ∧ Aside0 (Below w.heap.size w w'))
  case atStart => exact ⟨(([] : List ByteArray)), (0), (by first | rfl | (simp; done) | (simp [*]; done)), H', ⟨Nat.le_refl _⟩, ⟨by first | exact Kd.R_nil _ _ _ _ _ | exact Kd.N_nil _ _ _ _ _ | exact Kd.V_nil _ _ _ _ _ | exact Kd.Q_nil _ _ _ _ _ | exact Kd.S_nil _ _ _ _ _⟩, ⟨by (with_reducible repeat (first | refine blk_drewN ?_ _ | refine blk_drew ?_ | refine blk_alloc ?_ _)); exact BK218.out⟩, ⟨by repeat (first | (with_reducible first | exact HB.out | apply below_alloc | apply pw_below_drewN | apply below_drew1 | refine below_set ?_ GE218.out) | exact HB.out)⟩⟩
  case round =>
    clear H'
    try clear c1
    try clear p2
    obtain ⟨x3_1, x4_1, rfl, HA, HK1, HO_3, BK218, HB⟩ := hrel
    cases gk with
    | zero => exact absurd HA.out (by simp [cotterref08_Threads.l0])
    | succ k1 =>
      have H := HA.out
      clear HA
      simp only [cotterref08_Threads.l0] at H
      by_cases c3 : x4_1 < (l0_2.length : Int)
      · rw [if_pos c3] at H
        have c3b0 : decide (x4_1 < (l0_2.length : Int)) = true := decide_eq_true c3
        clear c3
        by_cases c4 : 0 ≤ x4_1
        · rw [if_pos c4] at H
          have c4b0 : decide (0 ≤ x4_1) = true := decide_eq_true c4
          clear c4
          by_cases c5 : ((rd_T68 l0_2 x4_1).f1) = 3
          · rw [if_pos c5] at H
            have c5b0 : (((rd_T68 l0_2 x4_1).f1) == 3) = true := beq_iff_eq.mpr c5
            have c5b1 : (((rd_T68 l0_2 x4_1).f1) != 3) = false := bne_eq_false_iff_eq.mpr c5
            clear c5
            by_cases c6 : x3_1.length < 8796093022208
            · rw [if_pos c6] at H
              have LMc6 := Aside0.mk c6
              clear c6
              obtain ⟨y221, hy221⟩ : ∃ y_ : List ByteArray, y_ = (x3_1 ++ [(rd_T68 l0_2 x4_1).f0]) := ⟨_, rfl⟩
              replace H : (cotterref08_Threads.l0 k1 y221 (wrap64 (x4_1 + 1)) a0_0 l0_1 l0_2) = some r := by first | (rw [hy221]; with_reducible exact H) | (have H2_ := (Option.bind_some _ _).symm.trans H; rw [hy221]; with_reducible exact H2_) | (have H2_ := (Option.bind_some _ _).symm.trans H; with_reducible exact H2_) | with_reducible exact H | (rw [hy221]; exact H) | exact H
              have Ny221 := Aside0.mk hy221
              clear hy221
              have H' := Aside0.mk H
              clear H
              have hcz7_0 : wr.cell? ⟨gb218, 0, none⟩ = some (.string a0_0) := (blk_cell BK218.out 0).trans rfl
              have hcz7_1 : wr.cell? ⟨gb218, 1, none⟩ = some (.slice A0_1 l0_1.length c0_1) := (blk_cell BK218.out 1).trans rfl
              have hcz7_2 : wr.cell? ⟨gb218, 2, none⟩ = some (.slice A0_2 l0_2.length c0_2) := (blk_cell BK218.out 2).trans rfl
              have hfz7_0 := blk_frozen BK218.out 0
              have hfz7_1 := blk_frozen BK218.out 1
              have hfz7_2 := blk_frozen BK218.out 2
              have p219 : 0 ≤ (x4_1 : Int) := of_decide_eq_true (by first | (with_reducible assumption) | assumption)
              have q219 : x4_1 < (l0_2.length : Int) := of_decide_eq_true (by first | (with_reducible assumption) | assumption)
              obtain ⟨ad219, e219, hx219_0, hx219_1, hx219_2⟩ := at_T68 HR0_2.out x4_1 p219 q219
              cases e219
              replace hx219_0 := (HB.out.cell (World.block_lt_of_cell? w _ hx219_0)).trans hx219_0
              replace hx219_1 := (HB.out.cell (World.block_lt_of_cell? w _ hx219_1)).trans hx219_1
              replace hx219_2 := (HB.out.cell (World.block_lt_of_cell? w _ hx219_2)).trans hx219_2
              replace p219 := eq_true p219
              replace q219 := eq_true q219
              have p220 : 0 ≤ (x4_1 : Int) := of_decide_eq_true (by first | (with_reducible assumption) | assumption)
              have q220 : x4_1 < (l0_2.length : Int) := of_decide_eq_true (by first | (with_reducible assumption) | assumption)
              obtain ⟨ad220, e220, hx220_0, hx220_1, hx220_2⟩ := at_T68 HR0_2.out x4_1 p220 q220
              obtain rfl : ad219 = ad220 := (by injection e220)
              replace hx220_0 := (HB.out.cell (World.block_lt_of_cell? w _ hx220_0)).trans hx220_0
              replace hx220_1 := (HB.out.cell (World.block_lt_of_cell? w _ hx220_1)).trans hx220_1
              replace hx220_2 := (HB.out.cell (World.block_lt_of_cell? w _ hx220_2)).trans hx220_2
              replace p220 := eq_true p220
              replace q220 := eq_true q220
              go_wp2_with (first | ((with_reducible refine gate_builtin (b := .append) (xs := #[.tmp 19, .tmp 26]) rfl ?_); at_builtin; refine Kd.R_append Kd.string (w0 := w) w.heap.size rfl (.tmp 19) (.tmp 26) 32 9 (.string ⟨#[]⟩) 16 rfl Tryd.underlying32 info9 rfl (by decide) (by omega) u3 x3_1 ((rd_T68 l0_2 x4_1).f0) [.string ((rd_T68 l0_2 x4_1).f0)] (fun _ => True) (fun _ => False) rfl rfl ?aP (fun _ hk => hk.elim) ?aF ?aO ?aB ?aS ?aL ?_; (case aP => exact rfl); (case aB => exact (by repeat (first | (with_reducible first | exact HB.out | apply below_alloc | apply pw_below_drewN | apply below_drew1 | refine below_set ?_ GE218.out) | exact HB.out))); (case aF => exact (fun _ _ => trivial)); (case aO => exact (by (with_reducible repeat (first | apply Kd.R_alloc | apply Kd.R_drewN | apply Kd.R_drew)); exact HO_3.out)); (case aS => exact (below_size (by repeat (first | (with_reducible first | exact HB.out | apply below_alloc | apply pw_below_drewN | apply below_drew1 | refine below_set ?_ GE218.out) | exact HB.out)))); (case aL => have := LMc6.out; omega); intro v222 w8 ho hb hg hat; rw [← Ny221.out] at ho; have n0_ := Aside0.mk (blk_grown (g := gb218) (o := .cells #[.string a0_0, .slice A0_1 l0_1.length c0_1, .slice (some ad219) l0_2.length c0_2] 25 (0, 0)) (by (with_reducible repeat (first | refine blk_drewN ?_ _ | refine blk_drew ?_ | refine blk_alloc ?_ _)); exact BK218.out) hg (Kd.R_ne HO_3.out BK218.out (by decide))); have n1_ := Aside0.mk (hb); have n2_ := Aside0.mk (ho); clear BK218; clear HB; clear HO_3; have BK218 := n0_; have HB := n1_; have HO223 := n2_; clear n0_ n1_ n2_; clear ho hb hg hat))
              go_roundg k1
              case measure => have := HK1.out; omega
              case rel => exact ⟨(y221), (wrap64 (x4_1 + 1)), (by first | rfl | (simp; done) | (simp [*]; done)), H', ⟨by have := HK1.out; omega⟩, ⟨by (with_reducible repeat (first | apply Kd.R_alloc | apply Kd.R_drewN | apply Kd.R_drew)); exact HO223.out⟩, ⟨by (with_reducible repeat (first | refine blk_drewN ?_ _ | refine blk_drew ?_ | refine blk_alloc ?_ _)); exact BK218.out⟩, ⟨by repeat (first | (with_reducible first | exact HB.out | apply below_alloc | apply pw_below_drewN | apply below_drew1 | refine below_set ?_ GE218.out) | exact HB.out)⟩⟩
            · rw [if_neg c6] at H
              exact absurd H (by simp)
          · rw [if_neg c5] at H
            have c5b0 : (((rd_T68 l0_2 x4_1).f1) == 3) = false := beq_eq_false_iff_ne.mpr c5
            have c5b1 : (((rd_T68 l0_2 x4_1).f1) != 3) = true := bne_iff_ne.mpr c5
            have H' := Aside0.mk H
            clear H
            have hcz9_0 : wr.cell? ⟨gb218, 0, none⟩ = some (.string a0_0) := (blk_cell BK218.out 0).trans rfl
            have hcz9_1 : wr.cell? ⟨gb218, 1, none⟩ = some (.slice A0_1 l0_1.length c0_1) := (blk_cell BK218.out 1).trans rfl
            have hcz9_2 : wr.cell? ⟨gb218, 2, none⟩ = some (.slice A0_2 l0_2.length c0_2) := (blk_cell BK218.out 2).trans rfl
            have hfz9_0 := blk_frozen BK218.out 0
            have hfz9_1 := blk_frozen BK218.out 1
            have hfz9_2 := blk_frozen BK218.out 2
            have p219 : 0 ≤ (x4_1 : Int) := of_decide_eq_true (by first | (with_reducible assumption) | assumption)
            have q219 : x4_1 < (l0_2.length : Int) := of_decide_eq_true (by first | (with_reducible assumption) | assumption)
            obtain ⟨ad219, e219, hx219_0, hx219_1, hx219_2⟩ := at_T68 HR0_2.out x4_1 p219 q219
            cases e219
            replace hx219_0 := (HB.out.cell (World.block_lt_of_cell? w _ hx219_0)).trans hx219_0
            replace hx219_1 := (HB.out.cell (World.block_lt_of_cell? w _ hx219_1)).trans hx219_1
            replace hx219_2 := (HB.out.cell (World.block_lt_of_cell? w _ hx219_2)).trans hx219_2
            replace p219 := eq_true p219
            replace q219 := eq_true q219
            go_wp2
            go_roundg k1
            case measure => have := HK1.out; omega
            case rel => exact ⟨(x3_1), (wrap64 (x4_1 + 1)), (by first | rfl | (simp; done) | (simp [*]; done)), H', ⟨by have := HK1.out; omega⟩, ⟨by (with_reducible repeat (first | apply Kd.R_alloc | apply Kd.R_drewN | apply Kd.R_drew)); exact HO_3.out⟩, ⟨by (with_reducible repeat (first | refine blk_drewN ?_ _ | refine blk_drew ?_ | refine blk_alloc ?_ _)); exact BK218.out⟩, ⟨by repeat (first | (with_reducible first | exact HB.out | apply below_alloc | apply pw_below_drewN | apply below_drew1 | refine below_set ?_ GE218.out) | exact HB.out)⟩⟩
        · rw [if_neg c4] at H
          exact absurd H (by simp)
      · rw [if_neg c3] at H
        have c3b0 : decide (x4_1 < (l0_2.length : Int)) = false := decide_eq_false c3
        clear c3
        obtain rfl := Option.some.inj H
        have hcz10_0 : wr.cell? ⟨gb218, 0, none⟩ = some (.string a0_0) := (blk_cell BK218.out 0).trans rfl
        have hcz10_1 : wr.cell? ⟨gb218, 1, none⟩ = some (.slice A0_1 l0_1.length c0_1) := (blk_cell BK218.out 1).trans rfl
        have hcz10_2 : wr.cell? ⟨gb218, 2, none⟩ = some (.slice A0_2 l0_2.length c0_2) := (blk_cell BK218.out 2).trans rfl
        have hfz10_0 := blk_frozen BK218.out 0
        have hfz10_1 := blk_frozen BK218.out 1
        have hfz10_2 := blk_frozen BK218.out 2
        go_wp2
        go_ret
        exact ⟨_, by first | rfl | (simp [errW_none, errW_some] <;> rfl) | (simp [*, errW_none, errW_some] <;> rfl), by (with_reducible repeat (first | apply Kd.R_alloc | apply Kd.R_drewN | apply Kd.R_drew)); exact HO_3.out, by repeat (first | (with_reducible first | exact HB.out | apply below_alloc | apply pw_below_drewN | apply below_drew1 | refine below_set ?_ GE218.out) | exact HB.out)⟩

/-! ### image_Threads: function 12 -/
def image_Threads.l0 : Nat → List ByteArray → List (S68) → Int → Int → Option (List ByteArray)
  | 0, _, _, _, _ => none
  | k + 1, x3, x7, x8, x9 => if x9 < x8 then (if 0 ≤ x9 then (if x9 < (x7.length : Int) then (if ((rd_T68 x7 x9).f1) = 3 then (if x3.length < 8796093022208 then (image_Threads.l0 k (x3 ++ [(rd_T68 x7 x9).f0]) x7 x8 (wrap64 (x9 + 1))) else (none)) else (image_Threads.l0 k x3 x7 x8 (wrap64 (x9 + 1)))) else (none)) else (none)) else (some x3)
def image_Threads.f (k : Nat) (a0_0 : ByteArray) (l0_1 : List Int) (l0_2 : List (S68)) : Option (List ByteArray) := image_Threads.l0 k ([] : List ByteArray) l0_2 (l0_2.length : Int) 0
set_option maxHeartbeats 8000000 in
set_option maxRecDepth 100000 in
theorem image_Threads.calls (k : Nat) (a0_0 : ByteArray) (A0_1 : Option Addr) (c0_1 : Nat) (l0_1 : List Int) (A0_2 : Option Addr) (c0_2 : Nat) (l0_2 : List (S68)) (r : List ByteArray) (w : World) (hr0_1 : Kd.C (Kd.int .i64) w A0_1 l0_1.length l0_1) (hc0_1 : l0_1.length ≤ c0_1) (hr0_2 : Kd.C k68 w A0_2 l0_2.length l0_2) (hc0_2 : l0_2.length ≤ c0_2) (h : image_Threads.f k a0_0 l0_1 l0_2 = some r) :
    Calls Tryd.prog 12 #[.agg #[.string a0_0, .slice A0_1 l0_1.length c0_1, .slice A0_2 l0_2.length c0_2]] w fun e w' => ∃ v0_ : Value, e = .returned (v0_) ∧ Kd.R Kd.string 9 w' w.heap.size (fun _ => True) v0_ r ∧ Below w.heap.size w w' := by
  have hu25 := Tryd.underlying25
  have hu68 := Tryd.underlying68
  have HR0_1 := Aside0.mk hr0_1
  have HC0_1 := Aside0.mk hc0_1
  clear hr0_1 hc0_1
  have HR0_2 := Aside0.mk hr0_2
  have HC0_2 := Aside0.mk hc0_2
  clear hr0_2 hc0_2
  have HB := Aside0.mk (Below.refl w.heap.size w)
  have H : (image_Threads.l0 k ([] : List ByteArray) l0_2 (l0_2.length : Int) 0) = some r := h
  clear h
  have H' := Aside0.mk H
  clear H
  go_enter Tryd.func12, Tryd.ntmps12
  go_wp2_with (first | ((with_reducible refine gate_dst (N := 1) rfl ?_); refine box_event ?hg (N := 1) ?hd (cs := #[.string a0_0, .slice A0_1 l0_1.length c0_1, .slice A0_2 l0_2.length c0_2]) (t := 25) ?hr ?_; (case hd => rfl); (case hg => rfl); (case hr => first | (go_simp; done) | (go_simp; rfl)); intro gb224 hg w2 hbox hb; have n0_ := Aside0.mk (below_step (by repeat (first | (with_reducible first | exact HB.out | apply below_alloc | apply pw_below_drewN | apply below_drew1) | exact HB.out)) hb); have n1_ := Aside0.mk (hbox); have n2_ := Aside0.mk ((by rw [hg]; exact (below_size (by repeat (first | (with_reducible first | exact HB.out | apply below_alloc | apply pw_below_drewN | apply below_drew1) | exact HB.out))) : w.heap.size ≤ gb224)); have n3_ := Aside0.mk ((by rw [hg]; exact (below_size (by repeat (first | (with_reducible first | exact HB.out | apply below_alloc | apply pw_below_drewN | apply below_drew1) | exact HB.out))) : w.heap.size ≤ gb224)); clear HB; have HB := n0_; have BK224 := n1_; have GW224 := n2_; have GE224 := n3_; clear n0_ n1_ n2_ n3_; clear hb hbox hg; have hcz3_0 : w2.cell? ⟨gb224, 0, none⟩ = some (.string a0_0) := (blk_cell BK224.out 0).trans rfl; have hcz3_1 : w2.cell? ⟨gb224, 1, none⟩ = some (.slice A0_1 l0_1.length c0_1) := (blk_cell BK224.out 1).trans rfl; have hcz3_2 : w2.cell? ⟨gb224, 2, none⟩ = some (.slice A0_2 l0_2.length c0_2) := (blk_cell BK224.out 2).trans rfl; have hfz3_0 := blk_frozen BK224.out 0; have hfz3_1 := blk_frozen BK224.out 1; have hfz3_2 := blk_frozen BK224.out 2))
  go_loopg [3, 9] k (fun kq v3 v9 w' => ∃ (x3_1 : List ByteArray) (x9_1 : Int), v9 = .int .i64 x9_1 ∧ Aside0 (image_Threads.l0 kq x3_1 l0_2 (l0_2.length : Int) x9_1 = some r) ∧ Aside0 (kq ≤ k) ∧ Aside0 (Kd.R Kd.string 9 w' w.heap.size (fun _ => True) v3 x3_1) ∧ Aside0 (w'.heap[gb224]? = some (.cells #[.string a0_0, (.slice A0_1 l0_1.length c0_1), (.slice A0_2 l0_2.length c0_2)] 25 (0, 0))) ∧ Aside0 (Below w.heap.size w w'))
  case atStart => exact ⟨(([] : List ByteArray)), (0), (by first | rfl | (simp; done) | (simp [*]; done)), H', ⟨Nat.le_refl _⟩, ⟨by first | exact Kd.R_nil _ _ _ _ _ | exact Kd.N_nil _ _ _ _ _ | exact Kd.V_nil _ _ _ _ _ | exact Kd.Q_nil _ _ _ _ _ | exact Kd.S_nil _ _ _ _ _⟩, ⟨by (with_reducible repeat (first | refine blk_drewN ?_ _ | refine blk_drew ?_ | refine blk_alloc ?_ _)); exact BK224.out⟩, ⟨by repeat (first | (with_reducible first | exact HB.out | apply below_alloc | apply pw_below_drewN | apply below_drew1 | refine below_set ?_ GE224.out) | exact HB.out)⟩⟩
  case round =>
    clear H'
    try clear c1
    try clear p2
    try clear hcz3_0
    try clear hcz3_1
    try clear hcz3_2
    try clear hfz3_0
    try clear hfz3_1
    try clear hfz3_2
    obtain ⟨x3_1, x9_1, rfl, HA, HK1, HO_3, BK224, HB⟩ := hrel
    cases gk with
    | zero => exact absurd HA.out (by simp [image_Threads.l0])
    | succ k1 =>
      have H := HA.out
      clear HA
      simp only [image_Threads.l0] at H
      by_cases c4 : x9_1 < (l0_2.length : Int)
      · rw [if_pos c4] at H
        have c4b0 : decide (x9_1 < (l0_2.length : Int)) = true := decide_eq_true c4
        clear c4
        by_cases c5 : 0 ≤ x9_1
        · rw [if_pos c5] at H
          have c5b0 : decide (0 ≤ x9_1) = true := decide_eq_true c5
          clear c5
          by_cases c6 : x9_1 < (l0_2.length : Int)
          · rw [if_pos c6] at H
            have c6b0 : decide (x9_1 < (l0_2.length : Int)) = true := decide_eq_true c6
            clear c6
            by_cases c7 : ((rd_T68 l0_2 x9_1).f1) = 3
            · rw [if_pos c7] at H
              have c7b0 : (((rd_T68 l0_2 x9_1).f1) == 3) = true := beq_iff_eq.mpr c7
              have c7b1 : (((rd_T68 l0_2 x9_1).f1) != 3) = false := bne_eq_false_iff_eq.mpr c7
              clear c7
              by_cases c8 : x3_1.length < 8796093022208
              · rw [if_pos c8] at H
                have LMc8 := Aside0.mk c8
                clear c8
                obtain ⟨y227, hy227⟩ : ∃ y_ : List ByteArray, y_ = (x3_1 ++ [(rd_T68 l0_2 x9_1).f0]) := ⟨_, rfl⟩
                replace H : (image_Threads.l0 k1 y227 l0_2 (l0_2.length : Int) (wrap64 (x9_1 + 1))) = some r := by first | (rw [hy227]; with_reducible exact H) | (have H2_ := (Option.bind_some _ _).symm.trans H; rw [hy227]; with_reducible exact H2_) | (have H2_ := (Option.bind_some _ _).symm.trans H; with_reducible exact H2_) | with_reducible exact H | (rw [hy227]; exact H) | exact H
                have Ny227 := Aside0.mk hy227
                clear hy227
                have H' := Aside0.mk H
                clear H
                have p225 : 0 ≤ (x9_1 : Int) := of_decide_eq_true (by first | (with_reducible assumption) | assumption)
                have q225 : x9_1 < (l0_2.length : Int) := of_decide_eq_true (by first | (with_reducible assumption) | assumption)
                obtain ⟨ad225, e225, hx225_0, hx225_1, hx225_2⟩ := at_T68 HR0_2.out x9_1 p225 q225
                cases e225
                replace hx225_0 := (HB.out.cell (World.block_lt_of_cell? w _ hx225_0)).trans hx225_0
                replace hx225_1 := (HB.out.cell (World.block_lt_of_cell? w _ hx225_1)).trans hx225_1
                replace hx225_2 := (HB.out.cell (World.block_lt_of_cell? w _ hx225_2)).trans hx225_2
                replace p225 := eq_true p225
                replace q225 := eq_true q225
                go_wp2_with (first | ((with_reducible refine gate_dst (N := 5) rfl ?_); refine box_event ?hg (N := 5) ?hd (cs := #[.string (⟨#[]⟩ : ByteArray), .int .i64 0, .int .i64 0]) (t := 68) ?hr ?_; (case hd => rfl); (case hg => rfl); (case hr => first | (go_simp; done) | (go_simp; rfl)); intro gb226 hg w9 hbox hb; have n0_ := Aside0.mk (Kd.R_below (by (with_reducible repeat (first | apply Kd.R_alloc | apply Kd.R_drewN | apply Kd.R_drew)); exact HO_3.out) hb); have n1_ := Aside0.mk (blk_below (g := gb224) (o := .cells #[.string a0_0, .slice A0_1 l0_1.length c0_1, .slice (some ad225) l0_2.length c0_2] 25 (0, 0)) (by (with_reducible repeat (first | refine blk_drewN ?_ _ | refine blk_drew ?_ | refine blk_alloc ?_ _)); exact BK224.out) hb); have n2_ := Aside0.mk (below_step (by repeat (first | (with_reducible first | exact HB.out | apply below_alloc | apply pw_below_drewN | apply below_drew1 | refine below_set ?_ GE224.out) | exact HB.out)) hb); have n3_ := Aside0.mk (hbox); have n4_ := Aside0.mk ((by rw [hg]; exact (below_size (by repeat (first | (with_reducible first | exact HB.out | apply below_alloc | apply pw_below_drewN | apply below_drew1 | refine below_set ?_ GE224.out) | exact HB.out))) : w.heap.size ≤ gb226)); have n5_ := Aside0.mk ((by rw [hg]; exact (below_size (by repeat (first | (with_reducible first | exact HB.out | apply below_alloc | apply pw_below_drewN | apply below_drew1 | refine below_set ?_ GE224.out) | exact HB.out))) : w.heap.size ≤ gb226)); have n6_ := Aside0.mk ((by rw [hg]; exact Nat.ne_of_lt (blk_lt (g := gb224) (o := .cells #[.string a0_0, .slice A0_1 l0_1.length c0_1, .slice (some ad225) l0_2.length c0_2] 25 (0, 0)) (by (with_reducible repeat (first | refine blk_drewN ?_ _ | refine blk_drew ?_ | refine blk_alloc ?_ _)); exact BK224.out)) : gb224 ≠ gb226)); have n7_ := Aside0.mk ((by rw [hg]; exact Nat.ne_of_gt (blk_lt (g := gb224) (o := .cells #[.string a0_0, .slice A0_1 l0_1.length c0_1, .slice (some ad225) l0_2.length c0_2] 25 (0, 0)) (by (with_reducible repeat (first | refine blk_drewN ?_ _ | refine blk_drew ?_ | refine blk_alloc ?_ _)); exact BK224.out)) : gb226 ≠ gb224)); clear HO_3; clear BK224; clear HB; have HO_3 := n0_; have BK224 := n1_; have HB := n2_; have BK226 := n3_; have GW226 := n4_; have GE226 := n5_; have NB224_226 := n6_; have NB226_224 := n7_; clear n0_ n1_ n2_ n3_ n4_ n5_ n6_ n7_; clear hb hbox hg; have hnb10 := NB226_224.out; have hnc10 := NB224_226.out; have hcz11_0 : w9.cell? ⟨gb226, 0, none⟩ = some (.string (⟨#[]⟩ : ByteArray)) := (blk_cell BK226.out 0).trans rfl; have hcz11_1 : w9.cell? ⟨gb226, 1, none⟩ = some (.int .i64 0) := (blk_cell BK226.out 1).trans rfl; have hcz11_2 : w9.cell? ⟨gb226, 2, none⟩ = some (.int .i64 0) := (blk_cell BK226.out 2).trans rfl; have hfz11_0 := blk_frozen BK226.out 0; have hfz11_1 := blk_frozen BK226.out 1; have hfz11_2 := blk_frozen BK226.out 2) | ((with_reducible refine gate_builtin (b := .append) (xs := #[.tmp 16, .tmp 19]) rfl ?_); at_builtin; refine Kd.R_append Kd.string (w0 := w) w.heap.size rfl (.tmp 16) (.tmp 19) 32 9 (.string ⟨#[]⟩) 16 rfl Tryd.underlying32 info9 rfl (by decide) (by omega) u3 x3_1 ((rd_T68 l0_2 x9_1).f0) [.string ((rd_T68 l0_2 x9_1).f0)] (fun _ => True) (fun _ => False) rfl (by first | (go_simp; done) | (go_simp; rfl)) ?aP (fun _ hk => hk.elim) ?aF ?aO ?aB ?aS ?aL ?_; (case aP => exact rfl); (case aB => exact (by repeat (first | (with_reducible first | exact HB.out | apply below_alloc | apply pw_below_drewN | apply below_drew1 | refine below_set ?_ GE224.out | refine below_set ?_ GE226.out) | exact HB.out))); (case aF => exact (fun _ _ => trivial)); (case aO => exact (by (with_reducible repeat (first | apply Kd.R_alloc | apply Kd.R_drewN | apply Kd.R_drew)); exact Kd.R_mono (Kd.R_far (p := ⟨gb226, 2, none⟩) (Kd.R_far (p := ⟨gb226, 1, none⟩) (Kd.R_far (p := ⟨gb226, 0, none⟩) (Kd.R_types HO_3.out BK226.out (by decide)) (fun _ hk => hk.2) (.string ((rd_T68 l0_2 x9_1).f0))) (fun _ hk => hk.2) (.int .i64 ((rd_T68 l0_2 x9_1).f1))) (fun _ hk => hk.2) (.int .i64 ((rd_T68 l0_2 x9_1).f2))) (fun _ hk => trivial))); (case aS => exact (below_size (by repeat (first | (with_reducible first | exact HB.out | apply below_alloc | apply pw_below_drewN | apply below_drew1 | refine below_set ?_ GE224.out | refine below_set ?_ GE226.out) | exact HB.out)))); (case aL => have := LMc8.out; omega); intro v228 w12 ho hb hg hat; rw [← Ny227.out] at ho; have n0_ := Aside0.mk (blk_grown (g := gb224) (o := .cells #[.string a0_0, .slice A0_1 l0_1.length c0_1, .slice (some ad225) l0_2.length c0_2] 25 (0, 0)) (by (with_reducible repeat (first | refine blk_drewN ?_ _ | refine blk_drew ?_ | refine blk_alloc ?_ _)); refine blk_far ?_ NB224_226.out _; (with_reducible repeat (first | refine blk_drewN ?_ _ | refine blk_drew ?_ | refine blk_alloc ?_ _)); refine blk_far ?_ NB224_226.out _; (with_reducible repeat (first | refine blk_drewN ?_ _ | refine blk_drew ?_ | refine blk_alloc ?_ _)); refine blk_far ?_ NB224_226.out _; (with_reducible repeat (first | refine blk_drewN ?_ _ | refine blk_drew ?_ | refine blk_alloc ?_ _)); exact BK224.out) hg (Kd.R_ne HO_3.out BK224.out (by decide))); have n1_ := Aside0.mk (blk_grown (g := gb226) (o := .cells #[.string ((rd_T68 l0_2 x9_1).f0), .int .i64 ((rd_T68 l0_2 x9_1).f1), .int .i64 ((rd_T68 l0_2 x9_1).f2)] 68 (0, 0)) (by (with_reducible repeat (first | refine blk_drewN ?_ _ | refine blk_drew ?_ | refine blk_alloc ?_ _)); refine blk_put (cs := #[.string ((rd_T68 l0_2 x9_1).f0), .int .i64 ((rd_T68 l0_2 x9_1).f1), .int .i64 0]) ?_ 2 _ rfl; (with_reducible repeat (first | refine blk_drewN ?_ _ | refine blk_drew ?_ | refine blk_alloc ?_ _)); refine blk_put (cs := #[.string ((rd_T68 l0_2 x9_1).f0), .int .i64 0, .int .i64 0]) ?_ 1 _ rfl; (with_reducible repeat (first | refine blk_drewN ?_ _ | refine blk_drew ?_ | refine blk_alloc ?_ _)); refine blk_put (cs := #[.string (⟨#[]⟩ : ByteArray), .int .i64 0, .int .i64 0]) ?_ 0 _ rfl; (with_reducible repeat (first | refine blk_drewN ?_ _ | refine blk_drew ?_ | refine blk_alloc ?_ _)); exact BK226.out) hg (Kd.R_ne HO_3.out BK226.out (by decide))); have n2_ := Aside0.mk (hb); have n3_ := Aside0.mk (ho); clear BK224; clear BK226; clear HB; clear HO_3; have BK224 := n0_; have BK226 := n1_; have HB := n2_; have HO229 := n3_; clear n0_ n1_ n2_ n3_; clear ho hb hg hat))
                go_roundg k1
                case measure => have := HK1.out; omega
                case rel => exact ⟨(y227), (wrap64 (x9_1 + 1)), (by first | rfl | (simp; done) | (simp [*]; done)), H', ⟨by have := HK1.out; omega⟩, ⟨by (with_reducible repeat (first | apply Kd.R_alloc | apply Kd.R_drewN | apply Kd.R_drew)); exact HO229.out⟩, ⟨by (with_reducible repeat (first | refine blk_drewN ?_ _ | refine blk_drew ?_ | refine blk_alloc ?_ _)); exact BK224.out⟩, ⟨by repeat (first | (with_reducible first | exact HB.out | apply below_alloc | apply pw_below_drewN | apply below_drew1 | refine below_set ?_ GE224.out | refine below_set ?_ GE226.out) | exact HB.out)⟩⟩
              · rw [if_neg c8] at H
                exact absurd H (by simp)
            · rw [if_neg c7] at H
              have c7b0 : (((rd_T68 l0_2 x9_1).f1) == 3) = false := beq_eq_false_iff_ne.mpr c7
              have c7b1 : (((rd_T68 l0_2 x9_1).f1) != 3) = true := bne_iff_ne.mpr c7
              have H' := Aside0.mk H
              clear H
              have p225 : 0 ≤ (x9_1 : Int) := of_decide_eq_true (by first | (with_reducible assumption) | assumption)
              have q225 : x9_1 < (l0_2.length : Int) := of_decide_eq_true (by first | (with_reducible assumption) | assumption)
              obtain ⟨ad225, e225, hx225_0, hx225_1, hx225_2⟩ := at_T68 HR0_2.out x9_1 p225 q225
              cases e225
              replace hx225_0 := (HB.out.cell (World.block_lt_of_cell? w _ hx225_0)).trans hx225_0
              replace hx225_1 := (HB.out.cell (World.block_lt_of_cell? w _ hx225_1)).trans hx225_1
              replace hx225_2 := (HB.out.cell (World.block_lt_of_cell? w _ hx225_2)).trans hx225_2
              replace p225 := eq_true p225
              replace q225 := eq_true q225
              go_wp2_with (first | ((with_reducible refine gate_dst (N := 5) rfl ?_); refine box_event ?hg (N := 5) ?hd (cs := #[.string (⟨#[]⟩ : ByteArray), .int .i64 0, .int .i64 0]) (t := 68) ?hr ?_; (case hd => rfl); (case hg => rfl); (case hr => first | (go_simp; done) | (go_simp; rfl)); intro gb226 hg w13 hbox hb; have n0_ := Aside0.mk (Kd.R_below (by (with_reducible repeat (first | apply Kd.R_alloc | apply Kd.R_drewN | apply Kd.R_drew)); exact HO_3.out) hb); have n1_ := Aside0.mk (blk_below (g := gb224) (o := .cells #[.string a0_0, .slice A0_1 l0_1.length c0_1, .slice (some ad225) l0_2.length c0_2] 25 (0, 0)) (by (with_reducible repeat (first | refine blk_drewN ?_ _ | refine blk_drew ?_ | refine blk_alloc ?_ _)); exact BK224.out) hb); have n2_ := Aside0.mk (below_step (by repeat (first | (with_reducible first | exact HB.out | apply below_alloc | apply pw_below_drewN | apply below_drew1 | refine below_set ?_ GE224.out) | exact HB.out)) hb); have n3_ := Aside0.mk (hbox); have n4_ := Aside0.mk ((by rw [hg]; exact (below_size (by repeat (first | (with_reducible first | exact HB.out | apply below_alloc | apply pw_below_drewN | apply below_drew1 | refine below_set ?_ GE224.out) | exact HB.out))) : w.heap.size ≤ gb226)); have n5_ := Aside0.mk ((by rw [hg]; exact (below_size (by repeat (first | (with_reducible first | exact HB.out | apply below_alloc | apply pw_below_drewN | apply below_drew1 | refine below_set ?_ GE224.out) | exact HB.out))) : w.heap.size ≤ gb226)); have n6_ := Aside0.mk ((by rw [hg]; exact Nat.ne_of_lt (blk_lt (g := gb224) (o := .cells #[.string a0_0, .slice A0_1 l0_1.length c0_1, .slice (some ad225) l0_2.length c0_2] 25 (0, 0)) (by (with_reducible repeat (first | refine blk_drewN ?_ _ | refine blk_drew ?_ | refine blk_alloc ?_ _)); exact BK224.out)) : gb224 ≠ gb226)); have n7_ := Aside0.mk ((by rw [hg]; exact Nat.ne_of_gt (blk_lt (g := gb224) (o := .cells #[.string a0_0, .slice A0_1 l0_1.length c0_1, .slice (some ad225) l0_2.length c0_2] 25 (0, 0)) (by (with_reducible repeat (first | refine blk_drewN ?_ _ | refine blk_drew ?_ | refine blk_alloc ?_ _)); exact BK224.out)) : gb226 ≠ gb224)); clear HO_3; clear BK224; clear HB; have HO_3 := n0_; have BK224 := n1_; have HB := n2_; have BK226 := n3_; have GW226 := n4_; have GE226 := n5_; have NB224_226 := n6_; have NB226_224 := n7_; clear n0_ n1_ n2_ n3_ n4_ n5_ n6_ n7_; clear hb hbox hg; have hnb14 := NB226_224.out; have hnc14 := NB224_226.out; have hcz15_0 : w13.cell? ⟨gb226, 0, none⟩ = some (.string (⟨#[]⟩ : ByteArray)) := (blk_cell BK226.out 0).trans rfl; have hcz15_1 : w13.cell? ⟨gb226, 1, none⟩ = some (.int .i64 0) := (blk_cell BK226.out 1).trans rfl; have hcz15_2 : w13.cell? ⟨gb226, 2, none⟩ = some (.int .i64 0) := (blk_cell BK226.out 2).trans rfl; have hfz15_0 := blk_frozen BK226.out 0; have hfz15_1 := blk_frozen BK226.out 1; have hfz15_2 := blk_frozen BK226.out 2))
              go_roundg k1
              case measure => have := HK1.out; omega
              case rel => exact ⟨(x3_1), (wrap64 (x9_1 + 1)), (by first | rfl | (simp; done) | (simp [*]; done)), H', ⟨by have := HK1.out; omega⟩, ⟨by (with_reducible repeat (first | apply Kd.R_alloc | apply Kd.R_drewN | apply Kd.R_drew)); exact Kd.R_mono (Kd.R_far (p := ⟨gb226, 2, none⟩) (Kd.R_far (p := ⟨gb226, 1, none⟩) (Kd.R_far (p := ⟨gb226, 0, none⟩) (Kd.R_types HO_3.out BK226.out (by decide)) (fun _ hk => hk.2) (.string ((rd_T68 l0_2 x9_1).f0))) (fun _ hk => hk.2) (.int .i64 ((rd_T68 l0_2 x9_1).f1))) (fun _ hk => hk.2) (.int .i64 ((rd_T68 l0_2 x9_1).f2))) (fun _ hk => trivial)⟩, ⟨by (with_reducible repeat (first | refine blk_drewN ?_ _ | refine blk_drew ?_ | refine blk_alloc ?_ _)); refine blk_far ?_ NB224_226.out _; (with_reducible repeat (first | refine blk_drewN ?_ _ | refine blk_drew ?_ | refine blk_alloc ?_ _)); refine blk_far ?_ NB224_226.out _; (with_reducible repeat (first | refine blk_drewN ?_ _ | refine blk_drew ?_ | refine blk_alloc ?_ _)); refine blk_far ?_ NB224_226.out _; (with_reducible repeat (first | refine blk_drewN ?_ _ | refine blk_drew ?_ | refine blk_alloc ?_ _)); exact BK224.out⟩, ⟨by repeat (first | (with_reducible first | exact HB.out | apply below_alloc | apply pw_below_drewN | apply below_drew1 | refine below_set ?_ GE224.out | refine below_set ?_ GE226.out) | exact HB.out)⟩⟩
          · rw [if_neg c6] at H
            exact absurd H (by simp)
        · rw [if_neg c5] at H
          exact absurd H (by simp)
      · rw [if_neg c4] at H
        have c4b0 : decide (x9_1 < (l0_2.length : Int)) = false := decide_eq_false c4
        clear c4
        obtain rfl := Option.some.inj H
        go_wp2
        go_ret
        exact ⟨_, by first | rfl | (simp [errW_none, errW_some] <;> rfl) | (simp [*, errW_none, errW_some] <;> rfl), by (with_reducible repeat (first | apply Kd.R_alloc | apply Kd.R_drewN | apply Kd.R_drew)); exact HO_3.out, by repeat (first | (with_reducible first | exact HB.out | apply below_alloc | apply pw_below_drewN | apply below_drew1 | refine below_set ?_ GE224.out) | exact HB.out)⟩

/-! ### image_jumps: function 54 -/
def image_jumps.f (a0 : Int) : Option (Bool) := if a0 = 20 then (some true) else (if a0 = 21 then (some true) else (if a0 = 22 then (some true) else (if a0 = 23 then (some true) else (if a0 = 25 then (some true) else (if a0 = 26 then (some true) else (if a0 = 27 then (some true) else (some false)))))))
set_option maxHeartbeats 8000000 in
set_option maxRecDepth 100000 in
theorem image_jumps.calls (a0 : Int) (r : Bool) (w : World) (h : image_jumps.f a0 = some r) :
    Calls Tryd.prog 54 #[.int .i64 a0] w fun e w' => e = .returned (.bool r) ∧ Drawn0 w w' := by
  have H : (if a0 = 20 then (some true) else (if a0 = 21 then (some true) else (if a0 = 22 then (some true) else (if a0 = 23 then (some true) else (if a0 = 25 then (some true) else (if a0 = 26 then (some true) else (if a0 = 27 then (some true) else (some false)))))))) = some r := h
  clear h
  by_cases c2 : a0 = 20
  · rw [if_pos c2] at H
    have c2b0 : (a0 == 20) = true := beq_iff_eq.mpr c2
    have c2b1 : (a0 != 20) = false := bne_eq_false_iff_eq.mpr c2
    clear c2
    obtain rfl := Option.some.inj H
    go_enter Tryd.func54, Tryd.ntmps54
    go_wp2
    go_ret
    exact ⟨by first | rfl | (simp; done) | (simp [*]; done), by repeat (first | exact Drawn0.refl _ | apply Drawn0.step)⟩
  · rw [if_neg c2] at H
    have c2b0 : (a0 == 20) = false := beq_eq_false_iff_ne.mpr c2
    have c2b1 : (a0 != 20) = true := bne_iff_ne.mpr c2
    by_cases c3 : a0 = 21
    · rw [if_pos c3] at H
      have c3b0 : (a0 == 21) = true := beq_iff_eq.mpr c3
      have c3b1 : (a0 != 21) = false := bne_eq_false_iff_eq.mpr c3
      clear c3
      obtain rfl := Option.some.inj H
      go_enter Tryd.func54, Tryd.ntmps54
      go_wp2
      go_ret
      exact ⟨by first | rfl | (simp; done) | (simp [*]; done), by repeat (first | exact Drawn0.refl _ | apply Drawn0.step)⟩
    · rw [if_neg c3] at H
      have c3b0 : (a0 == 21) = false := beq_eq_false_iff_ne.mpr c3
      have c3b1 : (a0 != 21) = true := bne_iff_ne.mpr c3
      by_cases c4 : a0 = 22
      · rw [if_pos c4] at H
        have c4b0 : (a0 == 22) = true := beq_iff_eq.mpr c4
        have c4b1 : (a0 != 22) = false := bne_eq_false_iff_eq.mpr c4
        clear c4
        obtain rfl := Option.some.inj H
        go_enter Tryd.func54, Tryd.ntmps54
        go_wp2
        go_ret
        exact ⟨by first | rfl | (simp; done) | (simp [*]; done), by repeat (first | exact Drawn0.refl _ | apply Drawn0.step)⟩
      · rw [if_neg c4] at H
        have c4b0 : (a0 == 22) = false := beq_eq_false_iff_ne.mpr c4
        have c4b1 : (a0 != 22) = true := bne_iff_ne.mpr c4
        by_cases c5 : a0 = 23
        · rw [if_pos c5] at H
          have c5b0 : (a0 == 23) = true := beq_iff_eq.mpr c5
          have c5b1 : (a0 != 23) = false := bne_eq_false_iff_eq.mpr c5
          clear c5
          obtain rfl := Option.some.inj H
          go_enter Tryd.func54, Tryd.ntmps54
          go_wp2
          go_ret
          exact ⟨by first | rfl | (simp; done) | (simp [*]; done), by repeat (first | exact Drawn0.refl _ | apply Drawn0.step)⟩
        · rw [if_neg c5] at H
          have c5b0 : (a0 == 23) = false := beq_eq_false_iff_ne.mpr c5
          have c5b1 : (a0 != 23) = true := bne_iff_ne.mpr c5
          by_cases c6 : a0 = 25
          · rw [if_pos c6] at H
            have c6b0 : (a0 == 25) = true := beq_iff_eq.mpr c6
            have c6b1 : (a0 != 25) = false := bne_eq_false_iff_eq.mpr c6
            clear c6
            obtain rfl := Option.some.inj H
            go_enter Tryd.func54, Tryd.ntmps54
            go_wp2
            go_ret
            exact ⟨by first | rfl | (simp; done) | (simp [*]; done), by repeat (first | exact Drawn0.refl _ | apply Drawn0.step)⟩
          · rw [if_neg c6] at H
            have c6b0 : (a0 == 25) = false := beq_eq_false_iff_ne.mpr c6
            have c6b1 : (a0 != 25) = true := bne_iff_ne.mpr c6
            by_cases c7 : a0 = 26
            · rw [if_pos c7] at H
              have c7b0 : (a0 == 26) = true := beq_iff_eq.mpr c7
              have c7b1 : (a0 != 26) = false := bne_eq_false_iff_eq.mpr c7
              clear c7
              obtain rfl := Option.some.inj H
              go_enter Tryd.func54, Tryd.ntmps54
              go_wp2
              go_ret
              exact ⟨by first | rfl | (simp; done) | (simp [*]; done), by repeat (first | exact Drawn0.refl _ | apply Drawn0.step)⟩
            · rw [if_neg c7] at H
              have c7b0 : (a0 == 26) = false := beq_eq_false_iff_ne.mpr c7
              have c7b1 : (a0 != 26) = true := bne_iff_ne.mpr c7
              by_cases c8 : a0 = 27
              · rw [if_pos c8] at H
                have c8b0 : (a0 == 27) = true := beq_iff_eq.mpr c8
                have c8b1 : (a0 != 27) = false := bne_eq_false_iff_eq.mpr c8
                clear c8
                obtain rfl := Option.some.inj H
                go_enter Tryd.func54, Tryd.ntmps54
                go_wp2
                go_ret
                exact ⟨by first | rfl | (simp; done) | (simp [*]; done), by repeat (first | exact Drawn0.refl _ | apply Drawn0.step)⟩
              · rw [if_neg c8] at H
                have c8b0 : (a0 == 27) = false := beq_eq_false_iff_ne.mpr c8
                have c8b1 : (a0 != 27) = true := bne_iff_ne.mpr c8
                obtain rfl := Option.some.inj H
                go_enter Tryd.func54, Tryd.ntmps54
                go_wp2
                go_ret
                exact ⟨by first | rfl | (simp; done) | (simp [*]; done), by repeat (first | exact Drawn0.refl _ | apply Drawn0.step)⟩

end Go.Proofs.YtimhcpmfhebbhaaDoor.M

