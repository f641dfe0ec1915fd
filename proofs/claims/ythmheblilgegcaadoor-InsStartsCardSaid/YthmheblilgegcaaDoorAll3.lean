/-
  What ins.All answers, said by lists of instructions (plain Lean). Conditions: fields of 64 bits with a sign; texts of at most 1048576 bytes.
-/
import Derived.Test.YthmheblilgegcaaDoorLib3
import Derived.Test.YthmheblilgegcaaDoorM13
namespace Go.Proofs.YthmheblilgegcaaDoor.Ins
open Go.RowKit Go.Proofs.YthmheblilgegcaaDoor.M Go.Proofs.YthmheblilgegcaaDoor.Num Go.Proofs.YthmheblilgegcaaDoor.Seven Go.Proofs.YthmheblilgegcaaDoor.Word1 Go.Proofs.YthmheblilgegcaaDoorW.PrintWords Go.Proofs.YthmheblilgegcaaDoorW.PrintLast

def formS (i : S23) : List Int := formL i.f0 i.f1 i.f2 i.f3
def OkS (i : S23) : Prop := May i.f0 i.f1 i.f2 i.f3 ∧ NFits i.f0 i.f3 ∧ I64 i.f3
def formsS (l : List S23) : List Int := l.flatMap formS
theorem formsS_cons (i : S23) (l : List S23) : formsS (i :: l) = formS i ++ formsS l := rfl
theorem formsS_append (a b : List S23) : formsS (a ++ b) = formsS a ++ formsS b := by simp [formsS]
theorem formS_pos {i : S23} (h : OkS i) : 0 < (formS i).length ∧ (formS i).length ≤ 10 := by
  have h1 := formL_len i.f0 i.f1 i.f2 i.f3 h.1.1
  have h2 := width_size h.1.1
  have h3 := width_nonneg (shp i.f0)
  have h4 := size_le _ (shp_range i.f0)
  unfold formS
  omega

theorem dec_ok (s : ByteArray) (p : Nat) (i : S23) (r : List Int) (hi : OkS i) (hp : p ≤ s.size) (h : (bytesOf s).drop p = formS i ++ r) : decR s p = (i.f0, i.f1, i.f2, i.f3, ((p + (formS i).length : Nat) : Int), 0) := by
  have hd := decL_form r hi.1 hi.2.1 hi.2.2.1 hi.2.2.2
  have hl := formL_len i.f0 i.f1 i.f2 i.f3 hi.1.1
  unfold decR
  rw [if_neg (by omega), Int.toNat_natCast, h]
  unfold formS
  rw [hd]
  simp only [Prod.mk.injEq, true_and, and_true]
  omega

/-- Either some instructions' forms stand from the place on, or none do, and All says so. -/
theorem all_total (s : ByteArray) (hs : s.size ≤ 140737488351232) : ∀ (m k p : Nat) (acc : List S23), s.size - p ≤ m → p ≤ s.size → acc.length + m < 4398046511104 → m + 30 < k →
    (∃ is : List S23, (bytesOf s).drop p = formsS is ∧ (∀ i ∈ is, OkS i) ∧ is.length ≤ m ∧ ins_All.l0 k s acc p = some (acc ++ is, 0)) ∨ (ins_All.l0 k s acc p = some ([], 9) ∧ ¬ ∃ is : List S23, (bytesOf s).drop p = formsS is ∧ ∀ i ∈ is, OkS i) := by
  intro m
  induction m with
  | zero =>
    intro k p acc hm hp ha hk
    obtain ⟨k, rfl⟩ : ∃ m, k = m + 1 := ⟨k - 1, by omega⟩
    refine .inl ⟨[], ?_, by simp, by simp, ?_⟩
    · rw [List.drop_eq_nil_of_le (by rw [bytesOf_length]; omega)]; rfl
    · simp only [ins_All.l0]
      rw [if_neg (by omega), List.append_nil]
  | succ m ih =>
    intro k p acc hm hp ha hk
    obtain ⟨k, rfl⟩ : ∃ m, k = m + 1 := ⟨k - 1, by omega⟩
    by_cases hlt : p < s.size
    · simp only [ins_All.l0]
      rw [if_pos (by omega), dec_f s p hs k (by omega)]
      simp only [Option.bind_some]
      cases hd : decL ((bytesOf s).drop p) with
      | none =>
        have e : decR s p = (0, 0, 0, 0, 0, 9) := by
          unfold decR
          rw [if_neg (by omega), Int.toNat_natCast, hd]
        right
        rw [e, if_neg (by simp)]
        refine ⟨rfl, ?_⟩
        rintro ⟨is, h1, h2⟩
        cases is with
        | nil =>
          have h3 := congrArg List.length h1
          rw [List.length_drop, bytesOf_length] at h3
          simp [formsS] at h3
          omega
        | cons i is =>
          rw [h1, formsS_cons] at hd
          have hi := h2 i (by simp)
          unfold formS at hd
          rw [decL_form _ hi.1 hi.2.1 hi.2.2.1 hi.2.2.2] at hd
          cases hd
      | some q =>
        obtain ⟨op, a, b, n⟩ := q
        obtain ⟨hM, hN, n0, n1, hl, hpos, htk⟩ := decL_some ((bytesOf_Bs s).drop p) hd
        have hI : OkS ⟨op, a, b, n⟩ := ⟨hM, hN, n0, n1⟩
        have hfl := formL_len op a b n hM.1
        have hsplit : (bytesOf s).drop p = formS ⟨op, a, b, n⟩ ++ (bytesOf s).drop (p + (formS ⟨op, a, b, n⟩).length) := by
          have e1 : (formS ⟨op, a, b, n⟩).length = (size (shp op)).toNat := by unfold formS; simp only; omega
          rw [e1, ← List.drop_drop]
          have e2 : formS ⟨op, a, b, n⟩ = ((bytesOf s).drop p).take (size (shp op)).toNat := htk.symm
          rw [e2, List.take_append_drop]
        have hlen : p + (formS ⟨op, a, b, n⟩).length ≤ s.size := by
          rw [List.length_drop, bytesOf_length] at hl
          unfold formS
          simp only
          omega
        have hfp := formS_pos hI
        rw [dec_ok s p ⟨op, a, b, n⟩ _ hI hp hsplit]
        simp only [if_true]
        rw [if_pos (by omega)]
        rcases ih k (p + (formS ⟨op, a, b, n⟩).length) (acc ++ [⟨op, a, b, n⟩]) (by omega) hlen (by rw [List.length_append]; simp; omega) (by omega) with ⟨is, h1, h2, h3, h4⟩ | ⟨h1, h2⟩
        · refine .inl ⟨⟨op, a, b, n⟩ :: is, ?_, ?_, by simp; omega, ?_⟩
          · rw [hsplit, h1]; rfl
          · intro i hi
            rcases List.mem_cons.1 hi with rfl | hi
            · exact hI
            · exact h2 i hi
          · rw [h4]; simp
        · refine .inr ⟨h1, ?_⟩
          rintro ⟨is, g1, g2⟩
          cases is with
          | nil =>
            have h3 := congrArg List.length g1
            rw [List.length_drop, bytesOf_length] at h3
            simp [formsS] at h3
            omega
          | cons i is =>
            have hi := g2 i (by simp)
            have g3 := decL_form (formsS is) hi.1 hi.2.1 hi.2.2.1 hi.2.2.2
            rw [formsS_cons] at g1
            have e4 : formL i.f0 i.f1 i.f2 i.f3 ++ formsS is = (bytesOf s).drop p := g1.symm
            rw [e4, hd] at g3
            simp only [Option.some.injEq, Prod.mk.injEq] at g3
            obtain ⟨x1, x2, x3, x4⟩ := g3
            have e5 : formS ⟨op, a, b, n⟩ = formS i := by unfold formS; simp only [x1, x2, x3, x4]
            refine h2 ⟨is, ?_, fun j hj => g2 j (by simp [hj])⟩
            rw [e5, ← List.drop_drop, g1, List.drop_left]
    · refine .inl ⟨[], ?_, by simp, by simp, ?_⟩
      · rw [List.drop_eq_nil_of_le (by rw [bytesOf_length]; omega)]; rfl
      · simp only [ins_All.l0]
        rw [if_neg (by omega), List.append_nil]

/-- Forms are read in one way alone. -/
theorem forms_inj : ∀ (a b : List S23), (∀ i ∈ a, OkS i) → (∀ i ∈ b, OkS i) → formsS a = formsS b → a = b := by
  intro a
  induction a with
  | nil =>
    intro b _ hb h
    cases b with
    | nil => rfl
    | cons j b =>
      have := (formS_pos (hb j (by simp))).1
      have h2 := congrArg List.length h
      rw [formsS_cons, List.length_append] at h2
      have hz : (formsS ([] : List S23)).length = 0 := rfl
      omega
  | cons i a ih =>
    intro b ha hb h
    cases b with
    | nil =>
      have := (formS_pos (ha i (by simp))).1
      have h2 := congrArg List.length h
      rw [formsS_cons, List.length_append] at h2
      have hz : (formsS ([] : List S23)).length = 0 := rfl
      omega
    | cons j b =>
      have hi := ha i (by simp)
      have hj := hb j (by simp)
      have g1 := decL_form (formsS a) hi.1 hi.2.1 hi.2.2.1 hi.2.2.2
      have g2 := decL_form (formsS b) hj.1 hj.2.1 hj.2.2.1 hj.2.2.2
      have h' : formL i.f0 i.f1 i.f2 i.f3 ++ formsS a = formL j.f0 j.f1 j.f2 j.f3 ++ formsS b := h
      rw [h', g2] at g1
      simp only [Option.some.injEq, Prod.mk.injEq] at g1
      obtain ⟨x1, x2, x3, x4⟩ := g1
      have e : i = j := by cases i; cases j; simp_all
      subst e
      rw [ih b (fun x hx => ha x (by simp [hx])) (fun x hx => hb x (by simp [hx])) (List.append_cancel_left h')]

theorem formsS_bs (l : List S23) (h : ∀ i ∈ l, OkS i) : Bs (formsS l) := by
  intro x hx
  obtain ⟨i, hi, hxi⟩ := List.mem_flatMap.1 hx
  exact formL_bs (h i hi).1 x hxi

/-- All of forms is what they are the forms of. -/
theorem all_forms (l : List S23) (h : ∀ i ∈ l, OkS i) (hl : (formsS l).length ≤ 4000000) (k : Nat) (hk : (formsS l).length + 40 < k) : ins_All.f k (strOfNums (formsS l)) = some (l, 0) := by
  unfold ins_All.f
  have e := bytesOf_str (formsS_bs l h)
  rcases all_total (strOfNums (formsS l)) (by rw [strOfNums_size]; omega) (formsS l).length k 0 [] (by rw [strOfNums_size]; omega) (by omega) (by simp; omega) (by omega) with ⟨is, h1, h2, _, h4⟩ | ⟨_, h2⟩
  · rw [List.drop_zero, e] at h1
    have := forms_inj _ _ h h2 h1
    subst this
    simpa using h4
  · exact absurd ⟨l, by rw [List.drop_zero, e], h⟩ h2

theorem all_f (s : ByteArray) (hs : s.size ≤ 4000000) (k : Nat) (hk : s.size + 40 < k) :
    (∃ is : List S23, bytesOf s = formsS is ∧ (∀ i ∈ is, OkS i) ∧ is.length ≤ s.size ∧ ins_All.f k s = some (is, 0)) ∨ ins_All.f k s = some ([], 9) := by
  unfold ins_All.f
  rcases all_total s (by omega) s.size k 0 [] (by omega) (by omega) (by simp; omega) (by omega) with ⟨is, h1, h2, h3, h4⟩ | ⟨h1, _⟩
  · exact .inl ⟨is, by simpa using h1, h2, h3, by simpa using h4⟩
  · exact .inr h1

end Go.Proofs.YthmheblilgegcaaDoor.Ins
