/-
  InsDecodes: the instruction that begins at any place of any bytes, and all of them, are the document's (plain Lean). Condition: a text of at most 1048576 bytes.
-/
import Derived.Test.YthmheblilgegcaaDoorRef3
import Derived.Test.YthmheblilgegcaaDoorSame3
import Derived.Test.YthmheblilgegcaaDoorM12
import Derived.Test.YthmheblilgegcaaDoorM13
import Derived.Test.YthmheblilgegcaaDoorM14
namespace Go.Proofs.YthmheblilgegcaaDoor.Ins
open Go.RowKit Go.Proofs.YthmheblilgegcaaDoor.M Go.Proofs.YthmheblilgegcaaDoor.Num Go.Proofs.YthmheblilgegcaaDoor.Seven Go.Proofs.YthmheblilgegcaaDoor.Word1 Go.Proofs.YthmheblilgegcaaDoorW.PrintWords Go.Proofs.YthmheblilgegcaaDoorW.PrintLast

theorem enc_ok_iff {op a b n : Int} (hz : shp op ≠ 0) (ha : 0 ≤ a) (hb : 0 ≤ b) (hB : regs (shp op) < 2 → b = 0) (hA : regs (shp op) < 1 → a = 0) (hW : width (shp op) = 0 → n = 0) (hF : width (shp op) > 0 → Fits n (width (shp op))) :
    (encR op a b n).2 = 0 ↔ (a < 8 ∧ b < 8 ∧ ¬ (shp op = 10 ∧ n < 0)) := by
  constructor
  · intro h
    obtain ⟨hM, hN, _⟩ := encR_ok h
    exact ⟨hM.2.2.1, hM.2.2.2.2.1, hN.1⟩
  · intro ⟨h1, h2, h3⟩
    unfold encR
    rw [if_pos (show May op a b n from ⟨hz, ha, h1, hb, h2, hB, hA, hW⟩), if_pos (show NFits op n from ⟨h3, hF⟩)]

attribute [local irreducible] shp regs width size numV unleL bt bytesOf encR

theorem rdec_f (s : ByteArray) (at_ : Int) (hs : s.size ≤ 140737488351232) (k : Nat) (hk : 60 < k) : cotterref03_Decode.f k s at_ = some (decR s at_) := by
  obtain ⟨k, rfl⟩ : ∃ m, k = m + 12 := ⟨k - 12, by omega⟩
  unfold cotterref03_Decode.f decR
  by_cases h0 : at_ < 0
  · rw [if_pos h0, if_pos (.inl h0)]
    simp [cotterref03_Decode.j0]
  rw [if_neg h0]
  by_cases h1 : at_ > (s.size : Int)
  · have e : decide (at_ > (s.size : Int)) = true := decide_eq_true h1
    rw [e, if_pos (.inr h1)]
    simp [cotterref03_Decode.j0]
  have e : decide (at_ > (s.size : Int)) = false := decide_eq_false h1
  rw [e, if_neg (by omega)]
  obtain ⟨p, rfl⟩ := Int.eq_ofNat_of_zero_le (show 0 ≤ at_ by omega)
  rw [Int.toNat_natCast]
  simp only [cotterref03_Decode.j0, Bool.false_eq_true, if_false]
  by_cases h2 : (p : Int) = (s.size : Int)
  · rw [if_pos h2, List.drop_eq_nil_of_le (by rw [bytesOf_length]; omega)]
    rfl
  have hlt : p < s.size := by omega
  rw [if_neg h2, if_pos (by omega), if_pos (by omega)]
  have hbr := bt_range s p
  have hw : wrap64 (bt s p) = bt s p := wrap64_id (by omega) (by omega)
  have hbs := (bytesOf_Bs s).drop (p + 1)
  rw [hw, rSize_f (k := k + 4), bt_drop s p hlt]
  simp only [Option.bind_some, decL]
  have hr := shp_range (bt s p)
  generalize hop : bt s p = op at *
  have hlen : ((op :: (bytesOf s).drop (p + 1)).length : Int) = (s.size : Int) - p := by
    rw [List.length_cons, List.length_drop, bytesOf_length]; omega
  rw [hlen]
  by_cases hz : shp op = 0
  · rw [hz, if_pos (show size 0 = 0 by with_unfolding_all rfl), if_pos (.inl rfl)]
    simp [cotterref03_Decode.j1]
  have hsz := width_size hz
  have hwn := width_nonneg (shp op)
  have hwc := width_cases (shp op)
  have hrc := regs_cases (shp op)
  have hs10 := size_le (shp op) hr
  rw [if_neg (by omega), wrap64_id (n := (p : Int) + size (shp op)) (by omega) (by omega)]
  by_cases hl : (s.size : Int) - p < size (shp op)
  · have e1 : decide ((p : Int) + size (shp op) > (s.size : Int)) = true := decide_eq_true (by omega)
    rw [e1, if_pos (.inr hl)]
    simp [cotterref03_Decode.j1]
  have e1 : decide ((p : Int) + size (shp op) > (s.size : Int)) = false := decide_eq_false (by omega)
  rw [e1, if_neg (by omega)]
  simp only [cotterref03_Decode.j1, Bool.false_eq_true, if_false]
  rw [form_f (k := k + 3)]
  simp only [Option.bind_some]
  rw [parts_f (k := k + 9) hr.1 hr.2]
  simp only [Option.bind_some, decide_eq_true_eq]
  have hp1 : wrap64 ((p : Int) + 1) = ((p + 1 : Nat) : Int) := by rw [wrap64_id (by omega) (by omega)]; omega
  rw [hp1]
  clear e e1 hp1 hw hbr
  have hnum : (width (shp op) > 0 → Fits (numOf (shp op) (op :: (bytesOf s).drop (p + 1))) (width (shp op))) ∧ (width (shp op) = 0 → numOf (shp op) (op :: (bytesOf s).drop (p + 1)) = 0) ∧
      -9223372036854775808 ≤ numOf (shp op) (op :: (bytesOf s).drop (p + 1)) ∧ numOf (shp op) (op :: (bytesOf s).drop (p + 1)) < 9223372036854775808 := by
    unfold numOf
    by_cases hp : width (shp op) > 0
    · rw [if_pos hp]
      have hb2 : Bs (op :: (bytesOf s).drop (p + 1)) := by
        rw [show op :: (bytesOf s).drop (p + 1) = (bytesOf s).drop p by rw [bt_drop s p hlt, hop]]
        exact (bytesOf_Bs s).drop p
      have hl2 : ((((op :: (bytesOf s).drop (p + 1)).drop (size (shp op) - width (shp op)).toNat).take (width (shp op)).toNat).length : Int) = width (shp op) := by
        rw [List.length_take, List.length_drop]
        omega
      obtain ⟨g1, _, g3, g4⟩ := numV_fits ((hb2.drop (size (shp op) - width (shp op)).toNat).take (width (shp op)).toNat) hl2 (by omega)
      exact ⟨fun _ => g1, fun h => by omega, g3, g4⟩
    · rw [if_neg hp]
      exact ⟨fun h => absurd h hp, fun _ => rfl, by omega, by omega⟩
  clear hlen
  -- the number, and the end, in one form
  have tail : ∀ a b : Int, 0 ≤ a → 0 ≤ b → (regs (shp op) < 2 → b = 0) → (regs (shp op) < 1 → a = 0) → cotterref03_Decode.j2 (k + 10) s p (size (shp op)) (width (shp op)) op a b 0 =
      some (if a < 8 ∧ b < 8 ∧ ¬ (shp op = 10 ∧ numOf (shp op) (op :: (bytesOf s).drop (p + 1)) < 0) then (op, a, b, numOf (shp op) (op :: (bytesOf s).drop (p + 1)), (p : Int) + size (shp op), 0) else (0, 0, 0, 0, 0, 9)) := by
    intro a b ha hb hB hA
    have hiff := enc_ok_iff (n := numOf (shp op) (op :: (bytesOf s).drop (p + 1))) hz ha hb hB hA hnum.2.1 hnum.1
    have hfin : ∀ (x : Int × Int × Int × Int × Int × Int), (if (encR op a b (numOf (shp op) (op :: (bytesOf s).drop (p + 1)))).2 = 0 then some x else some (0, 0, 0, 0, 0, 9)) =
        some (if a < 8 ∧ b < 8 ∧ ¬ (shp op = 10 ∧ numOf (shp op) (op :: (bytesOf s).drop (p + 1)) < 0) then x else (0, 0, 0, 0, 0, 9)) := by
      intro x
      by_cases hc : (encR op a b (numOf (shp op) (op :: (bytesOf s).drop (p + 1)))).2 = 0
      · rw [if_pos hc, if_pos (hiff.1 hc)]
      · rw [if_neg hc, if_neg (fun h => hc (hiff.2 h))]
    simp only [cotterref03_Decode.j2]
    rw [wrap64_id (n := (p : Int) + size (shp op)) (by omega) (by omega)]
    by_cases hp : width (shp op) > 0
    · have hlo : wrap64 ((p : Int) + size (shp op) - width (shp op)) = ((p + (size (shp op) - width (shp op)).toNat : Nat) : Int) := lo_eq (by omega) (by omega) (by omega) (by omega)
      rw [if_pos hp, hlo, if_pos (by omega), if_pos (by omega), if_pos (by omega), Int.toNat_natCast]
      have hsx : (s.extract (p + (size (shp op) - width (shp op)).toNat) ((p : Int) + size (shp op)).toNat).size = (width (shp op)).toNat := by
        rw [ByteArray.size_extract]
        omega
      have hbx := bytesOf_extract s (p + (size (shp op) - width (shp op)).toNat) ((p : Int) + size (shp op)).toNat
      generalize s.extract (p + (size (shp op) - width (shp op)).toNat) ((p : Int) + size (shp op)).toNat = X at hsx hbx ⊢
      have hx1 : X.size ≤ 8 := by omega
      clear hsx
      have hnf : cotterref01_Number.f (k + 9) X = some (numR X) := rnumber_f X (Nat.le_trans hx1 (by decide)) (k + 9) (by omega)
      rw [hnf]
      simp only [Option.bind_some]
      have e3 : (numR X).1 = numOf (shp op) (op :: (bytesOf s).drop (p + 1)) := by
        rw [numR_V, hbx]
        unfold numOf
        rw [if_pos hp, show op :: (bytesOf s).drop (p + 1) = (bytesOf s).drop p by rw [bt_drop s p hlt, hop], List.drop_drop]
        congr 2
        omega
      rw [e3, renc_f (k + 9) (by omega) op a b _ hnum.2.2.1 hnum.2.2.2]
      simp only [Option.bind_some]
      exact hfin _
    · have hn0 : numOf (shp op) (op :: (bytesOf s).drop (p + 1)) = 0 := hnum.2.1 (by omega)
      rw [if_neg hp]
      rw [hn0] at hfin hnum ⊢
      rw [renc_f (k + 9) (by omega) op a b 0 (by omega) (by omega)]
      simp only [Option.bind_some]
      exact hfin _
  have hn1 : regs (shp op) > 0 → p + 1 < s.size := by
    intro h
    have := hsz.2.2 h
    omega
  have fin : ∀ q : Int × Int, 0 ≤ q.1 → 0 ≤ q.2 → (regs (shp op) < 2 → q.2 = 0) → (regs (shp op) < 1 → q.1 = 0) → regsOf (shp op) (((bytesOf s).drop (p + 1)).getD 0 0) = q → cotterref03_Decode.j2 (k + 10) s p (size (shp op)) (width (shp op)) op q.1 q.2 0 =
      some (match (if (regsOf (shp op) (((bytesOf s).drop (p + 1)).getD 0 0)).1 < 8 ∧ (regsOf (shp op) (((bytesOf s).drop (p + 1)).getD 0 0)).2 < 8 ∧ ¬ (shp op = 10 ∧ numOf (shp op) (op :: (bytesOf s).drop (p + 1)) < 0) then
          some (op, (regsOf (shp op) (((bytesOf s).drop (p + 1)).getD 0 0)).1, (regsOf (shp op) (((bytesOf s).drop (p + 1)).getD 0 0)).2, numOf (shp op) (op :: (bytesOf s).drop (p + 1))) else none : Option (Int × Int × Int × Int)) with
        | none => (0, 0, 0, 0, 0, 9)
        | some (op, a, b, n) => (op, a, b, n, (p : Int) + size (shp op), 0)) := by
    intro q h1 h2 hB hA hq
    rw [hq, tail q.1 q.2 h1 h2 hB hA]
    split
    · rfl
    · rfl
  clear hnum tail
  by_cases hr2 : regs (shp op) = 2
  · have hb2 := bt_range s (p + 1 : Nat)
    have hw2 : wrap64 (bt s (p + 1 : Nat)) = bt s (p + 1 : Nat) := wrap64_id (by omega) (by omega)
    have hm : Int.tmod (bt s (p + 1 : Nat)) 16 = bt s (p + 1 : Nat) % 16 := Int.tmod_eq_emod_of_nonneg (by omega)
    have hd : Int.tdiv (bt s (p + 1 : Nat)) 16 = bt s (p + 1 : Nat) / 16 := Int.tdiv_eq_ediv_of_nonneg (by omega)
    rw [if_pos hr2, if_pos (by omega), if_pos (by have := hn1 (by omega); omega), hw2, hm, hd, wrap64_id (n := bt s (p + 1 : Nat) / 16) (by omega) (by omega)]
    exact fin (bt s (p + 1 : Nat) / 16, bt s (p + 1 : Nat) % 16) (by simp only; omega) (by simp only; omega) (fun h => by omega) (fun h => by omega) (by unfold regsOf; rw [if_neg (by omega), if_pos hr2, getD_next s p (hn1 (by omega))])
  · rw [if_neg hr2]
    by_cases hr1 : regs (shp op) > 0
    · have hb2 := bt_range s (p + 1 : Nat)
      rw [if_pos hr1, if_pos (by omega), if_pos (by have := hn1 (by omega); omega), wrap64_id (n := bt s (p + 1 : Nat)) (by omega) (by omega)]
      exact fin (bt s (p + 1 : Nat), 0) (by simp only; omega) (by simp) (fun _ => rfl) (fun h => by omega) (by unfold regsOf; rw [if_pos (by omega), getD_next s p (hn1 (by omega))])
    · rw [if_neg hr1]
      exact fin (0, 0) (by simp) (by simp) (fun _ => rfl) (fun _ => rfl) (by unfold regsOf; rw [if_neg (by omega), if_neg hr2])

/-- Either some instructions' forms stand from the place on, or none do, and All says so. -/
theorem rall_total (s : ByteArray) (hs : s.size ≤ 140737488351232) : ∀ (m k p : Nat) (acc : List S23), s.size - p ≤ m → p ≤ s.size → acc.length + m < 4398046511104 → m + 80 < k →
    (∃ is : List S23, (bytesOf s).drop p = formsS is ∧ (∀ i ∈ is, OkS i) ∧ is.length ≤ m ∧ cotterref03_All.l0 k s acc p = some (acc ++ is, 0)) ∨ (cotterref03_All.l0 k s acc p = some ([], 9) ∧ ¬ ∃ is : List S23, (bytesOf s).drop p = formsS is ∧ ∀ i ∈ is, OkS i) := by
  intro m
  induction m with
  | zero =>
    intro k p acc hm hp ha hk
    obtain ⟨k, rfl⟩ : ∃ m, k = m + 1 := ⟨k - 1, by omega⟩
    refine .inl ⟨[], ?_, by simp, by simp, ?_⟩
    · rw [List.drop_eq_nil_of_le (by rw [bytesOf_length]; omega)]; rfl
    · simp only [cotterref03_All.l0]
      rw [if_neg (by omega), List.append_nil]
  | succ m ih =>
    intro k p acc hm hp ha hk
    obtain ⟨k, rfl⟩ : ∃ m, k = m + 1 := ⟨k - 1, by omega⟩
    by_cases hlt : p < s.size
    · simp only [cotterref03_All.l0]
      rw [if_pos (by omega), rdec_f s p hs k (by omega)]
      simp only [Option.bind_some]
      cases hd : decL ((bytesOf s).drop p) with
      | none =>
        have e : decR s p = (0, 0, 0, 0, 0, 9) := by
          unfold decR
          rw [if_neg (by omega), Int.toNat_natCast, hd]
        right
        rw [e, if_neg (by simp)]
        refine ⟨rfl, ?_⟩
        rintro ⟨is, h1, h2⟩
        cases is with
        | nil =>
          have h3 := congrArg List.length h1
          rw [List.length_drop, bytesOf_length] at h3
          simp [formsS] at h3
          omega
        | cons i is =>
          rw [h1, formsS_cons] at hd
          have hi := h2 i (by simp)
          unfold formS at hd
          rw [decL_form _ hi.1 hi.2.1 hi.2.2.1 hi.2.2.2] at hd
          cases hd
      | some q =>
        obtain ⟨op, a, b, n⟩ := q
        obtain ⟨hM, hN, n0, n1, hl, hpos, htk⟩ := decL_some ((bytesOf_Bs s).drop p) hd
        have hI : OkS ⟨op, a, b, n⟩ := ⟨hM, hN, n0, n1⟩
        have hfl := formL_len op a b n hM.1
        have hsplit : (bytesOf s).drop p = formS ⟨op, a, b, n⟩ ++ (bytesOf s).drop (p + (formS ⟨op, a, b, n⟩).length) := by
          have e1 : (formS ⟨op, a, b, n⟩).length = (size (shp op)).toNat := by unfold formS; simp only; omega
          rw [e1, ← List.drop_drop]
          have e2 : formS ⟨op, a, b, n⟩ = ((bytesOf s).drop p).take (size (shp op)).toNat := htk.symm
          rw [e2, List.take_append_drop]
        have hlen : p + (formS ⟨op, a, b, n⟩).length ≤ s.size := by
          rw [List.length_drop, bytesOf_length] at hl
          unfold formS
          simp only
          omega
        have hfp := formS_pos hI
        rw [dec_ok s p ⟨op, a, b, n⟩ _ hI hp hsplit]
        simp only [if_true]
        rw [if_pos (by omega)]
        rcases ih k (p + (formS ⟨op, a, b, n⟩).length) (acc ++ [⟨op, a, b, n⟩]) (by omega) hlen (by rw [List.length_append]; simp; omega) (by omega) with ⟨is, h1, h2, h3, h4⟩ | ⟨h1, h2⟩
        · refine .inl ⟨⟨op, a, b, n⟩ :: is, ?_, ?_, by simp; omega, ?_⟩
          · rw [hsplit, h1]; rfl
          · intro i hi
            rcases List.mem_cons.1 hi with rfl | hi
            · exact hI
            · exact h2 i hi
          · rw [h4]; simp
        · refine .inr ⟨h1, ?_⟩
          rintro ⟨is, g1, g2⟩
          cases is with
          | nil =>
            have h3 := congrArg List.length g1
            rw [List.length_drop, bytesOf_length] at h3
            simp [formsS] at h3
            omega
          | cons i is =>
            have hi := g2 i (by simp)
            have g3 := decL_form (formsS is) hi.1 hi.2.1 hi.2.2.1 hi.2.2.2
            rw [formsS_cons] at g1
            have e4 : formL i.f0 i.f1 i.f2 i.f3 ++ formsS is = (bytesOf s).drop p := g1.symm
            rw [e4, hd] at g3
            simp only [Option.some.injEq, Prod.mk.injEq] at g3
            obtain ⟨x1, x2, x3, x4⟩ := g3
            have e5 : formS ⟨op, a, b, n⟩ = formS i := by unfold formS; simp only [x1, x2, x3, x4]
            refine h2 ⟨is, ?_, fun j hj => g2 j (by simp [hj])⟩
            rw [e5, ← List.drop_drop, g1, List.drop_left]
    · refine .inl ⟨[], ?_, by simp, by simp, ?_⟩
      · rw [List.drop_eq_nil_of_le (by rw [bytesOf_length]; omega)]; rfl
      · simp only [cotterref03_All.l0]
        rw [if_neg (by omega), List.append_nil]


theorem rall_same (s : ByteArray) (hs : s.size ≤ 1048576) (k : Nat) (hk : s.size + 100 < k) : ∃ is e, is.length ≤ s.size ∧ ins_All.f k s = some (is, e) ∧ cotterref03_All.f k s = some (is, e) := by
  unfold ins_All.f cotterref03_All.f
  rcases all_total s (by omega) s.size k 0 [] (by omega) (by omega) (by simp; omega) (by omega) with ⟨is, h1, h2, h3, h4⟩ | ⟨h1, h2⟩
  · rcases rall_total s (by omega) s.size k 0 [] (by omega) (by omega) (by simp; omega) (by omega) with ⟨js, g1, g2, g3, g4⟩ | ⟨g1, g2⟩
    · have e := forms_inj is js h2 g2 (h1.symm.trans g1)
      subst e
      exact ⟨is, 0, h3, by simpa using h4, by simpa using g4⟩
    · exact absurd ⟨is, h1, h2⟩ g2
  · rcases rall_total s (by omega) s.size k 0 [] (by omega) (by omega) (by simp; omega) (by omega) with ⟨js, g1, g2, g3, g4⟩ | ⟨g1, g2⟩
    · exact absurd ⟨js, g1, g2⟩ h2
    · exact ⟨[], 9, by simp, h1, g1⟩

theorem InsDecodes (s : ByteArray) (at_ : Int) (hs : s.size ≤ 1048576) : cotterlaw03_InsDecodes.f (s.size + 200) s at_ = some true := by
  obtain ⟨is, e, hl, h1, h2⟩ := rall_same s hs (s.size + 200) (by omega)
  unfold cotterlaw03_InsDecodes.f
  rw [dec_f s at_ (by omega) _ (by omega), rdec_f s at_ (by omega) _ (by omega), h1, h2]
  simp only [Option.bind_some]
  rw [if_pos (by simp)]
  simp only [if_true]
  rw [same_f is (by omega) _ (by omega)]
  simp only [Option.bind_some, if_true]
  rw [live_at (by omega)]
  rfl

end Go.Proofs.YthmheblilgegcaaDoor.Ins
