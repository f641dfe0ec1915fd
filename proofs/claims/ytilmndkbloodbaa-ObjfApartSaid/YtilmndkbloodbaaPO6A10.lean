/-
  Texts of the proofs of ObjfWrites, ObjfReads, ObjfBack, ObjfCuts, ObjfApart, cut to what the proofs reach and packed by a program of this session (wip/packs.py). Each part begins with what it says; conditions: those told there.
-/
import Derived.Laws.Strings
import Derived.Test.YtilmndkbloodbaaPO6A9
/-
  Layer 6, plain: whether an object may be, as the document tells it (cotterref06.Syms, May), said by the program's own plain function. Conditions: lengths below 2^63.
-/
namespace Go.Proofs.Ytilmndkbloodbaa.Obj
open Go.RowKit Go.Proofs.Ytilmndkbloodbaa.M Go.Proofs.Ytilmndkbloodbaa.Num Go.Proofs.YtilmndkbloodbaaW.PrintWords Go.Proofs.YtilmndkbloodbaaW.PrintLast
theorem named_f (s : ByteArray) : cotterref06_named.f s = some (decide (named s)) := by
  unfold cotterref06_named.f
  by_cases h : (s.size : Int) ≥ 1
  · rw [if_pos h]
    congr 1
    exact decide_eq_decide.mpr ⟨fun h' => ⟨by omega, by omega⟩, fun h' => by have := h'.2; omega⟩
  · rw [if_neg h]
    congr 1
    exact (decide_eq_false (fun h' : named s => h (by have := h'.1; omega))).symm
theorem rd_SS (l : List S41) (i : Nat) (h : i < l.length) : rd_T41 l (i : Int) = l[i] := by
  simp [rd_T41, List.getD_eq_getElem?_getD, List.getElem?_eq_getElem h]
theorem distinct_le (xs : List (List UInt8)) : M.distinct xs ≤ xs.length := by
  induction xs with
  | nil => exact Nat.le_refl _
  | cons s r ih =>
    rw [distinct_cons, List.length_cons]
    split <;> omega
theorem symNames_len (l : List S41) : (symNames l).length = l.length := by simp [symNames]
theorem symNames_mem (l : List S41) (n : List UInt8) : n ∈ symNames l ↔ ∃ s ∈ l, s.f0.data.toList = n := by simp [symNames]
set_option linter.unusedSimpArgs false
set_option linter.unusedVariables false
/-- Is a name among the first ones? -/
def seen (l : List S41) (i : Nat) (n : List UInt8) : Prop := ∃ (j : Nat) (_ : j < i) (h : j < l.length), l[j].f0.data.toList = n
theorem seen_mem (l : List S41) (i : Nat) (n : List UInt8) : seen l i n ↔ n ∈ symNames (l.take i) := by
  rw [symNames_mem]
  constructor
  · rintro ⟨j, hj, h, e⟩
    exact ⟨l[j], by rw [List.mem_take_iff_getElem]; exact ⟨j, by omega, rfl⟩, e⟩
  · rintro ⟨s, hs, e⟩
    rw [List.mem_take_iff_getElem] at hs
    obtain ⟨j, hj, rfl⟩ := hs
    exact ⟨j, by omega, by omega, e⟩
theorem distinct_take (l : List S41) : ∀ n, n ≤ l.length → (M.distinct (symNames (l.take n)) = n ↔ ∀ (j : Nat) (h : j < l.length), j < n → ¬ seen l j l[j].f0.data.toList) := by
  intro n
  induction n with
  | zero => intro _; simp [symNames, M.distinct]
  | succ n ih =>
    intro hn
    have hlt : n < l.length := by omega
    have e : symNames (l.take (n + 1)) = l[n].f0.data.toList :: symNames (l.take n) := by
      rw [symNames_snoc l n hlt]
      simp [List.getD_eq_getElem?_getD, List.getElem?_eq_getElem hlt]
    have hle := distinct_le (symNames (l.take n))
    rw [symNames_len, List.length_take] at hle
    rw [e, distinct_cons]
    have ih := ih (by omega)
    constructor
    · intro h j hj hjn
      by_cases hm : l[n].f0.data.toList ∈ symNames (l.take n)
      · rw [if_pos hm] at h; omega
      · rw [if_neg hm] at h
        by_cases hjj : j = n
        · subst hjj
          rwa [seen_mem]
        · exact ih.1 (by omega) j hj (by omega)
    · intro h
      have h1 : M.distinct (symNames (l.take n)) = n := ih.2 (fun j hj hjn => h j hj (by omega))
      have h2 := h n hlt (by omega)
      rw [seen_mem] at h2
      rw [if_neg h2, h1]
open Classical in
theorem syms_l1 (l : List S41) (a b : Int) (hm : l.length ≤ 9223372036854775807) (i : Nat) (hi : i < l.length) (n : ByteArray) (x y : Int) : ∀ (e m k : Nat), i - m = e → m ≤ i → e < k →
    cotterref06_Syms.l1 k l a b (i : Int) (m : Int) n x y = if (∃ (j : Nat) (_ : m ≤ j) (_ : j < i) (h : j < l.length), l[j].f0.data.toList = n.data.toList) then some false else cotterref06_Syms.l0 (k - e - 1) l a b ((i + 1 : Nat) : Int) := by
  intro e
  induction e with
  | zero =>
    intro m k he hmi hk
    obtain ⟨k, rfl⟩ : ∃ q, k = q + 1 := ⟨k - 1, by omega⟩
    obtain rfl : m = i := by omega
    simp only [cotterref06_Syms.l1]
    rw [if_neg (by omega), if_neg (by rintro ⟨j, h1, h2, _⟩; omega)]
    have hw : wrap64 ((m : Int) + 1) = ((m + 1 : Nat) : Int) := by unfold wrap64; omega
    rw [hw]
    simp
  | succ e ih =>
    intro m k he hmi hk
    obtain ⟨k, rfl⟩ : ∃ q, k = q + 1 := ⟨k - 1, by omega⟩
    have hlt : m < l.length := by omega
    have hw : wrap64 ((m : Int) + 1) = ((m + 1 : Nat) : Int) := by unfold wrap64; omega
    simp only [cotterref06_Syms.l1]
    rw [if_pos (by omega), if_pos (by omega), if_pos (by omega), rd_SS l m hlt, ByteArray.toList_eq, ByteArray.toList_eq]
    by_cases hc : l[m].f0.data.toList = n.data.toList
    · rw [if_pos hc, if_pos ⟨m, Nat.le_refl _, by omega, hlt, hc⟩]
    · rw [if_neg hc, hw, ih (m + 1) k (by omega) (by omega) (by omega)]
      have e1 : (∃ (j : Nat) (_ : m + 1 ≤ j) (_ : j < i) (h : j < l.length), l[j].f0.data.toList = n.data.toList) ↔ (∃ (j : Nat) (_ : m ≤ j) (_ : j < i) (h : j < l.length), l[j].f0.data.toList = n.data.toList) := by
        constructor
        · rintro ⟨j, h1, h2, h3, h4⟩
          exact ⟨j, by omega, h2, h3, h4⟩
        · rintro ⟨j, h1, h2, h3, h4⟩
          by_cases hjm : j = m
          · subst hjm; exact absurd h4 hc
          · exact ⟨j, by omega, h2, h3, h4⟩
      simp only [e1]
      rw [show k + 1 - (e + 1) - 1 = k - e - 1 by omega]
/-- What is left of the document's test from the i-th symbol on. -/
def Rest (l : List S41) (a b : Int) (i : Nat) : Prop := ∀ (j : Nat) (h : j < l.length), i ≤ j → symGood a b l[j] = true ∧ ¬ seen l j l[j].f0.data.toList
theorem syms_l0 (l : List S41) (a b : Int) (hm : l.length ≤ 9223372036854775807) : ∀ (d k i : Nat), l.length - i = d → i ≤ l.length → d * (l.length + 4) < k → ∃ r, cotterref06_Syms.l0 k l a b (i : Int) = some r ∧ (r = true ↔ Rest l a b i) := by
  intro d
  induction d with
  | zero =>
    intro k i hd hi hk
    obtain ⟨k, rfl⟩ : ∃ q, k = q + 1 := ⟨k - 1, by omega⟩
    refine ⟨true, ?_, ?_⟩
    · simp only [cotterref06_Syms.l0]
      rw [if_neg (by omega)]
    · simp only [true_iff]
      intro j hj hij
      omega
  | succ d ih =>
    intro k i hd hi hk
    rw [Nat.succ_mul] at hk
    obtain ⟨k, rfl⟩ : ∃ q, k = q + 2 := ⟨k - 2, by omega⟩
    have hlt : i < l.length := by omega
    have bad : symGood a b l[i] = false → (false = true ↔ Rest l a b i) := fun h => by
      constructor
      · intro h'; cases h'
      · intro h'
        have := (h' i hlt (Nat.le_refl _)).1
        rw [h] at this
        cases this
    have good : symGood a b l[i] = true → ∃ r, cotterref06_Syms.l1 k l a b (i : Int) 0 l[i].f0 l[i].f1 l[i].f2 = some r ∧ (r = true ↔ Rest l a b i) := fun h => by
      have := syms_l1 l a b hm i hlt l[i].f0 l[i].f1 l[i].f2 i 0 k (by omega) (by omega) (by omega)
      rw [Int.natCast_zero] at this
      rw [this]
      by_cases hc : ∃ (j : Nat) (_ : 0 ≤ j) (_ : j < i) (h : j < l.length), l[j].f0.data.toList = l[i].f0.data.toList
      · rw [if_pos hc]
        refine ⟨false, rfl, ?_⟩
        constructor
        · intro h'; cases h'
        · intro h'
          obtain ⟨j, _, h2, h3, h4⟩ := hc
          exact absurd ⟨j, h2, h3, h4⟩ (h' i hlt (Nat.le_refl _)).2
      · rw [if_neg hc]
        obtain ⟨r, hr, hrr⟩ := ih (k - i - 1) (i + 1) (by omega) (by omega) (by omega)
        refine ⟨r, hr, hrr.trans ?_⟩
        constructor
        · intro h' j hj hij
          by_cases hji : j = i
          · subst hji
            exact ⟨h, fun ⟨q, h2, h3, h4⟩ => hc ⟨q, Nat.zero_le _, h2, h3, h4⟩⟩
          · exact h' j hj (by omega)
        · intro h' j hj hij
          exact h' j hj (by omega)
    simp only [cotterref06_Syms.l0]
    rw [if_pos (by omega), if_pos (by omega), rd_SS l i hlt]
    generalize l[i] = s at bad good
    obtain ⟨f0, f1, f2⟩ := s
    simp only [named_f, Option.bind_some]
    dsimp only at good bad
    have jt : ∀ n x y, cotterref06_Syms.j1 (k + 1) l a b (i : Int) true n x y = some false := fun n x y => by simp [cotterref06_Syms.j1]
    have jf : ∀ n x y, cotterref06_Syms.j1 (k + 1) l a b (i : Int) false n x y = cotterref06_Syms.l1 k l a b (i : Int) 0 n x y := fun n x y => by simp [cotterref06_Syms.j1]
    have hg : symGood a b ⟨f0, f1, f2⟩ = (decide (f1 = 1 ∨ f1 = 2 ∨ f1 = 3) && decide (named f0) && decide (0 ≤ f2) && decide (f2 < (if f1 = 2 then b else a))) := rfl
    by_cases hn : named f0
    · rw [if_pos (by simpa using hn)]
      by_cases c1 : f1 < 1
      · rw [if_pos c1, jt]; exact ⟨_, rfl, bad (by rw [hg]; simp [show ¬ (f1 = 1 ∨ f1 = 2 ∨ f1 = 3) by omega])⟩
      rw [if_neg c1]
      by_cases c2 : f1 > 3
      · rw [if_pos c2, jt]; exact ⟨_, rfl, bad (by rw [hg]; simp [show ¬ (f1 = 1 ∨ f1 = 2 ∨ f1 = 3) by omega])⟩
      rw [if_neg c2]
      by_cases c3 : f2 < 0
      · rw [if_pos c3, jt]; exact ⟨_, rfl, bad (by rw [hg]; simp [show ¬ (0 ≤ f2) by omega])⟩
      rw [if_neg c3]
      have k0 : (f1 = 1 ∨ f1 = 2 ∨ f1 = 3) := by omega
      have k1 : 0 ≤ f2 := by omega
      by_cases c4 : f1 = 2
      · rw [if_pos c4]
        by_cases c5 : f2 ≥ b
        · rw [if_pos c5, jt]; exact ⟨_, rfl, bad (by rw [hg]; subst c4; simp [show ¬ (f2 < b) by omega])⟩
        · rw [if_neg c5, jf]; exact good (by rw [hg]; subst c4; simp [hn, k1, show f2 < b by omega])
      · rw [if_neg c4]
        by_cases c5 : f2 ≥ a
        · rw [decide_eq_true c5, jt]; exact ⟨_, rfl, bad (by rw [hg]; simp [c4, show ¬ (f2 < a) by omega])⟩
        · rw [decide_eq_false c5, jf]; exact good (by rw [hg]; simp [hn, k1, c4, show f2 < a by omega]; omega)
    · rw [if_neg (by simpa using hn), jt]
      exact ⟨_, rfl, bad (by rw [hg]; simp [hn])⟩
theorem syms_f (l : List S41) (a b : Nat) (k : Nat) (hk : 1000 * 1004 < k) : cotterref06_Syms.f k l (a : Int) (b : Int) = some (symsOk a b l) := by
  unfold cotterref06_Syms.f
  by_cases c : (l.length : Int) > 1000
  · rw [if_pos c]
    unfold symsOk
    simp [show ¬ l.length ≤ 1000 by omega]
  · rw [if_neg c]
    have hle : l.length * (l.length + 4) ≤ 1000 * 1004 := Nat.mul_le_mul (by omega) (by omega)
    obtain ⟨r, hr, hrr⟩ := syms_l0 l (a : Int) (b : Int) (by omega) l.length k 0 (by omega) (by omega) (by omega)
    rw [Int.natCast_zero] at hr
    rw [hr]
    congr 1
    rw [Bool.eq_iff_iff, hrr]
    unfold symsOk
    simp only [Bool.and_eq_true, decide_eq_true_eq, List.all_eq_true]
    have hd := distinct_take l l.length (Nat.le_refl _)
    rw [List.take_length] at hd
    rw [hd]
    constructor
    · intro h
      refine ⟨⟨fun s hs => ?_, fun j hj _ => (h j hj (Nat.zero_le _)).2⟩, by omega⟩
      obtain ⟨j, hj, rfl⟩ := List.mem_iff_getElem.1 hs
      exact (h j hj (Nat.zero_le _)).1
    · rintro ⟨⟨h1, h2⟩, _⟩ j hj _
      exact ⟨h1 _ (List.getElem_mem hj), h2 j hj hj⟩
theorem rmay_l0 (code : ByteArray) (data : List Int) (syms : List S41) (l : List S43) (h1 : code.size ≤ 65536) (hm : l.length ≤ 9223372036854775807) : ∀ (d k i : Nat) (free : Int), l.length - i = d → i ≤ l.length → 0 ≤ free → 2 * d + 1 < k →
    cotterref06_May.l0 k free (i : Int) code data syms l = some (relsOk code.size free (l.drop i)) := by
  intro d
  induction d with
  | zero =>
    intro k i free hd hi hf hk
    obtain ⟨k, rfl⟩ : ∃ m, k = m + 1 := ⟨k - 1, by omega⟩
    obtain rfl : i = l.length := by omega
    simp only [cotterref06_May.l0]
    rw [if_neg (by omega), List.drop_length]
    rfl
  | succ d ih =>
    intro k i free hd hi hf hk
    obtain ⟨k, rfl⟩ : ∃ m, k = m + 2 := ⟨k - 2, by omega⟩
    have hlt : i < l.length := by omega
    have hs := ih k (i + 1)
    have hw : wrap64 ((i : Int) + 1) = ((i + 1 : Nat) : Int) := by unfold wrap64; omega
    have hw4 : wrap64 ((code.size : Int) - 4) = (code.size : Int) - 4 := by unfold wrap64; omega
    simp only [cotterref06_May.l0]
    rw [if_pos (by omega), if_pos (by omega), rd_SR l i hlt, List.drop_eq_getElem_cons hlt]
    generalize l[i] = r
    obtain ⟨f0, f1, f2, f3⟩ := r
    simp only [named_f, Option.bind_some, relsOk, relGood]
    by_cases hn : named f2
    · simp only [hn, decide_true, if_true, hw4, true_and]
      by_cases c1 : f0 < free
      · rw [if_pos c1]
        simp only [cotterref06_May.j2, if_true]
        simp [show ¬ free ≤ f0 by omega]
      · rw [if_neg c1]
        by_cases c2 : f0 > (code.size : Int) - 4
        · simp only [cotterref06_May.j2, c2, decide_true, if_true]
          simp [show ¬ f0 ≤ (code.size : Int) - 4 by omega]
        · have hw0 : wrap64 (f0 + 4) = f0 + 4 := by unfold wrap64; omega
          have hs' := hs (f0 + 4) (by omega) (by omega) (by omega) (by omega)
          simp only [cotterref06_May.j2, c2, decide_false, hw, hw0, hs']
          simp only [show free ≤ f0 by omega, show f0 ≤ (code.size : Int) - 4 by omega, true_and]
          by_cases k1 : f1 = 1
          · subst k1
            by_cases a0 : f3 = 0
            · simp [a0]
            · simp [a0]
          · by_cases k2 : f1 = 2
            · subst k2
              by_cases a1 : f3 ≥ -2147483648
              · by_cases a2 : f3 ≤ 2147483647
                · simp [a1, a2, show (-2147483648 ≤ f3) by omega]
                · simp [a1, a2]
              · simp [a1, show ¬ (-2147483648 ≤ f3) by omega]
            · simp [k1, k2]
    · simp only [hn, decide_false, cotterref06_May.j2, if_true]
      simp
theorem rmay_f (code : ByteArray) (data : List Int) (syms : List S41) (rels : List S43) (k : Nat) (hk : 1004010 < k) (hk2 : 2 * rels.length + 2 < k) (hm : rels.length ≤ 9223372036854775807) :
    cotterref06_May.f k code data syms rels = some (may code data syms rels) := by
  obtain ⟨k, rfl⟩ : ∃ m, k = m + 1 := ⟨k - 1, by omega⟩
  have jt : ∀ a b c d, cotterref06_May.j0 (k + 1) true a b c d = some false := fun a b c d => by simp [cotterref06_May.j0]
  unfold cotterref06_May.f may
  by_cases c1 : (code.size : Int) > 65536
  · rw [if_pos c1, jt]
    simp [show ¬ code.size ≤ 65536 by omega]
  rw [if_neg c1]
  by_cases c2 : (data.length : Int) > 4096
  · rw [if_pos c2, jt]
    simp [show ¬ data.length ≤ 4096 by omega]
  rw [if_neg c2, syms_f syms code.size data.length (k + 1) (by omega)]
  simp only [Option.bind_some, show code.size ≤ 65536 by omega, show data.length ≤ 4096 by omega, decide_true, Bool.true_and]
  by_cases c3 : symsOk code.size data.length syms = true
  · rw [if_pos c3, c3]
    simp only [Bool.true_and]
    by_cases c4 : (rels.length : Int) > 8000
    · rw [decide_eq_true c4, jt]
      simp [show ¬ rels.length ≤ 8000 by omega]
    · rw [decide_eq_false c4]
      simp only [cotterref06_May.j0]
      have := rmay_l0 code data syms rels (by omega) hm rels.length k 0 0 (by omega) (by omega) (by omega) (by omega)
      rw [Int.natCast_zero] at this
      rw [if_neg (by decide), this]
      simp [show rels.length ≤ 8000 by omega]
  · rw [if_neg c3, jt]
    simp [Bool.eq_false_iff.mpr c3]
end Go.Proofs.Ytilmndkbloodbaa.Obj

/-
  Layer 6: the document's Read (cotterref06.Read): the walk. Condition: a text of at most 2^48 bytes.
-/
namespace Go.Proofs.Ytilmndkbloodbaa.M
open Go.RowKit Go.Proofs.YtilmndkbloodbaaW.PrintWords Go.Proofs.Ytilmndkbloodbaa.Num Go.Proofs.Ytilmndkbloodbaa.Seven Go.Proofs.Ytilmndkbloodbaa.Word1 Go.Proofs.Ytilmndkbloodbaa.Obj
set_option linter.unusedVariables false
set_option linter.unusedSimpArgs false
theorem read_full {s : ByteArray} {code : ByteArray} {data : List Int} {syms : List S41} {p m p1 : Nat} {bad bad1 : Bool} (hfr : frontA s COT1s 0 = bif bad then none else some (code, data, syms, p)) (hn : rNum s 8000 p bad = ((m : Int), p1, bad1)) :
    readA s = ((bif bad1 then none else manyA (relA s) m p1).bind fun r => if r.2 = s.size ∧ may code data syms r.1 = true then some (code, data, syms, r.1) else none) := by
  unfold readA listA
  rw [hfr]
  cases bad with
  | true =>
    obtain ⟨h1, h2⟩ := Prod.mk.inj hn
    obtain ⟨h2, h3⟩ := Prod.mk.inj h2
    rw [← h3]
    simp
  | false =>
    unfold rNum at hn
    cases e : numA s 8000 p with
    | none =>
      rw [e] at hn
      obtain ⟨h1, h2⟩ := Prod.mk.inj hn
      obtain ⟨h2, h3⟩ := Prod.mk.inj h2
      rw [← h3]
      simp [e]
    | some a =>
      rw [e, rr_some] at hn
      obtain ⟨h1, h2⟩ := Prod.mk.inj hn
      obtain ⟨h2, h3⟩ := Prod.mk.inj h2
      rw [← h3, ← h2]
      simp only [cond_false, Option.bind_some, e, h1, Int.toNat_natCast]
set_option maxHeartbeats 16000000 in
set_option maxRecDepth 100000 in
theorem cotterref06_Read.calls_ (s : ByteArray) (hs : s.size ≤ 281474976710656) (w : World) :
    Calls Try.prog 17 #[.string s] w fun e w' => ∃ v1_ v2_ v3_ : Value, e = .returned (.tuple #[.agg #[.string (readF s).1, v1_, v2_, v3_], .int .i64 (readF s).2.2.2.2]) ∧ Kd.R (Kd.int .i64) 2 w' w.heap.size (fun _ => True) v1_ (readF s).2.1 ∧ Kd.R k41 41 w' w.heap.size (fun _ => True) v2_ (readF s).2.2.1 ∧ Kd.R k43 43 w' w.heap.size (fun _ => True) v3_ (readF s).2.2.2.1 ∧ Below w.heap.size w w' := by
  obtain ⟨code, data, syms, p, bad, FF0, hp, hd, hy, hfr⟩ := front_f s hs COT1s 8000 (by omega)
  have FF := Aside0.mk FF0
  have b1 := rNum_ok (s := s) (most := 8000) (p := p) (bad := bad) (by omega) hp
  have F10 := rnumber_rr s hs 8000 (by omega) (by omega) p hp bad 40 (by omega)
  obtain ⟨n, p1, bad1, hn1⟩ : ∃ n p1 bad1, rNum s 8000 p bad = (n, p1, bad1) := ⟨_, _, _, rfl⟩
  rw [hn1] at b1 F10
  obtain ⟨m, rfl⟩ : ∃ m : Nat, n = (m : Int) := ⟨n.toNat, by have := b1.2.1; dsimp only at this; omega⟩
  dsimp only at b1 F10
  have F1 := Aside0.mk F10
  have RF := Aside0.mk (read_full hfr hn1)
  obtain ⟨FULL, hF⟩ : ∃ F : Option (List S43 × Nat), F = bif bad1 then none else manyA (relA s) m p1 := ⟨_, rfl⟩
  rw [← hF] at RF
  have HF := Aside0.mk hF
  have hm : m ≤ 8000 := by have := b1.2.2; omega
  have hp1 := b1.1
  have HD := Aside0.mk hd
  have HY := Aside0.mk hy
  have HS := Aside0.mk hs
  clear FF0 F10 hfr hn1 hF b1 hp hd hy hs
  have eA : ∀ o, (w.alloc o).heap.size = w.heap.size + 1 := fun o => by simp
  have eB : ∀ o o', ((w.alloc o).alloc o').heap.size = w.heap.size + 1 + 1 := fun o o' => by simp
  have B0 := Aside0.mk (blk_alloc (blk_alloc (blk_new w (.cells #[.string ⟨#[]⟩, .slice none 0 0, .slice none 0 0, .slice none 0 0] 26)) (.cells #[.string s, .int .i64 0, .bool false] 73)) (.cells #[.string ⟨#[]⟩, .slice none 0 0, .slice none 0 0, .slice none 0 0] 26))
  have G0 := Aside0.mk (show (((w.alloc (.cells #[.string ⟨#[]⟩, .slice none 0 0, .slice none 0 0, .slice none 0 0] 26)).alloc (.cells #[.string s, .int .i64 0, .bool false] 73)).alloc (.cells #[.string ⟨#[]⟩, .slice none 0 0, .slice none 0 0, .slice none 0 0] 26)).heap[w.heap.size + 1]? = some (.cells #[.string s, .int .i64 0, .bool false] 73) from eA (.cells #[.string ⟨#[]⟩, .slice none 0 0, .slice none 0 0, .slice none 0 0] 26) ▸ blk_alloc (blk_new (w.alloc (.cells #[.string ⟨#[]⟩, .slice none 0 0, .slice none 0 0, .slice none 0 0] 26)) (.cells #[.string s, .int .i64 0, .bool false] 73)) (.cells #[.string ⟨#[]⟩, .slice none 0 0, .slice none 0 0, .slice none 0 0] 26))
  have H0 := Aside0.mk (show (((w.alloc (.cells #[.string ⟨#[]⟩, .slice none 0 0, .slice none 0 0, .slice none 0 0] 26)).alloc (.cells #[.string s, .int .i64 0, .bool false] 73)).alloc (.cells #[.string ⟨#[]⟩, .slice none 0 0, .slice none 0 0, .slice none 0 0] 26)).heap[w.heap.size + 1 + 1]? = some (.cells #[.string ⟨#[]⟩, .slice none 0 0, .slice none 0 0, .slice none 0 0] 26) from eB (.cells #[.string ⟨#[]⟩, .slice none 0 0, .slice none 0 0, .slice none 0 0] 26) (.cells #[.string s, .int .i64 0, .bool false] 73) ▸ blk_new ((w.alloc (.cells #[.string ⟨#[]⟩, .slice none 0 0, .slice none 0 0, .slice none 0 0] 26)).alloc (.cells #[.string s, .int .i64 0, .bool false] 73)) (.cells #[.string ⟨#[]⟩, .slice none 0 0, .slice none 0 0, .slice none 0 0] 26))
  clear eA eB
  go_enter Try.func17, Try.ntmps17
  go_wp2_with (first | (go_at_call 37; (with_reducible refine (cotterref06_Reader_Front.calls 8000 (w.heap.size + 1) s 0 false COT1s code data syms s p bad w _ ?side1 ?side2 FF.out).mono ?_); (case side1 => exact ⟨G0.out, Nat.le_succ _⟩); (case side2 => repeat (first | exact Below.refl _ _ | apply below_alloc)); rintro e w4 ⟨v1, v2, rfl, hr1, hr2, hi, hb, hk⟩; obtain ⟨A1, c1, rfl, hc1, -⟩ := Kd.R_reads hr1; obtain ⟨A2, c2, rfl, hc2, -⟩ := Kd.R_reads hr2; have hb0 := blk_lt B0.out; have bo := hk.blk H0.out (by omega) (by simp); have br := hk.blk B0.out (by omega) (by simp); have hg0 := hi.lt; have HH := Aside0.mk (show Held w w4 w4.heap.size (w.heap.size + 1 + 1) w.heap.size #[.string ⟨#[]⟩, .slice none 0 0, .slice none 0 0, .slice none 0 0] #[.string ⟨#[]⟩, .slice none 0 0, .slice none 0 0, .slice none 0 0] 26 (.slice A1 data.length c1) data (.slice A2 syms.length c2) syms (.slice none 0 0) [] from ⟨hb, bo, br, R_in (Kd.R_lower hr1 (by simp; omega)), R_in (Kd.R_lower hr2 (by simp; omega)), Kd.R_nil _ _ _ _ _, Nat.le_refl _, by have := blk_lt bo; omega, by decide⟩); have HI := Aside0.mk hi; have hx0 := (blk_cell bo 0).trans rfl; have hf0 := blk_frozen bo 0; have hx1 := (blk_cell bo 1).trans rfl; have hf1 := blk_frozen bo 1; have hx2 := (blk_cell bo 2).trans rfl; have hf2 := blk_frozen bo 2; clear hr1 hr2 hi hb hk bo br hb0 hg0 B0 G0 H0 FF) | (go_at_call 38; (with_reducible refine (cotterref06_Reader_Number.calls 40 (w.heap.size + 1) s p bad 8000 m s p1 bad1 w _ ?side1 ?side2 F1.out).mono ?_); (case side1 => exact ((HI.out.far (p := ⟨w.heap.size + 1 + 1, 0, none⟩) (by simp) (.string code)).far (p := ⟨w.heap.size + 1 + 1, 1, none⟩) (by simp) (.slice A1 data.length c1)).far (p := ⟨w.heap.size + 1 + 1, 2, none⟩) (by simp) (.slice A2 syms.length c2)); (case side2 => exact (((HH.out.put 0 (.string code) rfl).put 1 (.slice A1 data.length c1) rfl).put 2 (.slice A2 syms.length c2) rfl).below); rintro e w5 ⟨rfl, hi, hb, hk⟩; have HH5 := Aside0.mk ((((HH.out.put 0 (.string code) rfl).put 1 (.slice A1 data.length c1) rfl).put 2 (.slice A2 syms.length c2) rfl).keep hk hb (by simp) (by simp) (((HI.out.far (p := ⟨w.heap.size + 1 + 1, 0, none⟩) (by simp) (.string code)).far (p := ⟨w.heap.size + 1 + 1, 1, none⟩) (by simp) (.slice A1 data.length c1)).far (p := ⟨w.heap.size + 1 + 1, 2, none⟩) (by simp) (.slice A2 syms.length c2)).1 (by decide)); have HI5 := Aside0.mk hi; clear hi hb hk HH HI hx0 hx1 hx2 hf0 hf1 hf2))
  go_loopw [7] (fun v7 wr => ∃ (k q : Nat) (bd : Bool) (v3 : Value) (rels : List S43), k ≤ m ∧ v7 = .int .i64 k ∧ rels.length ≤ k ∧ q ≤ s.size ∧ Aside0 (IsS73 w wr (w.heap.size + 1) s q bd) ∧ Aside0 (Held w wr wr.heap.size (w.heap.size + 1 + 1) w.heap.size #[.string code, .slice A1 data.length c1, .slice A2 syms.length c2, v3] #[.string ⟨#[]⟩, .slice none 0 0, .slice none 0 0, .slice none 0 0] 26 (.slice A1 data.length c1) data (.slice A2 syms.length c2) syms v3 rels) ∧ Aside0 (FULL = bif bd then none else (manyA (relA s) (m - k) q).map fun y => (rels ++ y.1, y.2))) (fun v7 _ => m - (intOf v7).toNat)
  case atStart => exact ⟨0, p1, bad1, .slice none 0 0, [], Nat.zero_le _, rfl, Nat.le_refl _, hp1, HI5, ⟨HH5.out.up HH5.out.lt (Nat.le_refl _)⟩, ⟨by rw [HF.out]; cases bad1 <;> simp⟩⟩
  case round =>
    clear HI5 HH5 F1 HF
    obtain ⟨k, q, bd, v3, rels, hk, rfl, hl, hq, HI, HH, HF⟩ := hrel
    obtain ⟨A3, c3, rfl, hc3, -⟩ := Kd.R_reads HH.out.r3
    have cg0 : wr.cell? ⟨w.heap.size + 1, 0, none⟩ = some (.string s) := (blk_cell HI.out.1 0).trans rfl
    have cg1 : wr.cell? ⟨w.heap.size + 1, 1, none⟩ = some (.int .i64 q) := (blk_cell HI.out.1 1).trans rfl
    have cg2 : wr.cell? ⟨w.heap.size + 1, 2, none⟩ = some (.bool bd) := (blk_cell HI.out.1 2).trans rfl
    by_cases hlt : k < m
    case pos =>
      cases bd
      case false =>
        obtain ⟨x1, q1, b1, e1⟩ : ∃ x q' b, rNum s 65536 q false = (x, q', b) := ⟨_, _, _, rfl⟩
        have o1 := rNum_ok (s := s) (most := 65536) (p := q) (bad := false) (by omega) hq
        have F1 := Aside0.mk (rnumber_rr s HS.out 65536 (by omega) (by omega) q hq false 40 (by omega))
        rw [e1] at o1 F1
        dsimp only at o1 F1
        obtain ⟨x2, q2, b2, e2⟩ : ∃ x q' b, rOne s q1 b1 = (x, q', b) := ⟨_, _, _, rfl⟩
        have o2 := rOne_ok (s := s) (p := q1) (bad := b1) o1.1
        have F2 := Aside0.mk (rone_rr s HS.out q1 o1.1 b1)
        rw [e2] at o2 F2
        dsimp only at o2 F2
        obtain ⟨x3, q3, b3, e3⟩ : ∃ x q' b, rNum s 28 q2 b2 = (x, q', b) := ⟨_, _, _, rfl⟩
        have o3 := rNum_ok (s := s) (most := 28) (p := q2) (bad := b2) (by omega) o2
        have F3 := Aside0.mk (rnumber_rr s HS.out 28 (by omega) (by omega) q2 o2 b2 40 (by omega))
        rw [e3] at o3 F3
        dsimp only at o3 F3
        obtain ⟨x4, q4, b4, e4⟩ : ∃ x q' b, rBytes s x3.toNat q3 b3 = (x, q', b) := ⟨_, _, _, rfl⟩
        have o4 := rBytes_ok (s := s) (n := x3.toNat) (p := q3) (bad := b3) o3.1
        have F4 := Aside0.mk (rbytes_rr s HS.out x3 o3.2.1 (by omega) q3 o3.1 b3)
        rw [e4] at o4 F4
        dsimp only at o4 F4
        obtain ⟨x5, q5, b5, e5⟩ : ∃ x q' b, rWide s q4 b4 = (x, q', b) := ⟨_, _, _, rfl⟩
        have o5 := rWide_ok (s := s) (p := q4) (bad := b4) o4.1
        have F5 := Aside0.mk (rwide_rr s HS.out q4 o4.1 b4 10 (by omega))
        rw [e5] at o5 F5
        dsimp only at o5 F5
        have ST : rRel s q = (⟨x1, x2, x4, x5⟩, q5, b5) := by simp only [rRel, e1, e2, e3, e4, e5]
        have HF1 := Aside0.mk (show FULL = bif b5 then none else (manyA (relA s) (m - (k + 1)) q5).map fun y => ((rels ++ [(⟨x1, x2, x4, x5⟩ : S43)]) ++ y.1, y.2) by
          rw [HF.out, cond_false, show m - k = (m - (k + 1)) + 1 by omega]
          exact many_step (by rw [relA_r, ST]) _ _)
        have O5 := Aside0.mk o5
        clear e1 e2 e3 e4 e5 o1 o2 o3 o4 o5 ST HF
        go_wp2_with (first | (go_at_call 38; (with_reducible refine (cotterref06_Reader_Number.calls 40 (w.heap.size + 1) s q false 65536 x1 s q1 b1 w _ ?side1 ?side2 F1.out).mono ?_); (case side1 => exact HI.out); (case side2 => exact (HH.out).below); rintro e w6 ⟨rfl, hi, hb, hk⟩; have HH6 := Aside0.mk ((HH.out).keep hk hb (by simp) (by simp) (HI.out).1 (by decide)); have HI6 := Aside0.mk hi; have hz6 : w.heap.size + 1 + 1 < w6.heap.size := blk_lt HH6.out.obj; have hB6 : wr.heap.size ≤ w6.heap.size := hk.1; clear hi hb hk) | (go_at_call 39; (with_reducible refine (cotterref06_Reader_One.calls (w.heap.size + 1) s q1 b1 x2 s q2 b2 w _ ?side1 ?side2 F2.out).mono ?_); (case side1 => exact (HI6.out.alloc (.cells #[.int .i64 x1, .int .i64 0, .string ⟨#[]⟩, .int .i64 0] 43))); (case side2 => exact ((HH6.out.next (below_alloc (Below.refl _ _) (.cells #[.int .i64 x1, .int .i64 0, .string ⟨#[]⟩, .int .i64 0] 43)))).below); rintro e w7 ⟨rfl, hi, hb, hk⟩; have HH7 := Aside0.mk (((HH6.out.next (below_alloc (Below.refl _ _) (.cells #[.int .i64 x1, .int .i64 0, .string ⟨#[]⟩, .int .i64 0] 43)))).keep hk hb (by simp) (by simp) ((HI6.out.alloc (.cells #[.int .i64 x1, .int .i64 0, .string ⟨#[]⟩, .int .i64 0] 43))).1 (by decide)); have HI7 := Aside0.mk hi; have BX7 := Aside0.mk (hk.blk (blk_new w6 (.cells #[.int .i64 x1, .int .i64 0, .string ⟨#[]⟩, .int .i64 0] 43)) (by have := HI6.out.lt; omega) (by simp)); have cx7_0 : w7.cell? ⟨w6.heap.size, 0, none⟩ = some (.int .i64 x1) := (blk_cell BX7.out 0).trans rfl; have fx7_0 := blk_frozen BX7.out 0; have cx7_1 : w7.cell? ⟨w6.heap.size, 1, none⟩ = some (.int .i64 0) := (blk_cell BX7.out 1).trans rfl; have fx7_1 := blk_frozen BX7.out 1; have cx7_2 : w7.cell? ⟨w6.heap.size, 2, none⟩ = some (.string ⟨#[]⟩) := (blk_cell BX7.out 2).trans rfl; have fx7_2 := blk_frozen BX7.out 2; have cx7_3 : w7.cell? ⟨w6.heap.size, 3, none⟩ = some (.int .i64 0) := (blk_cell BX7.out 3).trans rfl; have fx7_3 := blk_frozen BX7.out 3; clear hi hb hk) | (go_at_call 38; (with_reducible refine (cotterref06_Reader_Number.calls 40 (w.heap.size + 1) s q2 b2 28 x3 s q3 b3 w _ ?side1 ?side2 F3.out).mono ?_); (case side1 => exact (HI7.out.far (p := ⟨w6.heap.size, 1, none⟩) (by have := HI6.out.lt; simp; omega) (.int .i64 x2))); (case side2 => exact ((HH7.out.far (p := ⟨w6.heap.size, 1, none⟩) hB6 (.int .i64 x2))).below); rintro e w8 ⟨rfl, hi, hb, hk⟩; have HH8 := Aside0.mk (((HH7.out.far (p := ⟨w6.heap.size, 1, none⟩) hB6 (.int .i64 x2))).keep hk hb (by simp) (by simp) ((HI7.out.far (p := ⟨w6.heap.size, 1, none⟩) (by have := HI6.out.lt; simp; omega) (.int .i64 x2))).1 (by decide)); have HI8 := Aside0.mk hi; have BX8 := Aside0.mk (hk.blk (blk_put BX7.out 1 (.int .i64 x2) rfl) (by have := HI6.out.lt; omega) (by simp)); clear cx7_0 fx7_0 cx7_1 fx7_1 cx7_2 fx7_2 cx7_3 fx7_3; clear hi hb hk) | (go_at_call 40; (with_reducible refine (cotterref06_Reader_Bytes.calls (w.heap.size + 1) s q3 b3 x3 x4 s q4 b4 w _ ?side1 ?side2 F4.out).mono ?_); (case side1 => exact HI8.out); (case side2 => exact (HH8.out).below); rintro e w9 ⟨rfl, hi, hb, hk⟩; have HH9 := Aside0.mk ((HH8.out).keep hk hb (by simp) (by simp) (HI8.out).1 (by decide)); have HI9 := Aside0.mk hi; have BX9 := Aside0.mk (hk.blk (BX8.out) (by have := HI6.out.lt; omega) (by simp)); have cx9_0 : w9.cell? ⟨w6.heap.size, 0, none⟩ = some (.int .i64 x1) := (blk_cell BX9.out 0).trans rfl; have fx9_0 := blk_frozen BX9.out 0; have cx9_1 : w9.cell? ⟨w6.heap.size, 1, none⟩ = some (.int .i64 x2) := (blk_cell BX9.out 1).trans rfl; have fx9_1 := blk_frozen BX9.out 1; have cx9_2 : w9.cell? ⟨w6.heap.size, 2, none⟩ = some (.string ⟨#[]⟩) := (blk_cell BX9.out 2).trans rfl; have fx9_2 := blk_frozen BX9.out 2; have cx9_3 : w9.cell? ⟨w6.heap.size, 3, none⟩ = some (.int .i64 0) := (blk_cell BX9.out 3).trans rfl; have fx9_3 := blk_frozen BX9.out 3; clear hi hb hk) | (go_at_call 41; (with_reducible refine (cotterref06_Reader_Wide.calls 10 (w.heap.size + 1) s q4 b4 x5 s q5 b5 w _ ?side1 ?side2 F5.out).mono ?_); (case side1 => exact (HI9.out.far (p := ⟨w6.heap.size, 2, none⟩) (by have := HI6.out.lt; simp; omega) (.string x4))); (case side2 => exact ((HH9.out.far (p := ⟨w6.heap.size, 2, none⟩) hB6 (.string x4))).below); rintro e w10 ⟨rfl, hi, hb, hk⟩; have HH10 := Aside0.mk (((HH9.out.far (p := ⟨w6.heap.size, 2, none⟩) hB6 (.string x4))).keep hk hb (by simp) (by simp) ((HI9.out.far (p := ⟨w6.heap.size, 2, none⟩) (by have := HI6.out.lt; simp; omega) (.string x4))).1 (by decide)); have HI10 := Aside0.mk hi; have BX10 := Aside0.mk (hk.blk (blk_put BX9.out 2 (.string x4) rfl) (by have := HI6.out.lt; omega) (by simp)); clear cx9_0 fx9_0 cx9_1 fx9_1 cx9_2 fx9_2 cx9_3 fx9_3; have cx10_0 : w10.cell? ⟨w6.heap.size, 0, none⟩ = some (.int .i64 x1) := (blk_cell BX10.out 0).trans rfl; have fx10_0 := blk_frozen BX10.out 0; have cx10_1 : w10.cell? ⟨w6.heap.size, 1, none⟩ = some (.int .i64 x2) := (blk_cell BX10.out 1).trans rfl; have fx10_1 := blk_frozen BX10.out 1; have cx10_2 : w10.cell? ⟨w6.heap.size, 2, none⟩ = some (.string x4) := (blk_cell BX10.out 2).trans rfl; have fx10_2 := blk_frozen BX10.out 2; have cx10_3 : w10.cell? ⟨w6.heap.size, 3, none⟩ = some (.int .i64 0) := (blk_cell BX10.out 3).trans rfl; have fx10_3 := blk_frozen BX10.out 3; have ch10 : w10.cell? ⟨w.heap.size + 1 + 1, 3, none⟩ = some (.slice A3 rels.length c3) := (blk_cell HH10.out.obj 3).trans rfl; have hz10 := blk_lt BX10.out; clear hi hb hk) | (at_builtin; refine Kd.R_append k43 w.heap.size rfl (.tmp 50) (.tmp 52) 24 43 (.agg #[.int .i64 0, .int .i64 0, .string ⟨#[]⟩, .int .i64 0]) 40 rfl Try.underlying24 info43 rfl (by decide) (by omega) (.slice A3 rels.length c3) rels (⟨x1, x2, x4, x5⟩ : S43) [.int .i64 x1, .int .i64 x2, .string x4, .int .i64 x5] (fun _ => True) (fun _ => False) rfl (by first | (go_simp; done) | (go_simp; rfl)) ?aP (fun _ hk => hk.elim) (fun _ _ => trivial) (R_all ((HH10.out.far (p := ⟨w6.heap.size, 3, none⟩) hB6 (.int .i64 x5))).r3) ((HH10.out.far (p := ⟨w6.heap.size, 3, none⟩) hB6 (.int .i64 x5))).below ((HH10.out.far (p := ⟨w6.heap.size, 3, none⟩) hB6 (.int .i64 x5))).below.size (by omega) ?_; (case aP => exact k43_mkM _ _ _ (⟨x1, x2, x4, x5⟩ : S43)); intro v3n w11 ho hb hg hat; have HH11 := Aside0.mk (((HH10.out.far (p := ⟨w6.heap.size, 3, none⟩) hB6 (.int .i64 x5))).more3 ho hb hg); have HI11 := Aside0.mk (((HI10.out.far (p := ⟨w6.heap.size, 3, none⟩) (by have := HI6.out.lt; simp; omega) (.int .i64 x5))).grown hg (IsS73.own_ne ((HI10.out.far (p := ⟨w6.heap.size, 3, none⟩) (by have := HI6.out.lt; simp; omega) (.int .i64 x5))) ((HH10.out.far (p := ⟨w6.heap.size, 3, none⟩) hB6 (.int .i64 x5))).r3 (by decide))); obtain ⟨A4, c4, rfl, -, -⟩ := Kd.R_reads ho; simp only [List.length_append, List.length_cons, List.length_nil, Nat.zero_add] at HH11; have ch11 : w11.cell? ⟨w.heap.size + 1 + 1, 3, none⟩ = some (.slice A3 rels.length c3) := (blk_cell HH11.out.obj 3).trans rfl; have fh11 := blk_frozen HH11.out.obj 3; clear ho hb hg hat))
        go_roundw
        case rel => exact ⟨k + 1, q5, b5, _, rels ++ [(⟨x1, x2, x4, x5⟩ : S43)], hlt, by first | rfl | go_num, by simp; omega, O5.out, ⟨HI11.out.far (by simp) _⟩, ⟨(HH11.out.put 3 (.slice A4 (rels.length + 1) c4) rfl).up (HH11.out.put 3 (.slice A4 (rels.length + 1) c4) rfl).lt (Nat.le_refl _)⟩, HF1⟩
        case measure => simp [intOf]; omega
      case true =>
        have RN := Aside0.mk (show readF s = (⟨#[]⟩, [], [], [], 9) by unfold readF; rw [RF.out, HF.out]; rfl)
        have cr0 : wr.cell? ⟨w.heap.size, 0, none⟩ = some (.string ⟨#[]⟩) := (blk_cell HH.out.more 0).trans rfl; have fcr0 := blk_frozen HH.out.more 0; have cr1 : wr.cell? ⟨w.heap.size, 1, none⟩ = some (.slice none 0 0) := (blk_cell HH.out.more 1).trans rfl; have fcr1 := blk_frozen HH.out.more 1; have cr2 : wr.cell? ⟨w.heap.size, 2, none⟩ = some (.slice none 0 0) := (blk_cell HH.out.more 2).trans rfl; have fcr2 := blk_frozen HH.out.more 2; have cr3 : wr.cell? ⟨w.heap.size, 3, none⟩ = some (.slice none 0 0) := (blk_cell HH.out.more 3).trans rfl; have fcr3 := blk_frozen HH.out.more 3
        go_wp2
        refine bodyPost_ret (results_ct rfl _ _ w.heap.size 26 #[.string ⟨#[]⟩, .slice none 0 0, .slice none 0 0, .slice none 0 0] (0, 0) _ rfl ((((HH.out.putX 0 (.string ⟨#[]⟩) rfl).putX 1 (.slice none 0 0) rfl).putX 2 (.slice none 0 0) rfl).putX 3 (.slice none 0 0) rfl).more Try.underlying26 rfl (by kernel_rfl)) rfl ?_
        exact ⟨.slice none 0 0, .slice none 0 0, .slice none 0 0, by rw [RN.out]; rfl, by rw [RN.out]; exact Kd.R_nil _ _ _ _ _, by rw [RN.out]; exact Kd.R_nil _ _ _ _ _, by rw [RN.out]; exact Kd.R_nil _ _ _ _ _, ((((HH.out.putX 0 (.string ⟨#[]⟩) rfl).putX 1 (.slice none 0 0) rfl).putX 2 (.slice none 0 0) rfl).putX 3 (.slice none 0 0) rfl).below⟩
    case neg =>
      cases bd
      case true =>
        have RN := Aside0.mk (show readF s = (⟨#[]⟩, [], [], [], 9) by unfold readF; rw [RF.out, HF.out]; rfl)
        have cr0 : wr.cell? ⟨w.heap.size, 0, none⟩ = some (.string ⟨#[]⟩) := (blk_cell HH.out.more 0).trans rfl; have fcr0 := blk_frozen HH.out.more 0; have cr1 : wr.cell? ⟨w.heap.size, 1, none⟩ = some (.slice none 0 0) := (blk_cell HH.out.more 1).trans rfl; have fcr1 := blk_frozen HH.out.more 1; have cr2 : wr.cell? ⟨w.heap.size, 2, none⟩ = some (.slice none 0 0) := (blk_cell HH.out.more 2).trans rfl; have fcr2 := blk_frozen HH.out.more 2; have cr3 : wr.cell? ⟨w.heap.size, 3, none⟩ = some (.slice none 0 0) := (blk_cell HH.out.more 3).trans rfl; have fcr3 := blk_frozen HH.out.more 3
        go_wp2
        refine bodyPost_ret (results_ct rfl _ _ w.heap.size 26 #[.string ⟨#[]⟩, .slice none 0 0, .slice none 0 0, .slice none 0 0] (0, 0) _ rfl ((((HH.out.putX 0 (.string ⟨#[]⟩) rfl).putX 1 (.slice none 0 0) rfl).putX 2 (.slice none 0 0) rfl).putX 3 (.slice none 0 0) rfl).more Try.underlying26 rfl (by kernel_rfl)) rfl ?_
        exact ⟨.slice none 0 0, .slice none 0 0, .slice none 0 0, by rw [RN.out]; rfl, by rw [RN.out]; exact Kd.R_nil _ _ _ _ _, by rw [RN.out]; exact Kd.R_nil _ _ _ _ _, by rw [RN.out]; exact Kd.R_nil _ _ _ _ _, ((((HH.out.putX 0 (.string ⟨#[]⟩) rfl).putX 1 (.slice none 0 0) rfl).putX 2 (.slice none 0 0) rfl).putX 3 (.slice none 0 0) rfl).below⟩
      case false =>
        obtain rfl : k = m := by omega
        have hfull : FULL = some (rels, q) := by rw [HF.out, Nat.sub_self]; simp [manyA]
        by_cases hqs : q = s.size
        case neg =>
          have RN := Aside0.mk (show readF s = (⟨#[]⟩, [], [], [], 9) by unfold readF; rw [RF.out, hfull, Option.bind_some, if_neg (fun h => hqs h.1)])
          have hqi : ((q : Int) == (s.size : Int)) = false := beq_eq_false_iff_ne.mpr (fun h => hqs (by omega))
          have cr0 : wr.cell? ⟨w.heap.size, 0, none⟩ = some (.string ⟨#[]⟩) := (blk_cell HH.out.more 0).trans rfl; have fcr0 := blk_frozen HH.out.more 0; have cr1 : wr.cell? ⟨w.heap.size, 1, none⟩ = some (.slice none 0 0) := (blk_cell HH.out.more 1).trans rfl; have fcr1 := blk_frozen HH.out.more 1; have cr2 : wr.cell? ⟨w.heap.size, 2, none⟩ = some (.slice none 0 0) := (blk_cell HH.out.more 2).trans rfl; have fcr2 := blk_frozen HH.out.more 2; have cr3 : wr.cell? ⟨w.heap.size, 3, none⟩ = some (.slice none 0 0) := (blk_cell HH.out.more 3).trans rfl; have fcr3 := blk_frozen HH.out.more 3
          go_wp2
          refine bodyPost_ret (results_ct rfl _ _ w.heap.size 26 #[.string ⟨#[]⟩, .slice none 0 0, .slice none 0 0, .slice none 0 0] (0, 0) _ rfl ((((HH.out.putX 0 (.string ⟨#[]⟩) rfl).putX 1 (.slice none 0 0) rfl).putX 2 (.slice none 0 0) rfl).putX 3 (.slice none 0 0) rfl).more Try.underlying26 rfl (by kernel_rfl)) rfl ?_
          exact ⟨.slice none 0 0, .slice none 0 0, .slice none 0 0, by rw [RN.out]; rfl, by rw [RN.out]; exact Kd.R_nil _ _ _ _ _, by rw [RN.out]; exact Kd.R_nil _ _ _ _ _, by rw [RN.out]; exact Kd.R_nil _ _ _ _ _, ((((HH.out.putX 0 (.string ⟨#[]⟩) rfl).putX 1 (.slice none 0 0) rfl).putX 2 (.slice none 0 0) rfl).putX 3 (.slice none 0 0) rfl).below⟩
        case pos =>
          subst hqs
          have co0 : wr.cell? ⟨w.heap.size + 1 + 1, 0, none⟩ = some (.string code) := (blk_cell HH.out.obj 0).trans rfl; have fco0 := blk_frozen HH.out.obj 0; have co1 : wr.cell? ⟨w.heap.size + 1 + 1, 1, none⟩ = some (.slice A1 data.length c1) := (blk_cell HH.out.obj 1).trans rfl; have fco1 := blk_frozen HH.out.obj 1; have co2 : wr.cell? ⟨w.heap.size + 1 + 1, 2, none⟩ = some (.slice A2 syms.length c2) := (blk_cell HH.out.obj 2).trans rfl; have fco2 := blk_frozen HH.out.obj 2; have co3 : wr.cell? ⟨w.heap.size + 1 + 1, 3, none⟩ = some (.slice A3 rels.length c3) := (blk_cell HH.out.obj 3).trans rfl; have fco3 := blk_frozen HH.out.obj 3
          have CK := Aside0.mk (rmay_f code data syms rels (1004020 + 2 * rels.length) (by omega) (by omega) (by omega))
          have q1 := Aside0.mk (Kd.R_reads' HH.out.r1)
          have q2 := Aside0.mk (Kd.R_reads' HH.out.r2)
          have q3 := Aside0.mk (Kd.R_reads' HH.out.r3)
          cases hmay : may code data syms rels
          case false =>
            have RN := Aside0.mk (show readF s = (⟨#[]⟩, [], [], [], 9) by unfold readF; rw [RF.out, hfull, Option.bind_some, if_neg (fun h => by rw [hmay] at h; cases h.2)])
            rw [hmay] at CK
            go_wp2_with (first | (go_at_call 22; (with_reducible refine (cotterref06_May.calls (1004020 + 2 * rels.length) code A1 c1 data A2 c2 syms A3 c3 rels false _ q1.out.2.2 q1.out.2.1 q2.out.2.2 q2.out.2.1 q3.out.2.2 q3.out.2.1 CK.out).mono ?_); rintro e w2 ⟨rfl, hb⟩; have HH2 := Aside0.mk (HH.out.next hb); clear hb; have cr0 : w2.cell? ⟨w.heap.size, 0, none⟩ = some (.string ⟨#[]⟩) := (blk_cell HH2.out.more 0).trans rfl; have fcr0 := blk_frozen HH2.out.more 0; have cr1 : w2.cell? ⟨w.heap.size, 1, none⟩ = some (.slice none 0 0) := (blk_cell HH2.out.more 1).trans rfl; have fcr1 := blk_frozen HH2.out.more 1; have cr2 : w2.cell? ⟨w.heap.size, 2, none⟩ = some (.slice none 0 0) := (blk_cell HH2.out.more 2).trans rfl; have fcr2 := blk_frozen HH2.out.more 2; have cr3 : w2.cell? ⟨w.heap.size, 3, none⟩ = some (.slice none 0 0) := (blk_cell HH2.out.more 3).trans rfl; have fcr3 := blk_frozen HH2.out.more 3; have cp0 : w2.cell? ⟨w.heap.size + 1 + 1, 0, none⟩ = some (.string code) := (blk_cell HH2.out.obj 0).trans rfl; have fcp0 := blk_frozen HH2.out.obj 0; have cp1 : w2.cell? ⟨w.heap.size + 1 + 1, 1, none⟩ = some (.slice A1 data.length c1) := (blk_cell HH2.out.obj 1).trans rfl; have fcp1 := blk_frozen HH2.out.obj 1; have cp2 : w2.cell? ⟨w.heap.size + 1 + 1, 2, none⟩ = some (.slice A2 syms.length c2) := (blk_cell HH2.out.obj 2).trans rfl; have fcp2 := blk_frozen HH2.out.obj 2; have cp3 : w2.cell? ⟨w.heap.size + 1 + 1, 3, none⟩ = some (.slice A3 rels.length c3) := (blk_cell HH2.out.obj 3).trans rfl; have fcp3 := blk_frozen HH2.out.obj 3))
            refine bodyPost_ret (results_ct rfl _ _ w.heap.size 26 #[.string ⟨#[]⟩, .slice none 0 0, .slice none 0 0, .slice none 0 0] (0, 0) _ rfl ((((HH2.out.putX 0 (.string ⟨#[]⟩) rfl).putX 1 (.slice none 0 0) rfl).putX 2 (.slice none 0 0) rfl).putX 3 (.slice none 0 0) rfl).more Try.underlying26 rfl (by kernel_rfl)) rfl ?_
            exact ⟨.slice none 0 0, .slice none 0 0, .slice none 0 0, by rw [RN.out]; rfl, by rw [RN.out]; exact Kd.R_nil _ _ _ _ _, by rw [RN.out]; exact Kd.R_nil _ _ _ _ _, by rw [RN.out]; exact Kd.R_nil _ _ _ _ _, ((((HH2.out.putX 0 (.string ⟨#[]⟩) rfl).putX 1 (.slice none 0 0) rfl).putX 2 (.slice none 0 0) rfl).putX 3 (.slice none 0 0) rfl).below⟩
          case true =>
            have RN := Aside0.mk (show readF s = (code, data, syms, rels, 0) by unfold readF; rw [RF.out, hfull, Option.bind_some, if_pos ⟨rfl, hmay⟩])
            rw [hmay] at CK
            go_wp2_with (first | (go_at_call 22; (with_reducible refine (cotterref06_May.calls (1004020 + 2 * rels.length) code A1 c1 data A2 c2 syms A3 c3 rels true _ q1.out.2.2 q1.out.2.1 q2.out.2.2 q2.out.2.1 q3.out.2.2 q3.out.2.1 CK.out).mono ?_); rintro e w2 ⟨rfl, hb⟩; have HH2 := Aside0.mk (HH.out.next hb); clear hb; have cr0 : w2.cell? ⟨w.heap.size, 0, none⟩ = some (.string ⟨#[]⟩) := (blk_cell HH2.out.more 0).trans rfl; have fcr0 := blk_frozen HH2.out.more 0; have cr1 : w2.cell? ⟨w.heap.size, 1, none⟩ = some (.slice none 0 0) := (blk_cell HH2.out.more 1).trans rfl; have fcr1 := blk_frozen HH2.out.more 1; have cr2 : w2.cell? ⟨w.heap.size, 2, none⟩ = some (.slice none 0 0) := (blk_cell HH2.out.more 2).trans rfl; have fcr2 := blk_frozen HH2.out.more 2; have cr3 : w2.cell? ⟨w.heap.size, 3, none⟩ = some (.slice none 0 0) := (blk_cell HH2.out.more 3).trans rfl; have fcr3 := blk_frozen HH2.out.more 3; have cp0 : w2.cell? ⟨w.heap.size + 1 + 1, 0, none⟩ = some (.string code) := (blk_cell HH2.out.obj 0).trans rfl; have fcp0 := blk_frozen HH2.out.obj 0; have cp1 : w2.cell? ⟨w.heap.size + 1 + 1, 1, none⟩ = some (.slice A1 data.length c1) := (blk_cell HH2.out.obj 1).trans rfl; have fcp1 := blk_frozen HH2.out.obj 1; have cp2 : w2.cell? ⟨w.heap.size + 1 + 1, 2, none⟩ = some (.slice A2 syms.length c2) := (blk_cell HH2.out.obj 2).trans rfl; have fcp2 := blk_frozen HH2.out.obj 2; have cp3 : w2.cell? ⟨w.heap.size + 1 + 1, 3, none⟩ = some (.slice A3 rels.length c3) := (blk_cell HH2.out.obj 3).trans rfl; have fcp3 := blk_frozen HH2.out.obj 3))
            refine bodyPost_ret (results_ct rfl _ _ w.heap.size 26 #[.string code, .slice A1 data.length c1, .slice A2 syms.length c2, .slice A3 rels.length c3] (0, 0) _ rfl ((((HH2.out.putX 0 (.string code) rfl).putX 1 (.slice A1 data.length c1) rfl).putX 2 (.slice A2 syms.length c2) rfl).putX 3 (.slice A3 rels.length c3) rfl).more Try.underlying26 rfl (by kernel_rfl)) rfl ?_
            exact ⟨.slice A1 data.length c1, .slice A2 syms.length c2, .slice A3 rels.length c3, by rw [RN.out]; rfl, by rw [RN.out]; exact R_all ((((HH2.out.putX 0 (.string code) rfl).putX 1 (.slice A1 data.length c1) rfl).putX 2 (.slice A2 syms.length c2) rfl).putX 3 (.slice A3 rels.length c3) rfl).r1, by rw [RN.out]; exact R_all ((((HH2.out.putX 0 (.string code) rfl).putX 1 (.slice A1 data.length c1) rfl).putX 2 (.slice A2 syms.length c2) rfl).putX 3 (.slice A3 rels.length c3) rfl).r2, by rw [RN.out]; exact R_all ((((HH2.out.putX 0 (.string code) rfl).putX 1 (.slice A1 data.length c1) rfl).putX 2 (.slice A2 syms.length c2) rfl).putX 3 (.slice A3 rels.length c3) rfl).r3, ((((HH2.out.putX 0 (.string code) rfl).putX 1 (.slice A1 data.length c1) rfl).putX 2 (.slice A2 syms.length c2) rfl).putX 3 (.slice A3 rels.length c3) rfl).below⟩
end Go.Proofs.Ytilmndkbloodbaa.M

/-
  Layer 6: the document's Write (cotterref06.Write): the walk; it answers what the program's Write answers. Condition: the words of data are of 64 bits.
-/
namespace Go.Proofs.Ytilmndkbloodbaa.M
open Go.RowKit Go.Proofs.YtilmndkbloodbaaW.PrintWords Go.Proofs.YtilmndkbloodbaaW.PrintLast Go.Proofs.Ytilmndkbloodbaa.Num Go.Proofs.Ytilmndkbloodbaa.Seven Go.Proofs.Ytilmndkbloodbaa.Word1 Go.Proofs.Ytilmndkbloodbaa.Obj
set_option linter.unusedVariables false
set_option linter.unusedSimpArgs false
/-- What is no row of bytes is as it was. -/
def KeepT (w w' : World) : Prop := w.heap.size ≤ w'.heap.size ∧ ∀ (i : Nat) (cs : Array Value) (t : TypeId) (fr : Nat × Nat), w.heap[i]? = some (.cells cs t fr) → t ≠ 5 → w'.heap[i]? = some (.cells cs t fr)
theorem KeepT.refl (w : World) : KeepT w w := ⟨Nat.le_refl _, fun _ _ _ _ h _ => h⟩
theorem KeepT.trans {w w1 w2 : World} (h : KeepT w w1) (k : KeepT w1 w2) : KeepT w w2 := ⟨Nat.le_trans h.1 k.1, fun i cs t fr hi ht => k.2 i cs t fr (h.2 i cs t fr hi ht) ht⟩
theorem KeepT.of_below {w w1 : World} (h : Below w.heap.size w w1) : KeepT w w1 := ⟨h.size, fun i cs t fr hi _ => blk_below hi h⟩
theorem KeepT.of_grown {w w1 : World} {base : Nat} {v : Value} {xs : List Int} (ho : OwnB w base 5 v xs) (h : w.grownBy w1 v.ownBlock) : KeepT w w1 := by
  refine ⟨h.size, fun i cs t fr hi ht => blk_grown hi h ?_⟩
  intro e
  obtain ⟨_, cells, fr', hc⟩ := ho.typed i e.symm
  rw [hi] at hc
  injection hc with hc
  injection hc with _ hc
  exact ht hc
theorem KeepT.alloc {w w1 : World} (h : KeepT w w1) (o : Obj) : KeepT w (w1.alloc o) := h.trans (KeepT.of_below (below_alloc (Below.refl _ _) o))
theorem cot_bs : Bs COT1 := Bs.cons (by omega) (by omega) (Bs.cons (by omega) (by omega) (Bs.cons (by omega) (by omega) (Bs.cons (by omega) (by omega) Bs.nil)))
theorem KeepT.drew {w w1 : World} (h : KeepT w w1) : KeepT w w1.drew := h
theorem KeepT.drewN {w w1 : World} (h : KeepT w w1) (n : Nat) : KeepT w (w1.drewN n) := h
end Go.Proofs.Ytilmndkbloodbaa.M

