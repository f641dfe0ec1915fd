/-
  Texts of the proofs of LinkLinks, cut to what the proofs reach and packed by a program of this session (wip/packs.py). Each part begins with what it says; conditions: those told there.
-/
import Derived.Laws.Strings
import Derived.Test.YteaealmnmmcbpaaPJA9
/-
  Layer 6, plain: whether an object may be, as the document tells it (cotterref06.Syms, May), said by the program's own plain function. Conditions: lengths below 2^63.
-/
namespace Go.Proofs.Yteaealmnmmcbpaa.Obj
open Go.RowKit Go.Proofs.Yteaealmnmmcbpaa.M Go.Proofs.Yteaealmnmmcbpaa.Num Go.Proofs.YteaealmnmmcbpaaW.PrintWords Go.Proofs.YteaealmnmmcbpaaW.PrintLast
theorem named_f (s : ByteArray) : cotterref06_named.f s = some (decide (named s)) := by
  unfold cotterref06_named.f
  by_cases h : (s.size : Int) ≥ 1
  · rw [if_pos h]
    congr 1
    exact decide_eq_decide.mpr ⟨fun h' => ⟨by omega, by omega⟩, fun h' => by have := h'.2; omega⟩
  · rw [if_neg h]
    congr 1
    exact (decide_eq_false (fun h' : named s => h (by have := h'.1; omega))).symm
theorem rd_SS (l : List S36) (i : Nat) (h : i < l.length) : rd_T36 l (i : Int) = l[i] := by
  simp [rd_T36, List.getD_eq_getElem?_getD, List.getElem?_eq_getElem h]
theorem distinct_le (xs : List (List UInt8)) : M.distinct xs ≤ xs.length := by
  induction xs with
  | nil => exact Nat.le_refl _
  | cons s r ih =>
    rw [distinct_cons, List.length_cons]
    split <;> omega
theorem symNames_len (l : List S36) : (symNames l).length = l.length := by simp [symNames]
theorem symNames_mem (l : List S36) (n : List UInt8) : n ∈ symNames l ↔ ∃ s ∈ l, s.f0.data.toList = n := by simp [symNames]
set_option linter.unusedSimpArgs false
set_option linter.unusedVariables false
/-- Is a name among the first ones? -/
def seen (l : List S36) (i : Nat) (n : List UInt8) : Prop := ∃ (j : Nat) (_ : j < i) (h : j < l.length), l[j].f0.data.toList = n
theorem seen_mem (l : List S36) (i : Nat) (n : List UInt8) : seen l i n ↔ n ∈ symNames (l.take i) := by
  rw [symNames_mem]
  constructor
  · rintro ⟨j, hj, h, e⟩
    exact ⟨l[j], by rw [List.mem_take_iff_getElem]; exact ⟨j, by omega, rfl⟩, e⟩
  · rintro ⟨s, hs, e⟩
    rw [List.mem_take_iff_getElem] at hs
    obtain ⟨j, hj, rfl⟩ := hs
    exact ⟨j, by omega, by omega, e⟩
theorem distinct_take (l : List S36) : ∀ n, n ≤ l.length → (M.distinct (symNames (l.take n)) = n ↔ ∀ (j : Nat) (h : j < l.length), j < n → ¬ seen l j l[j].f0.data.toList) := by
  intro n
  induction n with
  | zero => intro _; simp [symNames, M.distinct]
  | succ n ih =>
    intro hn
    have hlt : n < l.length := by omega
    have e : symNames (l.take (n + 1)) = l[n].f0.data.toList :: symNames (l.take n) := by
      rw [symNames_snoc l n hlt]
      simp [List.getD_eq_getElem?_getD, List.getElem?_eq_getElem hlt]
    have hle := distinct_le (symNames (l.take n))
    rw [symNames_len, List.length_take] at hle
    rw [e, distinct_cons]
    have ih := ih (by omega)
    constructor
    · intro h j hj hjn
      by_cases hm : l[n].f0.data.toList ∈ symNames (l.take n)
      · rw [if_pos hm] at h; omega
      · rw [if_neg hm] at h
        by_cases hjj : j = n
        · subst hjj
          rwa [seen_mem]
        · exact ih.1 (by omega) j hj (by omega)
    · intro h
      have h1 : M.distinct (symNames (l.take n)) = n := ih.2 (fun j hj hjn => h j hj (by omega))
      have h2 := h n hlt (by omega)
      rw [seen_mem] at h2
      rw [if_neg h2, h1]
open Classical in
theorem syms_l1 (l : List S36) (a b : Int) (hm : l.length ≤ 9223372036854775807) (i : Nat) (hi : i < l.length) (n : ByteArray) (x y : Int) : ∀ (e m k : Nat), i - m = e → m ≤ i → e < k →
    cotterref06_Syms.l1 k l a b (i : Int) (m : Int) n x y = if (∃ (j : Nat) (_ : m ≤ j) (_ : j < i) (h : j < l.length), l[j].f0.data.toList = n.data.toList) then some false else cotterref06_Syms.l0 (k - e - 1) l a b ((i + 1 : Nat) : Int) := by
  intro e
  induction e with
  | zero =>
    intro m k he hmi hk
    obtain ⟨k, rfl⟩ : ∃ q, k = q + 1 := ⟨k - 1, by omega⟩
    obtain rfl : m = i := by omega
    simp only [cotterref06_Syms.l1]
    rw [if_neg (by omega), if_neg (by rintro ⟨j, h1, h2, _⟩; omega)]
    have hw : wrap64 ((m : Int) + 1) = ((m + 1 : Nat) : Int) := by unfold wrap64; omega
    rw [hw]
    simp
  | succ e ih =>
    intro m k he hmi hk
    obtain ⟨k, rfl⟩ : ∃ q, k = q + 1 := ⟨k - 1, by omega⟩
    have hlt : m < l.length := by omega
    have hw : wrap64 ((m : Int) + 1) = ((m + 1 : Nat) : Int) := by unfold wrap64; omega
    simp only [cotterref06_Syms.l1]
    rw [if_pos (by omega), if_pos (by omega), if_pos (by omega), rd_SS l m hlt, ByteArray.toList_eq, ByteArray.toList_eq]
    by_cases hc : l[m].f0.data.toList = n.data.toList
    · rw [if_pos hc, if_pos ⟨m, Nat.le_refl _, by omega, hlt, hc⟩]
    · rw [if_neg hc, hw, ih (m + 1) k (by omega) (by omega) (by omega)]
      have e1 : (∃ (j : Nat) (_ : m + 1 ≤ j) (_ : j < i) (h : j < l.length), l[j].f0.data.toList = n.data.toList) ↔ (∃ (j : Nat) (_ : m ≤ j) (_ : j < i) (h : j < l.length), l[j].f0.data.toList = n.data.toList) := by
        constructor
        · rintro ⟨j, h1, h2, h3, h4⟩
          exact ⟨j, by omega, h2, h3, h4⟩
        · rintro ⟨j, h1, h2, h3, h4⟩
          by_cases hjm : j = m
          · subst hjm; exact absurd h4 hc
          · exact ⟨j, by omega, h2, h3, h4⟩
      simp only [e1]
      rw [show k + 1 - (e + 1) - 1 = k - e - 1 by omega]
/-- What is left of the document's test from the i-th symbol on. -/
def Rest (l : List S36) (a b : Int) (i : Nat) : Prop := ∀ (j : Nat) (h : j < l.length), i ≤ j → symGood a b l[j] = true ∧ ¬ seen l j l[j].f0.data.toList
theorem syms_l0 (l : List S36) (a b : Int) (hm : l.length ≤ 9223372036854775807) : ∀ (d k i : Nat), l.length - i = d → i ≤ l.length → d * (l.length + 4) < k → ∃ r, cotterref06_Syms.l0 k l a b (i : Int) = some r ∧ (r = true ↔ Rest l a b i) := by
  intro d
  induction d with
  | zero =>
    intro k i hd hi hk
    obtain ⟨k, rfl⟩ : ∃ q, k = q + 1 := ⟨k - 1, by omega⟩
    refine ⟨true, ?_, ?_⟩
    · simp only [cotterref06_Syms.l0]
      rw [if_neg (by omega)]
    · simp only [true_iff]
      intro j hj hij
      omega
  | succ d ih =>
    intro k i hd hi hk
    rw [Nat.succ_mul] at hk
    obtain ⟨k, rfl⟩ : ∃ q, k = q + 2 := ⟨k - 2, by omega⟩
    have hlt : i < l.length := by omega
    have bad : symGood a b l[i] = false → (false = true ↔ Rest l a b i) := fun h => by
      constructor
      · intro h'; cases h'
      · intro h'
        have := (h' i hlt (Nat.le_refl _)).1
        rw [h] at this
        cases this
    have good : symGood a b l[i] = true → ∃ r, cotterref06_Syms.l1 k l a b (i : Int) 0 l[i].f0 l[i].f1 l[i].f2 = some r ∧ (r = true ↔ Rest l a b i) := fun h => by
      have := syms_l1 l a b hm i hlt l[i].f0 l[i].f1 l[i].f2 i 0 k (by omega) (by omega) (by omega)
      rw [Int.natCast_zero] at this
      rw [this]
      by_cases hc : ∃ (j : Nat) (_ : 0 ≤ j) (_ : j < i) (h : j < l.length), l[j].f0.data.toList = l[i].f0.data.toList
      · rw [if_pos hc]
        refine ⟨false, rfl, ?_⟩
        constructor
        · intro h'; cases h'
        · intro h'
          obtain ⟨j, _, h2, h3, h4⟩ := hc
          exact absurd ⟨j, h2, h3, h4⟩ (h' i hlt (Nat.le_refl _)).2
      · rw [if_neg hc]
        obtain ⟨r, hr, hrr⟩ := ih (k - i - 1) (i + 1) (by omega) (by omega) (by omega)
        refine ⟨r, hr, hrr.trans ?_⟩
        constructor
        · intro h' j hj hij
          by_cases hji : j = i
          · subst hji
            exact ⟨h, fun ⟨q, h2, h3, h4⟩ => hc ⟨q, Nat.zero_le _, h2, h3, h4⟩⟩
          · exact h' j hj (by omega)
        · intro h' j hj hij
          exact h' j hj (by omega)
    simp only [cotterref06_Syms.l0]
    rw [if_pos (by omega), if_pos (by omega), rd_SS l i hlt]
    generalize l[i] = s at bad good
    obtain ⟨f0, f1, f2⟩ := s
    simp only [named_f, Option.bind_some]
    dsimp only at good bad
    have jt : ∀ n x y, cotterref06_Syms.j1 (k + 1) l a b (i : Int) true n x y = some false := fun n x y => by simp [cotterref06_Syms.j1]
    have jf : ∀ n x y, cotterref06_Syms.j1 (k + 1) l a b (i : Int) false n x y = cotterref06_Syms.l1 k l a b (i : Int) 0 n x y := fun n x y => by simp [cotterref06_Syms.j1]
    have hg : symGood a b ⟨f0, f1, f2⟩ = (decide (f1 = 1 ∨ f1 = 2 ∨ f1 = 3) && decide (named f0) && decide (0 ≤ f2) && decide (f2 < (if f1 = 2 then b else a))) := rfl
    by_cases hn : named f0
    · rw [if_pos (by simpa using hn)]
      by_cases c1 : f1 < 1
      · rw [if_pos c1, jt]; exact ⟨_, rfl, bad (by rw [hg]; simp [show ¬ (f1 = 1 ∨ f1 = 2 ∨ f1 = 3) by omega])⟩
      rw [if_neg c1]
      by_cases c2 : f1 > 3
      · rw [if_pos c2, jt]; exact ⟨_, rfl, bad (by rw [hg]; simp [show ¬ (f1 = 1 ∨ f1 = 2 ∨ f1 = 3) by omega])⟩
      rw [if_neg c2]
      by_cases c3 : f2 < 0
      · rw [if_pos c3, jt]; exact ⟨_, rfl, bad (by rw [hg]; simp [show ¬ (0 ≤ f2) by omega])⟩
      rw [if_neg c3]
      have k0 : (f1 = 1 ∨ f1 = 2 ∨ f1 = 3) := by omega
      have k1 : 0 ≤ f2 := by omega
      by_cases c4 : f1 = 2
      · rw [if_pos c4]
        by_cases c5 : f2 ≥ b
        · rw [if_pos c5, jt]; exact ⟨_, rfl, bad (by rw [hg]; subst c4; simp [show ¬ (f2 < b) by omega])⟩
        · rw [if_neg c5, jf]; exact good (by rw [hg]; subst c4; simp [hn, k1, show f2 < b by omega])
      · rw [if_neg c4]
        by_cases c5 : f2 ≥ a
        · rw [decide_eq_true c5, jt]; exact ⟨_, rfl, bad (by rw [hg]; simp [c4, show ¬ (f2 < a) by omega])⟩
        · rw [decide_eq_false c5, jf]; exact good (by rw [hg]; simp [hn, k1, c4, show f2 < a by omega]; omega)
    · rw [if_neg (by simpa using hn), jt]
      exact ⟨_, rfl, bad (by rw [hg]; simp [hn])⟩
theorem syms_f (l : List S36) (a b : Nat) (k : Nat) (hk : 1000 * 1004 < k) : cotterref06_Syms.f k l (a : Int) (b : Int) = some (symsOk a b l) := by
  unfold cotterref06_Syms.f
  by_cases c : (l.length : Int) > 1000
  · rw [if_pos c]
    unfold symsOk
    simp [show ¬ l.length ≤ 1000 by omega]
  · rw [if_neg c]
    have hle : l.length * (l.length + 4) ≤ 1000 * 1004 := Nat.mul_le_mul (by omega) (by omega)
    obtain ⟨r, hr, hrr⟩ := syms_l0 l (a : Int) (b : Int) (by omega) l.length k 0 (by omega) (by omega) (by omega)
    rw [Int.natCast_zero] at hr
    rw [hr]
    congr 1
    rw [Bool.eq_iff_iff, hrr]
    unfold symsOk
    simp only [Bool.and_eq_true, decide_eq_true_eq, List.all_eq_true]
    have hd := distinct_take l l.length (Nat.le_refl _)
    rw [List.take_length] at hd
    rw [hd]
    constructor
    · intro h
      refine ⟨⟨fun s hs => ?_, fun j hj _ => (h j hj (Nat.zero_le _)).2⟩, by omega⟩
      obtain ⟨j, hj, rfl⟩ := List.mem_iff_getElem.1 hs
      exact (h j hj (Nat.zero_le _)).1
    · rintro ⟨⟨h1, h2⟩, _⟩ j hj _
      exact ⟨h1 _ (List.getElem_mem hj), h2 j hj hj⟩
theorem rmay_l0 (code : ByteArray) (data : List Int) (syms : List S36) (l : List S45) (h1 : code.size ≤ 65536) (hm : l.length ≤ 9223372036854775807) : ∀ (d k i : Nat) (free : Int), l.length - i = d → i ≤ l.length → 0 ≤ free → 2 * d + 1 < k →
    cotterref06_May.l0 k free (i : Int) code data syms l = some (relsOk code.size free (l.drop i)) := by
  intro d
  induction d with
  | zero =>
    intro k i free hd hi hf hk
    obtain ⟨k, rfl⟩ : ∃ m, k = m + 1 := ⟨k - 1, by omega⟩
    obtain rfl : i = l.length := by omega
    simp only [cotterref06_May.l0]
    rw [if_neg (by omega), List.drop_length]
    rfl
  | succ d ih =>
    intro k i free hd hi hf hk
    obtain ⟨k, rfl⟩ : ∃ m, k = m + 2 := ⟨k - 2, by omega⟩
    have hlt : i < l.length := by omega
    have hs := ih k (i + 1)
    have hw : wrap64 ((i : Int) + 1) = ((i + 1 : Nat) : Int) := by unfold wrap64; omega
    have hw4 : wrap64 ((code.size : Int) - 4) = (code.size : Int) - 4 := by unfold wrap64; omega
    simp only [cotterref06_May.l0]
    rw [if_pos (by omega), if_pos (by omega), rd_SR l i hlt, List.drop_eq_getElem_cons hlt]
    generalize l[i] = r
    obtain ⟨f0, f1, f2, f3⟩ := r
    simp only [named_f, Option.bind_some, relsOk, relGood]
    by_cases hn : named f2
    · simp only [hn, decide_true, if_true, hw4, true_and]
      by_cases c1 : f0 < free
      · rw [if_pos c1]
        simp only [cotterref06_May.j2, if_true]
        simp [show ¬ free ≤ f0 by omega]
      · rw [if_neg c1]
        by_cases c2 : f0 > (code.size : Int) - 4
        · simp only [cotterref06_May.j2, c2, decide_true, if_true]
          simp [show ¬ f0 ≤ (code.size : Int) - 4 by omega]
        · have hw0 : wrap64 (f0 + 4) = f0 + 4 := by unfold wrap64; omega
          have hs' := hs (f0 + 4) (by omega) (by omega) (by omega) (by omega)
          simp only [cotterref06_May.j2, c2, decide_false, hw, hw0, hs']
          simp only [show free ≤ f0 by omega, show f0 ≤ (code.size : Int) - 4 by omega, true_and]
          by_cases k1 : f1 = 1
          · subst k1
            by_cases a0 : f3 = 0
            · simp [a0]
            · simp [a0]
          · by_cases k2 : f1 = 2
            · subst k2
              by_cases a1 : f3 ≥ -2147483648
              · by_cases a2 : f3 ≤ 2147483647
                · simp [a1, a2, show (-2147483648 ≤ f3) by omega]
                · simp [a1, a2]
              · simp [a1, show ¬ (-2147483648 ≤ f3) by omega]
            · simp [k1, k2]
    · simp only [hn, decide_false, cotterref06_May.j2, if_true]
      simp
theorem rmay_f (code : ByteArray) (data : List Int) (syms : List S36) (rels : List S45) (k : Nat) (hk : 1004010 < k) (hk2 : 2 * rels.length + 2 < k) (hm : rels.length ≤ 9223372036854775807) :
    cotterref06_May.f k code data syms rels = some (may code data syms rels) := by
  obtain ⟨k, rfl⟩ : ∃ m, k = m + 1 := ⟨k - 1, by omega⟩
  have jt : ∀ a b c d, cotterref06_May.j0 (k + 1) true a b c d = some false := fun a b c d => by simp [cotterref06_May.j0]
  unfold cotterref06_May.f may
  by_cases c1 : (code.size : Int) > 65536
  · rw [if_pos c1, jt]
    simp [show ¬ code.size ≤ 65536 by omega]
  rw [if_neg c1]
  by_cases c2 : (data.length : Int) > 4096
  · rw [if_pos c2, jt]
    simp [show ¬ data.length ≤ 4096 by omega]
  rw [if_neg c2, syms_f syms code.size data.length (k + 1) (by omega)]
  simp only [Option.bind_some, show code.size ≤ 65536 by omega, show data.length ≤ 4096 by omega, decide_true, Bool.true_and]
  by_cases c3 : symsOk code.size data.length syms = true
  · rw [if_pos c3, c3]
    simp only [Bool.true_and]
    by_cases c4 : (rels.length : Int) > 8000
    · rw [decide_eq_true c4, jt]
      simp [show ¬ rels.length ≤ 8000 by omega]
    · rw [decide_eq_false c4]
      simp only [cotterref06_May.j0]
      have := rmay_l0 code data syms rels (by omega) hm rels.length k 0 0 (by omega) (by omega) (by omega) (by omega)
      rw [Int.natCast_zero] at this
      rw [if_neg (by decide), this]
      simp [show rels.length ≤ 8000 by omega]
  · rw [if_neg c3, jt]
    simp [Bool.eq_false_iff.mpr c3]
end Go.Proofs.Yteaealmnmmcbpaa.Obj

/-
  Layer 7: the document's Link answers as the program's plain link: the walk. Condition: the objects' lengths are some machine's.
-/
namespace Go.Proofs.Yteaealmnmmcbpaa.M
open Go.RowKit Go.Proofs.YteaealmnmmcbpaaW.PrintWords Go.Proofs.YteaealmnmmcbpaaW.PrintLast Go.Proofs.Yteaealmnmmcbpaa.Num Go.Proofs.Yteaealmnmmcbpaa.Seven Go.Proofs.Yteaealmnmmcbpaa.Obj Go.Proofs.Yteaealmnmmcbpaa.Word1
set_option linter.unusedVariables false
set_option linter.unusedSimpArgs false
theorem rbad0 {w V : World} (hb : V.heap[w.heap.size]? = some (.cells #[.string ⟨#[]⟩, .slice none 0 0, .slice none 0 0] 29 (0, 0))) (hB : Below w.heap.size w V) (e : Int) (a : Act) (ha2 : a.tmps.getD 2 undef = .pointer (some ⟨w.heap.size, 0, none⟩)) (ha3 : a.tmps.getD 3 undef = .int .i64 e) (hd : a.defers = []) :
    bodyPost Try.prog Try.f13 (fun x w' => LinkPost w w' x (linkE e)) .ret a V := by
  refine bodyPost_ret (results_ct rfl _ _ w.heap.size 29 #[.string ⟨#[]⟩, .slice none 0 0, .slice none 0 0] (0, 0) _ ha2 hb Try.underlying29 rfl (by kernel_rfl)) hd ?_
  rw [ha3]
  exact LinkPost.bad e hB
theorem rbad {w V : World} (hb : V.heap[w.heap.size]? = some (.cells #[.string ⟨#[]⟩, .slice none 0 0, .slice none 0 0] 29 (0, 0))) (hB : Below w.heap.size w V) (e : Int) (a : Act) (ha2 : a.tmps.getD 2 undef = .pointer (some ⟨w.heap.size, 0, none⟩)) (ha3 : a.tmps.getD 3 undef = .int .i64 e) (hd : a.defers = []) :
    bodyPost Try.prog Try.f13 (fun x w' => LinkPost w w' x (linkE e)) .ret a (((V.setCell ⟨w.heap.size, 0, none⟩ (.string ⟨#[]⟩)).setCell ⟨w.heap.size, 1, none⟩ (.slice none 0 0)).setCell ⟨w.heap.size, 2, none⟩ (.slice none 0 0)) :=
  rbad0 (blk_put (blk_put (blk_put hb 0 _ rfl) 1 _ rfl) 2 _ rfl) (((hB.setCell (Nat.le_refl _) _).setCell (Nat.le_refl _) _).setCell (Nat.le_refl _) _) e a ha2 ha3 hd
theorem may_c {w : World} {o : S40} {A1 A2 A3 : Option Addr} {c1 c2 c3 : Nat} (h1 : Kd.C (Kd.int .i64) w A1 o.f1.length o.f1) (l1 : o.f1.length ≤ c1) (h2 : Kd.C k36 w A2 o.f2.length o.f2) (l2 : o.f2.length ≤ c2) (h3 : Kd.C k45 w A3 o.f3.length o.f3) (l3 : o.f3.length ≤ c3) :
    Calls Try.prog 26 #[.agg #[.string o.f0, .slice A1 o.f1.length c1, .slice A2 o.f2.length c2, .slice A3 o.f3.length c3]] w fun e w' => e = .returned (.bool (mayO o)) ∧ Below w.heap.size w w' :=
  cotterref06_May.calls (1004011 + (2 * o.f3.length + 3)) o.f0 A1 c1 o.f1 A2 c2 o.f2 A3 c3 o.f3 _ w h1 l1 h2 l2 h3 l3 (rmay_f _ _ _ _ _ (by omega) (by omega) h3.2.1)
theorem bytesr_yes {n : Int} (h0 : -2147483648 ≤ n) (h1 : n ≤ 2147483647) (W : World) : Calls Try.prog 31 #[.int .i64 n, .int .i64 4] W fun e w' => e = .returned (.tuple #[.string (strOfNums (leL n 4)), .int .i64 0]) ∧ Below W.heap.size W w' := by
  have hf := rbytes_f n 4 (by omega) (by omega) 11 (by omega)
  have e : bytesR n 4 = (strOfNums (leL n 4), 0) := by
    unfold bytesR
    rw [if_pos (by omega), if_pos (by unfold Fits; omega)]
    rfl
  rw [e] at hf
  exact cotterref01_Bytes.calls 11 n 4 _ _ W hf
theorem bytesr_no {n : Int} (h0 : 2147483647 < n) (h1 : n < 9223372036854775808) (W : World) : Calls Try.prog 31 #[.int .i64 n, .int .i64 4] W fun e w' => e = .returned (.tuple #[.string ⟨#[]⟩, .int .i64 7]) ∧ Below W.heap.size W w' := by
  have hf := rbytes_f n 4 (by omega) (by omega) 11 (by omega)
  have e : bytesR n 4 = (⟨#[]⟩, 7) := by
    unfold bytesR
    rw [if_pos (by omega), if_neg (by unfold Fits; omega)]
  rw [e] at hf
  exact cotterref01_Bytes.calls 11 n 4 _ _ W hf
theorem thr_c {k : Nat} {W : World} {A1 : Option Addr} {c1 : Nat} {SS : List S36} {n : Int} (h1 : Kd.C k36 W A1 SS.length SS) (h2 : SS.length ≤ c1) (hk : cotterref07_threads.f k SS = some n) :
    Calls Try.prog 29 #[.slice A1 SS.length c1] W fun e w' => e = .returned (.int .i64 n) ∧ Below W.heap.size W w' := by
  refine (cotterref07_threads.calls k A1 c1 SS n W h1 h2 hk).mono ?_
  rintro e w' ⟨h, ⟨m, rfl⟩⟩
  exact ⟨h, pw_below_drewN (Below.refl _ _) m⟩
theorem raw_length : ∀ (os : List S40) (nc nd : Nat), (∀ o ∈ os, mayO o = true) → (rawS nc nd os).length ≤ os.length * 1000
  | [], _, _, _ => Nat.le_refl _
  | o :: os, nc, nd, h => by
    have := raw_length os (nc + o.f0.size) (nd + o.f1.length) fun o ho => h o (by simp [ho])
    have hp := may_parts (h o (by simp))
    rw [rawS, List.length_append, List.length_map, List.length_cons]
    omega

def fin (D : List Int) (SS : List S36) : Option (List Int) → (ByteArray × List Int × List S36) × Int
  | none => linkE 7
  | some c => ((strOfNums c, D, SS), 0)
theorem findr_c {W : World} {A1 : Option Addr} {c1 : Nat} {SS : List S36} {t : ByteArray} {s : S36} (h1 : Kd.C k36 W A1 SS.length SS) (h2 : SS.length ≤ c1) (hl : SS.length < 9223372036854775807) (hs : (SS.find? fun s => decide (s.f0 = t)) = some s) :
    Calls Try.prog 30 #[.slice A1 SS.length c1, .string t] W fun e w' => e = .returned (.tuple #[.agg #[.string s.f0, .int .i64 s.f1, .int .i64 s.f2], .bool true]) ∧ Below W.heap.size W w' := by
  obtain ⟨k, hk⟩ := (find_ev SS t hl).get
  have e : findR SS t = (s.f0, s.f1, s.f2, true) := by unfold findR; rw [hs]
  rw [e] at hk
  exact cotterref07_find.calls k A1 c1 SS t _ _ _ _ W h1 h2 hk
theorem raw_small : ∀ (os : List S40) (nc nd : Nat), (∀ o ∈ os, mayO o = true) → nc + codeLen os ≤ 1048576 → nd + (dataAll os).length ≤ 1048576 → ∀ s ∈ rawS nc nd os, 0 ≤ s.f2 ∧ s.f2 ≤ 1048576
  | [], _, _, _, _, _, s, hs => by cases hs
  | o :: os, nc, nd, h, h1, h2, s, hs => by
    rw [codeLen] at h1
    rw [show dataAll (o :: os) = o.f1 ++ dataAll os from rfl, List.length_append] at h2
    rw [rawS] at hs
    rcases List.mem_append.1 hs with hs | hs
    · obtain ⟨t, ht, rfl⟩ := List.mem_map.1 hs
      have hm := h o (by simp)
      unfold mayO may symsOk at hm
      simp only [Bool.and_eq_true, decide_eq_true_eq] at hm
      have := symGood_named (List.all_eq_true.1 hm.1.1.2.1.1 t ht)
      unfold layAt
      dsimp only
      have h3 := this.2.2.1
      split at h3
      · rename_i e; rw [if_pos e]; omega
      · rename_i e; rw [if_neg e]; omega
    · exact raw_small os _ _ (fun o ho => h o (by simp [ho])) (by omega) (by omega) s hs

set_option maxHeartbeats 16000000 in
set_option maxRecDepth 100000 in
theorem ref_c {w : World} {A0 : Option Addr} {c0 : Nat} {l0 : List S40} (hr : Kd.C k40 w A0 l0.length l0) (hc : l0.length ≤ c0) :
    Calls Try.prog 13 #[.slice A0 l0.length c0] w fun e w' => LinkPost w w' e (linkF l0) := by
  have HR := Aside0.mk hr
  have HC := Aside0.mk hc
  have hlm := hr.2.1
  obtain ⟨res, hres⟩ : ∃ res, res = linkF l0 := ⟨_, rfl⟩
  rw [← hres]
  have HRES := Aside0.mk hres
  clear hr hres hc
  by_cases h16 : 16 < l0.length
  case pos =>
    have h16i : (16 : Int) < (l0.length : Int) := by omega
    go_enter Try.func13, Try.ntmps13
    go_wp2
    rw [HRES.out, link16 h16]
    exact rbad0 (blk_new w _) (below_alloc (Below.refl _ _) _) 1 _ rfl rfl rfl
  case neg =>
    have h16i : ¬ (16 : Int) < (l0.length : Int) := by omega
    go_enter Try.func13, Try.ntmps13
    go_wp2
    have HB0 := Aside0.mk (below_alloc (Below.refl w.heap.size w) (.cells #[.string ⟨#[]⟩, .slice none 0 0, .slice none 0 0] 29))
    have BR0 := Aside0.mk (blk_new w (.cells #[.string ⟨#[]⟩, .slice none 0 0, .slice none 0 0] 29))
    generalize w.alloc (.cells #[.string ⟨#[]⟩, .slice none 0 0, .slice none 0 0] 29) = W1 at *
    go_loopw [4] (fun v4 wr => ∃ k : Nat, k ≤ l0.length ∧ v4 = .int .i64 k ∧ Aside0 (Below W1.heap.size W1 wr) ∧ Aside0 ((l0.take k).all mayO = true)) (fun v4 _ => l0.length - (intOf v4).toNat)
    case atStart => exact ⟨0, Nat.zero_le _, rfl, ⟨Below.refl _ _⟩, ⟨rfl⟩⟩
    case round =>
      obtain ⟨k, hk, rfl, HB, HM⟩ := hrel
      by_cases hlt : k < l0.length
      case pos =>
        have HBW := Aside0.mk (below_in HB0.out HB.out)
        obtain ⟨ad, A1, c1, A2, c2, A3, c3, rfl, hx0, hx1, hx2, hx3, l1, g1, l2, g2, l3, g3⟩ := at_T40 (Kd.C_below HR.out HBW.out) (k : Int) (by omega) (by omega)
        rw [rd_SO hlt] at hx0 hx1 hx2 hx3 l1 g1 l2 g2 l3 g3
        simp only [Int.toNat_natCast] at hx0 hx1 hx2 hx3
        have MT := Aside0.mk (fun h => all_take hlt HM.out h)
        have MN := Aside0.mk (fun h => all_not (p := mayO) hlt h)
        have BRw := Aside0.mk (blk_below BR0.out HB.out)
        generalize l0[k] = o at *
        have hlk : (k : Int) < (l0.length : Int) := by omega
        have CK := Aside0.mk (may_c (w := wr) g1 l1 g2 l2 g3 l3)
        clear g1 g2 g3 l1 l2 l3 HM
        cases hmo : mayO o with
        | true =>
          rw [hmo] at CK
          have MT2 := Aside0.mk (MT.out hmo)
          go_wp2_with (first | (go_at_call 26; (with_reducible refine CK.out.mono ?_); rintro e w4 ⟨rfl, hb⟩; have HB4 := Aside0.mk (below_in HB.out hb); clear hb))
          refine ⟨⟨k + 1, by omega, by first | rfl | go_num, HB4, MT2⟩, ?_⟩
          simp [intOf]
          omega
        | false =>
          rw [hmo] at CK
          have hrn : res = linkE 1 := by rw [HRES.out]; exact link_not h16 (MN.out hmo)
          go_wp2_with (first | (go_at_call 26; (with_reducible refine CK.out.mono ?_); rintro e w4 ⟨rfl, hb⟩; have HB4 := Aside0.mk (below_in HBW.out hb); have BR4 := Aside0.mk (blk_below BRw.out hb); have kr0 : w4.cell? ⟨w.heap.size, 0, none⟩ = some (.string ⟨#[]⟩) := (blk_cell BR4.out 0).trans rfl; have kr1 : w4.cell? ⟨w.heap.size, 1, none⟩ = some (.slice none 0 0) := (blk_cell BR4.out 1).trans rfl; have kr2 : w4.cell? ⟨w.heap.size, 2, none⟩ = some (.slice none 0 0) := (blk_cell BR4.out 2).trans rfl; have fr0 := blk_frozen BR4.out 0; have fr1 := blk_frozen BR4.out 1; have fr2 := blk_frozen BR4.out 2; clear hb))
          try rw [hrn]
          exact rbad BR4.out HB4.out 1 _ rfl rfl rfl
      case neg =>
        obtain rfl : k = l0.length := by omega
        rw [List.take_length] at HM
        have HBW := Aside0.mk (below_in HB0.out HB.out)
        have BRw := Aside0.mk (blk_below BR0.out HB.out)
        have hall : ∀ o ∈ l0, mayO o = true := fun o ho => List.all_eq_true.1 HM.out o ho
        have MAY := Aside0.mk hall
        have hraw := linkF_raw (by omega) hall
        have hsl := raw_length l0 0 0 hall
        have hcl := codeLen_bound l0 hall
        obtain ⟨kL, hkL⟩ := (lay_ev (by omega) hall).get
        obtain ⟨kN, hkN⟩ := (names_ev (L := l0) (all := rawS 0 0 l0) (by omega) (by omega) (fun o ho => by have := (may_parts (hall o ho)).2.2.2.1; omega)).get
        obtain ⟨kT, hkT⟩ := (threads_ev (rawS 0 0 l0) (by omega)).get
        have hcb := bs_codeAll l0
        have hcz : (strOfNums (codeAll l0)).size = codeLen l0 := by rw [strOfNums_size, codeAll_length]
        have hca := codeAll_length l0
        have FIT := Aside0.mk (fun (h : fitsAll (rawS 0 0 l0) (l0.flatMap (·.f3)) = 0) => fitsAll_yes h)
        have hsm : ∀ s ∈ rawS 0 0 l0, 0 ≤ s.f2 ∧ s.f2 ≤ 1048576 := raw_small l0 0 0 hall (by omega) (by omega)
        have hbo : bytesOf (strOfNums (codeAll l0)) = codeAll l0 := bytesOf_str hcb
        rw [hraw] at HRES
        have LAY := Aside0.mk (fun (W : World) (hb : Below w.heap.size w W) => cotterref07_Lay.calls kL A0 c0 l0 _ _ _ W (Kd.C_below HR.out hb) HC.out hkL)
        have NAMES := Aside0.mk (fun (W : World) (A1 : Option Addr) (c1 : Nat) (hb : Below w.heap.size w W) (h1 : Kd.C k36 W A1 (rawS 0 0 l0).length (rawS 0 0 l0)) (h2 : (rawS 0 0 l0).length ≤ c1) => cotterref07_names.calls kN A0 c0 l0 A1 c1 _ _ W (Kd.C_below HR.out hb) HC.out h1 h2 hkN)
        have THR := Aside0.mk (fun (W : World) (A1 : Option Addr) (c1 : Nat) (h1 : Kd.C k36 W A1 (rawS 0 0 l0).length (rawS 0 0 l0)) (h2 : (rawS 0 0 l0).length ≤ c1) => thr_c h1 h2 hkT)
        have HBO := Aside0.mk hbo
        have HCZ := Aside0.mk hcz
        have hcc : (strOfNums (codeAll l0)).size ≤ 1048576 := by omega
        have hdc : (dataAll l0).length ≤ 65536 := by omega
        have HSM := Aside0.mk hsm
        have HCA := Aside0.mk hca
        clear hraw hkL hkN hkT HB HB0 BR0 hall HM hcb hbo hsm hca hcz hcl
        generalize hNV : (if ¬ ((rawS 0 0 l0).map (·.f0)).Nodup then (5 : Int) else fitsAll (rawS 0 0 l0) (l0.flatMap (·.f3))) = r at NAMES
        have hNT : ths (pairs (rawS 0 0 l0)) ≤ 16000 := by unfold ths; have := List.countP_le_length (p := fun p : ByteArray × Int => decide (p.2 = 3)) (l := pairs (rawS 0 0 l0)); unfold pairs at this ⊢; rw [List.length_map] at this; omega
        generalize hT : ths (pairs (rawS 0 0 l0)) = n at *
        generalize hSS : rawS 0 0 l0 = SS at *
        generalize hD : dataAll l0 = D at *
        generalize hCC : strOfNums (codeAll l0) = C at *
        by_cases hr0 : r = 0
        case neg =>
          have hrn : res = linkE r := by
            rw [HRES.out, ← hNV]
            split
            · rfl
            · rename_i hn
              rw [← hNV, if_neg hn] at hr0
              rw [if_pos hr0]
          have hrb : (r == (0 : Int)) = false := by simp [hr0]
          have hrb2 : (r != (0 : Int)) = true := by simp [hr0]
          go_wp2_with (first
            | (go_at_call 27; (with_reducible refine (LAY.out _ HBW.out).mono ?_); rintro e w4 ⟨v1, v2, rfl, ho0, ho1, hb⟩; obtain ⟨Ad, cd, rfl⟩ := Kd.R_slice ho0; obtain ⟨As, cs, rfl⟩ := Kd.R_slice ho1; have HB4 := Aside0.mk (below_in HBW.out hb); have BR4 := Aside0.mk (blk_below BRw.out hb); have HD4 := Aside0.mk (Kd.R_lower ho0 HBW.out.size); have HS4 := Aside0.mk (Kd.R_lower ho1 HBW.out.size); clear ho0 ho1 hb)
            | (go_at_call 28; (with_reducible refine (NAMES.out _ _ _ (below_alloc HB4.out _) (Kd.R_reads' (Kd.R_alloc HS4.out _)).2.2 (Kd.R_reads' HS4.out).2.1).mono ?_); rintro e w5 ⟨rfl, hb⟩; have HB5 := Aside0.mk (below_in (below_alloc HB4.out _) hb); have BR5 := Aside0.mk (blk_below (blk_alloc BR4.out (.cells #[.string C, .slice Ad D.length cd, .slice As SS.length cs] 29)) hb); have BI5 := Aside0.mk (blk_below (blk_new w4 (.cells #[.string C, .slice Ad D.length cd, .slice As SS.length cs] 29)) hb); have HD5 := Aside0.mk (Kd.R_below (Kd.R_alloc HD4.out _) hb); have HS5 := Aside0.mk (Kd.R_below (Kd.R_alloc HS4.out _) hb); have HL5 := Aside0.mk (blk_lt BR4.out); have kr0 : w5.cell? ⟨w.heap.size, 0, none⟩ = some (.string ⟨#[]⟩) := (blk_cell BR5.out 0).trans rfl; have kr1 : w5.cell? ⟨w.heap.size, 1, none⟩ = some (.slice none 0 0) := (blk_cell BR5.out 1).trans rfl; have kr2 : w5.cell? ⟨w.heap.size, 2, none⟩ = some (.slice none 0 0) := (blk_cell BR5.out 2).trans rfl; have fr0 := blk_frozen BR5.out 0; have fr1 := blk_frozen BR5.out 1; have fr2 := blk_frozen BR5.out 2; have ki0 : w5.cell? ⟨w4.heap.size, 0, none⟩ = some (.string C) := (blk_cell BI5.out 0).trans rfl; have ki1 : w5.cell? ⟨w4.heap.size, 1, none⟩ = some (.slice Ad D.length cd) := (blk_cell BI5.out 1).trans rfl; have ki2 : w5.cell? ⟨w4.heap.size, 2, none⟩ = some (.slice As SS.length cs) := (blk_cell BI5.out 2).trans rfl; clear hb))
          try rw [hrn]
          exact rbad BR5.out HB5.out r _ rfl rfl rfl
        case pos =>
          subst hr0
          have hnod : ¬ ¬ (SS.map (·.f0)).Nodup := fun h => by rw [if_pos h] at hNV; exact absurd hNV (by decide)
          have hfz : fitsAll SS (l0.flatMap (·.f3)) = 0 := by rw [if_neg hnod] at hNV; exact hNV
          have hrl := HRES.out
          rw [if_neg hnod, if_neg (fun h => h hfz)] at hrl
          have HRL := Aside0.mk hrl
          have FT := Aside0.mk (FIT.out hfz)
          clear hrl FIT HRES hnod hNV
          by_cases q1 : (65536 : Int) < (C.size : Int)
          case pos =>
            have hrn : res = linkE 8 := by rw [HRL.out]; exact if_pos (.inl (by have := HCA.out; have := HCZ.out; omega))
            go_wp2_with (first
              | (go_at_call 27; (with_reducible refine (LAY.out _ HBW.out).mono ?_); rintro e w4 ⟨v1, v2, rfl, ho0, ho1, hb⟩; obtain ⟨Ad, cd, rfl⟩ := Kd.R_slice ho0; obtain ⟨As, cs, rfl⟩ := Kd.R_slice ho1; have HB4 := Aside0.mk (below_in HBW.out hb); have BR4 := Aside0.mk (blk_below BRw.out hb); have HD4 := Aside0.mk (Kd.R_lower ho0 HBW.out.size); have HS4 := Aside0.mk (Kd.R_lower ho1 HBW.out.size); clear ho0 ho1 hb)
              | (go_at_call 28; (with_reducible refine (NAMES.out _ _ _ (below_alloc HB4.out _) (Kd.R_reads' (Kd.R_alloc HS4.out _)).2.2 (Kd.R_reads' HS4.out).2.1).mono ?_); rintro e w5 ⟨rfl, hb⟩; have HB5 := Aside0.mk (below_in (below_alloc HB4.out _) hb); have BR5 := Aside0.mk (blk_below (blk_alloc BR4.out (.cells #[.string C, .slice Ad D.length cd, .slice As SS.length cs] 29)) hb); have BI5 := Aside0.mk (blk_below (blk_new w4 (.cells #[.string C, .slice Ad D.length cd, .slice As SS.length cs] 29)) hb); have HD5 := Aside0.mk (Kd.R_below (Kd.R_alloc HD4.out _) hb); have HS5 := Aside0.mk (Kd.R_below (Kd.R_alloc HS4.out _) hb); have HL5 := Aside0.mk (blk_lt BR4.out); have kr0 : w5.cell? ⟨w.heap.size, 0, none⟩ = some (.string ⟨#[]⟩) := (blk_cell BR5.out 0).trans rfl; have kr1 : w5.cell? ⟨w.heap.size, 1, none⟩ = some (.slice none 0 0) := (blk_cell BR5.out 1).trans rfl; have kr2 : w5.cell? ⟨w.heap.size, 2, none⟩ = some (.slice none 0 0) := (blk_cell BR5.out 2).trans rfl; have fr0 := blk_frozen BR5.out 0; have fr1 := blk_frozen BR5.out 1; have fr2 := blk_frozen BR5.out 2; have ki0 : w5.cell? ⟨w4.heap.size, 0, none⟩ = some (.string C) := (blk_cell BI5.out 0).trans rfl; have ki1 : w5.cell? ⟨w4.heap.size, 1, none⟩ = some (.slice Ad D.length cd) := (blk_cell BI5.out 1).trans rfl; have ki2 : w5.cell? ⟨w4.heap.size, 2, none⟩ = some (.slice As SS.length cs) := (blk_cell BI5.out 2).trans rfl; clear hb)
              | (go_at_call 29; (with_reducible refine (THR.out _ _ _ (Kd.R_reads' HS5.out).2.2 (Kd.R_reads' HS5.out).2.1).mono ?_); rintro e w6 ⟨rfl, hb⟩; clear kr0 kr1 kr2 fr0 fr1 fr2 ki0 ki1 ki2; have HB6 := Aside0.mk (below_in HB5.out hb); have BR6 := Aside0.mk (blk_below BR5.out hb); have BI6 := Aside0.mk (blk_below BI5.out hb); have HD6 := Aside0.mk (Kd.R_below HD5.out hb); have HS6 := Aside0.mk (Kd.R_below HS5.out hb); have kr0 : w6.cell? ⟨w.heap.size, 0, none⟩ = some (.string ⟨#[]⟩) := (blk_cell BR6.out 0).trans rfl; have kr1 : w6.cell? ⟨w.heap.size, 1, none⟩ = some (.slice none 0 0) := (blk_cell BR6.out 1).trans rfl; have kr2 : w6.cell? ⟨w.heap.size, 2, none⟩ = some (.slice none 0 0) := (blk_cell BR6.out 2).trans rfl; have fr0 := blk_frozen BR6.out 0; have fr1 := blk_frozen BR6.out 1; have fr2 := blk_frozen BR6.out 2; have ki0 : w6.cell? ⟨w4.heap.size, 0, none⟩ = some (.string C) := (blk_cell BI6.out 0).trans rfl; have ki1 : w6.cell? ⟨w4.heap.size, 1, none⟩ = some (.slice Ad D.length cd) := (blk_cell BI6.out 1).trans rfl; have ki2 : w6.cell? ⟨w4.heap.size, 2, none⟩ = some (.slice As SS.length cs) := (blk_cell BI6.out 2).trans rfl; clear hb))
            try rw [hrn]
            exact rbad BR6.out HB6.out 8 _ rfl rfl rfl
          case neg =>
            by_cases q2 : (4096 : Int) < (D.length : Int)
            case pos =>
              have hrn : res = linkE 8 := by rw [HRL.out]; exact if_pos (.inr (.inl (by omega)))
              go_wp2_with (first
                | (go_at_call 27; (with_reducible refine (LAY.out _ HBW.out).mono ?_); rintro e w4 ⟨v1, v2, rfl, ho0, ho1, hb⟩; obtain ⟨Ad, cd, rfl⟩ := Kd.R_slice ho0; obtain ⟨As, cs, rfl⟩ := Kd.R_slice ho1; have HB4 := Aside0.mk (below_in HBW.out hb); have BR4 := Aside0.mk (blk_below BRw.out hb); have HD4 := Aside0.mk (Kd.R_lower ho0 HBW.out.size); have HS4 := Aside0.mk (Kd.R_lower ho1 HBW.out.size); clear ho0 ho1 hb)
                | (go_at_call 28; (with_reducible refine (NAMES.out _ _ _ (below_alloc HB4.out _) (Kd.R_reads' (Kd.R_alloc HS4.out _)).2.2 (Kd.R_reads' HS4.out).2.1).mono ?_); rintro e w5 ⟨rfl, hb⟩; have HB5 := Aside0.mk (below_in (below_alloc HB4.out _) hb); have BR5 := Aside0.mk (blk_below (blk_alloc BR4.out (.cells #[.string C, .slice Ad D.length cd, .slice As SS.length cs] 29)) hb); have BI5 := Aside0.mk (blk_below (blk_new w4 (.cells #[.string C, .slice Ad D.length cd, .slice As SS.length cs] 29)) hb); have HD5 := Aside0.mk (Kd.R_below (Kd.R_alloc HD4.out _) hb); have HS5 := Aside0.mk (Kd.R_below (Kd.R_alloc HS4.out _) hb); have HL5 := Aside0.mk (blk_lt BR4.out); have kr0 : w5.cell? ⟨w.heap.size, 0, none⟩ = some (.string ⟨#[]⟩) := (blk_cell BR5.out 0).trans rfl; have kr1 : w5.cell? ⟨w.heap.size, 1, none⟩ = some (.slice none 0 0) := (blk_cell BR5.out 1).trans rfl; have kr2 : w5.cell? ⟨w.heap.size, 2, none⟩ = some (.slice none 0 0) := (blk_cell BR5.out 2).trans rfl; have fr0 := blk_frozen BR5.out 0; have fr1 := blk_frozen BR5.out 1; have fr2 := blk_frozen BR5.out 2; have ki0 : w5.cell? ⟨w4.heap.size, 0, none⟩ = some (.string C) := (blk_cell BI5.out 0).trans rfl; have ki1 : w5.cell? ⟨w4.heap.size, 1, none⟩ = some (.slice Ad D.length cd) := (blk_cell BI5.out 1).trans rfl; have ki2 : w5.cell? ⟨w4.heap.size, 2, none⟩ = some (.slice As SS.length cs) := (blk_cell BI5.out 2).trans rfl; clear hb)
                | (go_at_call 29; (with_reducible refine (THR.out _ _ _ (Kd.R_reads' HS5.out).2.2 (Kd.R_reads' HS5.out).2.1).mono ?_); rintro e w6 ⟨rfl, hb⟩; clear kr0 kr1 kr2 fr0 fr1 fr2 ki0 ki1 ki2; have HB6 := Aside0.mk (below_in HB5.out hb); have BR6 := Aside0.mk (blk_below BR5.out hb); have BI6 := Aside0.mk (blk_below BI5.out hb); have HD6 := Aside0.mk (Kd.R_below HD5.out hb); have HS6 := Aside0.mk (Kd.R_below HS5.out hb); have kr0 : w6.cell? ⟨w.heap.size, 0, none⟩ = some (.string ⟨#[]⟩) := (blk_cell BR6.out 0).trans rfl; have kr1 : w6.cell? ⟨w.heap.size, 1, none⟩ = some (.slice none 0 0) := (blk_cell BR6.out 1).trans rfl; have kr2 : w6.cell? ⟨w.heap.size, 2, none⟩ = some (.slice none 0 0) := (blk_cell BR6.out 2).trans rfl; have fr0 := blk_frozen BR6.out 0; have fr1 := blk_frozen BR6.out 1; have fr2 := blk_frozen BR6.out 2; have ki0 : w6.cell? ⟨w4.heap.size, 0, none⟩ = some (.string C) := (blk_cell BI6.out 0).trans rfl; have ki1 : w6.cell? ⟨w4.heap.size, 1, none⟩ = some (.slice Ad D.length cd) := (blk_cell BI6.out 1).trans rfl; have ki2 : w6.cell? ⟨w4.heap.size, 2, none⟩ = some (.slice As SS.length cs) := (blk_cell BI6.out 2).trans rfl; clear hb))
              try rw [hrn]
              exact rbad BR6.out HB6.out 8 _ rfl rfl rfl
            case neg =>
              by_cases q3 : (1000 : Int) < (SS.length : Int)
              case pos =>
                have hrn : res = linkE 8 := by rw [HRL.out]; exact if_pos (.inr (.inr (.inl (by omega))))
                go_wp2_with (first
                  | (go_at_call 27; (with_reducible refine (LAY.out _ HBW.out).mono ?_); rintro e w4 ⟨v1, v2, rfl, ho0, ho1, hb⟩; obtain ⟨Ad, cd, rfl⟩ := Kd.R_slice ho0; obtain ⟨As, cs, rfl⟩ := Kd.R_slice ho1; have HB4 := Aside0.mk (below_in HBW.out hb); have BR4 := Aside0.mk (blk_below BRw.out hb); have HD4 := Aside0.mk (Kd.R_lower ho0 HBW.out.size); have HS4 := Aside0.mk (Kd.R_lower ho1 HBW.out.size); clear ho0 ho1 hb)
                  | (go_at_call 28; (with_reducible refine (NAMES.out _ _ _ (below_alloc HB4.out _) (Kd.R_reads' (Kd.R_alloc HS4.out _)).2.2 (Kd.R_reads' HS4.out).2.1).mono ?_); rintro e w5 ⟨rfl, hb⟩; have HB5 := Aside0.mk (below_in (below_alloc HB4.out _) hb); have BR5 := Aside0.mk (blk_below (blk_alloc BR4.out (.cells #[.string C, .slice Ad D.length cd, .slice As SS.length cs] 29)) hb); have BI5 := Aside0.mk (blk_below (blk_new w4 (.cells #[.string C, .slice Ad D.length cd, .slice As SS.length cs] 29)) hb); have HD5 := Aside0.mk (Kd.R_below (Kd.R_alloc HD4.out _) hb); have HS5 := Aside0.mk (Kd.R_below (Kd.R_alloc HS4.out _) hb); have HL5 := Aside0.mk (blk_lt BR4.out); have kr0 : w5.cell? ⟨w.heap.size, 0, none⟩ = some (.string ⟨#[]⟩) := (blk_cell BR5.out 0).trans rfl; have kr1 : w5.cell? ⟨w.heap.size, 1, none⟩ = some (.slice none 0 0) := (blk_cell BR5.out 1).trans rfl; have kr2 : w5.cell? ⟨w.heap.size, 2, none⟩ = some (.slice none 0 0) := (blk_cell BR5.out 2).trans rfl; have fr0 := blk_frozen BR5.out 0; have fr1 := blk_frozen BR5.out 1; have fr2 := blk_frozen BR5.out 2; have ki0 : w5.cell? ⟨w4.heap.size, 0, none⟩ = some (.string C) := (blk_cell BI5.out 0).trans rfl; have ki1 : w5.cell? ⟨w4.heap.size, 1, none⟩ = some (.slice Ad D.length cd) := (blk_cell BI5.out 1).trans rfl; have ki2 : w5.cell? ⟨w4.heap.size, 2, none⟩ = some (.slice As SS.length cs) := (blk_cell BI5.out 2).trans rfl; clear hb)
                  | (go_at_call 29; (with_reducible refine (THR.out _ _ _ (Kd.R_reads' HS5.out).2.2 (Kd.R_reads' HS5.out).2.1).mono ?_); rintro e w6 ⟨rfl, hb⟩; clear kr0 kr1 kr2 fr0 fr1 fr2 ki0 ki1 ki2; have HB6 := Aside0.mk (below_in HB5.out hb); have BR6 := Aside0.mk (blk_below BR5.out hb); have BI6 := Aside0.mk (blk_below BI5.out hb); have HD6 := Aside0.mk (Kd.R_below HD5.out hb); have HS6 := Aside0.mk (Kd.R_below HS5.out hb); have kr0 : w6.cell? ⟨w.heap.size, 0, none⟩ = some (.string ⟨#[]⟩) := (blk_cell BR6.out 0).trans rfl; have kr1 : w6.cell? ⟨w.heap.size, 1, none⟩ = some (.slice none 0 0) := (blk_cell BR6.out 1).trans rfl; have kr2 : w6.cell? ⟨w.heap.size, 2, none⟩ = some (.slice none 0 0) := (blk_cell BR6.out 2).trans rfl; have fr0 := blk_frozen BR6.out 0; have fr1 := blk_frozen BR6.out 1; have fr2 := blk_frozen BR6.out 2; have ki0 : w6.cell? ⟨w4.heap.size, 0, none⟩ = some (.string C) := (blk_cell BI6.out 0).trans rfl; have ki1 : w6.cell? ⟨w4.heap.size, 1, none⟩ = some (.slice Ad D.length cd) := (blk_cell BI6.out 1).trans rfl; have ki2 : w6.cell? ⟨w4.heap.size, 2, none⟩ = some (.slice As SS.length cs) := (blk_cell BI6.out 2).trans rfl; clear hb))
                try rw [hrn]
                exact rbad BR6.out HB6.out 8 _ rfl rfl rfl
              case neg =>
                by_cases q4 : ((n : Nat) : Int) = 0
                case pos =>
                  have hrn : res = linkE 8 := by rw [HRL.out]; exact if_pos (.inr (.inr (.inr (.inl (by omega)))))
                  have q4b : (((n : Nat) : Int) == 0) = true := by simp [q4]
                  go_wp2_with (first
                    | (go_at_call 27; (with_reducible refine (LAY.out _ HBW.out).mono ?_); rintro e w4 ⟨v1, v2, rfl, ho0, ho1, hb⟩; obtain ⟨Ad, cd, rfl⟩ := Kd.R_slice ho0; obtain ⟨As, cs, rfl⟩ := Kd.R_slice ho1; have HB4 := Aside0.mk (below_in HBW.out hb); have BR4 := Aside0.mk (blk_below BRw.out hb); have HD4 := Aside0.mk (Kd.R_lower ho0 HBW.out.size); have HS4 := Aside0.mk (Kd.R_lower ho1 HBW.out.size); clear ho0 ho1 hb)
                    | (go_at_call 28; (with_reducible refine (NAMES.out _ _ _ (below_alloc HB4.out _) (Kd.R_reads' (Kd.R_alloc HS4.out _)).2.2 (Kd.R_reads' HS4.out).2.1).mono ?_); rintro e w5 ⟨rfl, hb⟩; have HB5 := Aside0.mk (below_in (below_alloc HB4.out _) hb); have BR5 := Aside0.mk (blk_below (blk_alloc BR4.out (.cells #[.string C, .slice Ad D.length cd, .slice As SS.length cs] 29)) hb); have BI5 := Aside0.mk (blk_below (blk_new w4 (.cells #[.string C, .slice Ad D.length cd, .slice As SS.length cs] 29)) hb); have HD5 := Aside0.mk (Kd.R_below (Kd.R_alloc HD4.out _) hb); have HS5 := Aside0.mk (Kd.R_below (Kd.R_alloc HS4.out _) hb); have HL5 := Aside0.mk (blk_lt BR4.out); have kr0 : w5.cell? ⟨w.heap.size, 0, none⟩ = some (.string ⟨#[]⟩) := (blk_cell BR5.out 0).trans rfl; have kr1 : w5.cell? ⟨w.heap.size, 1, none⟩ = some (.slice none 0 0) := (blk_cell BR5.out 1).trans rfl; have kr2 : w5.cell? ⟨w.heap.size, 2, none⟩ = some (.slice none 0 0) := (blk_cell BR5.out 2).trans rfl; have fr0 := blk_frozen BR5.out 0; have fr1 := blk_frozen BR5.out 1; have fr2 := blk_frozen BR5.out 2; have ki0 : w5.cell? ⟨w4.heap.size, 0, none⟩ = some (.string C) := (blk_cell BI5.out 0).trans rfl; have ki1 : w5.cell? ⟨w4.heap.size, 1, none⟩ = some (.slice Ad D.length cd) := (blk_cell BI5.out 1).trans rfl; have ki2 : w5.cell? ⟨w4.heap.size, 2, none⟩ = some (.slice As SS.length cs) := (blk_cell BI5.out 2).trans rfl; clear hb)
                    | (go_at_call 29; (with_reducible refine (THR.out _ _ _ (Kd.R_reads' HS5.out).2.2 (Kd.R_reads' HS5.out).2.1).mono ?_); rintro e w6 ⟨rfl, hb⟩; clear kr0 kr1 kr2 fr0 fr1 fr2 ki0 ki1 ki2; have HB6 := Aside0.mk (below_in HB5.out hb); have BR6 := Aside0.mk (blk_below BR5.out hb); have BI6 := Aside0.mk (blk_below BI5.out hb); have HD6 := Aside0.mk (Kd.R_below HD5.out hb); have HS6 := Aside0.mk (Kd.R_below HS5.out hb); have kr0 : w6.cell? ⟨w.heap.size, 0, none⟩ = some (.string ⟨#[]⟩) := (blk_cell BR6.out 0).trans rfl; have kr1 : w6.cell? ⟨w.heap.size, 1, none⟩ = some (.slice none 0 0) := (blk_cell BR6.out 1).trans rfl; have kr2 : w6.cell? ⟨w.heap.size, 2, none⟩ = some (.slice none 0 0) := (blk_cell BR6.out 2).trans rfl; have fr0 := blk_frozen BR6.out 0; have fr1 := blk_frozen BR6.out 1; have fr2 := blk_frozen BR6.out 2; have ki0 : w6.cell? ⟨w4.heap.size, 0, none⟩ = some (.string C) := (blk_cell BI6.out 0).trans rfl; have ki1 : w6.cell? ⟨w4.heap.size, 1, none⟩ = some (.slice Ad D.length cd) := (blk_cell BI6.out 1).trans rfl; have ki2 : w6.cell? ⟨w4.heap.size, 2, none⟩ = some (.slice As SS.length cs) := (blk_cell BI6.out 2).trans rfl; clear hb))
                  try rw [hrn]
                  exact rbad BR6.out HB6.out 8 _ rfl rfl rfl
                case neg =>
                  by_cases q5 : (4 : Int) < ((n : Nat) : Int)
                  case pos =>
                    have hrn : res = linkE 8 := by rw [HRL.out]; exact if_pos (.inr (.inr (.inr (.inr (by omega)))))
                    have q4b : (((n : Nat) : Int) == 0) = false := by simpa using q4
                    go_wp2_with (first
                      | (go_at_call 27; (with_reducible refine (LAY.out _ HBW.out).mono ?_); rintro e w4 ⟨v1, v2, rfl, ho0, ho1, hb⟩; obtain ⟨Ad, cd, rfl⟩ := Kd.R_slice ho0; obtain ⟨As, cs, rfl⟩ := Kd.R_slice ho1; have HB4 := Aside0.mk (below_in HBW.out hb); have BR4 := Aside0.mk (blk_below BRw.out hb); have HD4 := Aside0.mk (Kd.R_lower ho0 HBW.out.size); have HS4 := Aside0.mk (Kd.R_lower ho1 HBW.out.size); clear ho0 ho1 hb)
                      | (go_at_call 28; (with_reducible refine (NAMES.out _ _ _ (below_alloc HB4.out _) (Kd.R_reads' (Kd.R_alloc HS4.out _)).2.2 (Kd.R_reads' HS4.out).2.1).mono ?_); rintro e w5 ⟨rfl, hb⟩; have HB5 := Aside0.mk (below_in (below_alloc HB4.out _) hb); have BR5 := Aside0.mk (blk_below (blk_alloc BR4.out (.cells #[.string C, .slice Ad D.length cd, .slice As SS.length cs] 29)) hb); have BI5 := Aside0.mk (blk_below (blk_new w4 (.cells #[.string C, .slice Ad D.length cd, .slice As SS.length cs] 29)) hb); have HD5 := Aside0.mk (Kd.R_below (Kd.R_alloc HD4.out _) hb); have HS5 := Aside0.mk (Kd.R_below (Kd.R_alloc HS4.out _) hb); have HL5 := Aside0.mk (blk_lt BR4.out); have kr0 : w5.cell? ⟨w.heap.size, 0, none⟩ = some (.string ⟨#[]⟩) := (blk_cell BR5.out 0).trans rfl; have kr1 : w5.cell? ⟨w.heap.size, 1, none⟩ = some (.slice none 0 0) := (blk_cell BR5.out 1).trans rfl; have kr2 : w5.cell? ⟨w.heap.size, 2, none⟩ = some (.slice none 0 0) := (blk_cell BR5.out 2).trans rfl; have fr0 := blk_frozen BR5.out 0; have fr1 := blk_frozen BR5.out 1; have fr2 := blk_frozen BR5.out 2; have ki0 : w5.cell? ⟨w4.heap.size, 0, none⟩ = some (.string C) := (blk_cell BI5.out 0).trans rfl; have ki1 : w5.cell? ⟨w4.heap.size, 1, none⟩ = some (.slice Ad D.length cd) := (blk_cell BI5.out 1).trans rfl; have ki2 : w5.cell? ⟨w4.heap.size, 2, none⟩ = some (.slice As SS.length cs) := (blk_cell BI5.out 2).trans rfl; clear hb)
                      | (go_at_call 29; (with_reducible refine (THR.out _ _ _ (Kd.R_reads' HS5.out).2.2 (Kd.R_reads' HS5.out).2.1).mono ?_); rintro e w6 ⟨rfl, hb⟩; clear kr0 kr1 kr2 fr0 fr1 fr2 ki0 ki1 ki2; have HB6 := Aside0.mk (below_in HB5.out hb); have BR6 := Aside0.mk (blk_below BR5.out hb); have BI6 := Aside0.mk (blk_below BI5.out hb); have HD6 := Aside0.mk (Kd.R_below HD5.out hb); have HS6 := Aside0.mk (Kd.R_below HS5.out hb); have kr0 : w6.cell? ⟨w.heap.size, 0, none⟩ = some (.string ⟨#[]⟩) := (blk_cell BR6.out 0).trans rfl; have kr1 : w6.cell? ⟨w.heap.size, 1, none⟩ = some (.slice none 0 0) := (blk_cell BR6.out 1).trans rfl; have kr2 : w6.cell? ⟨w.heap.size, 2, none⟩ = some (.slice none 0 0) := (blk_cell BR6.out 2).trans rfl; have fr0 := blk_frozen BR6.out 0; have fr1 := blk_frozen BR6.out 1; have fr2 := blk_frozen BR6.out 2; have ki0 : w6.cell? ⟨w4.heap.size, 0, none⟩ = some (.string C) := (blk_cell BI6.out 0).trans rfl; have ki1 : w6.cell? ⟨w4.heap.size, 1, none⟩ = some (.slice Ad D.length cd) := (blk_cell BI6.out 1).trans rfl; have ki2 : w6.cell? ⟨w4.heap.size, 2, none⟩ = some (.slice As SS.length cs) := (blk_cell BI6.out 2).trans rfl; clear hb))
                    try rw [hrn]
                    exact rbad BR6.out HB6.out 8 _ rfl rfl rfl
                  case neg =>
                    have hrl2 : res = fin D SS (fillAll SS (codeAll l0) (relsAt 0 l0)) := by
                      rw [HRL.out, if_neg (by have := HCA.out; have := HCZ.out; omega)]
                      rfl
                    have FA := Aside0.mk hrl2
                    have q4b : (((n : Nat) : Int) == 0) = false := by simpa using q4
                    have hcv := fun (W : World) (s : ByteArray) => Lib.run_convert_string_bytes (P := Try.prog) W 9 57 5 s Try.underlying9 Try.underlying57 Try.underlying5
                    clear hrl2 HRL
                    go_wp2_with (first
                      | (go_at_call 27; (with_reducible refine (LAY.out _ HBW.out).mono ?_); rintro e w4 ⟨v1, v2, rfl, ho0, ho1, hb⟩; obtain ⟨Ad, cd, rfl⟩ := Kd.R_slice ho0; obtain ⟨As, cs, rfl⟩ := Kd.R_slice ho1; have HB4 := Aside0.mk (below_in HBW.out hb); have BR4 := Aside0.mk (blk_below BRw.out hb); have HD4 := Aside0.mk (Kd.R_lower ho0 HBW.out.size); have HS4 := Aside0.mk (Kd.R_lower ho1 HBW.out.size); clear ho0 ho1 hb)
                      | (go_at_call 28; (with_reducible refine (NAMES.out _ _ _ (below_alloc HB4.out _) (Kd.R_reads' (Kd.R_alloc HS4.out _)).2.2 (Kd.R_reads' HS4.out).2.1).mono ?_); rintro e w5 ⟨rfl, hb⟩; have HB5 := Aside0.mk (below_in (below_alloc HB4.out _) hb); have BR5 := Aside0.mk (blk_below (blk_alloc BR4.out (.cells #[.string C, .slice Ad D.length cd, .slice As SS.length cs] 29)) hb); have BI5 := Aside0.mk (blk_below (blk_new w4 (.cells #[.string C, .slice Ad D.length cd, .slice As SS.length cs] 29)) hb); have HD5 := Aside0.mk (Kd.R_below (Kd.R_alloc HD4.out _) hb); have HS5 := Aside0.mk (Kd.R_below (Kd.R_alloc HS4.out _) hb); have HL5 := Aside0.mk (blk_lt BR4.out); have kr0 : w5.cell? ⟨w.heap.size, 0, none⟩ = some (.string ⟨#[]⟩) := (blk_cell BR5.out 0).trans rfl; have kr1 : w5.cell? ⟨w.heap.size, 1, none⟩ = some (.slice none 0 0) := (blk_cell BR5.out 1).trans rfl; have kr2 : w5.cell? ⟨w.heap.size, 2, none⟩ = some (.slice none 0 0) := (blk_cell BR5.out 2).trans rfl; have fr0 := blk_frozen BR5.out 0; have fr1 := blk_frozen BR5.out 1; have fr2 := blk_frozen BR5.out 2; have ki0 : w5.cell? ⟨w4.heap.size, 0, none⟩ = some (.string C) := (blk_cell BI5.out 0).trans rfl; have ki1 : w5.cell? ⟨w4.heap.size, 1, none⟩ = some (.slice Ad D.length cd) := (blk_cell BI5.out 1).trans rfl; have ki2 : w5.cell? ⟨w4.heap.size, 2, none⟩ = some (.slice As SS.length cs) := (blk_cell BI5.out 2).trans rfl; clear hb)
                      | (go_at_call 29; (with_reducible refine (THR.out _ _ _ (Kd.R_reads' HS5.out).2.2 (Kd.R_reads' HS5.out).2.1).mono ?_); rintro e w6 ⟨rfl, hb⟩; clear kr0 kr1 kr2 fr0 fr1 fr2 ki0 ki1 ki2; have HB6 := Aside0.mk (below_in HB5.out hb); have BR6 := Aside0.mk (blk_below BR5.out hb); have BI6 := Aside0.mk (blk_below BI5.out hb); have HD6 := Aside0.mk (Kd.R_below HD5.out hb); have HS6 := Aside0.mk (Kd.R_below HS5.out hb); have kr0 : w6.cell? ⟨w.heap.size, 0, none⟩ = some (.string ⟨#[]⟩) := (blk_cell BR6.out 0).trans rfl; have kr1 : w6.cell? ⟨w.heap.size, 1, none⟩ = some (.slice none 0 0) := (blk_cell BR6.out 1).trans rfl; have kr2 : w6.cell? ⟨w.heap.size, 2, none⟩ = some (.slice none 0 0) := (blk_cell BR6.out 2).trans rfl; have fr0 := blk_frozen BR6.out 0; have fr1 := blk_frozen BR6.out 1; have fr2 := blk_frozen BR6.out 2; have ki0 : w6.cell? ⟨w4.heap.size, 0, none⟩ = some (.string C) := (blk_cell BI6.out 0).trans rfl; have ki1 : w6.cell? ⟨w4.heap.size, 1, none⟩ = some (.slice Ad D.length cd) := (blk_cell BI6.out 1).trans rfl; have ki2 : w6.cell? ⟨w4.heap.size, 2, none⟩ = some (.slice As SS.length cs) := (blk_cell BI6.out 2).trans rfl; clear hb))
                    have hbw := bytesWorld_below w6 5 C
                    have hCm : C.size ≤ maxLen := by simp only [maxLen]; omega
                    have HK0 := Aside0.mk (show Rk w (Lib.bytesWorld w6 5 C) w.heap.size w4.heap.size C (.slice Ad D.length cd) (.slice As SS.length cs) D SS (.slice (some ⟨w6.heap.size, 0, none⟩) C.size (grownCap w6 C.size 0 5)) (codeAll l0) from
                      ⟨below_in HB6.out hbw, blk_below BR6.out hbw, blk_below BI6.out hbw, Nat.ne_of_lt HL5.out, Nat.le_refl _, HB4.out.size, Kd.R_below HD6.out hbw, Kd.R_below HS6.out hbw, by have h := OwnB.new w6 w.heap.size 5 C HB6.out.size hCm; rwa [HBO.out] at h⟩)
                    clear hbw hCm kr0 kr1 kr2 fr0 fr1 fr2 ki0 ki1 ki2 HB4 BR4 HD4 HS4 HB5 BR5 BI5 HD5 HS5 HL5 HB6 BR6 BI6 HD6 HS6 LAY NAMES THR HBW BRw hcv
                    generalize Lib.bytesWorld w6 5 C = W7 at *
                    generalize grownCap w6 C.size 0 5 = cap at *
                    generalize w6.heap.size = g at *
                    generalize w4.heap.size = b5 at *
                    go_loopw [9, 10] (fun v9 v10 wr2 => ∃ (k p : Nat) (c : List Int), k ≤ l0.length ∧ v10 = .int .i64 k ∧ v9 = .int .i64 p ∧ Aside0 (Rk w wr2 w.heap.size b5 C (.slice Ad D.length cd) (.slice As SS.length cs) D SS (.slice (some ⟨g, 0, none⟩) C.size cap) c) ∧ Aside0 (res = fin D SS (fillAll SS c (relsAt p (l0.drop k)))) ∧ Aside0 (c.length = C.size ∧ p + codeLen (l0.drop k) = C.size)) (fun _ v10 _ => l0.length - (intOf v10).toNat)
                    case atStart => exact ⟨0, 0, codeAll l0, Nat.zero_le _, rfl, rfl, HK0, FA, ⟨by have := HCA.out; have := HCZ.out; omega, by rw [List.drop_zero]; have := HCZ.out; omega⟩⟩
                    case round =>
                      clear HK0 FA
                      obtain ⟨k, p, c, hk, rfl, rfl, HK, HF, HS⟩ := hrel
                      by_cases hlt : k < l0.length
                      case pos =>
                        obtain ⟨ad, A1, c1, A2, c2, A3, c3, rfl, hx0, hx1, hx2, hx3, l1, g1, l2, g2, l3, g3⟩ := at_T40 HR.out (k : Int) (by omega) (by omega)
                        have MO := Aside0.mk (may_parts (MAY.out _ (List.getElem_mem hlt))).2.2.2.2.2
                        have M8 := (may_parts (MAY.out _ (List.getElem_mem hlt))).2.2.2.1
                        have RO := Aside0.mk (fun (r : S45) (h : r ∈ (l0[k]).f3) => FT.out r (List.mem_flatMap.2 ⟨_, List.getElem_mem hlt, h⟩))
                        have FO := Aside0.mk (HF.out.trans (congrArg (fun z => fin D SS (fillAll SS c z)) (relsAt_drop hlt p)))
                        have SO := Aside0.mk (show p + ((l0[k]).f0.size + codeLen (l0.drop (k + 1))) = C.size by rw [← codeLen_drop hlt]; exact HS.out.2)
                        rw [rd_SO hlt] at hx0 hx1 hx2 hx3 l1 g1 l2 g2 l3 g3
                        simp only [Int.toNat_natCast] at hx0 hx1 hx2 hx3
                        generalize l0[k] = o at *
                        have HX0 := Aside0.mk hx0
                        have HX3 := Aside0.mk hx3
                        have G3 := Aside0.mk g3
                        have hlk : (k : Int) < (l0.length : Int) := by omega
                        have HLO := Aside0.mk (show p + o.f0.size ≤ 1048576 by have := SO.out; omega)
                        clear g1 g2 g3 l1 l2 hx0 hx1 hx2 hx3 HF
                        go_wp2
                        go_loopw [11] (fun v11 wr3 => ∃ (j : Nat) (cx_ : List Int), j ≤ o.f3.length ∧ v11 = .int .i64 j ∧ Aside0 (Rk w wr3 w.heap.size b5 C (.slice Ad D.length cd) (.slice As SS.length cs) D SS (.slice (some ⟨g, 0, none⟩) C.size cap) cx_) ∧ Aside0 (cx_.length = C.size) ∧ Aside0 (res = fin D SS (fillAll SS cx_ (((o.f3.drop j).map fun r => (p + r.f0.toNat, r)) ++ relsAt (p + o.f0.size) (l0.drop (k + 1)))))) (fun v11 _ => o.f3.length - (intOf v11).toNat)
                        case atStart => exact ⟨0, c, Nat.zero_le _, rfl, HK, ⟨HS.out.1⟩, FO⟩
                        case round =>
                          clear FO HK HS
                          obtain ⟨j, cx, hj, rfl, HK3, HS3, HF3⟩ := hrel
                          have hz3 := pw_cell_below HK3.out.below HX3.out
                          have hz0 := pw_cell_below HK3.out.below HX0.out
                          have k5_0 : wr.cell? ⟨b5, 0, none⟩ = some (.string C) := (blk_cell HK3.out.im 0).trans rfl
                          have k5_1 : wr.cell? ⟨b5, 1, none⟩ = some (.slice Ad D.length cd) := (blk_cell HK3.out.im 1).trans rfl
                          have k5_2 : wr.cell? ⟨b5, 2, none⟩ = some (.slice As SS.length cs) := (blk_cell HK3.out.im 2).trans rfl
                          have l5 := blk_lt HK3.out.im
                          by_cases hjl : j < o.f3.length
                          case pos =>
                            obtain ⟨ad3, rfl, hy0, hy1, hy2, hy3⟩ := at_T45 (Kd.C_below G3.out HK3.out.below) (j : Int) (by omega) (by omega)
                            have NR := Aside0.mk (MO.out _ (List.getElem_mem hjl))
                            obtain ⟨s, hs, hsk⟩ := RO.out _ (List.getElem_mem hjl)
                            have FR := Aside0.mk (HF3.out.trans (congrArg (fun z => fin D SS (fillAll SS cx z)) (map_drop_one hjl _ _)))
                            rw [rd_SR hjl] at hy0 hy1 hy2 hy3
                            simp only [Int.toNat_natCast] at hy0 hy1 hy2 hy3
                            generalize o.f3[j] = r at *
                            have hjk : (j : Int) < (o.f3.length : Int) := by omega
                            obtain ⟨at_, hat⟩ : ∃ a : Nat, a = p + r.f0.toNat := ⟨_, rfl⟩
                            have hin := NR.out
                            unfold RelOk at hin
                            have hso := SO.out
                            have hsb := HSM.out s (List.mem_of_find?_eq_some hs)
                            have ew : wrap64 ((p : Int) + r.f0) = (at_ : Int) := by rw [wrap64_id (by omega) (by omega)]; omega
                            have hae : at_ + 4 ≤ C.size := by clear ew; omega
                            have FR2 := Aside0.mk (show res = fin D SS ((fillF SS cx at_ r).bind fun c => fillAll SS c (((o.f3.drop (j + 1)).map fun r => (p + r.f0.toNat, r)) ++ relsAt (p + o.f0.size) (l0.drop (k + 1)))) by rw [FR.out, hat]; rfl)
                            have hN : fillN SS at_ r = if r.f1 = 2 then 1048576 + 8 * s.f2 + r.f3 else s.f2 - at_ - 4 := by unfold fillN; rw [hs]; rfl
                            have hFF : fillF SS cx at_ r = if r.f1 = 2 ∧ (fillN SS at_ r < 0 ∨ 2147483647 < fillN SS at_ r) then none else some (pokes cx at_ (leL (fillN SS at_ r) 4)) := rfl
                            have FIND := Aside0.mk (fun (W : World) (A1 : Option Addr) (c1 : Nat) (h1 : Kd.C k36 W A1 SS.length SS) (h2 : SS.length ≤ c1) => findr_c (W := W) (A1 := A1) (c1 := c1) h1 h2 (by omega) hs)
                            have HFN := Aside0.mk hFF
                            have HN := Aside0.mk hN
                            have hcp0 : ¬ cap = at_ := by
                              rcases HK3.out.code with ⟨h, _⟩ | ⟨g', cap', cur, fr, hv, _, _, _, h1, _⟩
                              · cases h
                              · injection hv with e1 e2 e3
                                have := HS3.out
                                clear ew
                                omega
                            have hal : (at_ : Int) ≤ (C.size : Int) := by clear ew; omega
                            have HIN := Aside0.mk hin
                            have HSB := Aside0.mk hsb
                            have HAT := Aside0.mk hat
                            clear hso HF3 FR hat hN hFF hin hsb
                            by_cases h1 : r.f1 = 2
                            case neg =>
                              have hsb2 := HSB.out
                              have e1 : (r.f1 == (2 : Int)) = false := by simp [h1]
                              have BY := Aside0.mk (fun W => bytesr_yes (n := s.f2 - ((at_ : Int) + 4)) (by have := HSB.out; clear ew; omega) (by have := HSB.out; clear ew; omega) W)
                              have hff : fillF SS cx at_ r = some (pokes cx at_ (leL (s.f2 - ((at_ : Int) + 4)) 4)) := by
                                rw [HFN.out, if_neg (fun h => h1 h.1), HN.out, if_neg h1, show s.f2 - (at_ : Int) - 4 = s.f2 - ((at_ : Int) + 4) by clear ew; omega]
                              have FZ := Aside0.mk (show res = fin D SS (fillAll SS (pokes cx at_ (leL (s.f2 - ((at_ : Int) + 4)) 4)) (((o.f3.drop (j + 1)).map fun r => (p + r.f0.toNat, r)) ++ relsAt (p + o.f0.size) (l0.drop (k + 1)))) by rw [FR2.out, hff]; rfl)
                              clear hff FR2 HFN HN
                              go_wp2_with (first
                                | (go_at_call 30; (with_reducible refine (FIND.out _ _ _ (Kd.R_reads' (Kd.R_alloc HK3.out.rs _)).2.2 (Kd.R_reads' HK3.out.rs).2.1).mono ?_); rintro e w8 ⟨rfl, hb⟩; have H8 := Aside0.mk (Rk.next (HK3.out.alloc _) hb); have BQ8 := Aside0.mk (blk_below (blk_new wr (.cells #[.int .i64 r.f0, .int .i64 r.f1, .string r.f2, .int .i64 r.f3] 45)) hb); clear k5_0 k5_1 k5_2 l5 hy0 hy1 hy2 hy3; have k5_0 : w8.cell? ⟨b5, 0, none⟩ = some (.string C) := (blk_cell H8.out.im 0).trans rfl; have k5_1 : w8.cell? ⟨b5, 1, none⟩ = some (.slice Ad D.length cd) := (blk_cell H8.out.im 1).trans rfl; have k5_2 : w8.cell? ⟨b5, 2, none⟩ = some (.slice As SS.length cs) := (blk_cell H8.out.im 2).trans rfl; have l5 := blk_lt H8.out.im; have kq0 : w8.cell? ⟨wr.heap.size, 0, none⟩ = some (.int .i64 r.f0) := (blk_cell BQ8.out 0).trans rfl; have kq1 : w8.cell? ⟨wr.heap.size, 1, none⟩ = some (.int .i64 r.f1) := (blk_cell BQ8.out 1).trans rfl; have kq2 : w8.cell? ⟨wr.heap.size, 2, none⟩ = some (.string r.f2) := (blk_cell BQ8.out 2).trans rfl; have kq3 : w8.cell? ⟨wr.heap.size, 3, none⟩ = some (.int .i64 r.f3) := (blk_cell BQ8.out 3).trans rfl; have lq := blk_lt BQ8.out; have kr0 : w8.cell? ⟨w.heap.size, 0, none⟩ = some (.string ⟨#[]⟩) := (blk_cell H8.out.res 0).trans rfl; have kr1 : w8.cell? ⟨w.heap.size, 1, none⟩ = some (.slice none 0 0) := (blk_cell H8.out.res 1).trans rfl; have kr2 : w8.cell? ⟨w.heap.size, 2, none⟩ = some (.slice none 0 0) := (blk_cell H8.out.res 2).trans rfl; have fr0 := blk_frozen H8.out.res 0; have fr1 := blk_frozen H8.out.res 1; have fr2 := blk_frozen H8.out.res 2; have l2 := blk_lt H8.out.res; clear hb)
                                | (go_at_call 31; (with_reducible refine (BY.out _).mono ?_); rintro e w9 ⟨rfl, hb⟩; have H9 := Aside0.mk (Rk.next (H8.out.alloc _) hb); clear k5_0 k5_1 k5_2 l5 kq0 kq1 kq2 kq3 lq kr0 kr1 kr2 fr0 fr1 fr2 l2; have kr0 : w9.cell? ⟨w.heap.size, 0, none⟩ = some (.string ⟨#[]⟩) := (blk_cell H9.out.res 0).trans rfl; have kr1 : w9.cell? ⟨w.heap.size, 1, none⟩ = some (.slice none 0 0) := (blk_cell H9.out.res 1).trans rfl; have kr2 : w9.cell? ⟨w.heap.size, 2, none⟩ = some (.slice none 0 0) := (blk_cell H9.out.res 2).trans rfl; have fr0 := blk_frozen H9.out.res 0; have fr1 := blk_frozen H9.out.res 1; have fr2 := blk_frozen H9.out.res 2; have l2 := blk_lt H9.out.res; have hcp := fun dc ty => Rk.copy_run (at_ := at_) H9.out.code (leL (s.f2 - ((at_ : Int) + 4)) 4) (leL_bs _ _) (by rw [leL_len]; have := HS3.out; omega) dc ty; rw [leL_len] at hcp; clear hb))
                              have ej : wrap64 ((j : Int) + 1) = ((j + 1 : Nat) : Int) := by have := G3.out.2.1; clear ew; rw [wrap64_id (by omega) (by omega)]; omega
                              refine ⟨⟨j + 1, _, by clear ew ej; omega, by first | rfl | rw [ej], ⟨Rk.pokes rfl (leL (s.f2 - ((at_ : Int) + 4)) 4) at_ _ _ H9.out⟩, ⟨by rw [pokes_length]; exact HS3.out⟩, FZ⟩, ?_⟩
                              clear ew
                              first | (rw [ej]; clear ej; simp [intOf]; omega) | (clear ej; simp [intOf]; omega)
                            case pos =>
                              have e1 : (r.f1 == (2 : Int)) = true := by simp [h1]
                              have H1 := Aside0.mk h1
                              clear h1
                              have hf3 : -2147483648 ≤ r.f3 ∧ r.f3 ≤ 2147483647 := HIN.out.2.2.2
                              have hsb2 := HSB.out
                              by_cases h2 : 1048576 + 8 * s.f2 + r.f3 < 0
                              case pos =>
                                have hrn : res = linkE 7 := by
                                  rw [FR2.out, HFN.out, if_pos ⟨H1.out, .inl (by rw [HN.out, if_pos H1.out]; exact h2)⟩]
                                  rfl
                                go_wp2_with (first
                                  | (go_at_call 30; (with_reducible refine (FIND.out _ _ _ (Kd.R_reads' (Kd.R_alloc HK3.out.rs _)).2.2 (Kd.R_reads' HK3.out.rs).2.1).mono ?_); rintro e w8 ⟨rfl, hb⟩; have H8 := Aside0.mk (Rk.next (HK3.out.alloc _) hb); have BQ8 := Aside0.mk (blk_below (blk_new wr (.cells #[.int .i64 r.f0, .int .i64 r.f1, .string r.f2, .int .i64 r.f3] 45)) hb); clear k5_0 k5_1 k5_2 l5 hy0 hy1 hy2 hy3; have k5_0 : w8.cell? ⟨b5, 0, none⟩ = some (.string C) := (blk_cell H8.out.im 0).trans rfl; have k5_1 : w8.cell? ⟨b5, 1, none⟩ = some (.slice Ad D.length cd) := (blk_cell H8.out.im 1).trans rfl; have k5_2 : w8.cell? ⟨b5, 2, none⟩ = some (.slice As SS.length cs) := (blk_cell H8.out.im 2).trans rfl; have l5 := blk_lt H8.out.im; have kq0 : w8.cell? ⟨wr.heap.size, 0, none⟩ = some (.int .i64 r.f0) := (blk_cell BQ8.out 0).trans rfl; have kq1 : w8.cell? ⟨wr.heap.size, 1, none⟩ = some (.int .i64 r.f1) := (blk_cell BQ8.out 1).trans rfl; have kq2 : w8.cell? ⟨wr.heap.size, 2, none⟩ = some (.string r.f2) := (blk_cell BQ8.out 2).trans rfl; have kq3 : w8.cell? ⟨wr.heap.size, 3, none⟩ = some (.int .i64 r.f3) := (blk_cell BQ8.out 3).trans rfl; have lq := blk_lt BQ8.out; have kr0 : w8.cell? ⟨w.heap.size, 0, none⟩ = some (.string ⟨#[]⟩) := (blk_cell H8.out.res 0).trans rfl; have kr1 : w8.cell? ⟨w.heap.size, 1, none⟩ = some (.slice none 0 0) := (blk_cell H8.out.res 1).trans rfl; have kr2 : w8.cell? ⟨w.heap.size, 2, none⟩ = some (.slice none 0 0) := (blk_cell H8.out.res 2).trans rfl; have fr0 := blk_frozen H8.out.res 0; have fr1 := blk_frozen H8.out.res 1; have fr2 := blk_frozen H8.out.res 2; have l2 := blk_lt H8.out.res; clear hb))
                                try rw [hrn]
                                exact rbad0 (blk_alloc (blk_put (blk_put (blk_put H8.out.res 0 _ rfl) 1 _ rfl) 2 _ rfl) _) (below_alloc (((H8.out.below.setCell (Nat.le_refl _) _).setCell (Nat.le_refl _) _).setCell (Nat.le_refl _) _) _) 7 _ rfl rfl rfl
                              case neg =>
                                by_cases h3 : 2147483647 < 1048576 + 8 * s.f2 + r.f3
                                case pos =>
                                  have BY := Aside0.mk (fun W => bytesr_no (n := 1048576 + 8 * s.f2 + r.f3) h3 (by clear ew; omega) W)
                                  have hrn : res = linkE 7 := by
                                    rw [FR2.out, HFN.out, if_pos ⟨H1.out, .inr (by rw [HN.out, if_pos H1.out]; exact h3)⟩]
                                    rfl
                                  go_wp2_with (first
                                    | (go_at_call 30; (with_reducible refine (FIND.out _ _ _ (Kd.R_reads' (Kd.R_alloc HK3.out.rs _)).2.2 (Kd.R_reads' HK3.out.rs).2.1).mono ?_); rintro e w8 ⟨rfl, hb⟩; have H8 := Aside0.mk (Rk.next (HK3.out.alloc _) hb); have BQ8 := Aside0.mk (blk_below (blk_new wr (.cells #[.int .i64 r.f0, .int .i64 r.f1, .string r.f2, .int .i64 r.f3] 45)) hb); clear k5_0 k5_1 k5_2 l5 hy0 hy1 hy2 hy3; have k5_0 : w8.cell? ⟨b5, 0, none⟩ = some (.string C) := (blk_cell H8.out.im 0).trans rfl; have k5_1 : w8.cell? ⟨b5, 1, none⟩ = some (.slice Ad D.length cd) := (blk_cell H8.out.im 1).trans rfl; have k5_2 : w8.cell? ⟨b5, 2, none⟩ = some (.slice As SS.length cs) := (blk_cell H8.out.im 2).trans rfl; have l5 := blk_lt H8.out.im; have kq0 : w8.cell? ⟨wr.heap.size, 0, none⟩ = some (.int .i64 r.f0) := (blk_cell BQ8.out 0).trans rfl; have kq1 : w8.cell? ⟨wr.heap.size, 1, none⟩ = some (.int .i64 r.f1) := (blk_cell BQ8.out 1).trans rfl; have kq2 : w8.cell? ⟨wr.heap.size, 2, none⟩ = some (.string r.f2) := (blk_cell BQ8.out 2).trans rfl; have kq3 : w8.cell? ⟨wr.heap.size, 3, none⟩ = some (.int .i64 r.f3) := (blk_cell BQ8.out 3).trans rfl; have lq := blk_lt BQ8.out; have kr0 : w8.cell? ⟨w.heap.size, 0, none⟩ = some (.string ⟨#[]⟩) := (blk_cell H8.out.res 0).trans rfl; have kr1 : w8.cell? ⟨w.heap.size, 1, none⟩ = some (.slice none 0 0) := (blk_cell H8.out.res 1).trans rfl; have kr2 : w8.cell? ⟨w.heap.size, 2, none⟩ = some (.slice none 0 0) := (blk_cell H8.out.res 2).trans rfl; have fr0 := blk_frozen H8.out.res 0; have fr1 := blk_frozen H8.out.res 1; have fr2 := blk_frozen H8.out.res 2; have l2 := blk_lt H8.out.res; clear hb)
                                    | (go_at_call 31; (with_reducible refine (BY.out _).mono ?_); rintro e w9 ⟨rfl, hb⟩; have H9 := Aside0.mk (Rk.next (H8.out.alloc _) hb); clear k5_0 k5_1 k5_2 l5 kq0 kq1 kq2 kq3 lq kr0 kr1 kr2 fr0 fr1 fr2 l2; have kr0 : w9.cell? ⟨w.heap.size, 0, none⟩ = some (.string ⟨#[]⟩) := (blk_cell H9.out.res 0).trans rfl; have kr1 : w9.cell? ⟨w.heap.size, 1, none⟩ = some (.slice none 0 0) := (blk_cell H9.out.res 1).trans rfl; have kr2 : w9.cell? ⟨w.heap.size, 2, none⟩ = some (.slice none 0 0) := (blk_cell H9.out.res 2).trans rfl; have fr0 := blk_frozen H9.out.res 0; have fr1 := blk_frozen H9.out.res 1; have fr2 := blk_frozen H9.out.res 2; have l2 := blk_lt H9.out.res; clear hb))
                                  try rw [hrn]
                                  exact rbad H9.out.res H9.out.below 7 _ rfl rfl rfl
                                case neg =>
                                  have BY := Aside0.mk (fun W => bytesr_yes (n := 1048576 + 8 * s.f2 + r.f3) (by clear ew; omega) (by clear ew; omega) W)
                                  have hff : fillF SS cx at_ r = some (pokes cx at_ (leL (1048576 + 8 * s.f2 + r.f3) 4)) := by
                                    rw [HFN.out, HN.out, if_pos H1.out, if_neg (by clear ew; omega)]
                                  have FZ := Aside0.mk (show res = fin D SS (fillAll SS (pokes cx at_ (leL (1048576 + 8 * s.f2 + r.f3) 4)) (((o.f3.drop (j + 1)).map fun r => (p + r.f0.toNat, r)) ++ relsAt (p + o.f0.size) (l0.drop (k + 1)))) by rw [FR2.out, hff]; rfl)
                                  clear hff FR2 HFN HN
                                  go_wp2_with (first
                                    | (go_at_call 30; (with_reducible refine (FIND.out _ _ _ (Kd.R_reads' (Kd.R_alloc HK3.out.rs _)).2.2 (Kd.R_reads' HK3.out.rs).2.1).mono ?_); rintro e w8 ⟨rfl, hb⟩; have H8 := Aside0.mk (Rk.next (HK3.out.alloc _) hb); have BQ8 := Aside0.mk (blk_below (blk_new wr (.cells #[.int .i64 r.f0, .int .i64 r.f1, .string r.f2, .int .i64 r.f3] 45)) hb); clear k5_0 k5_1 k5_2 l5 hy0 hy1 hy2 hy3; have k5_0 : w8.cell? ⟨b5, 0, none⟩ = some (.string C) := (blk_cell H8.out.im 0).trans rfl; have k5_1 : w8.cell? ⟨b5, 1, none⟩ = some (.slice Ad D.length cd) := (blk_cell H8.out.im 1).trans rfl; have k5_2 : w8.cell? ⟨b5, 2, none⟩ = some (.slice As SS.length cs) := (blk_cell H8.out.im 2).trans rfl; have l5 := blk_lt H8.out.im; have kq0 : w8.cell? ⟨wr.heap.size, 0, none⟩ = some (.int .i64 r.f0) := (blk_cell BQ8.out 0).trans rfl; have kq1 : w8.cell? ⟨wr.heap.size, 1, none⟩ = some (.int .i64 r.f1) := (blk_cell BQ8.out 1).trans rfl; have kq2 : w8.cell? ⟨wr.heap.size, 2, none⟩ = some (.string r.f2) := (blk_cell BQ8.out 2).trans rfl; have kq3 : w8.cell? ⟨wr.heap.size, 3, none⟩ = some (.int .i64 r.f3) := (blk_cell BQ8.out 3).trans rfl; have lq := blk_lt BQ8.out; have kr0 : w8.cell? ⟨w.heap.size, 0, none⟩ = some (.string ⟨#[]⟩) := (blk_cell H8.out.res 0).trans rfl; have kr1 : w8.cell? ⟨w.heap.size, 1, none⟩ = some (.slice none 0 0) := (blk_cell H8.out.res 1).trans rfl; have kr2 : w8.cell? ⟨w.heap.size, 2, none⟩ = some (.slice none 0 0) := (blk_cell H8.out.res 2).trans rfl; have fr0 := blk_frozen H8.out.res 0; have fr1 := blk_frozen H8.out.res 1; have fr2 := blk_frozen H8.out.res 2; have l2 := blk_lt H8.out.res; clear hb)
                                    | (go_at_call 31; (with_reducible refine (BY.out _).mono ?_); rintro e w9 ⟨rfl, hb⟩; have H9 := Aside0.mk (Rk.next (H8.out.alloc _) hb); clear k5_0 k5_1 k5_2 l5 kq0 kq1 kq2 kq3 lq kr0 kr1 kr2 fr0 fr1 fr2 l2; have kr0 : w9.cell? ⟨w.heap.size, 0, none⟩ = some (.string ⟨#[]⟩) := (blk_cell H9.out.res 0).trans rfl; have kr1 : w9.cell? ⟨w.heap.size, 1, none⟩ = some (.slice none 0 0) := (blk_cell H9.out.res 1).trans rfl; have kr2 : w9.cell? ⟨w.heap.size, 2, none⟩ = some (.slice none 0 0) := (blk_cell H9.out.res 2).trans rfl; have fr0 := blk_frozen H9.out.res 0; have fr1 := blk_frozen H9.out.res 1; have fr2 := blk_frozen H9.out.res 2; have l2 := blk_lt H9.out.res; have hcp := fun dc ty => Rk.copy_run (at_ := at_) H9.out.code (leL (1048576 + 8 * s.f2 + r.f3) 4) (leL_bs _ _) (by rw [leL_len]; have := HS3.out; omega) dc ty; rw [leL_len] at hcp; clear hb))
                                  have ej : wrap64 ((j : Int) + 1) = ((j + 1 : Nat) : Int) := by have := G3.out.2.1; clear ew; rw [wrap64_id (by omega) (by omega)]; omega
                                  refine ⟨⟨j + 1, _, by clear ew ej; omega, by first | rfl | rw [ej], ⟨Rk.pokes rfl (leL (1048576 + 8 * s.f2 + r.f3) 4) at_ _ _ H9.out⟩, ⟨by rw [pokes_length]; exact HS3.out⟩, FZ⟩, ?_⟩
                                  clear ew
                                  first | (rw [ej]; clear ej; simp [intOf]; omega) | (clear ej; simp [intOf]; omega)
                          case neg =>
                            obtain rfl : j = o.f3.length := by omega
                            rw [List.drop_length, List.map_nil, List.nil_append] at HF3
                            have ew : wrap64 ((p : Int) + (o.f0.size : Int)) = ((p + o.f0.size : Nat) : Int) := by have := HLO.out; rw [wrap64_id (by omega) (by omega)]; omega
                            go_wp2
                            refine ⟨⟨k + 1, p + o.f0.size, cx, by omega, by first | rfl | go_num, by first | rfl | go_num, HK3, HF3, ⟨HS3.out, by have := SO.out; clear ew; omega⟩⟩, ?_⟩
                            simp [intOf]
                            omega
                      case neg =>
                        obtain rfl : k = l0.length := by omega
                        rw [List.drop_length] at HF
                        have hrs : res = ((strOfNums c, D, SS), 0) := HF.out
                        have hsc := OwnB.string (P := Try.prog) (src := 57) (dst := 9) Try.underlying57 Try.underlying5 Try.underlying9 HK.out.code
                        have k5_0 : wr.cell? ⟨b5, 0, none⟩ = some (.string C) := (blk_cell HK.out.im 0).trans rfl
                        have k5_1 : wr.cell? ⟨b5, 1, none⟩ = some (.slice Ad D.length cd) := (blk_cell HK.out.im 1).trans rfl
                        have k5_2 : wr.cell? ⟨b5, 2, none⟩ = some (.slice As SS.length cs) := (blk_cell HK.out.im 2).trans rfl
                        have l5 := blk_lt HK.out.im
                        have kr0 : wr.cell? ⟨w.heap.size, 0, none⟩ = some (.string ⟨#[]⟩) := (blk_cell HK.out.res 0).trans rfl
                        have kr1 : wr.cell? ⟨w.heap.size, 1, none⟩ = some (.slice none 0 0) := (blk_cell HK.out.res 1).trans rfl
                        have kr2 : wr.cell? ⟨w.heap.size, 2, none⟩ = some (.slice none 0 0) := (blk_cell HK.out.res 2).trans rfl
                        have fr0 := blk_frozen HK.out.res 0
                        have fr1 := blk_frozen HK.out.res 1
                        have fr2 := blk_frozen HK.out.res 2
                        have l2 := blk_lt HK.out.res
                        have f5_0 := blk_frozen HK.out.im 0
                        have hne := HK.out.ne
                        have hdd : ∀ v : Value, (wr.setCell ⟨b5, 0, none⟩ v).cell? ⟨b5, 0, none⟩ = some v := fun v => World.cell?_setCell_same _ _ _ k5_0
                        go_wp2
                        try rw [hrs]
                        have I1 := blk_put HK.out.im 0 (.string (strOfNums c)) rfl
                        have B0 := blk_far HK.out.res (p := ⟨b5, 0, none⟩) hne (.string (strOfNums c))
                        have B1 := blk_put B0 0 (.string (strOfNums c)) rfl
                        have B2 := blk_put B1 1 (.slice Ad D.length cd) rfl
                        have B3 := blk_put B2 2 (.slice As SS.length cs) rfl
                        refine bodyPost_ret (results_ct rfl _ _ w.heap.size 29 #[.string (strOfNums c), .slice Ad D.length cd, .slice As SS.length cs] (0, 0) _ rfl B3 Try.underlying29 rfl (by kernel_rfl)) rfl ?_
                        exact ⟨_, _, rfl, Kd.R_set (Kd.R_set (Kd.R_set (Kd.R_set HK.out.rd HK.out.im (fun q hq => by rw [mem_one rfl hq]; decide) 0 _) B0 (fun q hq => by rw [mem_one rfl hq]; decide) 0 _) B1 (fun q hq => by rw [mem_one rfl hq]; decide) 1 _) B2 (fun q hq => by rw [mem_one rfl hq]; decide) 2 _,
                          Kd.R_set (Kd.R_set (Kd.R_set (Kd.R_set HK.out.rs HK.out.im (fun q hq => by rw [mem_one rfl hq]; decide) 0 _) B0 (fun q hq => by rw [mem_one rfl hq]; decide) 0 _) B1 (fun q hq => by rw [mem_one rfl hq]; decide) 1 _) B2 (fun q hq => by rw [mem_one rfl hq]; decide) 2 _,
                          (((HK.out.below.setCell HK.out.ge5 _).setCell (Nat.le_refl _) _).setCell (Nat.le_refl _) _).setCell (Nat.le_refl _) _⟩
/-- What it answers, as a printed text asks for it. -/
def cotterref07_Link.f (l0 : List S40) : Option (ByteArray × List Int × List S36 × Int) := some ((linkF l0).1.1, (linkF l0).1.2.1, (linkF l0).1.2.2, (linkF l0).2)
theorem cotterref07_Link.calls (A0 : Option Addr) (c0 : Nat) (l0 : List S40) (r1 : ByteArray) (r2 : List Int) (r3 : List S36) (r4 : Int) (w : World) (hr0 : Kd.C k40 w A0 l0.length l0) (hc0 : l0.length ≤ c0) (h : cotterref07_Link.f l0 = some (r1, r2, r3, r4)) :
    Calls Try.prog 13 #[.slice A0 l0.length c0] w fun e w' => ∃ v1_ v2_ : Value, e = .returned (.tuple #[.agg #[.string r1, v1_, v2_], .int .i64 r4]) ∧ Kd.R (Kd.int .i64) 2 w' w.heap.size (fun _ => True) v1_ r2 ∧ Kd.R k36 36 w' w.heap.size (fun _ => True) v2_ r3 ∧ Below w.heap.size w w' := by
  unfold cotterref07_Link.f at h
  simp only [Option.some.injEq, Prod.mk.injEq] at h
  obtain ⟨rfl, rfl, rfl, rfl⟩ := h
  exact ref_c hr0 hc0
end Go.Proofs.Yteaealmnmmcbpaa.M

