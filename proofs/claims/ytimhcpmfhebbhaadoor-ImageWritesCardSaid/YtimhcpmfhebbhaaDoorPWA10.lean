/-
  Texts of the proofs of ImageWrites, cut to what the proofs reach and packed by a program of this session (wip/packs.py). Each part begins with what it says; conditions: those told there.
-/
import Derived.Laws.Strings
import Derived.Test.YtimhcpmfhebbhaaDoorPWA9
namespace Go.Proofs.YtimhcpmfhebbhaaDoor.Obj
set_option maxRecDepth 100000
open Go.RowKit Go.Proofs.YtimhcpmfhebbhaaDoor.M Go.Proofs.YtimhcpmfhebbhaaDoor.Num Go.Proofs.YtimhcpmfhebbhaaDoorW.PrintWords Go.Proofs.YtimhcpmfhebbhaaDoorW.PrintLast
theorem named_f (s : ByteArray) : cotterref06_named.f s = some (decide (named s)) := by
 unfold cotterref06_named.f
 by_cases h : (s.size : Int) ≥ 1
 ·rw [if_pos h]
  congr 1
  exact decide_eq_decide.mpr ⟨fun h' => ⟨by omega, by omega⟩, fun h' => by have := h'.2; omega⟩
 ·rw [if_neg h]
  congr 1
  exact (decide_eq_false (fun h' : named s => h (by have := h'.1; omega))).symm
theorem rd_SS (l : List S68) (i : Nat) (h : i < l.length) : rd_T68 l (i : Int) = l[i] := by
 simp [rd_T68, List.getD_eq_getElem?_getD, List.getElem?_eq_getElem h]
theorem distinct_le (xs : List (List UInt8)) : M.distinct xs ≤ xs.length := by
 induction xs with
 | nil => exact Nat.le_refl _
 | cons s r ih =>
  rw [distinct_cons, List.length_cons]
  split <;> omega
theorem symNames_len (l : List S68) : (symNames l).length = l.length := by simp [symNames]
theorem symNames_mem (l : List S68) (n : List UInt8) : n ∈ symNames l ↔ ∃ s ∈ l, s.f0.data.toList = n := by simp [symNames]
set_option linter.unusedSimpArgs false
set_option linter.unusedVariables false
/-- Is a name among the first ones? -/
def seen (l : List S68) (i : Nat) (n : List UInt8) : Prop := ∃ (j : Nat) (_ : j < i) (h : j < l.length), l[j].f0.data.toList = n
theorem seen_mem (l : List S68) (i : Nat) (n : List UInt8) : seen l i n ↔ n ∈ symNames (l.take i) := by
 rw [symNames_mem]
 constructor
 ·rintro ⟨j, hj, h, e⟩
  exact ⟨l[j], by rw [List.mem_take_iff_getElem]; exact ⟨j, by omega, rfl⟩, e⟩
 ·rintro ⟨s, hs, e⟩
  rw [List.mem_take_iff_getElem] at hs
  obtain ⟨j, hj, rfl⟩ := hs
  exact ⟨j, by omega, by omega, e⟩
theorem distinct_take (l : List S68) : ∀ n, n ≤ l.length → (M.distinct (symNames (l.take n)) = n ↔ ∀ (j : Nat) (h : j < l.length), j < n → ¬ seen l j l[j].f0.data.toList) := by
 intro n
 induction n with
 | zero => intro _; simp [symNames, M.distinct]
 | succ n ih =>
  intro hn
  have hlt : n < l.length := by omega
  have e : symNames (l.take (n + 1)) = l[n].f0.data.toList :: symNames (l.take n) := by
   rw [symNames_snoc l n hlt]
   simp [List.getD_eq_getElem?_getD, List.getElem?_eq_getElem hlt]
  have hle := distinct_le (symNames (l.take n))
  rw [symNames_len, z9b] at hle
  rw [e, distinct_cons]
  have ih := ih (by omega)
  constructor
  ·intro h j hj hjn
   by_cases hm : l[n].f0.data.toList ∈ symNames (l.take n)
   ·rw [if_pos hm] at h; omega
   ·rw [if_neg hm] at h
    by_cases hjj : j = n
    ·subst hjj
     rwa [seen_mem]
    ·exact ih.1 (by omega) j hj (by omega)
  ·intro h
   have h1 : M.distinct (symNames (l.take n)) = n := ih.2 (fun j hj hjn => h j hj (by omega))
   have h2 := h n hlt (by omega)
   rw [seen_mem] at h2
   rw [if_neg h2, h1]
open Classical in
theorem syms_l1 (l : List S68) (a b : Int) (hm : l.length ≤ 9223372036854775807) (i : Nat) (hi : i < l.length) (n : ByteArray) (x y : Int) : ∀ (e m k : Nat), i - m = e → m ≤ i → e < k →
 cotterref06_Syms.l1 k l a b (i : Int) (m : Int) n x y = if (∃ (j : Nat) (_ : m ≤ j) (_ : j < i) (h : j < l.length), l[j].f0.data.toList = n.data.toList) then some false else cotterref06_Syms.l0 (k - e - 1) l a b ((i + 1 : Nat) : Int) := by
 intro e
 induction e with
 | zero =>
  intro m k he hmi hk
  obtain ⟨k, rfl⟩ : ∃ q, k = q + 1 := ⟨k - 1, by omega⟩
  obtain rfl : m = i := by omega
  simp only [cotterref06_Syms.l1]
  rw [if_neg (by omega), if_neg (by rintro ⟨j, h1, h2, _⟩; omega)]
  have hw : wrap64 ((m : Int) + 1) = ((m + 1 : Nat) : Int) := by unfold wrap64; omega
  rw [hw]
  simp
 | succ e ih =>
  intro m k he hmi hk
  obtain ⟨k, rfl⟩ : ∃ q, k = q + 1 := ⟨k - 1, by omega⟩
  have hlt : m < l.length := by omega
  have hw : wrap64 ((m : Int) + 1) = ((m + 1 : Nat) : Int) := by unfold wrap64; omega
  simp only [cotterref06_Syms.l1]
  rw [if_pos (by omega), if_pos (by omega), if_pos (by omega), rd_SS l m hlt, ByteArray.toList_eq, ByteArray.toList_eq]
  by_cases hc : l[m].f0.data.toList = n.data.toList
  ·rw [if_pos hc, if_pos ⟨m, Nat.le_refl _, by omega, hlt, hc⟩]
  ·rw [if_neg hc, hw, ih (m + 1) k (by omega) (by omega) (by omega)]
   have e1 : (∃ (j : Nat) (_ : m + 1 ≤ j) (_ : j < i) (h : j < l.length), l[j].f0.data.toList = n.data.toList) ↔ (∃ (j : Nat) (_ : m ≤ j) (_ : j < i) (h : j < l.length), l[j].f0.data.toList = n.data.toList) := by
    constructor
    ·rintro ⟨j, h1, h2, h3, h4⟩
     exact ⟨j, by omega, h2, h3, h4⟩
    ·rintro ⟨j, h1, h2, h3, h4⟩
     by_cases hjm : j = m
     ·subst hjm; exact absurd h4 hc
     ·exact ⟨j, by omega, h2, h3, h4⟩
   simp only [e1]
   rw [show k + 1 - (e + 1) - 1 = k - e - 1 by omega]
/-- What is left of the document's test from the i-th symbol on. -/
def Rest (l : List S68) (a b : Int) (i : Nat) : Prop := ∀ (j : Nat) (h : j < l.length), i ≤ j → symGood a b l[j] = true ∧ ¬ seen l j l[j].f0.data.toList
theorem syms_l0 (l : List S68) (a b : Int) (hm : l.length ≤ 9223372036854775807) : ∀ (d k i : Nat), l.length - i = d → i ≤ l.length → d * (l.length + 4) < k → ∃ r, cotterref06_Syms.l0 k l a b (i : Int) = some r ∧ (r = true ↔ Rest l a b i) := by
 intro d
 induction d with
 | zero =>
  intro k i hd hi hk
  obtain ⟨k, rfl⟩ : ∃ q, k = q + 1 := ⟨k - 1, by omega⟩
  refine ⟨true, ?_, ?_⟩
  ·simp only [cotterref06_Syms.l0]
   rw [if_neg (by omega)]
  ·simp only [true_iff]
   intro j hj hij
   omega
 | succ d ih =>
  intro k i hd hi hk
  rw [Nat.succ_mul] at hk
  obtain ⟨k, rfl⟩ : ∃ q, k = q + 2 := ⟨k - 2, by omega⟩
  have hlt : i < l.length := by omega
  have bad : symGood a b l[i] = false → (false = true ↔ Rest l a b i) := fun h => by
   constructor
   ·intro h'; cases h'
   ·intro h'
    have := (h' i hlt (Nat.le_refl _)).1
    rw [h] at this
    cases this
  have good : symGood a b l[i] = true → ∃ r, cotterref06_Syms.l1 k l a b (i : Int) 0 l[i].f0 l[i].f1 l[i].f2 = some r ∧ (r = true ↔ Rest l a b i) := fun h => by
   have := syms_l1 l a b hm i hlt l[i].f0 l[i].f1 l[i].f2 i 0 k (by omega) (by omega) (by omega)
   rw [Int.natCast_zero] at this
   rw [this]
   by_cases hc : ∃ (j : Nat) (_ : 0 ≤ j) (_ : j < i) (h : j < l.length), l[j].f0.data.toList = l[i].f0.data.toList
   ·rw [if_pos hc]
    refine ⟨false, rfl, ?_⟩
    constructor
    ·intro h'; cases h'
    ·intro h'
     obtain ⟨j, _, h2, h3, h4⟩ := hc
     exact absurd ⟨j, h2, h3, h4⟩ (h' i hlt (Nat.le_refl _)).2
   ·rw [if_neg hc]
    obtain ⟨r, hr, hrr⟩ := ih (k - i - 1) (i + 1) (by omega) (by omega) (by omega)
    refine ⟨r, hr, hrr.trans ?_⟩
    constructor
    ·intro h' j hj hij
     by_cases hji : j = i
     ·subst hji
      exact ⟨h, fun ⟨q, h2, h3, h4⟩ => hc ⟨q, Nat.zero_le _, h2, h3, h4⟩⟩
     ·exact h' j hj (by omega)
    ·intro h' j hj hij
     exact h' j hj (by omega)
  simp only [cotterref06_Syms.l0]
  rw [if_pos (by omega), if_pos (by omega), rd_SS l i hlt]
  generalize l[i] = s at bad good
  obtain ⟨f0, f1, f2⟩ := s
  simp only [named_f, Option.bind_some]
  dsimp only at good bad
  have jt : ∀ n x y, cotterref06_Syms.j1 (k + 1) l a b (i : Int) true n x y = some false := fun n x y => by simp [cotterref06_Syms.j1]
  have jf : ∀ n x y, cotterref06_Syms.j1 (k + 1) l a b (i : Int) false n x y = cotterref06_Syms.l1 k l a b (i : Int) 0 n x y := fun n x y => by simp [cotterref06_Syms.j1]
  have hg : symGood a b ⟨f0, f1, f2⟩ = (decide (f1 = 1 ∨ f1 = 2 ∨ f1 = 3) && decide (named f0) && decide (0 ≤ f2) && decide (f2 < (if f1 = 2 then b else a))) := rfl
  by_cases hn : named f0
  ·rw [if_pos (by simpa using hn)]
   by_cases c1 : f1 < 1
   ·rw [if_pos c1, jt]; exact ⟨_, rfl, bad (by rw [hg]; simp [show ¬ (f1 = 1 ∨ f1 = 2 ∨ f1 = 3) by omega])⟩
   rw [if_neg c1]
   by_cases c2 : f1 > 3
   ·rw [if_pos c2, jt]; exact ⟨_, rfl, bad (by rw [hg]; simp [show ¬ (f1 = 1 ∨ f1 = 2 ∨ f1 = 3) by omega])⟩
   rw [if_neg c2]
   by_cases c3 : f2 < 0
   ·rw [if_pos c3, jt]; exact ⟨_, rfl, bad (by rw [hg]; simp [show ¬ (0 ≤ f2) by omega])⟩
   rw [if_neg c3]
   have k0 : (f1 = 1 ∨ f1 = 2 ∨ f1 = 3) := by omega
   have k1 : 0 ≤ f2 := by omega
   by_cases c4 : f1 = 2
   ·rw [if_pos c4]
    by_cases c5 : f2 ≥ b
    ·rw [if_pos c5, jt]; exact ⟨_, rfl, bad (by rw [hg]; subst c4; simp [show ¬ (f2 < b) by omega])⟩
    ·rw [if_neg c5, jf]; exact good (by rw [hg]; subst c4; simp [hn, k1, show f2 < b by omega])
   ·rw [if_neg c4]
    by_cases c5 : f2 ≥ a
    ·rw [decide_eq_true c5, jt]; exact ⟨_, rfl, bad (by rw [hg]; simp [c4, show ¬ (f2 < a) by omega])⟩
    ·rw [decide_eq_false c5, jf]; exact good (by rw [hg]; simp [hn, k1, c4, show f2 < a by omega]; omega)
  ·rw [if_neg (by simpa using hn), jt]
   exact ⟨_, rfl, bad (by rw [hg]; simp [hn])⟩
theorem syms_f (l : List S68) (a b : Nat) (k : Nat) (hk : 1000 * 1004 < k) : cotterref06_Syms.f k l (a : Int) (b : Int) = some (symsOk a b l) := by
 unfold cotterref06_Syms.f
 by_cases c : (l.length : Int) > 1000
 ·rw [if_pos c]
  unfold symsOk
  simp [show ¬ l.length ≤ 1000 by omega]
 ·rw [if_neg c]
  have hle : l.length * (l.length + 4) ≤ 1000 * 1004 := Nat.mul_le_mul (by omega) (by omega)
  obtain ⟨r, hr, hrr⟩ := syms_l0 l (a : Int) (b : Int) (by omega) l.length k 0 (by omega) (by omega) (by omega)
  rw [Int.natCast_zero] at hr
  rw [hr]
  congr 1
  rw [Bool.eq_iff_iff, hrr]
  unfold symsOk
  simp only [Bool.and_eq_true, decide_eq_true_eq, List.all_eq_true]
  have hd := distinct_take l l.length (Nat.le_refl _)
  rw [List.take_length] at hd
  rw [hd]
  constructor
  ·intro h
   refine ⟨⟨fun s hs => ?_, fun j hj _ => (h j hj (Nat.zero_le _)).2⟩, by omega⟩
   obtain ⟨j, hj, rfl⟩ := List.mem_iff_getElem.1 hs
   exact (h j hj (Nat.zero_le _)).1
  ·rintro ⟨⟨h1, h2⟩, _⟩ j hj _
   exact ⟨h1 _ (List.getElem_mem hj), h2 j hj hj⟩
end Go.Proofs.YtimhcpmfhebbhaaDoor.Obj
namespace Go.Proofs.YtimhcpmfhebbhaaDoor.Obj
set_option maxRecDepth 100000
open Go.RowKit Go.Proofs.YtimhcpmfhebbhaaDoor.M Go.Proofs.YtimhcpmfhebbhaaDoor.Num Go.Proofs.YtimhcpmfhebbhaaDoor.Ins Go.Proofs.YtimhcpmfhebbhaaDoor.Seven Go.Proofs.YtimhcpmfhebbhaaDoorW.PrintWords Go.Proofs.YtimhcpmfhebbhaaDoorW.PrintLast
set_option linter.unusedVariables false
set_option linter.unusedSimpArgs false
def isThread (s : S68) : Bool := decide (s.f1 = 3)
def threadsOf (y : List S68) : List ByteArray := (y.filter isThread).map (·.f0)
theorem threads_cons (s : S68) (y : List S68) : threadsOf (s :: y) = (if s.f1 = 3 then [s.f0] else []) ++ threadsOf y := by
 unfold threadsOf isThread
 by_cases h : s.f1 = 3 <;> simp [h]
theorem ithreads_l0 (y : List S68) (hm : y.length ≤ 4000000000000) : ∀ (d k i : Nat) (acc : List ByteArray), y.length - i = d → i ≤ y.length → acc.length ≤ i → d < k → image_Threads.l0 k acc y (y.length : Int) (i : Int) = some (acc ++ threadsOf (y.drop i))
 | 0, 0, i, acc, hd, hi, ha, hk => by omega
 | 0, k + 1, i, acc, hd, hi, ha, hk => by
  simp only [image_Threads.l0]
  rw [if_neg (by omega), List.drop_eq_nil_of_le (by omega)]
  simp [threadsOf]
 | d + 1, 0, i, acc, hd, hi, ha, hk => by omega
 | d + 1, k + 1, i, acc, hd, hi, ha, hk => by
  have hlt : i < y.length := by omega
  have e1 : wrap64 ((i : Int) + 1) = ((i + 1 : Nat) : Int) := by rw [wrap64_id (by omega) (by omega)]; omega
  simp only [image_Threads.l0]
  rw [if_pos (by omega), if_pos (by omega), if_pos (by omega), rd_SS y i hlt, e1, List.drop_eq_getElem_cons hlt, threads_cons]
  by_cases h : y[i].f1 = 3
  ·rw [if_pos h, if_pos h, if_pos (by omega), ithreads_l0 y hm d k (i + 1) _ (by omega) (by omega) (by simp; omega) (by omega)]
   simp
  ·rw [if_neg h, if_neg h, ithreads_l0 y hm d k (i + 1) _ (by omega) (by omega) (by omega) (by omega)]
   simp
theorem ithreads_f (s : ByteArray) (d : List Int) (y : List S68) (hm : y.length ≤ 4000000000000) (k : Nat) (hk : y.length < k) : image_Threads.f k s d y = some (threadsOf y) := by
 unfold image_Threads.f
 have := ithreads_l0 y hm y.length k 0 [] (by omega) (by omega) (by simp) hk
 simpa using this
theorem rthreads_l0 (s : ByteArray) (dt : List Int) (y : List S68) (hm : y.length ≤ 4000000000000) : ∀ (d k i : Nat) (acc : List ByteArray), y.length - i = d → i ≤ y.length → acc.length ≤ i → d < k → cotterref08_Threads.l0 k acc (i : Int) s dt y = some (acc ++ threadsOf (y.drop i))
 | 0, 0, i, acc, hd, hi, ha, hk => by omega
 | 0, k + 1, i, acc, hd, hi, ha, hk => by
  simp only [cotterref08_Threads.l0]
  rw [if_neg (by omega), List.drop_eq_nil_of_le (by omega)]
  simp [threadsOf]
 | d + 1, 0, i, acc, hd, hi, ha, hk => by omega
 | d + 1, k + 1, i, acc, hd, hi, ha, hk => by
  have hlt : i < y.length := by omega
  have e1 : wrap64 ((i : Int) + 1) = ((i + 1 : Nat) : Int) := by rw [wrap64_id (by omega) (by omega)]; omega
  simp only [cotterref08_Threads.l0]
  rw [if_pos (by omega), if_pos (by omega), rd_SS y i hlt, e1, List.drop_eq_getElem_cons hlt, threads_cons]
  by_cases h : y[i].f1 = 3
  ·rw [if_pos h, if_pos h, if_pos (by omega), rthreads_l0 s dt y hm d k (i + 1) _ (by omega) (by omega) (by simp; omega) (by omega)]
   simp
  ·rw [if_neg h, if_neg h, rthreads_l0 s dt y hm d k (i + 1) _ (by omega) (by omega) (by omega) (by omega)]
   simp
theorem rthreads_f (s : ByteArray) (d : List Int) (y : List S68) (hm : y.length ≤ 4000000000000) (k : Nat) (hk : y.length < k) : cotterref08_Threads.f k s d y = some (threadsOf y) := by
 unfold cotterref08_Threads.f
 have := rthreads_l0 s d y hm y.length k 0 [] (by omega) (by omega) (by simp) hk
 simpa using this
/-- The instructions of a code, if it is one. -/
def insOf (s : ByteArray) : Option (List S79) := (ins_All.f (s.size + 1000) s).bind fun r => if r.2 = 0 then some r.1 else none
theorem code_cases (s : ByteArray) (hs : s.size ≤ 1048576) :
 (∃ is : List S79, bytesOf s = formsS is ∧ (∀ i ∈ is, OkS i) ∧ is.length ≤ s.size ∧ insOf s = some is ∧ ∀ k, s.size + 100 < k → ins_All.f k s = some (is, 0) ∧ cotterref03_All.f k s = some (is, 0)) ∨
  (insOf s = none ∧ ∀ k, s.size + 100 < k → ins_All.f k s = some ([], 9) ∧ cotterref03_All.f k s = some ([], 9)) := by
 have key : (∃ is : List S79, bytesOf s = formsS is ∧ (∀ i ∈ is, OkS i) ∧ is.length ≤ s.size ∧ ∀ k, s.size + 100 < k → ins_All.f k s = some (is, 0) ∧ cotterref03_All.f k s = some (is, 0)) ∨ (∀ k, s.size + 100 < k → ins_All.f k s = some ([], 9) ∧ cotterref03_All.f k s = some ([], 9)) := by
  have uq : ∀ k, s.size + 100 < k → ∃ js e, js.length ≤ s.size ∧ ins_All.f k s = some (js, e) ∧ cotterref03_All.f k s = some (js, e) := fun k hk => rall_same s hs k hk
  by_cases hx : ∃ is : List S79, bytesOf s = formsS is ∧ ∀ i ∈ is, OkS i
  ·obtain ⟨is, h1, h2⟩ := hx
   have hl : is.length ≤ s.size := by
    have h3 : ∀ (l : List S79), (∀ i ∈ l, OkS i) → l.length ≤ (formsS l).length := by
     intro l
     induction l with
     | nil => intro _; simp
     | cons a l ih => intro h; have := formS_pos (h a (by simp)); have := ih (fun i hi => h i (by simp [hi])); rw [formsS_cons, List.length_append, List.length_cons]; omega
    have := h3 is h2
    rw [← h1, bytesOf_length] at this
    exact this
   refine .inl ⟨is, h1, h2, hl, fun k hk => ?_⟩
   have e : s = strOfNums (formsS is) := by rw [← h1, str_bytesOf]
   have hz : (formsS is).length = s.size := by rw [← h1, bytesOf_length]
   have ha : ins_All.f k s = some (is, 0) := by
    have := all_forms is h2 (by omega) k (by omega)
    rwa [← e] at this
   obtain ⟨js, e', _, g1, g2⟩ := uq k hk
   rw [ha] at g1
   rw [ha, g2, g1]
   exact ⟨rfl, rfl⟩
  ·refine .inr fun k hk => ?_
   obtain ⟨js, e', _, g1, g2⟩ := uq k hk
   have ha : ins_All.f k s = some ([], 9) := by
    rcases all_f s (by omega) k (by omega) with ⟨is, h1, h2, _⟩ | h
    ·exact absurd ⟨is, h1, h2⟩ hx
    ·exact h
   rw [ha] at g1
   rw [ha, g2, g1]
   exact ⟨rfl, rfl⟩
 rcases key with ⟨is, h1, h2, h3, h4⟩ | h
 ·refine .inl ⟨is, h1, h2, h3, ?_, h4⟩
  unfold insOf
  rw [(h4 _ (by omega)).1]
  simp
 ·refine .inr ⟨?_, h⟩
  unfold insOf
  rw [(h _ (by omega)).1]
  simp
def symOk (l : List (Int × S79)) (s : S68) : Bool := decide (s.f1 = 2) || l.any fun p => decide (p.1 = s.f2)
/-- May an image be? -/
def mayI (s : ByteArray) (d : List Int) (y : List S68) : Bool :=
 may s d y [] && match insOf s with
  | none => false
  | some is => (places 0 is).all (fun p => landsB (places 0 is) p.1 p.2 d.length) && y.all (symOk (places 0 is)) && decide (1 ≤ (threadsOf y).length ∧ (threadsOf y).length ≤ 4)
end Go.Proofs.YtimhcpmfhebbhaaDoor.Obj
namespace Go.Proofs.YtimhcpmfhebbhaaDoor.Obj
set_option maxRecDepth 100000
open Go.RowKit Go.Proofs.YtimhcpmfhebbhaaDoor.M Go.Proofs.YtimhcpmfhebbhaaDoor.Num Go.Proofs.YtimhcpmfhebbhaaDoor.Ins Go.Proofs.YtimhcpmfhebbhaaDoor.Seven Go.Proofs.YtimhcpmfhebbhaaDoorW.PrintWords Go.Proofs.YtimhcpmfhebbhaaDoorW.PrintLast
set_option linter.unusedVariables false
set_option linter.unusedSimpArgs false
theorem rd_SI (l : List S79) (i : Nat) (h : i < l.length) : rd_T79 l (i : Int) = l[i] := by
 simp [rd_T79, List.getD_eq_getElem?_getD, List.getElem?_eq_getElem h]
theorem rd_int (l : List Int) (i : Nat) (h : i < l.length) : rd l (i : Int) = l[i] := by
 simp [rd, List.getD_eq_getElem?_getD, List.getElem?_eq_getElem h]
theorem has_l0 (l : List Int) (n : Int) (hm : l.length ≤ 4000000000000) : ∀ (d k i : Nat), l.length - i = d → i ≤ l.length → d < k → cotterref08_has.l0 k l n (i : Int) = some ((l.drop i).any fun x => decide (x = n))
 | 0, 0, i, hd, hi, hk => by omega
 | 0, k + 1, i, hd, hi, hk => by
  simp only [cotterref08_has.l0]
  rw [if_neg (by omega), List.drop_eq_nil_of_le (by omega)]
  simp
 | d + 1, 0, i, hd, hi, hk => by omega
 | d + 1, k + 1, i, hd, hi, hk => by
  have hlt : i < l.length := by omega
  have e1 : wrap64 ((i : Int) + 1) = ((i + 1 : Nat) : Int) := by rw [wrap64_id (by omega) (by omega)]; omega
  simp only [cotterref08_has.l0]
  rw [if_pos (by omega), if_pos (by omega), rd_int l i hlt, e1, List.drop_eq_getElem_cons hlt, List.any_cons]
  by_cases h : l[i] = n
  ·rw [if_pos h]; simp [h]
  ·rw [if_neg h, has_l0 l n hm d k (i + 1) (by omega) (by omega) (by omega)]; simp [h]
theorem has_f (l : List Int) (n : Int) (hm : l.length ≤ 4000000000000) (k : Nat) (hk : l.length < k) : cotterref08_has.f k l n = some (l.any fun x => decide (x = n)) := by
 unfold cotterref08_has.f
 have := has_l0 l n hm l.length k 0 (by omega) (by omega) hk
 simpa using this
theorem size_k (op : Int) (k : Nat) (hk : 7 ≤ k) : cotterref03_Size.f k op = some (size (shp op)) := by
 obtain ⟨m, rfl⟩ : ∃ m, k = m + 7 := ⟨k - 7, by omega⟩
 exact rSize_f op m
theorem jumps_k (op : Int) : cotterref03_Jumps.f op = some (jumpB op) := by
 unfold cotterref03_Jumps.f jumpB
 repeat' split
 all_goals simp_all <;> rfl
theorem places_map : ∀ (is : List S79) (p : Nat), (places p is).length = is.length
 | [], p => rfl
 | i :: is, p => by rw [places, List.length_cons, List.length_cons, places_map is]
theorem forms_take (is : List S79) (i : Nat) (h : i < is.length) : (formsS (is.take (i + 1))).length = (formsS (is.take i)).length + (formS is[i]).length := by
 rw [List.take_succ_eq_append_getElem h, formsS_append, List.length_append]; simp [formsS]
theorem forms_take_le (is : List S79) (i : Nat) : (formsS (is.take i)).length ≤ (formsS is).length := by
 have := congrArg List.length (congrArg formsS (List.take_append_drop i is))
 rw [formsS_append, List.length_append] at this
 omega
theorem starts_l0 (is : List S79) (hok : ∀ i ∈ is, OkS i) (hm : (formsS is).length ≤ 1048576) (hl : is.length ≤ 1048576) : ∀ (d k i : Nat) (acc : List Int), is.length - i = d → i ≤ is.length → acc.length ≤ i → d + 8 < k →
 cotterref08_Starts.l0 k is acc (((formsS (is.take i)).length : Nat) : Int) (i : Int) = some (acc ++ (places (formsS (is.take i)).length (is.drop i)).map (·.1), true)
 | d, 0, i, acc, hd, hi, ha, hk => by omega
 | 0, k + 1, i, acc, hd, hi, ha, hk => by
  simp only [cotterref08_Starts.l0]
  rw [if_neg (by omega), List.drop_eq_nil_of_le (by omega)]
  simp [places]
 | d + 1, k + 1, i, acc, hd, hi, ha, hk => by
  have hlt : i < is.length := by omega
  have e1 : wrap64 ((i : Int) + 1) = ((i + 1 : Nat) : Int) := by rw [wrap64_id (by omega) (by omega)]; omega
  have h1 := formS_size (hok _ (List.getElem_mem hlt))
  have h2 := forms_take is i hlt
  have h3 := forms_take_le is (i + 1)
  have e2 : wrap64 ((((formsS (is.take i)).length : Nat) : Int) + size (shp is[i].f0)) = (((formsS (is.take (i + 1))).length : Nat) : Int) := by clear e1; rw [h1, wrap64_id (by omega) (by omega), h2]; omega
  simp only [cotterref08_Starts.l0]
  rw [if_pos (by omega), if_pos (by omega), if_pos (by omega), rd_SI is i hlt, size_k _ k (by omega)]
  simp only [Option.bind_some]
  rw [e1, e2, starts_l0 is hok hm hl d k (i + 1) _ (by omega) (by omega) (by simp; omega) (by omega), List.drop_eq_getElem_cons hlt, places, h2]
  simp
theorem starts_f (s : ByteArray) (is : List S79) (hb : bytesOf s = formsS is) (hok : ∀ i ∈ is, OkS i) (hs : s.size ≤ 1048576) (hl : is.length ≤ s.size) (k : Nat) (hk : s.size + 100 < k) (ha : cotterref03_All.f k s = some (is, 0)) :
 cotterref08_Starts.f k s = some ((places 0 is).map (·.1), true) := by
 have hz : (formsS is).length = s.size := by rw [← hb, bytesOf_length]
 unfold cotterref08_Starts.f
 rw [ha]
 simp only [Option.bind_some, if_true]
 have := starts_l0 is hok (by omega) (by omega) is.length k 0 [] (by omega) (by omega) (by simp) (by omega)
 simpa [formsS] using this
theorem any_map (l : List (Int × S79)) (n : Int) : ((l.map (·.1)).any fun x => decide (x = n)) = l.any fun p => decide (p.1 = n) := by rw [List.any_map]; rfl
def threadsN (y : List S68) : Nat := (threadsOf y).length
/-- The symbols' loop. -/
theorem may_l1 (s : ByteArray) (dt : List Int) (y : List S68) (is : List S79) (hp : is.length ≤ 1048576) (hm : y.length ≤ 1000) : ∀ (d k i c : Nat), y.length - i = d → i ≤ y.length → c ≤ i → 2 * d + is.length + 10 < k →
 cotterref08_May.l1 k ((places 0 is).map (·.1)) (c : Int) (i : Int) s dt y = some ((y.drop i).all (symOk (places 0 is)) && decide (1 ≤ c + threadsN (y.drop i) ∧ c + threadsN (y.drop i) ≤ 4))
 | d, 0, i, c, hd, hi, hc, hk => by omega
 | 0, k + 1, i, c, hd, hi, hc, hk => by
  simp only [cotterref08_May.l1]
  rw [if_neg (by omega), List.drop_eq_nil_of_le (by omega)]
  by_cases h : (c : Int) ≥ 1
  ·rw [if_pos h]; simp [threadsN, threadsOf, show 1 ≤ c by omega]; omega
  ·rw [if_neg h]; simp [threadsN, threadsOf, show ¬ 1 ≤ c by omega]
 | d + 1, 1, i, c, hd, hi, hc, hk => by omega
 | d + 1, k + 2, i, c, hd, hi, hc, hk => by
  have hlt : i < y.length := by omega
  have e1 : wrap64 ((i : Int) + 1) = ((i + 1 : Nat) : Int) := by rw [wrap64_id (by omega) (by omega)]; omega
  have e2 : wrap64 ((c : Int) + 1) = ((c + 1 : Nat) : Int) := by clear e1; rw [wrap64_id (by omega) (by omega)]; omega
  have hd1 := List.drop_eq_getElem_cons hlt
  have J : ∀ (b : Bool), b = (!symOk (places 0 is) y[i]) → cotterref08_May.j4 (k + 1) ((places 0 is).map (·.1)) (c : Int) (i : Int) b s dt y y[i].f0 y[i].f1 y[i].f2 = some ((y.drop i).all (symOk (places 0 is)) && decide (1 ≤ c + threadsN (y.drop i) ∧ c + threadsN (y.drop i) ≤ 4)) := by
   rintro b rfl
   simp only [cotterref08_May.j4]
   rw [hd1, List.all_cons]
   cases hs : symOk (places 0 is) y[i]
   ·simp
   ·rw [if_neg (by simp)]
    unfold threadsN
    rw [threads_cons]
    by_cases h3 : y[i].f1 = 3
    ·rw [if_pos h3, if_pos h3, e1, e2, may_l1 s dt y is hp hm d k (i + 1) (c + 1) (by omega) (by omega) (by omega) (by omega)]
     unfold threadsN
     simp only [List.length_append, List.length_singleton, Bool.true_and, Nat.add_assoc]
    ·rw [if_neg h3, if_neg h3, e1, may_l1 s dt y is hp hm d k (i + 1) c (by omega) (by omega) (by omega) (by omega)]
     unfold threadsN
     simp
  simp only [cotterref08_May.l1]
  rw [if_pos (by omega), if_pos (by omega), rd_SS y i hlt]
  by_cases h2 : y[i].f1 = 2
  ·rw [if_pos h2]; exact J false (by simp [symOk, h2])
  ·rw [if_neg h2, has_f _ _ (by rw [List.length_map, places_map]; omega) _ (by rw [List.length_map, places_map]; omega), any_map]
   exact J _ (by simp [symOk, h2])
theorem places_get (is : List S79) (i : Nat) (h : i < is.length) : places (formsS (is.take i)).length (is.drop i) = ((((formsS (is.take i)).length : Nat) : Int), is[i]) :: places (formsS (is.take (i + 1))).length (is.drop (i + 1)) := by
 rw [List.drop_eq_getElem_cons h, places, forms_take is i h]
theorem tmod8 (n : Int) (h : 0 ≤ n) : n.tmod 8 = n % 8 := Int.tmod_eq_emod_of_nonneg h
/-- The instructions' loop. -/
theorem may_l0 (s : ByteArray) (dt : List Int) (y : List S68) (is : List S79) (hok : ∀ i ∈ is, OkS i) (hz : (formsS is).length ≤ 1048576) (hp : is.length ≤ 1048576) (hm : y.length ≤ 1000) (hdt : dt.length ≤ 4096) : ∀ (d k i : Nat), is.length - i = d → i ≤ is.length → 2 * d + 3 * is.length + 3000 < k →
 cotterref08_May.l0 k ((places 0 is).map (·.1)) is (((formsS (is.take i)).length : Nat) : Int) (i : Int) s dt y =
  some ((places (formsS (is.take i)).length (is.drop i)).all (fun p => landsB (places 0 is) p.1 p.2 dt.length) && (y.all (symOk (places 0 is)) && decide (1 ≤ threadsN y ∧ threadsN y ≤ 4)))
 | d, 0, i, hd, hi, hk => by omega
 | 0, k + 1, i, hd, hi, hk => by
  simp only [cotterref08_May.l0]
  rw [if_neg (by omega), List.drop_eq_nil_of_le (by omega)]
  have := may_l1 s dt y is hp hm y.length k 0 0 (by omega) (by omega) (by omega) (by omega)
  simpa [places] using this
 | d + 1, 1, i, hd, hi, hk => by omega
 | d + 1, k + 2, i, hd, hi, hk => by
  have hlt : i < is.length := by omega
  have hok1 := hok _ (List.getElem_mem hlt)
  have hb := ok_bound hok1
  have hsz := formS_size hok1
  have h2 := forms_take is i hlt
  have h3 := forms_take_le is (i + 1)
  have e1 : Aside0 (wrap64 ((i : Int) + 1) = ((i + 1 : Nat) : Int)) := by constructor; rw [wrap64_id (by omega) (by omega)]; omega
  have e2 : Aside0 (wrap64 ((((formsS (is.take i)).length : Nat) : Int) + size (shp is[i].f0)) = (((formsS (is.take (i + 1))).length : Nat) : Int)) := by constructor; rw [hsz, wrap64_id (by omega) (by omega), h2]; omega
  have e2' : (((formsS (is.take i)).length : Nat) : Int) + size (shp is[i].f0) = (((formsS (is.take (i + 1))).length : Nat) : Int) := by omega
  have e4 : Aside0 (wrap64 (8 * (dt.length : Int)) = 8 * (dt.length : Int)) := ⟨wrap64_id (by omega) (by omega)⟩
  have J : ∀ (b : Bool), (is[i].f0 ≠ 19 → b = !landsB (places 0 is) (((formsS (is.take i)).length : Nat) : Int) is[i] dt.length) → (is[i].f0 = 19 → b = false) → cotterref08_May.j2 (k + 1) ((places 0 is).map (·.1)) is (((formsS (is.take (i + 1))).length : Nat) : Int) (i : Int) b s dt y =
   some ((places (formsS (is.take i)).length (is.drop i)).all (fun p => landsB (places 0 is) p.1 p.2 dt.length) && (y.all (symOk (places 0 is)) && decide (1 ≤ threadsN y ∧ threadsN y ≤ 4))) := by
   intro b hb1 hb2
   have IH := may_l0 s dt y is hok hz hp hm hdt d k (i + 1) (by omega) (by omega) (by omega)
   simp only [cotterref08_May.j2]
   rw [places_get is i hlt, List.all_cons, rd_SI is i hlt, e1.out, e4.out]
   rw [if_pos (show (0 : Int) ≤ i by omega), if_pos (show (i : Int) < is.length by omega)]
   generalize ((places (formsS (is.take (i + 1))).length (is.drop (i + 1))).all fun p => landsB (places 0 is) p.1 p.2 dt.length) = ra at *
   generalize (y.all (symOk (places 0 is)) && decide (1 ≤ threadsN y ∧ threadsN y ≤ 4)) = rb at *
   by_cases h19 : is[i].f0 = 19
   ·obtain rfl := hb2 h19
    have hbb := hb (Or.inl h19)
    have e5 : Aside0 (wrap64 (is[i].f3 - 1048576) = is[i].f3 - 1048576) := ⟨wrap64_id (by omega) (by omega)⟩
    rw [if_neg (by simp), if_pos h19, e5.out, IH]
    unfold landsB
    dsimp only
    rw [if_pos h19]
    by_cases c1 : is[i].f3 - 1048576 < 0
    ·rw [if_pos c1, decide_eq_false (show ¬ 0 ≤ is[i].f3 - 1048576 by omega)]
     rfl
    ·rw [if_neg c1, tmod8 _ (by omega)]
     by_cases c2 : (is[i].f3 - 1048576) % 8 = 0
     ·rw [if_pos c2]
      by_cases c3 : is[i].f3 - 1048576 ≥ 8 * (dt.length : Int)
      ·rw [if_pos c3, decide_eq_false (show ¬ is[i].f3 - 1048576 < 8 * (dt.length : Int) by omega), Bool.and_false, Bool.false_and, Bool.false_and]
      ·rw [if_neg c3, decide_eq_true (show is[i].f3 - 1048576 < 8 * (dt.length : Int) by omega), decide_eq_true (show 0 ≤ is[i].f3 - 1048576 by omega), decide_eq_true c2, Bool.true_and, Bool.true_and, Bool.true_and]
     ·rw [if_neg c2, decide_eq_false c2, Bool.and_false, Bool.false_and, Bool.false_and, Bool.false_and]
   ·have hbv := hb1 h19
    cases hl : landsB (places 0 is) (((formsS (is.take i)).length : Nat) : Int) is[i] dt.length
    ·rw [hl] at hbv
     subst hbv
     rw [if_pos (by rfl)]
     rfl
    ·rw [hl] at hbv
     subst hbv
     rw [if_neg (by simp), if_neg h19, IH, Bool.true_and]
  simp only [cotterref08_May.l0]
  rw [if_pos (by omega), if_pos (by omega), rd_SI is i hlt, size_k _ _ (by omega), jumps_k]
  simp only [Option.bind_some]
  rw [e2.out]
  cases hj : jumpB is[i].f0
  ·rw [if_neg (by simp)]
   exact J false (fun h => by unfold landsB; rw [if_neg h, hj]; rfl) (fun _ => rfl)
  ·rw [if_pos rfl, has_f _ _ (by rw [List.length_map, places_map]; omega) _ (by rw [List.length_map, places_map]; omega), any_map]
   have hbb := hb (Or.inr hj)
   have h19 : ¬ is[i].f0 = 19 := by
    intro e
    rw [e] at hj
    revert hj
    decide
   have e6 : Aside0 (wrap64 ((((formsS (is.take (i + 1))).length : Nat) : Int) + is[i].f3) = (((formsS (is.take (i + 1))).length : Nat) : Int) + is[i].f3) := ⟨wrap64_id (by omega) (by omega)⟩
   rw [e6.out]
   simp only [Option.bind_some]
   refine J _ (fun h => ?_) (fun h => absurd h h19)
   unfold landsB
   rw [if_neg h, if_pos hj, e2']
/-- The document's May. -/
theorem may_f (s : ByteArray) (dt : List Int) (y : List S68) (k : Nat) (hk : 2000000 < k) : cotterref08_May.f k s dt y = some (mayI s dt y) := by
 unfold cotterref08_May.f mayI may
 have J : ∀ b, b = (!(decide (s.size ≤ 65536) && decide (dt.length ≤ 4096) && symsOk s.size dt.length y)) → cotterref08_May.j0 k b s dt y = some (decide (s.size ≤ 65536) && decide (dt.length ≤ 4096) && symsOk s.size dt.length y && relsOk s.size 0 [] && decide (([] : List S116).length ≤ 8000) && match insOf s with
  | none => false
  | some is => (places 0 is).all (fun p => landsB (places 0 is) p.1 p.2 dt.length) && y.all (symOk (places 0 is)) && decide (1 ≤ (threadsOf y).length ∧ (threadsOf y).length ≤ 4)) := by
  rintro b rfl
  obtain ⟨m, rfl⟩ : ∃ m, k = m + 1 := ⟨k - 1, by omega⟩
  simp only [cotterref08_May.j0]
  cases hq : (decide (s.size ≤ 65536) && decide (dt.length ≤ 4096) && symsOk s.size dt.length y)
  ·simp
  ·rw [if_neg (by simp)]
   simp only [Bool.and_eq_true, decide_eq_true_eq] at hq
   obtain ⟨⟨q1, q2⟩, q3⟩ := hq
   have hy : y.length ≤ 1000 := by
    unfold symsOk at q3
    simp only [Bool.and_eq_true, decide_eq_true_eq] at q3
    exact q3.2
   rcases code_cases s (by omega) with ⟨is, h1, h2, h3, h4, h5⟩ | ⟨h4, h5⟩
   ·have hz : (formsS is).length = s.size := by rw [← h1, bytesOf_length]
    rw [starts_f s is h1 h2 (by omega) h3 m (by omega) (h5 m (by omega)).2, h4]
    simp only [Option.bind_some, if_true]
    rw [(h5 m (by omega)).2]
    simp only [Option.bind_some]
    have := may_l0 s dt y is h2 (by omega) (by omega) hy (by omega) is.length m 0 (by omega) (by omega) (by omega)
    simp only [List.take_zero, List.drop_zero] at this
    refine Eq.trans this ?_
    rw [show (formsS ([] : List S79)).length = 0 from rfl]
    unfold threadsN
    simp [relsOk, Bool.and_assoc, Bool.decide_and]
   ·have hs : cotterref08_Starts.f m s = some ([], false) := by
     unfold cotterref08_Starts.f
     rw [(h5 m (by omega)).2]
     simp
    rw [hs, h4]
    simp
 by_cases c1 : (s.size : Int) > 65536
 ·rw [if_pos c1]
  exact J true (by simp [show ¬ s.size ≤ 65536 by omega])
 ·rw [if_neg c1]
  by_cases c2 : (dt.length : Int) > 4096
  ·rw [if_pos c2]
   exact J true (by simp [show ¬ dt.length ≤ 4096 by omega])
  ·rw [if_neg c2, syms_f y s.size dt.length k (by omega)]
   simp only [Option.bind_some]
   exact J _ (by simp [show s.size ≤ 65536 by omega, show dt.length ≤ 4096 by omega])
end Go.Proofs.YtimhcpmfhebbhaaDoor.Obj
namespace Go.Proofs.YtimhcpmfhebbhaaDoor.M
set_option maxRecDepth 100000
open Go.RowKit Go.Proofs.YtimhcpmfhebbhaaDoorW.PrintWords Go.Proofs.YtimhcpmfhebbhaaDoorW.PrintLast Go.Proofs.YtimhcpmfhebbhaaDoor.Num Go.Proofs.YtimhcpmfhebbhaaDoor.Seven Go.Proofs.YtimhcpmfhebbhaaDoor.Ins Go.Proofs.YtimhcpmfhebbhaaDoor.Obj
set_option linter.unusedVariables false
set_option linter.unusedSimpArgs false
theorem places_up : ∀ (is : List S79) (p : Nat), (∀ i ∈ is, OkS i) → (places p is).Pairwise (fun a b => a.1 ≠ b.1)
 | [], _, _ => List.Pairwise.nil
 | i :: is, p, h => by
  have hp := formS_pos (h i (by simp))
  refine List.Pairwise.cons (fun q hq => ?_) (places_up is _ fun j hj => h j (by simp [hj]))
  have := places_lt is _ (fun j hj => h j (by simp [hj])) q hq
  dsimp only
  omega
theorem find_up {β : Type} : ∀ (l : List (Int × β)), l.Pairwise (fun a b => a.1 ≠ b.1) → ∀ p ∈ l, (l.find? fun q => decide (q.1 = p.1)) = some p
 | [], _, p, hp => by cases hp
 | a :: l, h, p, hp => by
  obtain ⟨h1, h2⟩ := List.pairwise_cons.1 h
  rcases List.mem_cons.1 hp with rfl | hp
  ·simp
  ·rw [List.find?_cons_of_neg (by simpa using h1 p hp)]
   exact find_up l h2 p hp
/-- What a range over the map meets. -/
theorem entry_of {D : SymD} {l : List (Int × S79)} (hf : FndI D l) (hu : l.Pairwise (fun a b => a.1 ≠ b.1)) {x : Int} {c : S79} {y : SymD × List MemPlace} (hx : (l.any fun p => decide (p.1 = x)) = true) (hc : RIns (insV c) = some y) (hat : ∀ zd, D.atKey (insKey x) zd = y.1) : (x, c) ∈ l ∧ ∀ p ∈ l, p.1 = x → p = (x, c) := by
 obtain ⟨p, hp, hpx⟩ := List.any_eq_true.1 hx
 simp only [decide_eq_true_eq] at hpx
 subst hpx
 have h1 := (hf.2 p.1).2
 rw [hat, find_up l hu p hp] at h1
 rw [RIns_ins] at hc
 injection hc with hc
 subst hc
 have := insT_inj h1
 simp only [Option.map_some, Option.getD_some] at this
 subst this
 refine ⟨hp, fun q hq e => ?_⟩
 have h2 := find_up l hu q hq
 have h3 := find_up l hu p hp
 rw [e] at h2
 rw [h3] at h2
 injection h2 with h2
 exact h2.symm
theorem places_ok : ∀ (is : List S79) (p : Nat), (∀ i ∈ is, OkS i) → ∀ q ∈ places p is, OkS q.2
 | [], _, _, q, hq => by cases hq
 | i :: is, p, h, q, hq => by
  rcases List.mem_cons.1 hq with rfl | hq
  ·exact h i (by simp)
  ·exact places_ok is _ (fun j hj => h j (by simp [hj])) q hq
theorem ranges_below {W W1 : World} {b r n cnt : Nat} {D : SymD} {left : Lit → Bool} (h : W.ranges Tryd.prog 3 RIns b r n D left cnt) (hb : Below W.heap.size W W1) : W1.ranges Tryd.prog 3 RIns b r n D left cnt := by
 have h1 := h.owns.lt
 have h2 := h.lt
 obtain ⟨es, clock, since, seen, c0, hb', F, hs, hD, hr, rest⟩ := h
 exact ⟨es, clock, since, seen, c0, (hb.block _ h1).trans hb', F, hs, hD, (hb.block _ h2).trans hr, rest⟩
section
variable {W : World} (code : ByteArray) (A1 : Option Addr) (c1 : Nat) (l1 : List Int) (A2 : Option Addr) (c2 : Nat) (l2 : List S68)
theorem objCheck_c (hr1 : Kd.C (Kd.int .i64) W A1 l1.length l1) (hc1 : l1.length ≤ c1) (hr2 : Kd.C k68 W A2 l2.length l2) (hc2 : l2.length ≤ c2) :
 Calls Tryd.prog 31 #[.agg #[.string code, .slice A1 l1.length c1, .slice A2 l2.length c2, .slice none 0 0]] W fun e w' => e = .returned (.int .i64 (if may code l1 l2 [] = true then 0 else 1)) ∧ Below W.heap.size W w' := by
 have h := objf_Check.calls 10 code A1 c1 l1 A2 c2 l2 none 0 [] _ W hr1 hc1 hr2 hc2 (Kd.C_nil _ _) (Nat.zero_le _) (check_f code l1 l2 [] (by simp) 10 (by simp))
 refine h.mono ?_
 rintro e w' h
 exact h
set_option maxHeartbeats 8000000 in
theorem icheck_a (hr1 : Kd.C (Kd.int .i64) W A1 l1.length l1) (hc1 : l1.length ≤ c1) (hr2 : Kd.C k68 W A2 l2.length l2) (hc2 : l2.length ≤ c2) (hm : may code l1 l2 [] = false) :
 Calls Tryd.prog 14 #[.agg #[.string code, .slice A1 l1.length c1, .slice A2 l2.length c2]] W fun e w' => e = .returned (.int .i64 9) ∧ Below W.heap.size W w' := by
 have CO := z4 (objCheck_c (W := W.alloc (.cells #[.string code, .slice A1 l1.length c1, .slice A2 l2.length c2] 25)) code A1 c1 l1 A2 c2 l2 (zP hr1 _) hc1 (zP hr2 _) hc2)
 have HB := z4 (zA (Below.refl W.heap.size W) (.cells #[.string code, .slice A1 l1.length c1, .slice A2 l2.length c2] 25))
 rw [hm] at CO
 clear hm hr1 hc1 hr2 hc2
 go_enter Tryd.func14, Tryd.ntmps14
 go_wp2_with (first | (go_at_call 31; (with_reducible refine CO.out.mono ?_); rintro e w3 ⟨rfl, hb⟩; have HB3 := z4 (below_inL HB.out hb); clear hb))
 go_ret
 exact ⟨rfl, HB3.out⟩
set_option maxHeartbeats 8000000 in
theorem icheck_b (hG : Glob W) (hr1 : Kd.C (Kd.int .i64) W A1 l1.length l1) (hc1 : l1.length ≤ c1) (hr2 : Kd.C k68 W A2 l2.length l2) (hc2 : l2.length ≤ c2) (hm : may code l1 l2 [] = true) {k : Nat} (hall : ins_All.f k code = some ([], 9)) :
 Calls Tryd.prog 14 #[.agg #[.string code, .slice A1 l1.length c1, .slice A2 l2.length c2]] W fun e w' => e = .returned (.int .i64 9) ∧ Below W.heap.size W w' := by
 have CO := z4 (objCheck_c (W := W.alloc (.cells #[.string code, .slice A1 l1.length c1, .slice A2 l2.length c2] 25)) code A1 c1 l1 A2 c2 l2 (zP hr1 _) hc1 (zP hr2 _) hc2)
 have HB := z4 (zA (Below.refl W.heap.size W) (.cells #[.string code, .slice A1 l1.length c1, .slice A2 l2.length c2] 25))
 have BO := z4 (blk_new W (.cells #[.string code, .slice A1 l1.length c1, .slice A2 l2.length c2] 25))
 have HG := z4 hG
 have ST := z4 (fun (w : World) (h : Glob w) => starts_no (w := w) h hall)
 rw [hm] at CO
 clear hm hr1 hc1 hr2 hc2 hG hall
 go_enter Tryd.func14, Tryd.ntmps14
 go_wp2_with (first
  | (go_at_call 31; (with_reducible refine CO.out.mono ?_); rintro e w3 ⟨rfl, hb⟩; have HB3 := z4 (below_inL HB.out hb); have BO3 := z4 (blk_below BO.out hb); have hk0 : w3.cell? ⟨W.heap.size, 0, none⟩ = some (.string code) := (zC BO3.out 0).trans rfl; clear hb)
  | (go_at_call 32; (with_reducible refine (ST.out _ (HG.out.below HB3.out rfl)).mono ?_); rintro e w4 ⟨rfl, hb⟩; have HB4 := z4 (below_inL HB3.out hb); clear hb))
 go_ret
 exact ⟨rfl, HB4.out⟩
set_option maxHeartbeats 16000000 in
theorem icheck_c (hG : Glob W) (hr1 : Kd.C (Kd.int .i64) W A1 l1.length l1) (hc1 : l1.length ≤ c1) (hr2 : Kd.C k68 W A2 l2.length l2) (hc2 : l2.length ≤ c2) (hm : may code l1 l2 [] = true) {is : List S79} {k : Nat} (hall : ins_All.f k code = some (is, 0)) (hok : ∀ i ∈ is, OkS i) (hlen : is.length ≤ 1000000)
 (hpl : ∀ p ∈ places 0 is, 0 ≤ p.1 ∧ p.1 ≤ 1000000) (hdl : l1.length ≤ 1000000) (hyl : l2.length ≤ 1000000) (hsy : ∀ s ∈ l2, 0 ≤ s.f2 ∧ s.f2 ≤ 1000000) {r : Int}
 (h1 : ∀ p ∈ places 0 is, landsB (places 0 is) p.1 p.2 l1.length = false → r = 9) (h2 : ∀ s ∈ l2, symOk (places 0 is) s = false → r = 9)
 (h3 : (∀ p ∈ places 0 is, landsB (places 0 is) p.1 p.2 l1.length = true) → (∀ s ∈ l2, symOk (places 0 is) s = true) → r = if 1 ≤ (threadsOf l2).length ∧ (threadsOf l2).length ≤ 4 then 0 else 9) :
 Calls Tryd.prog 14 #[.agg #[.string code, .slice A1 l1.length c1, .slice A2 l2.length c2]] W fun e w' => e = .returned (.int .i64 r) ∧ Below W.heap.size W w' := by
 have CO := z4 (objCheck_c (W := W.alloc (.cells #[.string code, .slice A1 l1.length c1, .slice A2 l2.length c2] 25)) code A1 c1 l1 A2 c2 l2 (zP hr1 _) hc1 (zP hr2 _) hc2)
 have HB := z4 (zA (Below.refl W.heap.size W) (.cells #[.string code, .slice A1 l1.length c1, .slice A2 l2.length c2] 25))
 have BO := z4 (blk_new W (.cells #[.string code, .slice A1 l1.length c1, .slice A2 l2.length c2] 25))
 have HG := z4 hG
 have ST := z4 (fun (w : World) (h : Glob w) => starts_yes (w := w) h hall hok hlen)
 have TH := z4 (fun (w : World) (h : Below W.heap.size W w) => image_Threads.calls (l2.length + 1) code A1 c1 l1 A2 c2 l2 _ w (zS hr1 h) hc1 (zS hr2 h) hc2 (ithreads_f code l1 l2 (by omega) (l2.length + 1) (by omega)))
 have UP := z4 (places_up is 0 hok)
 have OB := z4 (fun (p : Int × S79) (hp : p ∈ places 0 is) => hpl p hp)
 have OK := z4 (places_ok is 0 hok)
 have HR2 := z4 hr2
 have HSY := z4 hsy
 have H1 := z4 h1
 have H2 := z4 h2
 have H3 := z4 h3
 rw [hm] at CO
 clear hm hr1 hc1 hr2 hc2 hG hall hsy h1 h2 h3 hpl hok
 go_enter Tryd.func14, Tryd.ntmps14
 go_wp2_with (first
  | (go_at_call 31; (with_reducible refine CO.out.mono ?_); rintro e w3 ⟨rfl, hb⟩; have HB3 := z4 (below_inL HB.out hb); have BO3 := z4 (blk_below BO.out hb); have hk0 : w3.cell? ⟨W.heap.size, 0, none⟩ = some (.string code) := (zC BO3.out 0).trans rfl; clear hb)
  | (go_at_call 32; (with_reducible refine (ST.out _ (HG.out.below HB3.out rfl)).mono ?_); rintro e w4 ⟨mb, n, D, rfl, hown, hf, hn, -, hb⟩; have HB4 := z4 (below_inL HB3.out hb); have BO4 := z4 (blk_below BO3.out hb); have HM4 := z4 hown; have HF := z4 hf; clear hb hown hf hk0)
  | (at_range; refine wpList_range_own _ rfl _ 75 rfl 3 79 ins_law Tryd.underlying75 _ mb n _ rfl HM4.out ?_; intro w5 hrg5 hg5 hs5; have HB5 := z4 (HB4.out.grown hg5 HB4.out.size (fun j hj => by cases hj)); have BO5 := z4 (blk_grown BO4.out hg5 (by simp)); have RG5 := z4 hrg5; clear hrg5 hg5 hs5))
 go_frame
 have HRI := z4 (blk_lt BO4.out)
 generalize w4.heap.size = ri at *
 clear HB HB3 HB4 BO BO3 BO4 HM4 CO ST
 go_loopw [] (fun wr => ∃ (left : Lit → Bool) (cnt : Nat), Aside0 (wr.ranges Tryd.prog 3 RIns mb ri n D left cnt) ∧ Aside0 (∀ t, left (insKey t) = true → ((places 0 is).any fun p => decide (p.1 = t)) = true) ∧ Aside0 (∀ p ∈ places 0 is, left (insKey p.1) = false → landsB (places 0 is) p.1 p.2 l1.length = true) ∧ Aside0 (wr.heap[W.heap.size]? = some (.cells #[.string code, .slice A1 l1.length c1, .slice A2 l2.length c2] 25 (0, 0))) ∧ Aside0 (Below W.heap.size W wr)) (fun wr => wr.rangeLeft mb ri)
 case atStart =>
  exact ⟨_, _, RG5, ⟨fun t ht => by rw [← (HF.out.2 t).1]; exact ht⟩, ⟨fun p hp hl => by
   have := (HF.out.2 p.1).1
   rw [hl] at this
   exact absurd this.symm (by simp only [Bool.not_eq_false]; exact List.any_eq_true.2 ⟨p, hp, by simp⟩)⟩, BO5, HB5⟩
 case round =>
  clear HB5 BO5 RG5
  obtain ⟨left, cnt, RG, HL, HD, BO, HB⟩ := hrel
  have hk1 : wr.cell? ⟨W.heap.size, 1, none⟩ = some (.slice A1 l1.length c1) := (zC BO.out 1).trans rfl
  have hk2 : wr.cell? ⟨W.heap.size, 2, none⟩ = some (.slice A2 l2.length c2) := (zC BO.out 2).trans rfl
  go_wp2_with (first
   | (at_next; refine wpList_next_ranges _ rfl _ rfl 3 ins_law RIns (Value.int .i64) insV (fun key kl hkey => by obtain ⟨x, rfl, _⟩ := Maps.keyOf_int_inv Tryd.underlying3 hkey; exact ⟨x, rfl⟩) (fun v y hv => by obtain ⟨c, rfl, _⟩ := RIns_shape hv; exact ⟨c, rfl⟩) mb ri n D left cnt rfl RG.out ?_ ?_)
   | go_in)
  case _ =>
   intro hc0 hl0
   have HA := z4 (fun p (hp : p ∈ places 0 is) => HD.out p hp (hl0 _))
   have HM := z4 RG.out.owns
   clear HD HL hc0 hl0 RG
   go_wp2
   clear HRI hn
   go_loopw [47] (fun v47 ws => ∃ j : Nat, j ≤ l2.length ∧ v47 = .int .i64 j ∧ Aside0 (∀ s ∈ l2.take j, symOk (places 0 is) s = true) ∧ Aside0 (ws.ownsMap Tryd.prog 3 RIns mb n D) ∧ Aside0 (ws.heap[W.heap.size]? = some (.cells #[.string code, .slice A1 l1.length c1, .slice A2 l2.length c2] 25 (0, 0))) ∧ Aside0 (Below W.heap.size W ws)) (fun v47 _ => l2.length - (intOf v47).toNat)
   case atStart => exact ⟨0, Nat.zero_le _, rfl, ⟨by simp⟩, HM, BO, HB⟩
   case round =>
    clear hk1 hk2 HB BO HM
    obtain ⟨j, hj, rfl, HS, HM, BO, HB⟩ := hrel
    by_cases hlt : j < l2.length
    case pos =>
     obtain ⟨ad, rfl, hx0, hx1, hx2⟩ := at_T68 HR2.out (j : Int) (by omega) (by omega)
     rw [rd_SS l2 j hlt] at hx0 hx1 hx2
     have SB := HSY.out _ (List.getElem_mem hlt)
     have HX := z4 (fun (h : symOk (places 0 is) l2[j] = false) => H2.out _ (List.getElem_mem hlt) h)
     have HN := z4 (fun (h : symOk (places 0 is) l2[j] = true) => (by
      intro s hs
      rw [List.take_succ_eq_append_getElem hlt] at hs
      rcases List.mem_append.1 hs with hs | hs
      ·exact HS.out s hs
      ·simp only [List.mem_singleton] at hs
       subst hs
       exact h : ∀ s ∈ l2.take (j + 1), symOk (places 0 is) s = true))
     replace hx0 := (HB.out.cell (World.block_lt_of_cell? W _ hx0)).trans hx0
     replace hx1 := (HB.out.cell (World.block_lt_of_cell? W _ hx1)).trans hx1
     replace hx2 := (HB.out.cell (World.block_lt_of_cell? W _ hx2)).trans hx2
     simp only [Int.toNat_natCast] at hx0 hx1 hx2
     have e2 := z4 (show wrap64 ((j : Int) + 1) = ((j + 1 : Nat) : Int) by rw [wrap64_id (by omega) (by omega)]; omega)
     generalize l2[j] = s at *
     obtain ⟨s0, s1, s2⟩ := s
     dsimp only at hx0 hx1 hx2 SB
     have hlk := ins_look (HM.out.alloc (.cells #[.string s0, .int .i64 s1, .int .i64 s2] 68)) HF.out s2 (by omega) (by omega)
     generalize ((List.find? (fun p => decide (p.1 = s2)) (places 0 is)).map (·.2)).getD zIns = iv at hlk
     obtain ⟨i0, i1, i2, i3⟩ := iv
     simp only [insV] at hlk
     have hv : symOk (places 0 is) ⟨s0, s1, s2⟩ = (decide (s1 = 2) || (places 0 is).any fun p => decide (p.1 = s2)) := rfl
     rw [hv] at HX HN
     clear hv
     generalize ((places 0 is).any fun p => decide (p.1 = s2)) = fb at *
     have hjl : (j : Int) < (l2.length : Int) := by omega
     have BS := z4 (blk_new wr (.cells #[.string s0, .int .i64 s1, .int .i64 s2] 68))
     have HM1 := z4 (HM.out.alloc (.cells #[.string s0, .int .i64 s1, .int .i64 s2] 68))
     cases fb
     all_goals go_wp2
     all_goals first
      | (refine ⟨⟨j + 1, by omega, by first | rfl | (rw [e2.out]) | (simp; done), ⟨HN.out (by simp [*])⟩, ⟨(HM.out.alloc _).alloc _⟩, ⟨zG (zG BO.out _) _⟩, ⟨zA (zA HB.out _) _⟩⟩, ?_⟩
         first | (rw [e2.out]; simp [intOf]; omega) | (simp [intOf]; omega))
      | (obtain rfl := HX.out (by simp [*])
         go_ret
         exact ⟨rfl, zA (zA HB.out _) _⟩)
    case neg =>
     obtain rfl : j = l2.length := by omega
     rw [List.take_length] at HS
     have HV := z4 (H3.out HA.out HS.out)
     have hk0 : wr.cell? ⟨W.heap.size, 0, none⟩ = some (.string code) := (zC BO.out 0).trans rfl
     have hk1 : wr.cell? ⟨W.heap.size, 1, none⟩ = some (.slice A1 l1.length c1) := (zC BO.out 1).trans rfl
     have hk2 : wr.cell? ⟨W.heap.size, 2, none⟩ = some (.slice A2 l2.length c2) := (zC BO.out 2).trans rfl
     go_wp2_with (first | (go_at_call 12; (with_reducible refine (TH.out _ HB.out).mono ?_); rintro e w8 ⟨v0, rfl, ho, hb⟩; obtain ⟨A3, c3, rfl⟩ := Kd.R_slice ho; have HB8 := z4 (below_inL HB.out hb); clear ho hb))
     all_goals go_ret
     all_goals first
      | (obtain rfl : r = 9 := by rw [HV.out, if_neg (by omega)]
         exact ⟨rfl, HB8.out⟩)
      | (obtain rfl : r = 0 := by rw [HV.out, if_pos (by omega)]
         exact ⟨rfl, HB8.out⟩)
  case _ =>
   intro x c kl ya yb w6 cnt6 hkey hlk hy hat hrg6 hlt hg6 hs6 hen
   obtain ⟨x', ex, rfl, hwx⟩ := Maps.keyOf_int_inv Tryd.underlying3 hkey
   cases ex
   obtain ⟨hin, huq⟩ := entry_of HF.out UP.out (HL.out x hlk) hy hat
   have hxb := OB.out _ hin
   have hok := OK.out _ hin
   have RG6 := z4 hrg6
   have HB6 := z4 (sym_grown (w := W) hg6 (Nat.le_of_lt HRI.out) HB.out)
   have BO6 := z4 (blk_grown BO.out hg6 (fun e => by have := HRI.out; injection e with e; omega))
   have LC := z4 (fun (w' : World) (hg : Glob w') (hm : w'.ownsMap Tryd.prog 3 RIns mb n D) => lands_c hg hm HF.out x c (l1.length : Int) hxb.1 hxb.2 ⟨by omega, by omega⟩ (ok_bound hok))
   have HL6 := z4 (fun t (ht : (left (insKey t) && !(insKey t).sameKey (.int .i64 x)) = true) => HL.out t (by simp only [Bool.and_eq_true] at ht; exact ht.1))
   have HD6 := z4 (fun (hl : landsB (places 0 is) x c l1.length = true) (p : Int × S79) (hp : p ∈ places 0 is) (hq : (left (insKey p.1) && !(insKey p.1).sameKey (.int .i64 x)) = false) => (by
    cases hlp : left (insKey p.1)
    ·exact HD.out p hp hlp
    ·rw [hlp] at hq
     simp only [Bool.true_and, Bool.not_eq_false'] at hq
     have e := insKey_inj (WideAt.sameKey_eq hq)
     have e2 := huq p hp e
     rw [e2]
     exact hl : landsB (places 0 is) p.1 p.2 l1.length = true))
   have H16 := z4 (fun (hl : landsB (places 0 is) x c l1.length = false) => H1.out _ hin hl)
   have hk16 : w6.cell? ⟨W.heap.size, 1, none⟩ = some (.slice A1 l1.length c1) := (zC BO6.out 1).trans rfl
   have HLT := z4 (And.intro hlt RG.out.left_eq)
   clear hk1 hk2 HL HD hat hlk hy hin huq hok hxb hg6 hs6 hrg6 hkey hwx HB BO hlt RG
   obtain ⟨i0, i1, i2, i3⟩ := c
   simp only [insV] at hen ⊢
   have BI := z4 (blk_new w6 (.cells #[.int .i64 i0, .int .i64 i1, .int .i64 i2, .int .i64 i3] 79))
   have hk17 : (w6.alloc (.cells #[.int .i64 i0, .int .i64 i1, .int .i64 i2, .int .i64 i3] 79)).cell? ⟨W.heap.size, 1, none⟩ = some (.slice A1 l1.length c1) := (zC (zG BO6.out _) 1).trans rfl
   clear hk16
   generalize hlv : landsB (places 0 is) x ⟨i0, i1, i2, i3⟩ (l1.length : Int) = lv at *
   cases lv
   case false =>
    have R9 := z4 (H16.out rfl)
    clear H16 HD6
    go_wp2_with (first | (go_at_call 33; (with_reducible refine (LC.out _ (HG.out.below (zA HB6.out _) rfl) (RG6.out.owns.alloc _)).mono ?_); rintro e w7 ⟨rfl, hb⟩; have HB7 := z4 (below_inL (zA HB6.out _) hb); have BO7 := z4 (blk_below (zG BO6.out _) hb); have RG7 := z4 (ranges_below (RG6.out.alloc _) hb); clear hb))
    obtain rfl := R9.out
    go_ret
    exact ⟨rfl, HB7.out⟩
   case true =>
    have HD7 := z4 (HD6.out rfl)
    clear H16 HD6
    go_wp2_with (first | (go_at_call 33; (with_reducible refine (LC.out _ (HG.out.below (zA HB6.out _) rfl) (RG6.out.owns.alloc _)).mono ?_); rintro e w7 ⟨rfl, hb⟩; have HB7 := z4 (below_inL (zA HB6.out _) hb); have BO7 := z4 (blk_below (zG BO6.out _) hb); have RG7 := z4 (ranges_below (RG6.out.alloc _) hb); clear hb))
    refine ⟨⟨_, cnt6, RG7, HL6, HD7, BO7, HB7⟩, ?_⟩
    rw [HLT.out.2, RG7.out.left_eq]
    exact HLT.out.1
/-- image.Check tells whether an image may be. -/
theorem image_Check_c (hG : Glob W) (hr1 : Kd.C (Kd.int .i64) W A1 l1.length l1) (hc1 : l1.length ≤ c1) (hr2 : Kd.C k68 W A2 l2.length l2) (hc2 : l2.length ≤ c2) :
 Calls Tryd.prog 14 #[.agg #[.string code, .slice A1 l1.length c1, .slice A2 l2.length c2]] W fun e w' => e = .returned (.int .i64 (if mayI code l1 l2 = true then 0 else 9)) ∧ Below W.heap.size W w' := by
 cases hm : may code l1 l2 []
 ·have e : mayI code l1 l2 = false := by unfold mayI; rw [hm]; rfl
  rw [e]
  exact icheck_a code A1 c1 l1 A2 c2 l2 hr1 hc1 hr2 hc2 hm
 ·have hm2 := hm
  unfold may at hm2
  simp only [Bool.and_eq_true, decide_eq_true_eq] at hm2
  obtain ⟨⟨⟨⟨q1, q2⟩, q3⟩, -⟩, -⟩ := hm2
  unfold symsOk at q3
  simp only [Bool.and_eq_true, decide_eq_true_eq] at q3
  obtain ⟨⟨q4, -⟩, q5⟩ := q3
  rcases code_cases code (by omega) with ⟨is, g1, g2, g3, g4, g5⟩ | ⟨g4, g5⟩
  ·have e : mayI code l1 l2 = ((places 0 is).all (fun p => landsB (places 0 is) p.1 p.2 l1.length) && l2.all (symOk (places 0 is)) && decide (1 ≤ (threadsOf l2).length ∧ (threadsOf l2).length ≤ 4)) := by unfold mayI; rw [hm, g4]; rfl
   have hz : (formsS is).length = code.size := by rw [← g1, bytesOf_length]
   refine icheck_c code A1 c1 l1 A2 c2 l2 hG hr1 hc1 hr2 hc2 hm (g5 (code.size + 1000) (by omega)).1 g2 (by omega) (fun p hp => ?_) (by omega) (by omega) (fun s hs => ?_) (fun p hp hl => ?_) (fun s hs hl => ?_) (fun a1 a2 => ?_)
   ·have := places_lt is 0 g2 p hp
    omega
   ·have := List.all_eq_true.1 q4 s hs
    have := symGood_named this
    obtain ⟨-, t1, t2, -⟩ := this
    refine ⟨t1, ?_⟩
    split at t2 <;> omega
   ·rw [if_neg]
    rw [e, Bool.and_eq_true, Bool.and_eq_true]
    intro h
    have := List.all_eq_true.1 h.1.1 p hp
    rw [hl] at this
    cases this
   ·rw [if_neg]
    rw [e, Bool.and_eq_true, Bool.and_eq_true]
    intro h
    have := List.all_eq_true.1 h.1.2 s hs
    rw [hl] at this
    cases this
   ·rw [e, List.all_eq_true.2 a1, List.all_eq_true.2 a2, Bool.true_and, Bool.true_and]
    simp only [decide_eq_true_eq]
  ·have e : mayI code l1 l2 = false := by unfold mayI; rw [hm, g4]; rfl
   rw [e]
   exact icheck_b code A1 c1 l1 A2 c2 l2 hG hr1 hc1 hr2 hc2 hm (g5 (code.size + 1000) (by omega)).1
end
end Go.Proofs.YtimhcpmfhebbhaaDoor.M
