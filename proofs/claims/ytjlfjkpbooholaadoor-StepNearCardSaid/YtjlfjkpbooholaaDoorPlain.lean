/-
  Layer 4, plain: an instruction's size, and what Bin makes of two numbers, in the program and in the document. Condition: the numbers are of 64 bits with a sign.
-/
import Derived.Test.YtjlfjkpbooholaaDoorNum
import Derived.Test.YtjlfjkpbooholaaDoorK
namespace Go.Proofs.YtjlfjkpbooholaaDoor.M
open Go.RowKit Go.Proofs.YtjlfjkpbooholaaDoor.Num Go.Proofs.YtjlfjkpbooholaaDoorW.PrintWords Go.Proofs.YtjlfjkpbooholaaDoorW.PrintLast
def shp (op : Int) : Int := if op < 0 then 0 else if op ≥ 34 then 0 else rd shapeTab op
def regs (s : Int) : Int := if s = 2 ∨ s = 3 then 2 else if s = 1 ∨ s = 4 ∨ s = 8 ∨ s = 9 then 1 else 0
def width (s : Int) : Int := if s = 1 then 8 else if s = 3 ∨ s = 4 ∨ s = 5 then 4 else if s = 7 ∨ s = 8 ∨ s = 10 then 1 else 0
def size (s : Int) : Int := if s = 0 then 0 else if regs s > 0 then 2 + width s else 1 + width s

theorem shp_range (op : Int) : 0 ≤ shp op ∧ shp op ≤ 10 := by
  unfold shp
  by_cases h0 : op < 0
  · rw [if_pos h0]; omega
  · rw [if_neg h0]
    by_cases h1 : op ≥ 34
    · rw [if_pos h1]; omega
    · rw [if_neg h1]
      have key : ∀ i : Fin 34, 0 ≤ rd shapeTab (i.val : Int) ∧ rd shapeTab (i.val : Int) ≤ 10 := by decide +kernel
      have h := key ⟨op.toNat, by omega⟩
      simp only at h
      rw [show ((op.toNat : Nat) : Int) = op by omega] at h
      exact h

theorem shp_pos {op : Int} (h : shp op ≠ 0) : 0 ≤ op ∧ op < 34 := by
  unfold shp at h
  by_cases h0 : op < 0
  · rw [if_pos h0] at h; omega
  · rw [if_neg h0] at h
    by_cases h1 : op ≥ 34
    · rw [if_pos h1] at h; omega
    · omega

theorem shapeOf_f (op : Int) : ins_shapeOf.f op = some (shp op) := by
  unfold ins_shapeOf.f shp
  by_cases h0 : op < 0
  · rw [if_pos h0, if_pos h0]
  · rw [if_neg h0, if_neg h0]
    by_cases h1 : op ≥ 34
    · rw [if_pos h1, if_pos h1]
    · rw [if_neg h1, if_neg h1]

theorem eleven {s : Int} (h0 : 0 ≤ s) (h1 : s ≤ 10) : s = 0 ∨ s = 1 ∨ s = 2 ∨ s = 3 ∨ s = 4 ∨ s = 5 ∨ s = 6 ∨ s = 7 ∨ s = 8 ∨ s = 9 ∨ s = 10 := by omega

theorem registers_f {s : Int} (h0 : 0 ≤ s) (h1 : s ≤ 10) (k : Nat) : ins_shape_registers.f (k + 1) s = some (regs s) := by
  rcases eleven h0 h1 with rfl | rfl | rfl | rfl | rfl | rfl | rfl | rfl | rfl | rfl | rfl <;> rfl
theorem width_f {s : Int} (h0 : 0 ≤ s) (h1 : s ≤ 10) (k : Nat) : ins_shape_width.f (k + 1) s = some (width s) := by
  rcases eleven h0 h1 with rfl | rfl | rfl | rfl | rfl | rfl | rfl | rfl | rfl | rfl | rfl <;> rfl
theorem size_f {s : Int} (h0 : 0 ≤ s) (h1 : s ≤ 10) (k : Nat) : ins_shape_size.f (k + 1) s = some (size s) := by
  unfold ins_shape_size.f
  rw [registers_f h0 h1, width_f h0 h1]
  rcases eleven h0 h1 with rfl | rfl | rfl | rfl | rfl | rfl | rfl | rfl | rfl | rfl | rfl <;> decide +kernel
theorem Size_f (op : Int) (k : Nat) : ins_Size.f (k + 1) op = some (size (shp op)) := by
  unfold ins_Size.f
  rw [shapeOf_f]
  simp only [Option.bind_some]
  rw [size_f (shp_range op).1 (shp_range op).2]
  rfl
theorem width_nonneg (s : Int) : 0 ≤ width s ∧ width s ≤ 8 := by
  unfold width
  split
  · omega
  · split
    · omega
    · split <;> omega
theorem form_f (op : Int) (k : Nat) : cotterref03_form.f (k + 7) op = some (shp op) := by
  by_cases h0 : op < 0 ∨ op ≥ 34
  · have hs : shp op = 0 := by
      unfold shp
      rcases h0 with h | h
      · rw [if_pos h]
      · rw [if_neg (by omega), if_pos h]
    rw [hs]
    have hn : ∀ c : Int, 0 ≤ c → c < 34 → (op == c) = false := by
      intro c h1 h2
      have : op ≠ c := by omega
      simpa using this
    have hn' : ∀ c : Int, 0 ≤ c → c < 34 → ¬ op = c := by
      intro c h1 h2
      omega
    have hj : cotterref03_form.j0 (k + 7) op false = some 0 := by
      simp only [cotterref03_form.j0, cotterref03_form.j1, cotterref03_form.j2, cotterref03_form.j3, cotterref03_form.j4, cotterref03_form.j5]
      simp only [hn 29 (by omega) (by omega), hn 22 (by omega) (by omega), hn 23 (by omega) (by omega), hn 32 (by omega) (by omega), hn 27 (by omega) (by omega), hn' 17 (by omega) (by omega), hn' 18 (by omega) (by omega), hn' 28 (by omega) (by omega),
        hn' 19 (by omega) (by omega), hn' 21 (by omega) (by omega), hn' 20 (by omega) (by omega), hn' 24 (by omega) (by omega), hn' 30 (by omega) (by omega), hn' 25 (by omega) (by omega), hn' 26 (by omega) (by omega), hn' 31 (by omega) (by omega), hn' 33 (by omega) (by omega),
        Bool.false_eq_true, if_false]
    unfold cotterref03_form.f
    rw [if_neg (by omega)]
    by_cases h2 : op ≥ 2
    · rw [if_pos h2, decide_eq_false (by omega)]
      exact hj
    · rw [if_neg h2]
      exact hj
  · have key : ∀ i : Fin 34, cotterref03_form.f 7 (i.val : Int) = some (shp (i.val : Int)) := by decide +kernel
    have h := key ⟨op.toNat, by omega⟩
    simp only at h
    rw [show ((op.toNat : Nat) : Int) = op by omega] at h
    exact at_rounds (fun k => cotterref03_form.mono op k) (show 7 ≤ k + 7 by omega) h

theorem parts_f {s : Int} (h0 : 0 ≤ s) (h1 : s ≤ 10) (k : Nat) : cotterref03_parts.f (k + 1) s = some (decide (regs s > 0), decide (regs s = 2), width s) := by
  rcases eleven h0 h1 with rfl | rfl | rfl | rfl | rfl | rfl | rfl | rfl | rfl | rfl | rfl <;> rfl

theorem rSize_f (op : Int) (k : Nat) : cotterref03_Size.f (k + 7) op = some (size (shp op)) := by
  have hr := shp_range op
  unfold cotterref03_Size.f
  rw [form_f]
  simp only [Option.bind_some]
  generalize shp op = s at *
  by_cases hz : s = 0
  · rw [if_pos hz]; subst hz; rfl
  · rw [if_neg hz, parts_f hr.1 hr.2]
    simp only [Option.bind_some, decide_eq_true_eq]
    have hw := width_nonneg s
    unfold size
    rw [if_neg hz]
    by_cases hp : regs s > 0
    · rw [if_pos hp, if_pos hp, wrap64_id (n := width s + 1) (by omega) (by omega), wrap64_id (by omega) (by omega)]
      congr 1
      omega
    · rw [if_neg hp, if_neg hp, wrap64_id (by omega) (by omega)]

theorem tdiv_bounds {a b : Int} (ha : -9223372036854775808 ≤ a) (ha' : a < 9223372036854775808) (hb : b ≠ -1) (hb0 : b ≠ 0) : -9223372036854775808 ≤ Int.tdiv a b ∧ Int.tdiv a b < 9223372036854775808 := by
  have h1 : (Int.tdiv a b).natAbs = a.natAbs / b.natAbs := Int.natAbs_tdiv a b
  have hbn : b.natAbs ≠ 0 := by omega
  by_cases h : b = 1
  · subst h; rw [Int.tdiv_one]; omega
  · have h2 : a.natAbs / b.natAbs ≤ a.natAbs / 2 := Nat.div_le_div_left (by omega) (by omega)
    omega

theorem tmod_small {a b : Int} (hb0 : b ≠ 0) : (Int.tmod a b).natAbs ≤ a.natAbs ∧ (Int.tmod a b).natAbs < b.natAbs := by
  have h1 : (Int.tmod a b).natAbs = a.natAbs % b.natAbs := Int.natAbs_tmod a b
  rw [h1]
  exact ⟨Nat.mod_le _ _, Nat.mod_lt _ (by omega)⟩

theorem rest_eq {a b : Int} (ha : -9223372036854775808 ≤ a) (ha' : a < 9223372036854775808) (hb1 : -9223372036854775808 ≤ b) (hb2 : b < 9223372036854775808) (hb : b ≠ -1) (hb0 : b ≠ 0) :
    wrap64 (a - wrap64 (wrap64 (Int.tdiv a b) * b)) = Int.tmod a b := by
  obtain ⟨q0, q1⟩ := tdiv_bounds ha ha' hb hb0
  rw [wrap64_id q0 q1]
  have h := tmod_small (a := a) hb0
  have e : Int.tmod a b = a - Int.tdiv a b * b := by rw [Int.tmod_def, Int.mul_comm]
  generalize Int.tdiv a b * b = p at *
  generalize Int.tmod a b = m at *
  unfold wrap64
  omega

theorem neg_tdiv (a : Int) : Int.tdiv a (-1) = -a := by rw [Int.tdiv_neg, Int.tdiv_one]

theorem divide_same (k : Nat) (op a b : Int) (ha : -9223372036854775808 ≤ a) (ha' : a < 9223372036854775808) (hb1 : -9223372036854775808 ≤ b) (hb2 : b < 9223372036854775808) (hop : op = 6 ∨ op = 7) :
    word_divide.f (k + 2) op a b = cotterref01_quotient.f op a b := by
  unfold word_divide.f cotterref01_quotient.f
  by_cases h0 : b = 0
  · simp [h0]
  · rw [if_neg h0, if_neg h0]
    by_cases h1 : b = -1
    · subst h1
      rcases hop with rfl | rfl
      · by_cases hm : a = -9223372036854775808
        · subst hm; simp [word_divide.j0, wrap64]
        · simp [hm, word_divide.j0, word_divide.j1]
      · simp only [word_divide.j0, word_divide.j1]
        simp
        unfold wrap64
        omega
    · have hj : word_divide.j0 (k + 2) op a b false = if op = 6 then some (wrap64 (Int.tdiv a b), 0) else some (Int.tmod a b, 0) := by
        simp only [word_divide.j0, word_divide.j1]
        simp [h0, h1]
      simp only [h1, if_false, ite_self, hj]
      rw [rest_eq ha ha' hb1 hb2 h1 h0]

theorem some_ite {α : Type} {c : Prop} [Decidable c] {x y : Option α} (hx : x.isSome = true) (hy : y.isSome = true) : (if c then x else y).isSome = true := by
  split
  · exact hx
  · exact hy
theorem some_bind {α β : Type} {x : Option α} {f : α → Option β} (hx : x.isSome = true) (hf : ∀ a, (f a).isSome = true) : (x.bind f).isSome = true := by
  cases x with
  | none => cases hx
  | some a => exact hf a

theorem bin_same (k : Nat) (op a b : Int) (ha : -9223372036854775808 ≤ a) (ha' : a < 9223372036854775808) (hb1 : -9223372036854775808 ≤ b) (hb2 : b < 9223372036854775808) :
    ∃ r, word_Bin.f (k + 3) op a b = some r ∧ cotterref01_Bin.f (k + 3) op a b = some r := by
  have h63 := and63_range b
  have hu : IntKind.u64.wrap (Go.bits .and .i64 b 63) = Go.bits .and .i64 b 63 := wrap_u64_id (by omega) (by omega)
  have key : word_Bin.f (k + 3) op a b = cotterref01_Bin.f (k + 3) op a b ∧ (word_Bin.f (k + 3) op a b).isSome := by
    unfold word_Bin.f cotterref01_Bin.f
    by_cases h3 : op = 3
    · simp [h3]
    by_cases h4 : op = 4
    · simp [h4]
    by_cases h5 : op = 5
    · simp [h5]
    simp only [h3, h4, h5, if_false]
    by_cases h6 : op = 6
    · subst h6
      have := divide_same k 6 a b ha ha' hb1 hb2 (.inl rfl)
      simp only [word_Bin.j0, cotterref01_Bin.j0, if_true, BEq.rfl, this, true_and]
      unfold cotterref01_quotient.f
      repeat' (first | rfl | split)
    simp only [h6, if_false]
    by_cases h7 : op = 7
    · subst h7
      have := divide_same k 7 a b ha ha' hb1 hb2 (.inr rfl)
      simp only [word_Bin.j0, cotterref01_Bin.j0, if_true, BEq.rfl, this, true_and]
      unfold cotterref01_quotient.f
      repeat' (first | rfl | split)
    have e7 : (op == 7) = false := by simpa using h7
    simp only [e7, word_Bin.j0, cotterref01_Bin.j0, hu, word_flag.f, cotterref01_truth.f]
    have h63' : 0 ≤ Go.bits .and .i64 b 63 := h63.1
    simp only [h63', if_true]
    refine ⟨rfl, ?_⟩
    simp only [Bool.false_eq_true, if_false]
    repeat' (first | exact Option.isSome_some | refine some_ite ?_ ?_ | refine some_bind ?_ (fun _ => ?_))
  obtain ⟨h, hs⟩ := key
  obtain ⟨r, hr⟩ := Option.isSome_iff_exists.1 hs
  exact ⟨r, hr, h ▸ hr⟩


def I64 (x : Int) : Prop := -9223372036854775808 ≤ x ∧ x < 9223372036854775808
/-- All registers are of 64 bits. -/
def Cpu.Ok (c : Cpu) : Prop := I64 c.r0 ∧ I64 c.r1 ∧ I64 c.r2 ∧ I64 c.r3 ∧ I64 c.r4 ∧ I64 c.r5 ∧ I64 c.r6 ∧ I64 c.r7
theorem Cpu.Ok.get {c : Cpu} (h : c.Ok) (i : Int) : I64 (c.get i) := by
  obtain ⟨h0, h1, h2, h3, h4, h5, h6, h7⟩ := h
  unfold Cpu.get
  repeat (first | assumption | split)
def binF (op x y : Int) : Int × Int := (word_Bin.f 100 op x y).getD (0, 0)
theorem binF_p {op x y : Int} (hx : I64 x) (hy : I64 y) : word_Bin.f 100 op x y = some (binF op x y) ∧ cotterref01_Bin.f 100 op x y = some (binF op x y) := by
  obtain ⟨r, h1, h2⟩ := bin_same 97 op x y hx.1 hx.2 hy.1 hy.2
  have e : binF op x y = r := by unfold binF; rw [h1]; rfl
  rw [e]
  exact ⟨h1, h2⟩
/-- What Start answers. -/
def startF (c : Cpu) (op a b n size : Int) : Cpu × Rq :=
  if c.st ≠ 0 ∨ M.size (shp op) = 0 ∨ a < 0 ∨ 8 ≤ a ∨ b < 0 ∨ 8 ≤ b then (c, ⟨0, 0, 0, 0⟩) else startOk c op a b n size (binF op (c.get a) (c.get b))
theorem size_zero {s : Int} (h : s = 0) : M.size s = 0 := by subst h; rfl
theorem op_range {op : Int} (h : M.size (shp op) ≠ 0) : 1 ≤ op ∧ op ≤ 33 := by
  have h1 : shp op ≠ 0 := fun e => h (size_zero e)
  have h2 := shp_pos h1
  have h3 : op ≠ 0 := fun e => by subst e; exact h1 (by decide +kernel)
  omega
/-- What Finish answers. -/
def finF (c : Cpu) (kind reg n : Int) : Cpu :=
  if kind = 1 ∨ kind = 3 ∨ kind = 4 then (if reg = 8 then { c with pc := n } else if 0 ≤ reg ∧ reg < 8 then c.set reg n else c) else c
end Go.Proofs.YtjlfjkpbooholaaDoor.M
