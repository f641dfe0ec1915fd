/-
  Layer 4, plain: what Start answers, as the laws ask it. Condition: the registers are of 64 bits.
-/
import Derived.Test.YtjlfjkpbooholaaDoorPlain
import Derived.Test.YtjlfjkpbooholaaDoorSd
namespace Go.Proofs.YtjlfjkpbooholaaDoor.M
set_option linter.unusedSimpArgs false
set_option linter.unusedVariables false
open Go.RowKit Go.Proofs.YtjlfjkpbooholaaDoor.Num Go.Proofs.YtjlfjkpbooholaaDoorW.PrintWords Go.Proofs.YtjlfjkpbooholaaDoorW.PrintLast

theorem size_pos {op : Int} (h1 : 1 ≤ op) (h2 : op ≤ 33) : M.size (shp op) ≠ 0 := by
  have key : ∀ i : Fin 33, M.size (shp ((i.val : Int) + 1)) ≠ 0 := by decide +kernel
  have h := key ⟨(op - 1).toNat, by omega⟩
  simp only at h
  rwa [show (((op - 1).toNat : Nat) : Int) + 1 = op by omega] at h
theorem startF_ok {c : Cpu} {op a b n size : Int} (hst : c.st = 0) (h1 : 1 ≤ op) (h2 : op ≤ 33) (ha0 : 0 ≤ a) (ha : a < 8) (hb0 : 0 ≤ b) (hb : b < 8) :
    startF c op a b n size = startOk c op a b n size (binF op (c.get a) (c.get b)) := by
  unfold startF
  rw [if_neg]
  intro h
  rcases h with h | h | h | h | h | h
  · exact h hst
  · exact size_pos h1 h2 h
  all_goals omega
theorem startF_no {c : Cpu} {op a b n size : Int} (h : c.st ≠ 0 ∨ M.size (shp op) = 0 ∨ a < 0 ∨ 8 ≤ a ∨ b < 0 ∨ 8 ≤ b) : startF c op a b n size = (c, ⟨0, 0, 0, 0⟩) := if_pos h
theorem set_pc (c : Cpu) (i v : Int) : (c.set i v).pc = c.pc := by unfold Cpu.set; repeat (first | rfl | split)
theorem set_st (c : Cpu) (i v : Int) : (c.set i v).st = c.st := by unfold Cpu.set; repeat (first | rfl | split)
theorem set_tr (c : Cpu) (i v : Int) : (c.set i v).tr = c.tr := by unfold Cpu.set; repeat (first | rfl | split)
theorem set_get (c : Cpu) (i v : Int) (k : Int) (hi0 : 0 ≤ i) (hi : i < 8) (hk0 : 0 ≤ k) (hk : k < 8) (h : k ≠ i) : (c.set i v).get k = c.get k := by
  rcases eightI i hi0 hi with rfl | rfl | rfl | rfl | rfl | rfl | rfl | rfl <;> rcases eightI k hk0 hk with rfl | rfl | rfl | rfl | rfl | rfl | rfl | rfl <;> first | rfl | exact absurd rfl h
theorem ops33 {op : Int} (h1 : 1 ≤ op) (h2 : op ≤ 33) : (3 ≤ op ∧ op ≤ 16) ∨ op = 1 ∨ op = 19 ∨ op = 2 ∨ op = 17 ∨ op = 18 ∨ op = 28 ∨ op = 29 ∨ op = 20 ∨ op = 25 ∨ op = 21 ∨ op = 26 ∨ op = 22 ∨ op = 27 ∨ op = 23 ∨ op = 24 ∨ op = 30 ∨ op = 31 ∨ op = 32 ∨ op = 33 := by omega
theorem bin_ok {op x y : Int} (h : 3 ≤ op) (h' : op ≤ 16) (h6 : op ≠ 6) (h7 : op ≠ 7) (hx : I64 x) (hy : I64 y) : (binF op x y).2 = 0 := by
  have hb := (binF_p (op := op) hx hy).1
  have h63 : 0 ≤ Go.bits .and .i64 y 63 ∧ Go.bits .and .i64 y 63 < 64 := and63_range y
  have hu : IntKind.u64.wrap (Go.bits .and .i64 y 63) = Go.bits .and .i64 y 63 := wrap_u64_id (by omega) (by omega)
  generalize binF op x y = r at *
  have hc : op = 3 ∨ op = 4 ∨ op = 5 ∨ op = 8 ∨ op = 9 ∨ op = 10 ∨ op = 11 ∨ op = 12 ∨ op = 13 ∨ op = 14 ∨ op = 15 ∨ op = 16 := by omega
  rcases hc with rfl | rfl | rfl | rfl | rfl | rfl | rfl | rfl | rfl | rfl | rfl | rfl <;> simp [word_Bin.f, word_Bin.j0, word_flag.f, hu, h63.1] at hb
  all_goals first
    | (rw [← hb])
    | (obtain ⟨_, _, hb⟩ := hb; rw [← hb])
    | (obtain ⟨_, hb⟩ := hb; rw [← hb])
    | (split at hb <;> (simp at hb; rw [← hb]))

theorem plain_law (c : Cpu) (ok : c.Ok) (op a b n size : Int) (hst : c.st = 0) (h1 : 1 ≤ op) (h2 : op ≤ 33) (ha0 : 0 ≤ a) (ha : a < 8) (hb0 : 0 ≤ b) (hb : b < 8) (hj : op < 20 ∨ 27 < op) (ht : op ≠ 33) :
    ((startF c op a b n size).1.st = 2 ∧ (op = 6 ∨ op = 7) ∧ (startF c op a b n size).1.pc = c.pc ∧ (startF c op a b n size).2 = ⟨0, 0, 0, 0⟩) ∨
      ((startF c op a b n size).1.st ≠ 2 ∧ (startF c op a b n size).1.pc = wrap64 (c.pc + size) ∧ ((startF c op a b n size).1.st = 1 ↔ op = 32)) := by
  rw [startF_ok hst h1 h2 ha0 ha hb0 hb]
  rcases ops33 h1 h2 with ⟨ho, ho'⟩ | rfl | rfl | rfl | rfl | rfl | rfl | rfl | rfl | rfl | rfl | rfl | rfl | rfl | rfl | rfl | rfl | rfl | rfl | rfl
  · rw [startOk_bin c op a b n size ho ho']
    by_cases hz : (binF op (c.get a) (c.get b)).2 = 0
    · rw [if_pos hz]
      refine .inr ⟨?_, ?_, ?_⟩
      · rw [set_st]; show c.st ≠ 2; omega
      · rw [set_pc]
      · rw [set_st]; show c.st = 1 ↔ op = 32; omega
    · rw [if_neg hz]
      refine .inl ⟨rfl, ?_, rfl, rfl⟩
      exact Decidable.byContradiction fun h => hz (bin_ok ho ho' (fun e => h (.inl e)) (fun e => h (.inr e)) (ok.get a) (ok.get b))
  all_goals first
    | (exfalso; omega)
    | (refine .inr ⟨?_, ?_, ?_⟩ <;> simp [startOk, set_st, set_pc, hst])

theorem turns_law (c : Cpu) (op a b n size : Int) (hst : c.st = 0) : (∀ k : Int, 0 ≤ k → k < 7 → k ≠ a → (startF c op a b n size).1.get k = c.get k) ∧
    ((startF c op a b n size).1.r7 = c.r7 ∨ a = 7 ∨ op = 23 ∨ op = 24) := by
  by_cases hno : c.st ≠ 0 ∨ M.size (shp op) = 0 ∨ a < 0 ∨ 8 ≤ a ∨ b < 0 ∨ 8 ≤ b
  · rw [startF_no hno]
    exact ⟨fun _ _ _ _ => rfl, .inl rfl⟩
  have hz : M.size (shp op) ≠ 0 := fun h => hno (.inr (.inl h))
  have ha0 : 0 ≤ a := by omega
  have ha : a < 8 := by omega
  have hb0 : 0 ≤ b := by omega
  have hb : b < 8 := by omega
  obtain ⟨h1, h2⟩ := op_range hz
  rw [startF_ok hst h1 h2 ha0 ha hb0 hb]
  have hset : ∀ (d : Cpu) (v : Int), (∀ k : Int, 0 ≤ k → k < 7 → k ≠ a → (d.set a v).get k = d.get k) ∧ ((d.set a v).r7 = d.r7 ∨ a = 7) := by
    intro d v
    refine ⟨fun k h0 h1 h => set_get d a v k ha0 ha h0 (by omega) h, ?_⟩
    by_cases e : a = 7
    · exact .inr e
    · exact .inl (set_get d a v 7 ha0 ha (by omega) (by omega) (fun h => e h.symm))
  rcases ops33 h1 h2 with ⟨ho, ho'⟩ | rfl | rfl | rfl | rfl | rfl | rfl | rfl | rfl | rfl | rfl | rfl | rfl | rfl | rfl | rfl | rfl | rfl | rfl | rfl
  · rw [startOk_bin c op a b n size ho ho']
    by_cases hz : (binF op (c.get a) (c.get b)).2 = 0
    · rw [if_pos hz]
      have := hset { c with pc := wrap64 (c.pc + size) } (binF op (c.get a) (c.get b)).1
      exact ⟨fun k h0 h1 h => this.1 k h0 h1 h, this.2.elim .inl fun h => .inr (.inl h)⟩
    · rw [if_neg hz]
      exact ⟨fun _ _ _ _ => rfl, .inl rfl⟩
  all_goals simp only [startOk, Int.reduceEq, false_or, or_false, or_true, true_or, if_true, if_false, or_self]
  all_goals first
    | (have := hset { c with pc := wrap64 (c.pc + size) } n; exact ⟨fun k h0 h1 h => this.1 k h0 h1 h, this.2.elim .inl fun h => .inr h⟩)
    | (have := hset { c with pc := wrap64 (c.pc + size) } (c.get b); exact ⟨fun k h0 h1 h => this.1 k h0 h1 h, this.2.elim .inl fun h => .inr h⟩)
    | exact ⟨fun _ _ _ _ => rfl, .inl rfl⟩
    | (exact ⟨fun _ _ _ _ => by split <;> rfl, .inl (by split <;> rfl)⟩)
    | (refine ⟨fun k h0 h1 h => ?_, trivial⟩; rcases eightI k h0 (by omega) with rfl | rfl | rfl | rfl | rfl | rfl | rfl | rfl <;> first | rfl | (exfalso; omega))

theorem near_law (c : Cpu) (a n : Int) (s l : Int) (h : (l = 20 ∧ s = 25) ∨ (l = 21 ∧ s = 26) ∨ (l = 22 ∧ s = 27)) : startF c l a 0 n 6 = startF c s a 0 n 6 := by
  have hl := size_pos (op := l) (by omega) (by omega)
  have hs := size_pos (op := s) (by omega) (by omega)
  unfold startF
  by_cases hno : c.st ≠ 0 ∨ a < 0 ∨ 8 ≤ a
  · rw [if_pos (by omega), if_pos (by omega)]
  · rw [if_neg (by omega), if_neg (by omega)]
    rcases h with ⟨rfl, rfl⟩ | ⟨rfl, rfl⟩ | ⟨rfl, rfl⟩ <;> simp [startOk]

theorem w1 {x y s : Int} (hy : -2147483648 ≤ y ∧ y < 2147483648) : wrap64 (wrap64 (wrap64 (x + y) + s) - wrap64 (x + s)) = y := by unfold wrap64; omega
theorem w2 {x y s n : Int} (hy : -2147483648 ≤ y ∧ y < 2147483648) : wrap64 (wrap64 (wrap64 (wrap64 (x + y) + s) + n) - wrap64 (wrap64 (x + s) + n)) = y := by unfold wrap64; omega
theorem w0 {x y : Int} (hy : -2147483648 ≤ y ∧ y < 2147483648) : wrap64 (wrap64 (x + y) - x) = y := by unfold wrap64; omega
theorem get_pc (c : Cpu) (x i : Int) : ({ c with pc := x } : Cpu).get i = c.get i := rfl
theorem set_nopc (c : Cpu) (x y i v : Int) : ({ ({ c with pc := x } : Cpu).set i v with pc := 0 } : Cpu) = { ({ c with pc := y } : Cpu).set i v with pc := 0 } := by
  unfold Cpu.set
  repeat (first | rfl | split)
theorem startF_pc {c : Cpu} {op a b n size : Int} (x : Int) (hst : c.st = 0) (h1 : 1 ≤ op) (h2 : op ≤ 33) (ha0 : 0 ≤ a) (ha : a < 8) (hb0 : 0 ≤ b) (hb : b < 8) :
    startF { c with pc := x } op a b n size = startOk { c with pc := x } op a b n size (binF op (c.get a) (c.get b)) := startF_ok (c := { c with pc := x }) hst h1 h2 ha0 ha hb0 hb
/-- With the PC moved, all but the PC and a CALL's return address is the same. -/
theorem shifted_law (c : Cpu) (op a b n size y : Int) (hy : -2147483648 ≤ y ∧ y < 2147483648) :
    ((startF c op a b n size).1.st = 0 → op ≠ 24 → wrap64 ((startF { c with pc := wrap64 (c.pc + y) } op a b n size).1.pc - (startF c op a b n size).1.pc) = y) ∧
    ({ (startF c op a b n size).1 with pc := 0 } : Cpu) = { (startF { c with pc := wrap64 (c.pc + y) } op a b n size).1 with pc := 0 } ∧
    ((op = 23 ∧ (startF c op a b n size).2.kind = 2 ∧ (startF { c with pc := wrap64 (c.pc + y) } op a b n size).2.kind = 2 ∧ wrap64 ((startF { c with pc := wrap64 (c.pc + y) } op a b n size).2.val - (startF c op a b n size).2.val) = y ∧
        ({ (startF c op a b n size).2 with val := 0 } : Rq) = { (startF { c with pc := wrap64 (c.pc + y) } op a b n size).2 with val := 0 }) ∨
      ((op ≠ 23 ∨ (startF c op a b n size).2.kind ≠ 2) ∧ (startF c op a b n size).2 = (startF { c with pc := wrap64 (c.pc + y) } op a b n size).2)) := by
  by_cases hno : c.st ≠ 0 ∨ M.size (shp op) = 0 ∨ a < 0 ∨ 8 ≤ a ∨ b < 0 ∨ 8 ≤ b
  · rw [startF_no hno, startF_no (c := { c with pc := wrap64 (c.pc + y) }) hno]
    exact ⟨fun _ _ => w0 hy, rfl, .inr ⟨.inr (by simp), rfl⟩⟩
  have hst : c.st = 0 := Decidable.byContradiction fun h => hno (.inl h)
  have hz : M.size (shp op) ≠ 0 := fun h => hno (.inr (.inl h))
  have ha0 : 0 ≤ a := by omega
  have ha : a < 8 := by omega
  have hb0 : 0 ≤ b := by omega
  have hb : b < 8 := by omega
  obtain ⟨h1, h2⟩ := op_range hz
  rw [startF_ok hst h1 h2 ha0 ha hb0 hb, startF_pc _ hst h1 h2 ha0 ha hb0 hb]
  rcases ops33 h1 h2 with ⟨ho, ho'⟩ | rfl | rfl | rfl | rfl | rfl | rfl | rfl | rfl | rfl | rfl | rfl | rfl | rfl | rfl | rfl | rfl | rfl | rfl | rfl
  · rw [startOk_bin c op a b n size ho ho', startOk_bin { c with pc := wrap64 (c.pc + y) } op a b n size ho ho']
    by_cases hz : (binF op (c.get a) (c.get b)).2 = 0
    · rw [if_pos hz, if_pos hz]
      refine ⟨fun _ _ => ?_, ?_, .inr ⟨.inl (by omega), rfl⟩⟩
      · simp only [set_pc]; exact w1 hy
      · exact set_nopc c _ _ _ _
    · rw [if_neg hz, if_neg hz]
      exact ⟨fun h => by simp at h, rfl, .inr ⟨.inl (by omega), rfl⟩⟩
  all_goals by_cases hg : c.get a = 0
  all_goals simp only [startOk, hg, Int.reduceEq, false_or, or_false, or_true, true_or, if_true, if_false, or_self, get_pc, ne_eq, not_true_eq_false, not_false_eq_true, true_and, false_and, forall_const, false_implies]
  all_goals first
    | trivial
    | exact ⟨fun _ => trivial, trivial⟩
    | exact fun _ => w1 hy
    | exact fun _ => w2 hy
    | (refine ⟨?_, ?_, ?_⟩ <;> first | trivial | exact fun _ => w1 hy | exact fun _ => w2 hy | rfl | exact w1 hy | (exact fun _ => (by simp only [set_pc]; exact w1 hy)) | exact set_nopc c _ _ _ _ | (exact fun h => absurd h (by omega)))
    | (refine ⟨?_, ?_⟩ <;> first | trivial | exact fun _ => w1 hy | exact fun _ => w2 hy | rfl | exact w1 hy | (exact fun _ => (by simp only [set_pc]; exact w1 hy)) | exact set_nopc c _ _ _ _ | (exact fun h => absurd h (by omega)))
    | (split <;> refine ⟨?_, ?_, ?_⟩ <;> first | trivial | exact fun _ => w1 hy | exact fun _ => w2 hy | rfl | exact w1 hy | (exact fun _ => (by simp only [set_pc]; exact w1 hy)) | exact set_nopc c _ _ _ _ | (exact fun h => absurd h (by omega)))
    | (split <;> refine ⟨?_, ?_⟩ <;> first | trivial | exact fun _ => w1 hy | exact fun _ => w2 hy | rfl | exact w1 hy | (exact fun _ => (by simp only [set_pc]; exact w1 hy)) | exact set_nopc c _ _ _ _ | (exact fun h => absurd h (by omega)))

end Go.Proofs.YtjlfjkpbooholaaDoor.M
