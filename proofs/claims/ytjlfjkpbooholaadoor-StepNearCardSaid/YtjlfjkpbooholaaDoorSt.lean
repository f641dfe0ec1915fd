/-
  Layer 4: package step's Start, for every input. Condition: the registers are of 64 bits.
-/
import Derived.Test.YtjlfjkpbooholaaDoorPlain
import Derived.Test.YtjlfjkpbooholaaDoorSa
import Derived.Test.YtjlfjkpbooholaaDoorSb
import Derived.Test.YtjlfjkpbooholaaDoorSc
import Derived.Test.YtjlfjkpbooholaaDoorSd
import Derived.Deep.RegionWith
import Derived.Deep.QuietTactic
import Derived.BigQuiet
import Derived.StillTailTactics
namespace Go.Proofs.YtjlfjkpbooholaaDoor.M
open Go.RowKit Go.Proofs.YtjlfjkpbooholaaDoorW.PrintWords Go.Proofs.YtjlfjkpbooholaaDoorW.PrintLast
set_option linter.unusedSimpArgs false
set_option linter.unusedVariables false
open Go.Proofs.YtjlfjkpbooholaaDoor.Num
attribute [local go_sem] min_ints max_ints setCell_drewN alloc_drewN
theorem mn_lt (a b : Int) (h : a < 0 ∨ b < 0) : mn a b < 0 := by unfold mn; split <;> omega
theorem mx_ge (a b : Int) (h : 8 ≤ a ∨ 8 ≤ b) : mx a b ≥ 8 := by unfold mx; split <;> omega
set_option maxRecDepth 100000 in
set_option maxHeartbeats 4000000 in
theorem start_no (c : Cpu) (op a b n size sz : Int) (k : Nat) (w : World) (hG : Glob w) (hs : ins_Size.f k op = some sz) (hno : c.st ≠ 0 ∨ sz = 0 ∨ mn a b < 0 ∨ mx a b ≥ 8) :
    Calls Tryd.prog 9 #[c.v, ins op a b n, i64 size] w fun e w' => e = .returned (.tuple #[c.v, (⟨0, 0, 0, 0⟩ : Rq).v]) ∧ Below w.heap.size w w' := by
  have HG := Aside0.mk hG
  have A := Aside0.mk hs
  clear hG hs
  obtain ⟨r0, r1, r2, r3, r4, r5, r6, r7, pc, st, tr⟩ := c
  by_cases h1 : st = 0
  case neg =>
    have e1 : (st != 0) = true := bne_iff_ne.mpr h1
    clear h1 hno
    go_enter Tryd.func9, Tryd.ntmps9
    go_wp2
    all_goals (try (go_region; go_wp2))
    all_goals exact bodyPost_ret (v := .tuple #[.agg #[i64 r0, i64 r1, i64 r2, i64 r3, i64 r4, i64 r5, i64 r6, i64 r7, i64 pc, i64 st, i64 tr], .agg #[i64 0, i64 0, i64 0, i64 0]]) (by simp [results, Tryd.results9, go_sem]) rfl ⟨rfl, (by (repeat (first | (with_reducible first | apply below_alloc | apply pw_below_drewN | apply below_drew1) | exact Below.refl _ _)))⟩
  subst h1
  replace hno := hno.resolve_left (fun h => h rfl)
  by_cases h2 : sz = 0
  · subst h2
    clear hno
    go_enter Tryd.func9, Tryd.ntmps9
    go_wp2_with (first | (go_at_call 14; (with_reducible refine (size_go k _ _ w _ HG A (by (repeat (first | (with_reducible first | apply below_alloc | apply pw_below_drewN | apply below_drew1) | exact Below.refl _ _)))).mono ?_); rintro e w' ⟨rfl, ⟨nd, rfl⟩⟩))
    all_goals (try (go_region; go_wp2))
    all_goals exact bodyPost_ret (v := .tuple #[.agg #[i64 r0, i64 r1, i64 r2, i64 r3, i64 r4, i64 r5, i64 r6, i64 r7, i64 pc, i64 0, i64 tr], .agg #[i64 0, i64 0, i64 0, i64 0]]) (by simp [results, Tryd.results9, go_sem]) rfl ⟨rfl, (by (repeat (first | (with_reducible first | apply below_alloc | apply pw_below_drewN | apply below_drew1) | exact Below.refl _ _)))⟩
  have e2 : (sz == 0) = false := beq_eq_false_iff_ne.mpr h2
  replace hno := hno.resolve_left h2
  clear h2
  by_cases g0 : mn a b < 0
  · have f0 : decide (mn a b < 0) = true := decide_eq_true g0
    clear g0 hno
    go_enter Tryd.func9, Tryd.ntmps9
    go_wp2_with (first | (go_at_call 14; (with_reducible refine (size_go k _ _ w _ HG A (by (repeat (first | (with_reducible first | apply below_alloc | apply pw_below_drewN | apply below_drew1) | exact Below.refl _ _)))).mono ?_); rintro e w' ⟨rfl, ⟨nd, rfl⟩⟩))
    all_goals (try (go_region; go_wp2))
    all_goals exact bodyPost_ret (v := .tuple #[.agg #[i64 r0, i64 r1, i64 r2, i64 r3, i64 r4, i64 r5, i64 r6, i64 r7, i64 pc, i64 0, i64 tr], .agg #[i64 0, i64 0, i64 0, i64 0]]) (by simp [results, Tryd.results9, go_sem]) rfl ⟨rfl, (by (repeat (first | (with_reducible first | apply below_alloc | apply pw_below_drewN | apply below_drew1) | exact Below.refl _ _)))⟩
  have f0 : decide (mn a b < 0) = false := decide_eq_false g0
  by_cases g1 : mx a b ≥ 8
  · have f1 : decide (mx a b ≥ 8) = true := decide_eq_true g1
    clear g1 hno
    go_enter Tryd.func9, Tryd.ntmps9
    go_wp2_with (first | (go_at_call 14; (with_reducible refine (size_go k _ _ w _ HG A (by (repeat (first | (with_reducible first | apply below_alloc | apply pw_below_drewN | apply below_drew1) | exact Below.refl _ _)))).mono ?_); rintro e w' ⟨rfl, ⟨nd, rfl⟩⟩))
    all_goals (try (go_region; go_wp2))
    all_goals exact bodyPost_ret (v := .tuple #[.agg #[i64 r0, i64 r1, i64 r2, i64 r3, i64 r4, i64 r5, i64 r6, i64 r7, i64 pc, i64 0, i64 tr], .agg #[i64 0, i64 0, i64 0, i64 0]]) (by simp [results, Tryd.results9, go_sem]) rfl ⟨rfl, (by (repeat (first | (with_reducible first | apply below_alloc | apply pw_below_drewN | apply below_drew1) | exact Below.refl _ _)))⟩
  have f1 : decide (mx a b ≥ 8) = false := decide_eq_false g1
  exact absurd hno (by omega)
set_option maxHeartbeats 1000000 in
theorem start_c (c : Cpu) (ok : c.Ok) (op a b n size : Int) (w : World) (hG : Glob w) :
    Calls Tryd.prog 9 #[c.v, ins op a b n, i64 size] w fun e w' => e = .returned (.tuple #[(startF c op a b n size).1.v, (startF c op a b n size).2.v]) ∧ Below w.heap.size w w' := by
  by_cases hno : c.st ≠ 0 ∨ M.size (shp op) = 0 ∨ a < 0 ∨ 8 ≤ a ∨ b < 0 ∨ 8 ≤ b
  · rw [show startF c op a b n size = (c, ⟨0, 0, 0, 0⟩) from if_pos hno]
    exact start_no c op a b n size _ 60 w hG (Size_f op 59) (by rcases hno with h | h | h | h | h | h; exact .inl h; exact .inr (.inl h); exact .inr (.inr (.inl (mn_lt a b (.inl h)))); exact .inr (.inr (.inr (mx_ge a b (.inl h)))); exact .inr (.inr (.inl (mn_lt a b (.inr h)))); exact .inr (.inr (.inr (mx_ge a b (.inr h)))))
  rw [show startF c op a b n size = startOk c op a b n size (binF op (c.get a) (c.get b)) from if_neg hno]
  have hst : c.st = 0 := Decidable.byContradiction fun h => hno (.inl h)
  have hz : M.size (shp op) ≠ 0 := fun h => hno (.inr (.inl h))
  have ha0 : 0 ≤ a := by omega
  have ha : a < 8 := by omega
  have hb0 : 0 ≤ b := by omega
  have hb : b < 8 := by omega
  have hr := op_range hz
  clear hno
  have hs := (Size_f op 59)
  have cases : (3 ≤ op ∧ op ≤ 16) ∨ op = 1 ∨ op = 19 ∨ op = 2 ∨ op = 17 ∨ op = 18 ∨ op = 28 ∨ op = 29 ∨ op = 20 ∨ op = 25 ∨ op = 21 ∨ op = 26 ∨ op = 22 ∨ op = 27 ∨ op = 23 ∨ op = 24 ∨ op = 30 ∨ op = 31 ∨ op = 32 ∨ op = 33 := by omega
  rcases cases with ⟨ho, ho'⟩ | rfl | rfl | rfl | rfl | rfl | rfl | rfl | rfl | rfl | rfl | rfl | rfl | rfl | rfl | rfl | rfl | rfl | rfl | rfl
  · have hbin := (binF_p (op := op) (ok.get a) (ok.get b)).1
    rcases hbe : binF op (c.get a) (c.get b) with ⟨vb, eb⟩
    rw [hbe] at hbin
    by_cases he : eb = 0
    · subst he
      exact start_bin c op a b n size _ 60 w hG hs hz hst ha0 ha hb0 hb ho ho' vb 0 hbin
    · exact start_err c op a b n size _ 60 w hG hs hz hst ha0 ha hb0 hb ho ho' vb eb hbin he
  · rw [show startOk c 1 a b n size (binF 1 (c.get a) (c.get b)) = startOk c 1 a b n size (0, 0) from by simp [startOk]]
    exact start_1 c a b n size _ 60 w hG hs hz hst ha0 ha hb0 hb
  · rw [show startOk c 19 a b n size (binF 19 (c.get a) (c.get b)) = startOk c 19 a b n size (0, 0) from by simp [startOk]]
    exact start_19 c a b n size _ 60 w hG hs hz hst ha0 ha hb0 hb
  · rw [show startOk c 2 a b n size (binF 2 (c.get a) (c.get b)) = startOk c 2 a b n size (0, 0) from by simp [startOk]]
    exact start_2 c a b n size _ 60 w hG hs hz hst ha0 ha hb0 hb
  · rw [show startOk c 17 a b n size (binF 17 (c.get a) (c.get b)) = startOk c 17 a b n size (0, 0) from by simp [startOk]]
    exact start_17 c a b n size _ 60 w hG hs hz hst ha0 ha hb0 hb
  · rw [show startOk c 18 a b n size (binF 18 (c.get a) (c.get b)) = startOk c 18 a b n size (0, 0) from by simp [startOk]]
    exact start_18 c a b n size _ 60 w hG hs hz hst ha0 ha hb0 hb
  · rw [show startOk c 28 a b n size (binF 28 (c.get a) (c.get b)) = startOk c 28 a b n size (0, 0) from by simp [startOk]]
    exact start_28 c a b n size _ 60 w hG hs hz hst ha0 ha hb0 hb
  · rw [show startOk c 29 a b n size (binF 29 (c.get a) (c.get b)) = startOk c 29 a b n size (0, 0) from by simp [startOk]]
    exact start_29 c a b n size _ 60 w hG hs hz hst ha0 ha hb0 hb
  · rw [show startOk c 20 a b n size (binF 20 (c.get a) (c.get b)) = startOk c 20 a b n size (0, 0) from by simp [startOk]]
    exact start_20 c a b n size _ 60 w hG hs hz hst ha0 ha hb0 hb
  · rw [show startOk c 25 a b n size (binF 25 (c.get a) (c.get b)) = startOk c 25 a b n size (0, 0) from by simp [startOk]]
    exact start_25 c a b n size _ 60 w hG hs hz hst ha0 ha hb0 hb
  · rw [show startOk c 21 a b n size (binF 21 (c.get a) (c.get b)) = startOk c 21 a b n size (0, 0) from by simp [startOk]]
    by_cases hgz : c.get a = 0
    · exact start_21z c a b n size _ 60 w hG hs hz hst ha0 ha hb0 hb hgz
    · exact start_21n c a b n size _ 60 w hG hs hz hst ha0 ha hb0 hb hgz
  · rw [show startOk c 26 a b n size (binF 26 (c.get a) (c.get b)) = startOk c 26 a b n size (0, 0) from by simp [startOk]]
    by_cases hgz : c.get a = 0
    · exact start_26z c a b n size _ 60 w hG hs hz hst ha0 ha hb0 hb hgz
    · exact start_26n c a b n size _ 60 w hG hs hz hst ha0 ha hb0 hb hgz
  · rw [show startOk c 22 a b n size (binF 22 (c.get a) (c.get b)) = startOk c 22 a b n size (0, 0) from by simp [startOk]]
    by_cases hgz : c.get a = 0
    · exact start_22z c a b n size _ 60 w hG hs hz hst ha0 ha hb0 hb hgz
    · exact start_22n c a b n size _ 60 w hG hs hz hst ha0 ha hb0 hb hgz
  · rw [show startOk c 27 a b n size (binF 27 (c.get a) (c.get b)) = startOk c 27 a b n size (0, 0) from by simp [startOk]]
    by_cases hgz : c.get a = 0
    · exact start_27z c a b n size _ 60 w hG hs hz hst ha0 ha hb0 hb hgz
    · exact start_27n c a b n size _ 60 w hG hs hz hst ha0 ha hb0 hb hgz
  · rw [show startOk c 23 a b n size (binF 23 (c.get a) (c.get b)) = startOk c 23 a b n size (0, 0) from by simp [startOk]]
    exact start_23 c a b n size _ 60 w hG hs hz hst ha0 ha hb0 hb
  · rw [show startOk c 24 a b n size (binF 24 (c.get a) (c.get b)) = startOk c 24 a b n size (0, 0) from by simp [startOk]]
    exact start_24 c a b n size _ 60 w hG hs hz hst ha0 ha hb0 hb
  · rw [show startOk c 30 a b n size (binF 30 (c.get a) (c.get b)) = startOk c 30 a b n size (0, 0) from by simp [startOk]]
    exact start_30 c a b n size _ 60 w hG hs hz hst ha0 ha hb0 hb
  · rw [show startOk c 31 a b n size (binF 31 (c.get a) (c.get b)) = startOk c 31 a b n size (0, 0) from by simp [startOk]]
    exact start_31 c a b n size _ 60 w hG hs hz hst ha0 ha hb0 hb
  · rw [show startOk c 32 a b n size (binF 32 (c.get a) (c.get b)) = startOk c 32 a b n size (0, 0) from by simp [startOk]]
    exact start_32 c a b n size _ 60 w hG hs hz hst ha0 ha hb0 hb
  · rw [show startOk c 33 a b n size (binF 33 (c.get a) (c.get b)) = startOk c 33 a b n size (0, 0) from by simp [startOk]]
    exact start_33 c a b n size _ 60 w hG hs hz hst ha0 ha hb0 hb
end Go.Proofs.YtjlfjkpbooholaaDoor.M
