/-
  Texts of the proofs of LinkMore, cut to what the proofs reach and packed by a program of this session (wip/packs.py). Each part begins with what it says; conditions: those told there.
-/
import Derived.Test.YteaealmnmmcbpaaRows
import Derived.ProofKit
import Derived.ChangeOld
import Derived.Test.YteaealmnmmcbpaaPIB4n3
/-
  The row of the law LinkMore, out of its walk. Written by a program of this session (wip/s07/row7.py). Conditions: those of the statement.
-/
namespace Go.Proofs.Yteaealmnmmcbpaa.linkMore
open Go.ChangeShapes Go.WideShapes Go.ChangeAt Go.RowKit
open Go.ChangeMaps (open_string shut_string)
set_option linter.unusedVariables false
theorem own : ownKnob Try.prog.godebug = none := by kernel_rfl
theorem laidOut : laidOutB Try.prog = true := by kernel_rfl
set_option maxRecDepth 100000 in
theorem lifted (os : Os) (started : os.Started) (H : Type) (enc : TypeId × Value → H) :
    ReturnsInHanded {} Try.checked os 8 .any (Rows.linkMoreSpec.pre6 enc Try.prog Try.f8 Rows.linkMoreRow.domain false) (Rows.linkMoreSpec.post enc Try.prog Try.f8 false true false false) := by
  refine returnsInHanded_of_change_sized (C := Try.checked) own started (by kernel_rfl) Try.func8
    (ChangeSpec.witness6 (enc := enc) (C := Try.checked) false ⟨#[], #[.slice none 0 0, .agg #[.string ByteArray.empty, .slice none 0 0, .slice none 0 0, .slice none 0 0]], []⟩ 8 (by kernel_rfl) (by kernel_rfl) (by kernel_rfl) (by kernel_rfl)) ?_
  intro W base args ds gs before hval0 hW hcnd hsz0 _
  have hsz : (DataW.weightsEach Try.prog (Try.f8.params.toList ++ Rows.linkMoreSpec.plain.varTypes Try.prog) (ds ++ gs)).all (· ≤ reachBytes) = true := hsz0
  have hval : ∀ (j : Nat) t v, Try.f8.params[j]? = some t → args[j]? = some v → Value.okWide Try.prog W .any base t v := hval0
  have hW' := hW
  obtain ⟨p, q, hA0, hV, rfl, hfz, hnd⟩ := hW
  have hA : DataW.TrodAll enc Try.prog W 0 (fun _ => true) true Try.f8.params.toList args.toList ds p := hA0
  rw [Try.params8] at hA hval hsz
  obtain ⟨v0, vs0, d0, ds0, p0, q0, hargs, rfl, rfl, h0, r0⟩ := trodAll_cons hA
  obtain ⟨v1, vs1, d1, ds1, p1, q1, rfl, rfl, rfl, h1, r1⟩ := trodAll_cons r0
  obtain ⟨rfl, rfl, rfl⟩ := trodAll_nil r1
  obtain rfl : args = #[v0, v1] := by cases args; simp_all
  obtain ⟨rfl, rfl⟩ := trodVars_none hV
  have lt0 : ∀ x ∈ p0, x.block < W.heap.size := by obtain ⟨m, hm⟩ := h0; exact DataW.trod_lt m _ _ _ hm
  obtain ⟨A0, c0, l0, hv0, hC0, hl0, hw0, hq0⟩ := M.open_objs (hval 0 22 v0 rfl rfl) h0 (fun z hz => by simpa using List.all_eq_true.1 hsz z (DataW.weights_mem_each (j := 0) (t := 22) rfl rfl z hz))
  subst hv0
  have lt1 : ∀ x ∈ p1, x.block < W.heap.size := by obtain ⟨m, hm⟩ := h1; exact DataW.trod_lt m _ _ _ hm
  obtain ⟨s1, A1a, c1a, l1a, A1b, c1b, l1b, A1c, c1c, l1c, hv1, kC1a, kl1a, kC1b, kl1b, kC1c, kl1c, kw1a, kw1b, kw1c⟩ := M.open_one (hval 1 40 v1 rfl rfl) h1 (fun z hz => by simpa using List.all_eq_true.1 hsz z (DataW.weights_mem_each (j := 1) (t := 40) rfl rfl z hz))
  subst hv1
  clear hA0 hval0 hsz0 hsz
  obtain ⟨k, hk⟩ := M.more_f (l0 := l0) (o := ⟨s1, l1a, l1b, l1c⟩) (by omega) ⟨by rw [List.length_append]; simp only [List.length_cons, List.length_nil]; omega, fun o ho => by
    rcases List.mem_append.1 ho with ho | ho
    · have := hq0 o ho; exact ⟨by omega, by omega, by omega⟩
    · obtain rfl : o = ⟨s1, l1a, l1b, l1c⟩ := by simpa using ho
      exact ⟨by dsimp only; omega, by dsimp only; omega, by dsimp only; omega⟩⟩
  refine (M.LMo.calls k (fun _ => True) A0 c0 l0 s1 (fun _ => True) A1a c1a l1a (fun _ => True) A1b c1b l1b (fun _ => True) A1c c1c l1c true W (M.V_of_C M.heap_k40 40 hC0 hl0) (M.V_of_C M.heap_i64 2 kC1a kl1a) (M.V_of_C M.heap_k36 36 kC1b kl1b) (M.V_of_C M.heap_k45 45 kC1c kl1c) hk).mono fun e W' ⟨he, bel⟩ => ?_
  subst he
  exact ⟨_, rfl, _, _, _, [], _, [], hW', trodAll_mk1 (shut_bool Try.underlying4 _), (trodAll_cons_mk (Below.trod laidOut (by kernel_rfl) (of_decide_eq_true (by kernel_rfl)) h0 bel lt0) (trodAll_cons_mk (Below.trod laidOut (by kernel_rfl) (of_decide_eq_true (by kernel_rfl)) h1 bel lt1) trodAll_mk0)), rfl, bel.frame _, fun h => by cases h⟩
theorem over : Rows.linkMoreRow.holds Try.pinned (OpenSpec.ofChange Rows.linkMoreSpec) :=
  OpenClaim.holds_of_wide 8 Try.f8 rfl rfl rfl rfl rfl rfl rfl ⟨rfl, rfl, rfl, rfl, rfl⟩ rfl rfl rfl rfl rfl (by kernel_rfl) Try.func8 (by kernel_rfl)
    (of_decide_eq_true (by kernel_rfl)) (by unfold Func.isWrapper; first | (rw [if_pos (by decide +kernel)]; kernel_rfl) | (rw [if_neg (by decide +kernel)]; exact ⟨rfl, rfl⟩))
    (fun os started H enc _ => lifted os started H enc)
theorem proved : Rows.LinkMoreSaid := over
#print axioms proved
end Go.Proofs.Yteaealmnmmcbpaa.linkMore
namespace Go.Proofs.Yteaealmnmmcbpaa
/-- The row, under a short name, for the claim. -/
theorem linkMore_holds : Rows.LinkMoreSaid := linkMore.proved
end Go.Proofs.Yteaealmnmmcbpaa

