/-
  Texts of the proofs of MemJoins, cut to what the proofs reach and packed by a program of this session (wip/packs.py). Each part begins with what it says; conditions: those told there.
-/
import Derived.Test.YtkanhnhagjopkaaRows
import Derived.ProofKit
import Derived.OpenShut
import Derived.ChangeOld
import Derived.Test.YtkanhnhagjopkaaPSB5n4
/-
  The row of the law MemJoins, out of its walk. Written by a program of this session (wip/s02/row2.py). Conditions: those of the statement.
-/
namespace Go.Proofs.Ytkanhnhagjopkaa.memJoins
open Go.ChangeShapes Go.WideShapes Go.ChangeAt Go.RowKit
open Go.ChangeMaps (open_string shut_string)
set_option linter.unusedVariables false
theorem own : ownKnob Try.prog.godebug = none := by kernel_rfl
theorem laidOut : laidOutB Try.prog = true := by kernel_rfl
set_option maxRecDepth 100000 in
theorem lifted (os : Os) (started : os.Started) (H : Type) (enc : TypeId × Value → H) :
    ReturnsInHanded {} Try.checked os 6 .any (Rows.memJoinsSpec.pre6 enc Try.prog Try.f6 Rows.memJoinsRow.domain false) (Rows.memJoinsSpec.post enc Try.prog Try.f6 false true false false) := by
  refine returnsInHanded_of_change_sized (C := Try.checked) own started (by kernel_rfl) Try.func6
    (ChangeSpec.witness6 (enc := enc) (C := Try.checked) false ⟨#[], #[.slice none 0 0, .agg #[.slice none 0 0, .slice none 0 0], .agg #[.slice none 0 0, .slice none 0 0]], []⟩ 8 (by kernel_rfl) (by kernel_rfl) (by kernel_rfl) (by kernel_rfl)) ?_
  intro W base args ds gs before hval0 hW hcnd hsz0 _
  have hsz : (DataW.weightsEach Try.prog (Try.f6.params.toList ++ Rows.memJoinsSpec.plain.varTypes Try.prog) (ds ++ gs)).all (· ≤ reachBytes) = true := hsz0
  have hval : ∀ (j : Nat) t v, Try.f6.params[j]? = some t → args[j]? = some v → Value.okWide Try.prog W .any base t v := hval0
  have hW' := hW
  obtain ⟨p, q, hA0, hV, rfl, hfz, hnd⟩ := hW
  have hA : DataW.TrodAll enc Try.prog W 0 (fun _ => true) true Try.f6.params.toList args.toList ds p := hA0
  rw [Try.params6] at hA hval hsz
  obtain ⟨v0, vs0, d0, ds0, p0, q0, hargs, rfl, rfl, h0, r0⟩ := trodAll_cons hA
  obtain ⟨v1, vs1, d1, ds1, p1, q1, rfl, rfl, rfl, h1, r1⟩ := trodAll_cons r0
  obtain ⟨v2, vs2, d2, ds2, p2, q2, rfl, rfl, rfl, h2, r2⟩ := trodAll_cons r1
  obtain ⟨rfl, rfl, rfl⟩ := trodAll_nil r2
  obtain rfl : args = #[v0, v1, v2] := by cases args; simp_all
  obtain ⟨rfl, rfl⟩ := trodVars_none hV
  have lt0 : ∀ x ∈ p0, x.block < W.heap.size := by obtain ⟨m, hm⟩ := h0; exact DataW.trod_lt m _ _ _ hm
  obtain ⟨A0, c0, l0, hv0, hC0, hl0, hw0, hq0⟩ := M.open_feet (hval 0 52 v0 rfl rfl) h0 (fun z hz => by simpa using List.all_eq_true.1 hsz z (DataW.weights_mem_each (j := 0) (t := 52) rfl rfl z hz))
  subst hv0
  have lt1 : ∀ x ∈ p1, x.block < W.heap.size := by obtain ⟨m, hm⟩ := h1; exact DataW.trod_lt m _ _ _ hm
  obtain ⟨A1a, c1a, l1a, A1b, c1b, l1b, hv1, hC1a, hl1a, hC1b, hl1b, hq1⟩ := M.open_foot (hval 1 45 v1 rfl rfl) h1 (fun z hz => by simpa using List.all_eq_true.1 hsz z (DataW.weights_mem_each (j := 1) (t := 45) rfl rfl z hz))
  subst hv1
  have lt2 : ∀ x ∈ p2, x.block < W.heap.size := by obtain ⟨m, hm⟩ := h2; exact DataW.trod_lt m _ _ _ hm
  obtain ⟨A2a, c2a, l2a, A2b, c2b, l2b, hv2, hC2a, hl2a, hC2b, hl2b, hq2⟩ := M.open_foot (hval 2 45 v2 rfl rfl) h2 (fun z hz => by simpa using List.all_eq_true.1 hsz z (DataW.weights_mem_each (j := 2) (t := 45) rfl rfl z hz))
  subst hv2
  clear hA0 hval0 hsz0 hsz

  refine (M.cotterlaw02_MemJoins.calls 6000 A0 c0 l0 A1a c1a l1a A1b c1b l1b A2a c2a l2a A2b c2b l2b true W hC0 hl0 hC1a hl1a hC1b hl1b hC2a hl2a hC2b hl2b (M.joins_f l0 (fun f hf => ⟨(hq0 f hf).1, (hq0 f hf).2.1⟩) l1a l1b l2a l2b)).mono fun e W' ⟨he, bel⟩ => ?_
  subst he
  exact ⟨_, rfl, _, _, _, [], _, [], hW', trodAll_mk1 (shut_bool Try.underlying4 _), (trodAll_cons_mk (Below.trod laidOut (by kernel_rfl) (of_decide_eq_true (by kernel_rfl)) h0 bel lt0) (trodAll_cons_mk (Below.trod laidOut (by kernel_rfl) (of_decide_eq_true (by kernel_rfl)) h1 bel lt1) (trodAll_cons_mk (Below.trod laidOut (by kernel_rfl) (of_decide_eq_true (by kernel_rfl)) h2 bel lt2) trodAll_mk0))), rfl, bel.frame _, fun h => by cases h⟩
theorem over : Rows.memJoinsRow.holds Try.pinned (OpenSpec.ofChange Rows.memJoinsSpec) :=
  OpenClaim.holds_of_wide 6 Try.f6 rfl rfl rfl rfl rfl rfl rfl ⟨rfl, rfl, rfl, rfl, rfl⟩ rfl rfl rfl rfl rfl (by kernel_rfl) Try.func6 (by kernel_rfl)
    (of_decide_eq_true (by kernel_rfl)) (by unfold Func.isWrapper; first | (rw [if_pos (by decide +kernel)]; kernel_rfl) | (rw [if_neg (by decide +kernel)]; exact ⟨rfl, rfl⟩))
    (fun os started H enc _ => lifted os started H enc)
theorem proved : Rows.MemJoinsSaid := over
#print axioms proved
end Go.Proofs.Ytkanhnhagjopkaa.memJoins
namespace Go.Proofs.Ytkanhnhagjopkaa
/-- The row, under a short name, for the claim. -/
theorem memJoins_holds : Rows.MemJoinsSaid := memJoins.proved
end Go.Proofs.Ytkanhnhagjopkaa

