/-
  The row and the card of the law InsStarts, out of its plain law and its walk. Written by a program of this session (wip/cardlaw.py). Conditions: those of the statement.
-/
import Derived.Test.YthmheblilgegcaaDoorCards
import Derived.Test.YthmheblilgegcaaDoorTie
import Derived.Test.YthmheblilgegcaaDoorLStarts
import Derived.Test.YthmheblilgegcaaDoorM18
import Derived.WalkKit
import Derived.ProofKit
import Derived.OpenShut
import Derived.ShutString
import Derived.ChangeOld
import Derived.Below
import Derived.SizedLaws
import Derived.Deep.DeepHandedRow
import Derived.Lib.LaidTab
import Derived.Lib.SmallJoins
namespace Go.Proofs.YthmheblilgegcaaDoor.cardInsStarts
open Go.ChangeShapes Go.WideShapes Go.ChangeAt Go.RowKit Go.Joins
open Go.ChangeMaps (open_string shut_string)
set_option linter.unusedVariables false
theorem own : ownKnob Tryd.prog.godebug = none := by kernel_rfl
theorem laidOut : laidOutB Tryd.prog = true := by kernel_rfl
theorem gTab : Tryd.prog.globalNamed "cotter/ins.shapes" = some 0 := by kernel_rfl
theorem gTabType : (Tryd.prog.globals[0]?).map (·.type) = some 51 := by kernel_rfl
theorem cellsA : Tryd.prog.cellsOf 51 = 34 := by kernel_rfl
theorem cellsE : Tryd.prog.cellsOf 40 = 1 := by kernel_rfl
theorem cellsI : Tryd.prog.cellsOf 23 = 4 := by kernel_rfl
theorem glob {W : World} (h : laidMetH Tryd.prog Rows.insStartsRow.laid W) : M.Glob W := fun i hi =>
  (Lib.tabIs_of_head (k := .u8) (zs := M.shapeTab) (rest := []) gTab gTabType Tryd.underlying51 Tryd.underlying40 cellsE cellsA h).cell gTab i hi
set_option maxRecDepth 100000 in
theorem contract (H : Type) (enc : TypeId × Value → H) (W : World) (base : Nat) (args : Array Value) (ds gs : List (DataW H)) (before : List MemPlace)
    (hval : ∀ (j : Nat) t v, Tryd.f8.params[j]? = some t → args[j]? = some v → Value.okWide Tryd.prog W .any base t v)
    (hW : DataW.Whole enc Tryd.prog Tryd.f8.params.toList Rows.insStartsSpec.vars false W args.toList ds gs before)
    (hsz : (DataW.weightsEach Tryd.prog (Tryd.f8.params.toList ++ Rows.insStartsSpec.plain.varTypes Tryd.prog) (ds ++ gs)).all (· ≤ reachBytes) = true)
    (hL : laidMetH Tryd.prog Rows.insStartsRow.laid W) :
    Calls Tryd.prog 8 args W fun e W' => ∃ v, e = .returned v ∧ Rows.insStartsSpec.post enc Tryd.prog Tryd.f8 false true false false W args v W' := by
  have hG := glob hL
  clear hL
  have hW' := hW
  obtain ⟨p, q, hA0, hV, rfl, hfz, hnd⟩ := hW
  have hA : DataW.TrodAll enc Tryd.prog W 0 (fun _ => true) true Tryd.f8.params.toList args.toList ds p := hA0
  rw [Tryd.params8] at hA hval hsz
  obtain ⟨v0, vs0, d0, ds0, p0, q0, hargs, rfl, rfl, h0, r0⟩ := trodAll_cons hA
  obtain ⟨v1, vs1, d1, ds1, p1, q1, rfl, rfl, rfl, h1, r1⟩ := trodAll_cons r0
  obtain ⟨rfl, rfl, rfl⟩ := trodAll_nil r1
  obtain rfl : args = #[v0, v1] := by cases args; simp_all
  obtain ⟨rfl, rfl⟩ := trodVars_none hV
  have k0 := h0
  have lt0 : ∀ x ∈ p0, x.block < W.heap.size := by obtain ⟨m, hm⟩ := k0; exact DataW.trod_lt m _ _ _ hm
  obtain ⟨c0_0, c0_1, c0_2, c0_3, y0_0, y0_1, y0_2, y0_3, m0, rfl, hd0, hp0, g0_0, g0_1, g0_2, g0_3⟩ := open_agg4 Tryd.underlying23 (by kernel_rfl) cellsI (hval 0 23 v0 rfl rfl) h0
  obtain ⟨a0_0, e0_0, hy0_0, hI0_0⟩ := DataW.trod_int Tryd.underlying3 g0_0
  obtain rfl : c0_0 = .int .i64 a0_0 := by simpa using e0_0
  obtain ⟨a0_1, e0_1, hy0_1, hI0_1⟩ := DataW.trod_int Tryd.underlying3 g0_1
  obtain rfl : c0_1 = .int .i64 a0_1 := by simpa using e0_1
  obtain ⟨a0_2, e0_2, hy0_2, hI0_2⟩ := DataW.trod_int Tryd.underlying3 g0_2
  obtain rfl : c0_2 = .int .i64 a0_2 := by simpa using e0_2
  obtain ⟨a0_3, e0_3, hy0_3, hI0_3⟩ := DataW.trod_int Tryd.underlying2 g0_3
  obtain rfl : c0_3 = .int .i64 a0_3 := by simpa using e0_3
  have k1 := h1
  have lt1 : ∀ x ∈ p1, x.block < W.heap.size := by obtain ⟨m, hm⟩ := k1; exact DataW.trod_lt m _ _ _ hm
  obtain ⟨c1_0, c1_1, c1_2, c1_3, y1_0, y1_1, y1_2, y1_3, m1, rfl, hd1, hp1, g1_0, g1_1, g1_2, g1_3⟩ := open_agg4 Tryd.underlying23 (by kernel_rfl) cellsI (hval 1 23 v1 rfl rfl) h1
  obtain ⟨a1_0, e1_0, hy1_0, hI1_0⟩ := DataW.trod_int Tryd.underlying3 g1_0
  obtain rfl : c1_0 = .int .i64 a1_0 := by simpa using e1_0
  obtain ⟨a1_1, e1_1, hy1_1, hI1_1⟩ := DataW.trod_int Tryd.underlying3 g1_1
  obtain rfl : c1_1 = .int .i64 a1_1 := by simpa using e1_1
  obtain ⟨a1_2, e1_2, hy1_2, hI1_2⟩ := DataW.trod_int Tryd.underlying3 g1_2
  obtain rfl : c1_2 = .int .i64 a1_2 := by simpa using e1_2
  obtain ⟨a1_3, e1_3, hy1_3, hI1_3⟩ := DataW.trod_int Tryd.underlying2 g1_3
  obtain rfl : c1_3 = .int .i64 a1_3 := by simpa using e1_3
  clear hA0 hval hsz
  obtain ⟨kk, hf⟩ : ∃ k, M.cotterlaw03_InsStarts.f k a0_0 a0_1 a0_2 a0_3 a1_0 a1_1 a1_2 a1_3 = some true := ⟨200, Ins.InsStarts _ _ _ _ _ _ _ _ (Num.wf_i64 hI0_3) (Num.wf_i64 hI1_3)⟩
  refine (M.cotterlaw03_InsStarts.calls kk a0_0 a0_1 a0_2 a0_3 a1_0 a1_1 a1_2 a1_3 true W hG hf).mono fun e W' ⟨he, bel⟩ => ?_
  subst he
  exact ⟨_, rfl, _, _, _, [], _, [], hW', trodAll_mk1 (shut_bool Tryd.underlying4 _), (trodAll_cons_mk (Below.trod laidOut (by kernel_rfl) (of_decide_eq_true (by kernel_rfl)) k0 bel lt0) (trodAll_cons_mk (Below.trod laidOut (by kernel_rfl) (of_decide_eq_true (by kernel_rfl)) k1 bel lt1) trodAll_mk0)), rfl, bel.frame _, fun h => by cases h⟩
noncomputable def laidWorld (os : Os) : World :=
  { World.holding Tryd.prog os ⟨#[], #[], []⟩ with heap := (World.holding Tryd.prog os ⟨#[], #[], []⟩).heap.modify 0 fun
      | .cells _ t frozen => .cells #[.int .u8 0, .int .u8 1, .int .u8 2, .int .u8 2, .int .u8 2, .int .u8 2, .int .u8 2, .int .u8 2, .int .u8 2, .int .u8 2, .int .u8 2, .int .u8 2, .int .u8 2, .int .u8 2, .int .u8 2, .int .u8 2, .int .u8 2, .int .u8 3, .int .u8 3, .int .u8 4, .int .u8 5, .int .u8 4, .int .u8 4, .int .u8 5, .int .u8 6, .int .u8 7, .int .u8 8, .int .u8 8, .int .u8 3, .int .u8 3, .int .u8 6, .int .u8 9, .int .u8 6, .int .u8 10] t frozen
      | o => o }
theorem laid_met (os : Os) : laidMet Tryd.prog Rows.insStartsRow.laid ((laidWorld os).forCall (fun _ _ => 0) ⟨#[], #[.agg #[.int .i64 0, .int .i64 0, .int .i64 0, .int .i64 0], .agg #[.int .i64 0, .int .i64 0, .int .i64 0, .int .i64 0]], []⟩).memory :=
  laidMet_of_run' 40 (by kernel_rfl) (by kernel_rfl)
theorem reads (os : Os) {H : Type} (enc : TypeId × Value → H) : ∃ places, DataW.whole enc Tryd.prog ((laidWorld os).forCall (fun _ _ => 0) ⟨#[], #[.agg #[.int .i64 0, .int .i64 0, .int .i64 0, .int .i64 0], .agg #[.int .i64 0, .int .i64 0, .int .i64 0, .int .i64 0]], []⟩).memory Tryd.f8.params.toList Rows.insStartsSpec.vars false #[.agg #[.int .i64 0, .int .i64 0, .int .i64 0, .int .i64 0], .agg #[.int .i64 0, .int .i64 0, .int .i64 0, .int .i64 0]].toList 40 = some ([.agg [.lit (.int .i64 0), .lit (.int .i64 0), .lit (.int .i64 0), .lit (.int .i64 0)], .agg [.lit (.int .i64 0), .lit (.int .i64 0), .lit (.int .i64 0), .lit (.int .i64 0)]], [], places) :=
  ⟨[], by kernel_rfl⟩
set_option maxRecDepth 100000 in
theorem lifted (os : Os) (started : os.Started) (H : Type) (enc : TypeId × Value → H) (F : Stop.Interp) :
    ReturnsInHanded {} Tryd.checked os 8 .any ((OpenSpec.ofChange Rows.insStartsSpec).preRow enc Tryd.prog Tryd.f8 Rows.insStartsRow.domain false Rows.insStartsRow.laid) (((OpenSpec.ofChange Rows.insStartsSpec).at F).post enc Tryd.prog Tryd.f8 false true false false) := by
  obtain ⟨places, hx⟩ := reads os enc
  refine returnsInHanded_of_row (C := Tryd.checked) (s := (OpenSpec.ofChange Rows.insStartsSpec)) own started (by kernel_rfl) Tryd.func8
    (witness_row_at (enc := enc) (C := Tryd.checked) false (laidWorld os) #[.agg #[.int .i64 0, .int .i64 0, .int .i64 0, .int .i64 0], .agg #[.int .i64 0, .int .i64 0, .int .i64 0, .int .i64 0]] rfl (by kernel_rfl) (by kernel_rfl) (by kernel_rfl)
      (OpenSpec.preRow_of_cond 40 hx (by kernel_rfl) (fun k hk => by cases hk) (by kernel_rfl) (laid_met os))) ?_
  intro W base args ds gs before hval hW _ hcond hsz hL _ _
  exact contract H enc W base args ds gs before hval hW hsz hL
theorem said : Rows.InsStartsSaid :=
  OpenClaim.holds_of_cond 8 Tryd.f8 rfl rfl rfl rfl rfl rfl rfl ⟨rfl, rfl, rfl, rfl, rfl⟩ rfl rfl rfl rfl rfl (by kernel_rfl) Tryd.func8 (by kernel_rfl)
    (of_decide_eq_true (by kernel_rfl)) (by unfold Func.isWrapper; first | (rw [if_pos (by decide +kernel)]; kernel_rfl) | (rw [if_neg (by decide +kernel)]; exact ⟨rfl, rfl⟩))
    (fun os started H enc _ F => by rw [OpenClaim.pre_eq_preRow]; exact lifted os started H enc F)
theorem plain (f : FuncId) (fn : Func) (hf : Tryd.pinned.checked.prog.funcNamed "cotter/cotterlaw03.InsStarts" = some f) (hfn : Tryd.pinned.checked.prog.funcs[f]? = some fn) :
    false = Tryd.pinned.checked.prog.looks [] ∧ ∀ (j : Nat) t, fn.params[j]? = some t → Tryd.pinned.checked.prog.wantsStandIn t = false := by
  obtain rfl : f = 8 := Option.some.inj ((show Tryd.prog.funcNamed "cotter/cotterlaw03.InsStarts" = some 8 by kernel_rfl).symm.trans hf) |>.symm
  obtain rfl : fn = Tryd.f8 := (Option.some.inj (Tryd.func8.symm.trans hfn)).symm
  refine ⟨by kernel_rfl, fun j t ht => ?_⟩
  rw [Tryd.params8] at ht
  have hm : t ∈ [23, 23] := by simpa using Array.mem_of_getElem? ht
  have hall : ([23, 23].all fun u => !Tryd.prog.wantsStandIn u) = true := by kernel_rfl
  exact (show Tryd.prog.wantsStandIn t = false by simpa using List.all_eq_true.1 hall t hm)
theorem card : Rows.InsStartsCardSaid :=
  Claim7.holds_tied_plain_at .later [] _ _ _ _ said (fun _ h => by cases h) (by kernel_rfl) (fun _ h => by cases h) insStarts_row_tie rfl ⟨rfl, rfl⟩ (by kernel_rfl) rfl plain (by kernel_rfl)
#print axioms card
end Go.Proofs.YthmheblilgegcaaDoor.cardInsStarts
namespace Go.Proofs.YthmheblilgegcaaDoor
theorem insStarts_card : Rows.InsStartsCardSaid := cardInsStarts.card
end Go.Proofs.YthmheblilgegcaaDoor
