/-
  The row and the card of the law StepNear, out of its plain law and its walk. Written by a program of this session (wip/cardlaw.py). Conditions: those of the statement.
-/
import Derived.Test.YtjlfjkpbooholaaDoorCards
import Derived.Test.YtjlfjkpbooholaaDoorTie
import Derived.Test.YtjlfjkpbooholaaDoorLe
import Derived.Test.YtjlfjkpbooholaaDoorNum
import Derived.Test.YtjlfjkpbooholaaDoorFlat
import Derived.WalkKit
import Derived.ProofKit
import Derived.OpenShut
import Derived.ShutString
import Derived.ChangeOld
import Derived.Below
import Derived.SizedLaws
import Derived.Deep.DeepHandedRow
import Derived.Lib.LaidTab
import Derived.Lib.SmallJoins
namespace Go.Proofs.YtjlfjkpbooholaaDoor.cardStepNear
open Go.ChangeShapes Go.WideShapes Go.ChangeAt Go.RowKit Go.Joins
open Go.ChangeMaps (open_string shut_string)
set_option linter.unusedVariables false
theorem own : ownKnob Tryd.prog.godebug = none := by kernel_rfl
theorem laidOut : laidOutB Tryd.prog = true := by kernel_rfl
theorem gTab : Tryd.prog.globalNamed "cotter/ins.shapes" = some 0 := by kernel_rfl
theorem gTabType : (Tryd.prog.globals[0]?).map (·.type) = some 60 := by kernel_rfl
theorem cellsA : Tryd.prog.cellsOf 60 = 34 := by kernel_rfl
theorem cellsE : Tryd.prog.cellsOf 52 = 1 := by kernel_rfl
theorem glob {W : World} (h : laidMetH Tryd.prog Rows.stepNearRow.laid W) : M.Glob W := fun i hi =>
  (Lib.tabIs_of_head (k := .u8) (zs := M.shapeTab) (rest := []) gTab gTabType Tryd.underlying60 Tryd.underlying52 cellsE cellsA h).cell gTab i hi
set_option maxRecDepth 100000 in
theorem contract (H : Type) (enc : TypeId × Value → H) (W : World) (base : Nat) (args : Array Value) (ds gs : List (DataW H)) (before : List MemPlace)
    (hval : ∀ (j : Nat) t v, Tryd.f7.params[j]? = some t → args[j]? = some v → Value.okWide Tryd.prog W .any base t v)
    (hW : DataW.Whole enc Tryd.prog Tryd.f7.params.toList Rows.stepNearSpec.vars false W args.toList ds gs before)
    (hsz : (DataW.weightsEach Tryd.prog (Tryd.f7.params.toList ++ Rows.stepNearSpec.plain.varTypes Tryd.prog) (ds ++ gs)).all (· ≤ reachBytes) = true)
    (hL : laidMetH Tryd.prog Rows.stepNearRow.laid W) :
    Calls Tryd.prog 7 args W fun e W' => ∃ v, e = .returned v ∧ Rows.stepNearSpec.post enc Tryd.prog Tryd.f7 false true false false W args v W' := by
  have hG := glob hL
  clear hL
  have hW' := hW
  obtain ⟨p, q, hA0, hV, rfl, hfz, hnd⟩ := hW
  have hA : DataW.TrodAll enc Tryd.prog W 0 (fun _ => true) true Tryd.f7.params.toList args.toList ds p := hA0
  rw [Tryd.params7] at hA hval hsz
  obtain ⟨v0, vs0, d0, ds0, p0, q0, hargs, rfl, rfl, h0, r0⟩ := trodAll_cons hA
  obtain ⟨rfl, rfl, rfl⟩ := trodAll_nil r0
  obtain rfl : args = #[v0] := by cases args; simp_all
  obtain ⟨rfl, rfl⟩ := trodVars_none hV
  have k0 := h0
  have lt0 : ∀ x ∈ p0, x.block < W.heap.size := by obtain ⟨m, hm⟩ := k0; exact DataW.trod_lt m _ _ _ hm
  obtain ⟨cs0, rfl, fl0_0⟩ := Go.Proofs.YtjlfjkpbooholaaDoor.Flat.open_flat (m := 6) (ls := [(.int .i64), (.int .i64), (.int .i64), (.int .i64), (.int .i64), (.int .i64), (.int .i64), (.int .i64), (.int .i64), (.int .i64), (.int .i64), (.int .i64), (.int .i64), (.int .i8)]) Tryd.underlying40 (by kernel_rfl) (hval 0 40 v0 rfl rfl) h0
  obtain ⟨_, _, rfl, ⟨a0_0, rfl, hI0_0⟩, fl0_1⟩ := fl0_0.cons
  clear fl0_0
  obtain ⟨_, _, rfl, ⟨a0_1, rfl, hI0_1⟩, fl0_2⟩ := fl0_1.cons
  clear fl0_1
  obtain ⟨_, _, rfl, ⟨a0_2, rfl, hI0_2⟩, fl0_3⟩ := fl0_2.cons
  clear fl0_2
  obtain ⟨_, _, rfl, ⟨a0_3, rfl, hI0_3⟩, fl0_4⟩ := fl0_3.cons
  clear fl0_3
  obtain ⟨_, _, rfl, ⟨a0_4, rfl, hI0_4⟩, fl0_5⟩ := fl0_4.cons
  clear fl0_4
  obtain ⟨_, _, rfl, ⟨a0_5, rfl, hI0_5⟩, fl0_6⟩ := fl0_5.cons
  clear fl0_5
  obtain ⟨_, _, rfl, ⟨a0_6, rfl, hI0_6⟩, fl0_7⟩ := fl0_6.cons
  clear fl0_6
  obtain ⟨_, _, rfl, ⟨a0_7, rfl, hI0_7⟩, fl0_8⟩ := fl0_7.cons
  clear fl0_7
  obtain ⟨_, _, rfl, ⟨a0_8, rfl, hI0_8⟩, fl0_9⟩ := fl0_8.cons
  clear fl0_8
  obtain ⟨_, _, rfl, ⟨a0_9, rfl, hI0_9⟩, fl0_10⟩ := fl0_9.cons
  clear fl0_9
  obtain ⟨_, _, rfl, ⟨a0_10, rfl, hI0_10⟩, fl0_11⟩ := fl0_10.cons
  clear fl0_10
  obtain ⟨_, _, rfl, ⟨a0_11, rfl, hI0_11⟩, fl0_12⟩ := fl0_11.cons
  clear fl0_11
  obtain ⟨_, _, rfl, ⟨a0_12, rfl, hI0_12⟩, fl0_13⟩ := fl0_12.cons
  clear fl0_12
  obtain ⟨_, _, rfl, ⟨a0_13, rfl, hI0_13⟩, fl0_14⟩ := fl0_13.cons
  clear fl0_13
  obtain rfl := fl0_14.nil
  clear hA0 hval hsz
  refine (M.stepNear_c ⟨a0_0, a0_1, a0_2, a0_3, a0_4, a0_5, a0_6, a0_7, a0_8, a0_9, a0_10⟩ ⟨Num.wf_i64 hI0_0, Num.wf_i64 hI0_1, Num.wf_i64 hI0_2, Num.wf_i64 hI0_3, Num.wf_i64 hI0_4, Num.wf_i64 hI0_5, Num.wf_i64 hI0_6, Num.wf_i64 hI0_7⟩ a0_11 a0_12 a0_13 (M.wf_i8 hI0_13) (Num.wf_i64 hI0_11).1 (Num.wf_i64 hI0_11).2 W hG).mono fun e W' ⟨he, bel⟩ => ?_
  subst he
  exact ⟨_, rfl, _, _, _, [], _, [], hW', trodAll_mk1 (shut_bool Tryd.underlying4 _), (trodAll_cons_mk (Below.trod laidOut (by kernel_rfl) (of_decide_eq_true (by kernel_rfl)) k0 bel lt0) trodAll_mk0), rfl, bel.frame _, fun h => by cases h⟩
noncomputable def laidWorld (os : Os) : World :=
  { World.holding Tryd.prog os ⟨#[], #[], []⟩ with heap := (World.holding Tryd.prog os ⟨#[], #[], []⟩).heap.modify 0 fun
      | .cells _ t frozen => .cells #[.int .u8 0, .int .u8 1, .int .u8 2, .int .u8 2, .int .u8 2, .int .u8 2, .int .u8 2, .int .u8 2, .int .u8 2, .int .u8 2, .int .u8 2, .int .u8 2, .int .u8 2, .int .u8 2, .int .u8 2, .int .u8 2, .int .u8 2, .int .u8 3, .int .u8 3, .int .u8 4, .int .u8 5, .int .u8 4, .int .u8 4, .int .u8 5, .int .u8 6, .int .u8 7, .int .u8 8, .int .u8 8, .int .u8 3, .int .u8 3, .int .u8 6, .int .u8 9, .int .u8 6, .int .u8 10] t frozen
      | o => o }
theorem laid_met (os : Os) : laidMet Tryd.prog Rows.stepNearRow.laid ((laidWorld os).forCall (fun _ _ => 0) ⟨#[], #[.agg #[.int .i64 0, .int .i64 0, .int .i64 0, .int .i64 0, .int .i64 0, .int .i64 0, .int .i64 0, .int .i64 0, .int .i64 0, .int .i64 0, .int .i64 0, .int .i64 0, .int .i64 0, .int .i8 0]], []⟩).memory :=
  laidMet_of_run' 40 (by kernel_rfl) (by kernel_rfl)
theorem reads (os : Os) {H : Type} (enc : TypeId × Value → H) : ∃ places, DataW.whole enc Tryd.prog ((laidWorld os).forCall (fun _ _ => 0) ⟨#[], #[.agg #[.int .i64 0, .int .i64 0, .int .i64 0, .int .i64 0, .int .i64 0, .int .i64 0, .int .i64 0, .int .i64 0, .int .i64 0, .int .i64 0, .int .i64 0, .int .i64 0, .int .i64 0, .int .i8 0]], []⟩).memory Tryd.f7.params.toList Rows.stepNearSpec.vars false #[.agg #[.int .i64 0, .int .i64 0, .int .i64 0, .int .i64 0, .int .i64 0, .int .i64 0, .int .i64 0, .int .i64 0, .int .i64 0, .int .i64 0, .int .i64 0, .int .i64 0, .int .i64 0, .int .i8 0]].toList 40 = some ([.agg [.agg [.agg [.lit (.int .i64 0), .lit (.int .i64 0), .lit (.int .i64 0), .lit (.int .i64 0), .lit (.int .i64 0), .lit (.int .i64 0), .lit (.int .i64 0), .lit (.int .i64 0)], .lit (.int .i64 0), .lit (.int .i64 0), .lit (.int .i64 0)], .lit (.int .i64 0), .lit (.int .i64 0), .lit (.int .i8 0)]], [], places) :=
  ⟨[], by kernel_rfl⟩
set_option maxRecDepth 100000 in
theorem lifted (os : Os) (started : os.Started) (H : Type) (enc : TypeId × Value → H) (F : Stop.Interp) :
    ReturnsInHanded {} Tryd.checked os 7 .any ((OpenSpec.ofChange Rows.stepNearSpec).preRow enc Tryd.prog Tryd.f7 Rows.stepNearRow.domain false Rows.stepNearRow.laid) (((OpenSpec.ofChange Rows.stepNearSpec).at F).post enc Tryd.prog Tryd.f7 false true false false) := by
  obtain ⟨places, hx⟩ := reads os enc
  refine returnsInHanded_of_row (C := Tryd.checked) (s := (OpenSpec.ofChange Rows.stepNearSpec)) own started (by kernel_rfl) Tryd.func7
    (witness_row_at (enc := enc) (C := Tryd.checked) false (laidWorld os) #[.agg #[.int .i64 0, .int .i64 0, .int .i64 0, .int .i64 0, .int .i64 0, .int .i64 0, .int .i64 0, .int .i64 0, .int .i64 0, .int .i64 0, .int .i64 0, .int .i64 0, .int .i64 0, .int .i8 0]] rfl (by kernel_rfl) (by kernel_rfl) (by kernel_rfl)
      (OpenSpec.preRow_of_cond 40 hx (by kernel_rfl) (fun k hk => by cases hk) (by kernel_rfl) (laid_met os))) ?_
  intro W base args ds gs before hval hW _ hcond hsz hL _ _
  exact contract H enc W base args ds gs before hval hW hsz hL
theorem said : Rows.StepNearSaid :=
  OpenClaim.holds_of_cond 7 Tryd.f7 rfl rfl rfl rfl rfl rfl rfl ⟨rfl, rfl, rfl, rfl, rfl⟩ rfl rfl rfl rfl rfl (by kernel_rfl) Tryd.func7 (by kernel_rfl)
    (of_decide_eq_true (by kernel_rfl)) (by unfold Func.isWrapper; first | (rw [if_pos (by decide +kernel)]; kernel_rfl) | (rw [if_neg (by decide +kernel)]; exact ⟨rfl, rfl⟩))
    (fun os started H enc _ F => by rw [OpenClaim.pre_eq_preRow]; exact lifted os started H enc F)
theorem plain (f : FuncId) (fn : Func) (hf : Tryd.pinned.checked.prog.funcNamed "cotter/cotterlaw04.StepNear" = some f) (hfn : Tryd.pinned.checked.prog.funcs[f]? = some fn) :
    false = Tryd.pinned.checked.prog.looks [] ∧ ∀ (j : Nat) t, fn.params[j]? = some t → Tryd.pinned.checked.prog.wantsStandIn t = false := by
  obtain rfl : f = 7 := Option.some.inj ((show Tryd.prog.funcNamed "cotter/cotterlaw04.StepNear" = some 7 by kernel_rfl).symm.trans hf) |>.symm
  obtain rfl : fn = Tryd.f7 := (Option.some.inj (Tryd.func7.symm.trans hfn)).symm
  refine ⟨by kernel_rfl, fun j t ht => ?_⟩
  rw [Tryd.params7] at ht
  have hm : t ∈ [40] := by simpa using Array.mem_of_getElem? ht
  have hall : ([40].all fun u => !Tryd.prog.wantsStandIn u) = true := by kernel_rfl
  exact (show Tryd.prog.wantsStandIn t = false by simpa using List.all_eq_true.1 hall t hm)
theorem card : Rows.StepNearCardSaid :=
  Claim7.holds_tied_plain_at .later [] _ _ _ _ said (fun _ h => by cases h) (by kernel_rfl) (fun _ h => by cases h) stepNear_row_tie rfl ⟨rfl, rfl⟩ (by kernel_rfl) rfl plain (by kernel_rfl)
#print axioms card
end Go.Proofs.YtjlfjkpbooholaaDoor.cardStepNear
namespace Go.Proofs.YtjlfjkpbooholaaDoor
theorem stepNear_card : Rows.StepNearCardSaid := cardStepNear.card
end Go.Proofs.YtjlfjkpbooholaaDoor
