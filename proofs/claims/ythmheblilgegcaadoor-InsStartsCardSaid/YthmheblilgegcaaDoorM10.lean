-- Written by a program of this session (wip/ownprint.py) over the translation. Lean checks it.
import Derived.Test.YthmheblilgegcaaDoorM0
import Derived.Test.YthmheblilgegcaaDoorM8
import Derived.Test.YthmheblilgegcaaDoorM9
namespace Go.Proofs.YthmheblilgegcaaDoor.M
open Go.RowKit Go.Proofs.YthmheblilgegcaaDoorW.PrintWords Go.Proofs.YthmheblilgegcaaDoorW.PrintLast
set_option linter.unusedVariables false
set_option linter.unusedSimpArgs false

/-! ### cotterref03_Encode: function 10 -/
mutual
def cotterref03_Encode.j0 : Nat → Int → Bool → Bool → Int → Bool → Int → Int → Int → Int → Option (ByteArray × Int)
  | 0, _, _, _, _, _, _, _, _, _ => none
  | k + 1, x4, x5, x6, x7, x68, x170000, x170001, x170002, x170003 => if x68 = true then (some ((⟨#[]⟩ : ByteArray), 1)) else (if x4 = 10 then (if x170003 < 0 then (cotterref03_Encode.j1 k x5 x6 x7 true x170000 x170001 x170002 x170003) else (cotterref03_Encode.j1 k x5 x6 x7 (decide (x170003 > 127)) x170000 x170001 x170002 x170003)) else (cotterref03_Encode.j1 k x5 x6 x7 false x170000 x170001 x170002 x170003))
def cotterref03_Encode.j1 : Nat → Bool → Bool → Int → Bool → Int → Int → Int → Int → Option (ByteArray × Int)
  | 0, _, _, _, _, _, _, _, _ => none
  | k + 1, x5, x6, x7, x80, x170000, x170001, x170002, x170003 => if x80 = true then (some ((⟨#[]⟩ : ByteArray), 7)) else ((some (([(x170000) % 256] : List Int) : List Int)).bind fun y174 => (if x6 = true then ((some (([(wrap64 ((wrap64 (16 * x170001)) + x170002)) % 256] : List Int) : List Int)).bind fun y177 => (if (strOfNums y174).size + (strOfNums y177).size ≤ 9223372036854775807 then (cotterref03_Encode.j2 k x7 ((strOfNums y174) ++ (strOfNums y177)) x170000 x170001 x170002 x170003) else (none))) else (if x5 = true then ((some (([(x170001) % 256] : List Int) : List Int)).bind fun y180 => (if (strOfNums y174).size + (strOfNums y180).size ≤ 9223372036854775807 then (cotterref03_Encode.j2 k x7 ((strOfNums y174) ++ (strOfNums y180)) x170000 x170001 x170002 x170003) else (none))) else (cotterref03_Encode.j2 k x7 (strOfNums y174) x170000 x170001 x170002 x170003))))
def cotterref03_Encode.j2 : Nat → Int → ByteArray → Int → Int → Int → Int → Option (ByteArray × Int)
  | 0, _, _, _, _, _, _ => none
  | k + 1, x7, x8, x170000, x170001, x170002, x170003 => if x7 > 0 then ((cotterref01_Bytes.f k x170003 x7).bind fun bt183 => (if bt183.2 = 0 then (if x8.size + bt183.1.size ≤ 9223372036854775807 then (some (x8 ++ bt183.1, 0)) else (none)) else (some ((⟨#[]⟩ : ByteArray), bt183.2)))) else (some (x8, 0))
end
def cotterref03_Encode.f (k : Nat) (a0_0 : Int) (a0_1 : Int) (a0_2 : Int) (a0_3 : Int) : Option (ByteArray × Int) := (cotterref03_form.f k a0_0).bind fun t170 => ((cotterref03_parts.f k t170).bind fun bt171 => (if t170 = 0 then (cotterref03_Encode.j0 k t170 bt171.1 bt171.2.1 bt171.2.2 true a0_0 a0_1 a0_2 a0_3) else (if a0_1 < 0 then (cotterref03_Encode.j0 k t170 bt171.1 bt171.2.1 bt171.2.2 true a0_0 a0_1 a0_2 a0_3) else (if a0_1 > 7 then (cotterref03_Encode.j0 k t170 bt171.1 bt171.2.1 bt171.2.2 true a0_0 a0_1 a0_2 a0_3) else (if a0_2 < 0 then (cotterref03_Encode.j0 k t170 bt171.1 bt171.2.1 bt171.2.2 true a0_0 a0_1 a0_2 a0_3) else (if a0_2 > 7 then (cotterref03_Encode.j0 k t170 bt171.1 bt171.2.1 bt171.2.2 true a0_0 a0_1 a0_2 a0_3) else (if bt171.1 = true then (if bt171.2.1 = true then (if bt171.2.2 = 0 then (cotterref03_Encode.j0 k t170 bt171.1 bt171.2.1 bt171.2.2 (a0_3 != 0) a0_0 a0_1 a0_2 a0_3) else (cotterref03_Encode.j0 k t170 bt171.1 bt171.2.1 bt171.2.2 false a0_0 a0_1 a0_2 a0_3)) else (if a0_2 = 0 then (if bt171.2.2 = 0 then (cotterref03_Encode.j0 k t170 bt171.1 bt171.2.1 bt171.2.2 (a0_3 != 0) a0_0 a0_1 a0_2 a0_3) else (cotterref03_Encode.j0 k t170 bt171.1 bt171.2.1 bt171.2.2 false a0_0 a0_1 a0_2 a0_3)) else (cotterref03_Encode.j0 k t170 bt171.1 bt171.2.1 bt171.2.2 true a0_0 a0_1 a0_2 a0_3))) else (if a0_1 = 0 then (if bt171.2.1 = true then (if bt171.2.2 = 0 then (cotterref03_Encode.j0 k t170 bt171.1 bt171.2.1 bt171.2.2 (a0_3 != 0) a0_0 a0_1 a0_2 a0_3) else (cotterref03_Encode.j0 k t170 bt171.1 bt171.2.1 bt171.2.2 false a0_0 a0_1 a0_2 a0_3)) else (if a0_2 = 0 then (if bt171.2.2 = 0 then (cotterref03_Encode.j0 k t170 bt171.1 bt171.2.1 bt171.2.2 (a0_3 != 0) a0_0 a0_1 a0_2 a0_3) else (cotterref03_Encode.j0 k t170 bt171.1 bt171.2.1 bt171.2.2 false a0_0 a0_1 a0_2 a0_3)) else (cotterref03_Encode.j0 k t170 bt171.1 bt171.2.1 bt171.2.2 true a0_0 a0_1 a0_2 a0_3))) else (cotterref03_Encode.j0 k t170 bt171.1 bt171.2.1 bt171.2.2 true a0_0 a0_1 a0_2 a0_3)))))))))
theorem cotterref03_Encode.mono_l : ∀ k, (∀ y0 y1 y2 y3 y4 y5 y6 y7 y8, LeO (cotterref03_Encode.j0 k y0 y1 y2 y3 y4 y5 y6 y7 y8) (cotterref03_Encode.j0 (k + 1) y0 y1 y2 y3 y4 y5 y6 y7 y8)) ∧ (∀ y0 y1 y2 y3 y4 y5 y6 y7, LeO (cotterref03_Encode.j1 k y0 y1 y2 y3 y4 y5 y6 y7) (cotterref03_Encode.j1 (k + 1) y0 y1 y2 y3 y4 y5 y6 y7)) ∧ (∀ y0 y1 y2 y3 y4 y5, LeO (cotterref03_Encode.j2 k y0 y1 y2 y3 y4 y5) (cotterref03_Encode.j2 (k + 1) y0 y1 y2 y3 y4 y5))
  | 0 => ⟨fun _ _ _ _ _ _ _ _ _ r h => by simp [cotterref03_Encode.j0] at h, fun _ _ _ _ _ _ _ _ r h => by simp [cotterref03_Encode.j1] at h, fun _ _ _ _ _ _ r h => by simp [cotterref03_Encode.j2] at h⟩
  | k + 1 => by
    obtain ⟨ih0, ih1, ih2⟩ := cotterref03_Encode.mono_l k
    refine ⟨?_, ?_, ?_⟩
    · intro y0 y1 y2 y3 y4 y5 y6 y7 y8
      unfold cotterref03_Encode.j0
      repeat' first
      | (with_reducible exact ih0 _ _ _ _ _ _ _ _ _)
      | (with_reducible exact ih1 _ _ _ _ _ _ _ _)
      | (with_reducible exact ih2 _ _ _ _ _ _)
      | (with_reducible exact cotterref01_Bytes.mono _ _ _)
      | (with_reducible exact cotterref03_form.mono _ _)
      | (with_reducible exact cotterref03_parts.mono _ _)
      | (with_reducible exact LeO.refl _)
      | (with_reducible exact LeO.none _)
      | (with_reducible refine LeO.ite ?_ ?_)
      | (with_reducible refine LeO.bind ?_ (fun _ => ?_))
      | exact ih0 _ _ _ _ _ _ _ _ _
      | exact ih1 _ _ _ _ _ _ _ _
      | exact ih2 _ _ _ _ _ _
      | exact cotterref01_Bytes.mono _ _ _
      | exact cotterref03_form.mono _ _
      | exact cotterref03_parts.mono _ _
      | exact LeO.none _
      | refine LeO.ite ?_ ?_
      | refine LeO.bind ?_ (fun _ => ?_)
    · intro y0 y1 y2 y3 y4 y5 y6 y7
      unfold cotterref03_Encode.j1
      repeat' first
      | (with_reducible exact ih0 _ _ _ _ _ _ _ _ _)
      | (with_reducible exact ih1 _ _ _ _ _ _ _ _)
      | (with_reducible exact ih2 _ _ _ _ _ _)
      | (with_reducible exact cotterref01_Bytes.mono _ _ _)
      | (with_reducible exact cotterref03_form.mono _ _)
      | (with_reducible exact cotterref03_parts.mono _ _)
      | (with_reducible exact LeO.refl _)
      | (with_reducible exact LeO.none _)
      | (with_reducible refine LeO.ite ?_ ?_)
      | (with_reducible refine LeO.bind ?_ (fun _ => ?_))
      | exact ih0 _ _ _ _ _ _ _ _ _
      | exact ih1 _ _ _ _ _ _ _ _
      | exact ih2 _ _ _ _ _ _
      | exact cotterref01_Bytes.mono _ _ _
      | exact cotterref03_form.mono _ _
      | exact cotterref03_parts.mono _ _
      | exact LeO.none _
      | refine LeO.ite ?_ ?_
      | refine LeO.bind ?_ (fun _ => ?_)
    · intro y0 y1 y2 y3 y4 y5
      unfold cotterref03_Encode.j2
      repeat' first
      | (with_reducible exact ih0 _ _ _ _ _ _ _ _ _)
      | (with_reducible exact ih1 _ _ _ _ _ _ _ _)
      | (with_reducible exact ih2 _ _ _ _ _ _)
      | (with_reducible exact cotterref01_Bytes.mono _ _ _)
      | (with_reducible exact cotterref03_form.mono _ _)
      | (with_reducible exact cotterref03_parts.mono _ _)
      | (with_reducible exact LeO.refl _)
      | (with_reducible exact LeO.none _)
      | (with_reducible refine LeO.ite ?_ ?_)
      | (with_reducible refine LeO.bind ?_ (fun _ => ?_))
      | exact ih0 _ _ _ _ _ _ _ _ _
      | exact ih1 _ _ _ _ _ _ _ _
      | exact ih2 _ _ _ _ _ _
      | exact cotterref01_Bytes.mono _ _ _
      | exact cotterref03_form.mono _ _
      | exact cotterref03_parts.mono _ _
      | exact LeO.none _
      | refine LeO.ite ?_ ?_
      | refine LeO.bind ?_ (fun _ => ?_)
theorem cotterref03_Encode.mono : ∀ a0 a1 a2 a3 k, LeO (cotterref03_Encode.f k a0 a1 a2 a3) (cotterref03_Encode.f (k + 1) a0 a1 a2 a3) := by
  intro a0 a1 a2 a3 k
  obtain ⟨ih0, ih1, ih2⟩ := cotterref03_Encode.mono_l k
  unfold cotterref03_Encode.f
  repeat' first
      | (with_reducible exact ih0 _ _ _ _ _ _ _ _ _)
      | (with_reducible exact ih1 _ _ _ _ _ _ _ _)
      | (with_reducible exact ih2 _ _ _ _ _ _)
      | (with_reducible exact cotterref01_Bytes.mono _ _ _)
      | (with_reducible exact cotterref03_form.mono _ _)
      | (with_reducible exact cotterref03_parts.mono _ _)
      | (with_reducible exact LeO.refl _)
      | (with_reducible exact LeO.none _)
      | (with_reducible refine LeO.ite ?_ ?_)
      | (with_reducible refine LeO.bind ?_ (fun _ => ?_))
      | exact ih0 _ _ _ _ _ _ _ _ _
      | exact ih1 _ _ _ _ _ _ _ _
      | exact ih2 _ _ _ _ _ _
      | exact cotterref01_Bytes.mono _ _ _
      | exact cotterref03_form.mono _ _
      | exact cotterref03_parts.mono _ _
      | exact LeO.none _
      | refine LeO.ite ?_ ?_
      | refine LeO.bind ?_ (fun _ => ?_)
set_option maxHeartbeats 8000000 in
set_option maxRecDepth 100000 in
theorem cotterref03_Encode.calls (k : Nat) (a0_0 : Int) (a0_1 : Int) (a0_2 : Int) (a0_3 : Int) (r1 : ByteArray) (r2 : Int) (w : World) (h : cotterref03_Encode.f k a0_0 a0_1 a0_2 a0_3 = some (r1, r2)) :
    Calls Tryd.prog 10 #[.agg #[.int .i64 a0_0, .int .i64 a0_1, .int .i64 a0_2, .int .i64 a0_3]] w fun e w' => e = .returned (.tuple #[.string r1, .int .i64 r2]) ∧ Below w.heap.size w w' := by
  have hu23 := Tryd.underlying23
  have HB := Aside0.mk (Below.refl w.heap.size w)
  have H : ((cotterref03_form.f k a0_0).bind fun t170 => ((cotterref03_parts.f k t170).bind fun bt171 => (if t170 = 0 then (cotterref03_Encode.j0 k t170 bt171.1 bt171.2.1 bt171.2.2 true a0_0 a0_1 a0_2 a0_3) else (if a0_1 < 0 then (cotterref03_Encode.j0 k t170 bt171.1 bt171.2.1 bt171.2.2 true a0_0 a0_1 a0_2 a0_3) else (if a0_1 > 7 then (cotterref03_Encode.j0 k t170 bt171.1 bt171.2.1 bt171.2.2 true a0_0 a0_1 a0_2 a0_3) else (if a0_2 < 0 then (cotterref03_Encode.j0 k t170 bt171.1 bt171.2.1 bt171.2.2 true a0_0 a0_1 a0_2 a0_3) else (if a0_2 > 7 then (cotterref03_Encode.j0 k t170 bt171.1 bt171.2.1 bt171.2.2 true a0_0 a0_1 a0_2 a0_3) else (if bt171.1 = true then (if bt171.2.1 = true then (if bt171.2.2 = 0 then (cotterref03_Encode.j0 k t170 bt171.1 bt171.2.1 bt171.2.2 (a0_3 != 0) a0_0 a0_1 a0_2 a0_3) else (cotterref03_Encode.j0 k t170 bt171.1 bt171.2.1 bt171.2.2 false a0_0 a0_1 a0_2 a0_3)) else (if a0_2 = 0 then (if bt171.2.2 = 0 then (cotterref03_Encode.j0 k t170 bt171.1 bt171.2.1 bt171.2.2 (a0_3 != 0) a0_0 a0_1 a0_2 a0_3) else (cotterref03_Encode.j0 k t170 bt171.1 bt171.2.1 bt171.2.2 false a0_0 a0_1 a0_2 a0_3)) else (cotterref03_Encode.j0 k t170 bt171.1 bt171.2.1 bt171.2.2 true a0_0 a0_1 a0_2 a0_3))) else (if a0_1 = 0 then (if bt171.2.1 = true then (if bt171.2.2 = 0 then (cotterref03_Encode.j0 k t170 bt171.1 bt171.2.1 bt171.2.2 (a0_3 != 0) a0_0 a0_1 a0_2 a0_3) else (cotterref03_Encode.j0 k t170 bt171.1 bt171.2.1 bt171.2.2 false a0_0 a0_1 a0_2 a0_3)) else (if a0_2 = 0 then (if bt171.2.2 = 0 then (cotterref03_Encode.j0 k t170 bt171.1 bt171.2.1 bt171.2.2 (a0_3 != 0) a0_0 a0_1 a0_2 a0_3) else (cotterref03_Encode.j0 k t170 bt171.1 bt171.2.1 bt171.2.2 false a0_0 a0_1 a0_2 a0_3)) else (cotterref03_Encode.j0 k t170 bt171.1 bt171.2.1 bt171.2.2 true a0_0 a0_1 a0_2 a0_3))) else (cotterref03_Encode.j0 k t170 bt171.1 bt171.2.1 bt171.2.2 true a0_0 a0_1 a0_2 a0_3)))))))))) = some (r1, r2) := h
  clear h
  replace H := Option.bind_eq_some_iff.mp H
  obtain ⟨t170, A20, H⟩ := H
  replace H : ((cotterref03_parts.f k t170).bind fun bt171 => (if t170 = 0 then (cotterref03_Encode.j0 k t170 bt171.1 bt171.2.1 bt171.2.2 true a0_0 a0_1 a0_2 a0_3) else (if a0_1 < 0 then (cotterref03_Encode.j0 k t170 bt171.1 bt171.2.1 bt171.2.2 true a0_0 a0_1 a0_2 a0_3) else (if a0_1 > 7 then (cotterref03_Encode.j0 k t170 bt171.1 bt171.2.1 bt171.2.2 true a0_0 a0_1 a0_2 a0_3) else (if a0_2 < 0 then (cotterref03_Encode.j0 k t170 bt171.1 bt171.2.1 bt171.2.2 true a0_0 a0_1 a0_2 a0_3) else (if a0_2 > 7 then (cotterref03_Encode.j0 k t170 bt171.1 bt171.2.1 bt171.2.2 true a0_0 a0_1 a0_2 a0_3) else (if bt171.1 = true then (if bt171.2.1 = true then (if bt171.2.2 = 0 then (cotterref03_Encode.j0 k t170 bt171.1 bt171.2.1 bt171.2.2 (a0_3 != 0) a0_0 a0_1 a0_2 a0_3) else (cotterref03_Encode.j0 k t170 bt171.1 bt171.2.1 bt171.2.2 false a0_0 a0_1 a0_2 a0_3)) else (if a0_2 = 0 then (if bt171.2.2 = 0 then (cotterref03_Encode.j0 k t170 bt171.1 bt171.2.1 bt171.2.2 (a0_3 != 0) a0_0 a0_1 a0_2 a0_3) else (cotterref03_Encode.j0 k t170 bt171.1 bt171.2.1 bt171.2.2 false a0_0 a0_1 a0_2 a0_3)) else (cotterref03_Encode.j0 k t170 bt171.1 bt171.2.1 bt171.2.2 true a0_0 a0_1 a0_2 a0_3))) else (if a0_1 = 0 then (if bt171.2.1 = true then (if bt171.2.2 = 0 then (cotterref03_Encode.j0 k t170 bt171.1 bt171.2.1 bt171.2.2 (a0_3 != 0) a0_0 a0_1 a0_2 a0_3) else (cotterref03_Encode.j0 k t170 bt171.1 bt171.2.1 bt171.2.2 false a0_0 a0_1 a0_2 a0_3)) else (if a0_2 = 0 then (if bt171.2.2 = 0 then (cotterref03_Encode.j0 k t170 bt171.1 bt171.2.1 bt171.2.2 (a0_3 != 0) a0_0 a0_1 a0_2 a0_3) else (cotterref03_Encode.j0 k t170 bt171.1 bt171.2.1 bt171.2.2 false a0_0 a0_1 a0_2 a0_3)) else (cotterref03_Encode.j0 k t170 bt171.1 bt171.2.1 bt171.2.2 true a0_0 a0_1 a0_2 a0_3))) else (cotterref03_Encode.j0 k t170 bt171.1 bt171.2.1 bt171.2.2 true a0_0 a0_1 a0_2 a0_3))))))))) = some (r1, r2) := H
  have A2 := Aside0.mk A20
  clear A20
  replace H := Option.bind_eq_some_iff.mp H
  obtain ⟨⟨t171, t172, t173⟩, A30, H⟩ := H
  replace H : (if t170 = 0 then (cotterref03_Encode.j0 k t170 t171 t172 t173 true a0_0 a0_1 a0_2 a0_3) else (if a0_1 < 0 then (cotterref03_Encode.j0 k t170 t171 t172 t173 true a0_0 a0_1 a0_2 a0_3) else (if a0_1 > 7 then (cotterref03_Encode.j0 k t170 t171 t172 t173 true a0_0 a0_1 a0_2 a0_3) else (if a0_2 < 0 then (cotterref03_Encode.j0 k t170 t171 t172 t173 true a0_0 a0_1 a0_2 a0_3) else (if a0_2 > 7 then (cotterref03_Encode.j0 k t170 t171 t172 t173 true a0_0 a0_1 a0_2 a0_3) else (if t171 = true then (if t172 = true then (if t173 = 0 then (cotterref03_Encode.j0 k t170 t171 t172 t173 (a0_3 != 0) a0_0 a0_1 a0_2 a0_3) else (cotterref03_Encode.j0 k t170 t171 t172 t173 false a0_0 a0_1 a0_2 a0_3)) else (if a0_2 = 0 then (if t173 = 0 then (cotterref03_Encode.j0 k t170 t171 t172 t173 (a0_3 != 0) a0_0 a0_1 a0_2 a0_3) else (cotterref03_Encode.j0 k t170 t171 t172 t173 false a0_0 a0_1 a0_2 a0_3)) else (cotterref03_Encode.j0 k t170 t171 t172 t173 true a0_0 a0_1 a0_2 a0_3))) else (if a0_1 = 0 then (if t172 = true then (if t173 = 0 then (cotterref03_Encode.j0 k t170 t171 t172 t173 (a0_3 != 0) a0_0 a0_1 a0_2 a0_3) else (cotterref03_Encode.j0 k t170 t171 t172 t173 false a0_0 a0_1 a0_2 a0_3)) else (if a0_2 = 0 then (if t173 = 0 then (cotterref03_Encode.j0 k t170 t171 t172 t173 (a0_3 != 0) a0_0 a0_1 a0_2 a0_3) else (cotterref03_Encode.j0 k t170 t171 t172 t173 false a0_0 a0_1 a0_2 a0_3)) else (cotterref03_Encode.j0 k t170 t171 t172 t173 true a0_0 a0_1 a0_2 a0_3))) else (cotterref03_Encode.j0 k t170 t171 t172 t173 true a0_0 a0_1 a0_2 a0_3)))))))) = some (r1, r2) := H
  have A3 := Aside0.mk A30
  clear A30
  have HC4 := Aside0.mk H
  clear H
  go_enter Tryd.func10, Tryd.ntmps10
  go_upto_region 3 with (first | ((with_reducible refine gate_dst (N := 1) rfl ?_); refine box_event ?hg (N := 1) ?hd (cs := #[.int .i64 a0_0, .int .i64 a0_1, .int .i64 a0_2, .int .i64 a0_3]) (t := 23) ?hr ?_; (case hd => rfl); (case hg => rfl); (case hr => first | (go_simp; done) | (go_simp; rfl)); intro gb169 hg w5 hbox hb; have n0_ := Aside0.mk (below_step (by repeat (first | (with_reducible first | exact HB.out | apply below_alloc | apply pw_below_drewN | apply below_drew1) | exact HB.out)) hb); have n1_ := Aside0.mk (hbox); have n2_ := Aside0.mk ((by rw [hg]; exact (below_size (by repeat (first | (with_reducible first | exact HB.out | apply below_alloc | apply pw_below_drewN | apply below_drew1) | exact HB.out))) : w.heap.size ≤ gb169)); have n3_ := Aside0.mk ((by rw [hg]; exact (below_size (by repeat (first | (with_reducible first | exact HB.out | apply below_alloc | apply pw_below_drewN | apply below_drew1) | exact HB.out))) : w.heap.size ≤ gb169)); clear HB; have HB := n0_; have BK169 := n1_; have GW169 := n2_; have GE169 := n3_; clear n0_ n1_ n2_ n3_; clear hb hbox hg; have hcz6_0 : w5.cell? ⟨gb169, 0, none⟩ = some (.int .i64 a0_0) := (blk_cell BK169.out 0).trans rfl; have hcz6_1 : w5.cell? ⟨gb169, 1, none⟩ = some (.int .i64 a0_1) := (blk_cell BK169.out 1).trans rfl; have hcz6_2 : w5.cell? ⟨gb169, 2, none⟩ = some (.int .i64 a0_2) := (blk_cell BK169.out 2).trans rfl; have hcz6_3 : w5.cell? ⟨gb169, 3, none⟩ = some (.int .i64 a0_3) := (blk_cell BK169.out 3).trans rfl; have hfz6_0 := blk_frozen BK169.out 0; have hfz6_1 := blk_frozen BK169.out 1; have hfz6_2 := blk_frozen BK169.out 2; have hfz6_3 := blk_frozen BK169.out 3) | ((with_reducible refine gate_callee (f := 24) rfl ?_); refine goesL_ (some 13) rfl rfl Tryd.func24 (by kernel_rfl) rfl #[.int .i64 a0_0] rfl (by (try simp only [List.map_toArray, List.map_cons, List.map_nil]); first | done | rfl | (simp only [List.length_drop, List.length_take]; rfl)) ?_; (with_reducible refine (cotterref03_form.calls k a0_0 t170 _ A2.out).mono ?_); rintro e w' ⟨rfl, ⟨nd, rfl⟩⟩; refine ⟨_, rfl, ?_⟩) | ((with_reducible refine gate_callee (f := 25) rfl ?_); refine goesL_ (some 16) rfl rfl Tryd.func25 (by kernel_rfl) rfl #[.int .i64 t170] rfl (by (try simp only [List.map_toArray, List.map_cons, List.map_nil]); first | done | rfl | (simp only [List.length_drop, List.length_take]; rfl)) ?_; (with_reducible refine (cotterref03_parts.calls k t170 t171 t172 t173 _ A3.out).mono ?_); rintro e w' ⟨rfl, ⟨nd, rfl⟩⟩; refine ⟨_, rfl, ?_⟩))
  (try simp only [Act.put, List.setIfInBounds_toArray, List.set_cons_zero, List.set_cons_succ])
  go_cut [68] (fun v68 wc => ∃ (kq : Nat) (x68_3 : Bool), v68 = .bool x68_3 ∧ Aside0 (cotterref03_Encode.j0 kq t170 t171 t172 t173 x68_3 a0_0 a0_1 a0_2 a0_3 = some (r1, r2)) ∧ Aside0 (kq ≤ k) ∧ Aside0 (wc.heap[gb169]? = some (.cells #[.int .i64 a0_0, .int .i64 a0_1, .int .i64 a0_2, .int .i64 a0_3] 23 (0, 0))) ∧ Aside0 (Below w.heap.size w wc))
  case first =>
    have H := HC4.out
    clear HC4
    by_cases c7 : t170 = 0
    · rw [if_pos c7] at H
      have c7b0 : (t170 == 0) = true := beq_iff_eq.mpr c7
      have c7b1 : (t170 != 0) = false := bne_eq_false_iff_eq.mpr c7
      clear c7
      (first | rw [c7b0] | (simp only [i64_w, i32_w]; rw [c7b0]) | skip)
      have H' := Aside0.mk H
      clear H
      go_wp2
      go_meet
      case rel => exact ⟨_, (true), (by first | rfl | (simp; done) | (simp [*]; done)), H', ⟨by first | omega | exact Nat.le_refl _⟩, ⟨by (with_reducible repeat (first | refine blk_drewN ?_ _ | refine blk_drew ?_ | refine blk_alloc ?_ _)); exact BK169.out⟩, ⟨by repeat (first | (with_reducible first | exact HB.out | apply below_alloc | apply pw_below_drewN | apply below_drew1 | refine below_set ?_ GE169.out) | exact HB.out)⟩⟩
    · rw [if_neg c7] at H
      have c7b0 : (t170 == 0) = false := beq_eq_false_iff_ne.mpr c7
      have c7b1 : (t170 != 0) = true := bne_iff_ne.mpr c7
      (first | rw [c7b0] | (simp only [i64_w, i32_w]; rw [c7b0]) | skip)
      by_cases c8 : a0_1 < 0
      · rw [if_pos c8] at H
        have c8b0 : decide (a0_1 < 0) = true := decide_eq_true c8
        clear c8
        have H' := Aside0.mk H
        clear H
        have hcz9_0 : w5.cell? ⟨gb169, 0, none⟩ = some (.int .i64 a0_0) := (blk_cell BK169.out 0).trans rfl
        have hcz9_1 : w5.cell? ⟨gb169, 1, none⟩ = some (.int .i64 a0_1) := (blk_cell BK169.out 1).trans rfl
        have hcz9_2 : w5.cell? ⟨gb169, 2, none⟩ = some (.int .i64 a0_2) := (blk_cell BK169.out 2).trans rfl
        have hcz9_3 : w5.cell? ⟨gb169, 3, none⟩ = some (.int .i64 a0_3) := (blk_cell BK169.out 3).trans rfl
        have hfz9_0 := blk_frozen BK169.out 0
        have hfz9_1 := blk_frozen BK169.out 1
        have hfz9_2 := blk_frozen BK169.out 2
        have hfz9_3 := blk_frozen BK169.out 3
        go_wp2
        go_meet
        case rel => exact ⟨_, (true), (by first | rfl | (simp; done) | (simp [*]; done)), H', ⟨by first | omega | exact Nat.le_refl _⟩, ⟨by (with_reducible repeat (first | refine blk_drewN ?_ _ | refine blk_drew ?_ | refine blk_alloc ?_ _)); exact BK169.out⟩, ⟨by repeat (first | (with_reducible first | exact HB.out | apply below_alloc | apply pw_below_drewN | apply below_drew1 | refine below_set ?_ GE169.out) | exact HB.out)⟩⟩
      · rw [if_neg c8] at H
        have c8b0 : decide (a0_1 < 0) = false := decide_eq_false c8
        clear c8
        by_cases c10 : a0_1 > 7
        · rw [if_pos c10] at H
          have c10b0 : decide (7 < a0_1) = true := decide_eq_true c10
          clear c10
          have H' := Aside0.mk H
          clear H
          have hcz11_0 : w5.cell? ⟨gb169, 0, none⟩ = some (.int .i64 a0_0) := (blk_cell BK169.out 0).trans rfl
          have hcz11_1 : w5.cell? ⟨gb169, 1, none⟩ = some (.int .i64 a0_1) := (blk_cell BK169.out 1).trans rfl
          have hcz11_2 : w5.cell? ⟨gb169, 2, none⟩ = some (.int .i64 a0_2) := (blk_cell BK169.out 2).trans rfl
          have hcz11_3 : w5.cell? ⟨gb169, 3, none⟩ = some (.int .i64 a0_3) := (blk_cell BK169.out 3).trans rfl
          have hfz11_0 := blk_frozen BK169.out 0
          have hfz11_1 := blk_frozen BK169.out 1
          have hfz11_2 := blk_frozen BK169.out 2
          have hfz11_3 := blk_frozen BK169.out 3
          go_wp2
          go_meet
          case rel => exact ⟨_, (true), (by first | rfl | (simp; done) | (simp [*]; done)), H', ⟨by first | omega | exact Nat.le_refl _⟩, ⟨by (with_reducible repeat (first | refine blk_drewN ?_ _ | refine blk_drew ?_ | refine blk_alloc ?_ _)); exact BK169.out⟩, ⟨by repeat (first | (with_reducible first | exact HB.out | apply below_alloc | apply pw_below_drewN | apply below_drew1 | refine below_set ?_ GE169.out) | exact HB.out)⟩⟩
        · rw [if_neg c10] at H
          have c10b0 : decide (7 < a0_1) = false := decide_eq_false c10
          clear c10
          by_cases c12 : a0_2 < 0
          · rw [if_pos c12] at H
            have c12b0 : decide (a0_2 < 0) = true := decide_eq_true c12
            clear c12
            have H' := Aside0.mk H
            clear H
            have hcz13_0 : w5.cell? ⟨gb169, 0, none⟩ = some (.int .i64 a0_0) := (blk_cell BK169.out 0).trans rfl
            have hcz13_1 : w5.cell? ⟨gb169, 1, none⟩ = some (.int .i64 a0_1) := (blk_cell BK169.out 1).trans rfl
            have hcz13_2 : w5.cell? ⟨gb169, 2, none⟩ = some (.int .i64 a0_2) := (blk_cell BK169.out 2).trans rfl
            have hcz13_3 : w5.cell? ⟨gb169, 3, none⟩ = some (.int .i64 a0_3) := (blk_cell BK169.out 3).trans rfl
            have hfz13_0 := blk_frozen BK169.out 0
            have hfz13_1 := blk_frozen BK169.out 1
            have hfz13_2 := blk_frozen BK169.out 2
            have hfz13_3 := blk_frozen BK169.out 3
            go_wp2
            go_meet
            case rel => exact ⟨_, (true), (by first | rfl | (simp; done) | (simp [*]; done)), H', ⟨by first | omega | exact Nat.le_refl _⟩, ⟨by (with_reducible repeat (first | refine blk_drewN ?_ _ | refine blk_drew ?_ | refine blk_alloc ?_ _)); exact BK169.out⟩, ⟨by repeat (first | (with_reducible first | exact HB.out | apply below_alloc | apply pw_below_drewN | apply below_drew1 | refine below_set ?_ GE169.out) | exact HB.out)⟩⟩
          · rw [if_neg c12] at H
            have c12b0 : decide (a0_2 < 0) = false := decide_eq_false c12
            clear c12
            by_cases c14 : a0_2 > 7
            · rw [if_pos c14] at H
              have c14b0 : decide (7 < a0_2) = true := decide_eq_true c14
              clear c14
              have H' := Aside0.mk H
              clear H
              have hcz15_0 : w5.cell? ⟨gb169, 0, none⟩ = some (.int .i64 a0_0) := (blk_cell BK169.out 0).trans rfl
              have hcz15_1 : w5.cell? ⟨gb169, 1, none⟩ = some (.int .i64 a0_1) := (blk_cell BK169.out 1).trans rfl
              have hcz15_2 : w5.cell? ⟨gb169, 2, none⟩ = some (.int .i64 a0_2) := (blk_cell BK169.out 2).trans rfl
              have hcz15_3 : w5.cell? ⟨gb169, 3, none⟩ = some (.int .i64 a0_3) := (blk_cell BK169.out 3).trans rfl
              have hfz15_0 := blk_frozen BK169.out 0
              have hfz15_1 := blk_frozen BK169.out 1
              have hfz15_2 := blk_frozen BK169.out 2
              have hfz15_3 := blk_frozen BK169.out 3
              go_wp2
              go_meet
              case rel => exact ⟨_, (true), (by first | rfl | (simp; done) | (simp [*]; done)), H', ⟨by first | omega | exact Nat.le_refl _⟩, ⟨by (with_reducible repeat (first | refine blk_drewN ?_ _ | refine blk_drew ?_ | refine blk_alloc ?_ _)); exact BK169.out⟩, ⟨by repeat (first | (with_reducible first | exact HB.out | apply below_alloc | apply pw_below_drewN | apply below_drew1 | refine below_set ?_ GE169.out) | exact HB.out)⟩⟩
            · rw [if_neg c14] at H
              have c14b0 : decide (7 < a0_2) = false := decide_eq_false c14
              clear c14
              by_cases c16 : t171 = true
              · subst c16
                have H1 : (if t172 = true then (if t173 = 0 then (cotterref03_Encode.j0 k t170 true t172 t173 (a0_3 != 0) a0_0 a0_1 a0_2 a0_3) else (cotterref03_Encode.j0 k t170 true t172 t173 false a0_0 a0_1 a0_2 a0_3)) else (if a0_2 = 0 then (if t173 = 0 then (cotterref03_Encode.j0 k t170 true t172 t173 (a0_3 != 0) a0_0 a0_1 a0_2 a0_3) else (cotterref03_Encode.j0 k t170 true t172 t173 false a0_0 a0_1 a0_2 a0_3)) else (cotterref03_Encode.j0 k t170 true t172 t173 true a0_0 a0_1 a0_2 a0_3))) = some (r1, r2) := by rw [if_pos rfl] at H; exact H
                clear H
                have H := H1
                clear H1
                by_cases c17 : t172 = true
                · subst c17
                  have H1 : (if t173 = 0 then (cotterref03_Encode.j0 k t170 true true t173 (a0_3 != 0) a0_0 a0_1 a0_2 a0_3) else (cotterref03_Encode.j0 k t170 true true t173 false a0_0 a0_1 a0_2 a0_3)) = some (r1, r2) := by rw [if_pos rfl] at H; exact H
                  clear H
                  have H := H1
                  clear H1
                  by_cases c18 : t173 = 0
                  · rw [if_pos c18] at H
                    have c18b0 : (t173 == 0) = true := beq_iff_eq.mpr c18
                    have c18b1 : (t173 != 0) = false := bne_eq_false_iff_eq.mpr c18
                    clear c18
                    have H' := Aside0.mk H
                    clear H
                    have hcz19_0 : w5.cell? ⟨gb169, 0, none⟩ = some (.int .i64 a0_0) := (blk_cell BK169.out 0).trans rfl
                    have hcz19_1 : w5.cell? ⟨gb169, 1, none⟩ = some (.int .i64 a0_1) := (blk_cell BK169.out 1).trans rfl
                    have hcz19_2 : w5.cell? ⟨gb169, 2, none⟩ = some (.int .i64 a0_2) := (blk_cell BK169.out 2).trans rfl
                    have hcz19_3 : w5.cell? ⟨gb169, 3, none⟩ = some (.int .i64 a0_3) := (blk_cell BK169.out 3).trans rfl
                    have hfz19_0 := blk_frozen BK169.out 0
                    have hfz19_1 := blk_frozen BK169.out 1
                    have hfz19_2 := blk_frozen BK169.out 2
                    have hfz19_3 := blk_frozen BK169.out 3
                    go_wp2
                    go_meet
                    case rel => exact ⟨_, ((a0_3 != 0)), (by first | rfl | (simp; done) | (simp [*]; done)), H', ⟨by first | omega | exact Nat.le_refl _⟩, ⟨by (with_reducible repeat (first | refine blk_drewN ?_ _ | refine blk_drew ?_ | refine blk_alloc ?_ _)); exact BK169.out⟩, ⟨by repeat (first | (with_reducible first | exact HB.out | apply below_alloc | apply pw_below_drewN | apply below_drew1 | refine below_set ?_ GE169.out) | exact HB.out)⟩⟩
                  · rw [if_neg c18] at H
                    have c18b0 : (t173 == 0) = false := beq_eq_false_iff_ne.mpr c18
                    have c18b1 : (t173 != 0) = true := bne_iff_ne.mpr c18
                    have H' := Aside0.mk H
                    clear H
                    have hcz20_0 : w5.cell? ⟨gb169, 0, none⟩ = some (.int .i64 a0_0) := (blk_cell BK169.out 0).trans rfl
                    have hcz20_1 : w5.cell? ⟨gb169, 1, none⟩ = some (.int .i64 a0_1) := (blk_cell BK169.out 1).trans rfl
                    have hcz20_2 : w5.cell? ⟨gb169, 2, none⟩ = some (.int .i64 a0_2) := (blk_cell BK169.out 2).trans rfl
                    have hcz20_3 : w5.cell? ⟨gb169, 3, none⟩ = some (.int .i64 a0_3) := (blk_cell BK169.out 3).trans rfl
                    have hfz20_0 := blk_frozen BK169.out 0
                    have hfz20_1 := blk_frozen BK169.out 1
                    have hfz20_2 := blk_frozen BK169.out 2
                    have hfz20_3 := blk_frozen BK169.out 3
                    go_wp2
                    go_meet
                    case rel => exact ⟨_, (false), (by first | rfl | (simp; done) | (simp [*]; done)), H', ⟨by first | omega | exact Nat.le_refl _⟩, ⟨by (with_reducible repeat (first | refine blk_drewN ?_ _ | refine blk_drew ?_ | refine blk_alloc ?_ _)); exact BK169.out⟩, ⟨by repeat (first | (with_reducible first | exact HB.out | apply below_alloc | apply pw_below_drewN | apply below_drew1 | refine below_set ?_ GE169.out) | exact HB.out)⟩⟩
                · replace c17 := Bool.eq_false_iff.mpr c17
                  subst c17
                  have H1 : (if a0_2 = 0 then (if t173 = 0 then (cotterref03_Encode.j0 k t170 true false t173 (a0_3 != 0) a0_0 a0_1 a0_2 a0_3) else (cotterref03_Encode.j0 k t170 true false t173 false a0_0 a0_1 a0_2 a0_3)) else (cotterref03_Encode.j0 k t170 true false t173 true a0_0 a0_1 a0_2 a0_3)) = some (r1, r2) := by rw [if_neg (show ¬ (false = true) by decide)] at H; exact H
                  clear H
                  have H := H1
                  clear H1
                  by_cases c21 : a0_2 = 0
                  · rw [if_pos c21] at H
                    have c21b0 : (a0_2 == 0) = true := beq_iff_eq.mpr c21
                    have c21b1 : (a0_2 != 0) = false := bne_eq_false_iff_eq.mpr c21
                    clear c21
                    by_cases c22 : t173 = 0
                    · rw [if_pos c22] at H
                      have c22b0 : (t173 == 0) = true := beq_iff_eq.mpr c22
                      have c22b1 : (t173 != 0) = false := bne_eq_false_iff_eq.mpr c22
                      clear c22
                      have H' := Aside0.mk H
                      clear H
                      have hcz23_0 : w5.cell? ⟨gb169, 0, none⟩ = some (.int .i64 a0_0) := (blk_cell BK169.out 0).trans rfl
                      have hcz23_1 : w5.cell? ⟨gb169, 1, none⟩ = some (.int .i64 a0_1) := (blk_cell BK169.out 1).trans rfl
                      have hcz23_2 : w5.cell? ⟨gb169, 2, none⟩ = some (.int .i64 a0_2) := (blk_cell BK169.out 2).trans rfl
                      have hcz23_3 : w5.cell? ⟨gb169, 3, none⟩ = some (.int .i64 a0_3) := (blk_cell BK169.out 3).trans rfl
                      have hfz23_0 := blk_frozen BK169.out 0
                      have hfz23_1 := blk_frozen BK169.out 1
                      have hfz23_2 := blk_frozen BK169.out 2
                      have hfz23_3 := blk_frozen BK169.out 3
                      go_wp2
                      go_meet
                      case rel => exact ⟨_, ((a0_3 != 0)), (by first | rfl | (simp; done) | (simp [*]; done)), H', ⟨by first | omega | exact Nat.le_refl _⟩, ⟨by (with_reducible repeat (first | refine blk_drewN ?_ _ | refine blk_drew ?_ | refine blk_alloc ?_ _)); exact BK169.out⟩, ⟨by repeat (first | (with_reducible first | exact HB.out | apply below_alloc | apply pw_below_drewN | apply below_drew1 | refine below_set ?_ GE169.out) | exact HB.out)⟩⟩
                    · rw [if_neg c22] at H
                      have c22b0 : (t173 == 0) = false := beq_eq_false_iff_ne.mpr c22
                      have c22b1 : (t173 != 0) = true := bne_iff_ne.mpr c22
                      have H' := Aside0.mk H
                      clear H
                      have hcz24_0 : w5.cell? ⟨gb169, 0, none⟩ = some (.int .i64 a0_0) := (blk_cell BK169.out 0).trans rfl
                      have hcz24_1 : w5.cell? ⟨gb169, 1, none⟩ = some (.int .i64 a0_1) := (blk_cell BK169.out 1).trans rfl
                      have hcz24_2 : w5.cell? ⟨gb169, 2, none⟩ = some (.int .i64 a0_2) := (blk_cell BK169.out 2).trans rfl
                      have hcz24_3 : w5.cell? ⟨gb169, 3, none⟩ = some (.int .i64 a0_3) := (blk_cell BK169.out 3).trans rfl
                      have hfz24_0 := blk_frozen BK169.out 0
                      have hfz24_1 := blk_frozen BK169.out 1
                      have hfz24_2 := blk_frozen BK169.out 2
                      have hfz24_3 := blk_frozen BK169.out 3
                      go_wp2
                      go_meet
                      case rel => exact ⟨_, (false), (by first | rfl | (simp; done) | (simp [*]; done)), H', ⟨by first | omega | exact Nat.le_refl _⟩, ⟨by (with_reducible repeat (first | refine blk_drewN ?_ _ | refine blk_drew ?_ | refine blk_alloc ?_ _)); exact BK169.out⟩, ⟨by repeat (first | (with_reducible first | exact HB.out | apply below_alloc | apply pw_below_drewN | apply below_drew1 | refine below_set ?_ GE169.out) | exact HB.out)⟩⟩
                  · rw [if_neg c21] at H
                    have c21b0 : (a0_2 == 0) = false := beq_eq_false_iff_ne.mpr c21
                    have c21b1 : (a0_2 != 0) = true := bne_iff_ne.mpr c21
                    have H' := Aside0.mk H
                    clear H
                    have hcz25_0 : w5.cell? ⟨gb169, 0, none⟩ = some (.int .i64 a0_0) := (blk_cell BK169.out 0).trans rfl
                    have hcz25_1 : w5.cell? ⟨gb169, 1, none⟩ = some (.int .i64 a0_1) := (blk_cell BK169.out 1).trans rfl
                    have hcz25_2 : w5.cell? ⟨gb169, 2, none⟩ = some (.int .i64 a0_2) := (blk_cell BK169.out 2).trans rfl
                    have hcz25_3 : w5.cell? ⟨gb169, 3, none⟩ = some (.int .i64 a0_3) := (blk_cell BK169.out 3).trans rfl
                    have hfz25_0 := blk_frozen BK169.out 0
                    have hfz25_1 := blk_frozen BK169.out 1
                    have hfz25_2 := blk_frozen BK169.out 2
                    have hfz25_3 := blk_frozen BK169.out 3
                    go_wp2
                    go_meet
                    case rel => exact ⟨_, (true), (by first | rfl | (simp; done) | (simp [*]; done)), H', ⟨by first | omega | exact Nat.le_refl _⟩, ⟨by (with_reducible repeat (first | refine blk_drewN ?_ _ | refine blk_drew ?_ | refine blk_alloc ?_ _)); exact BK169.out⟩, ⟨by repeat (first | (with_reducible first | exact HB.out | apply below_alloc | apply pw_below_drewN | apply below_drew1 | refine below_set ?_ GE169.out) | exact HB.out)⟩⟩
              · replace c16 := Bool.eq_false_iff.mpr c16
                subst c16
                have H1 : (if a0_1 = 0 then (if t172 = true then (if t173 = 0 then (cotterref03_Encode.j0 k t170 false t172 t173 (a0_3 != 0) a0_0 a0_1 a0_2 a0_3) else (cotterref03_Encode.j0 k t170 false t172 t173 false a0_0 a0_1 a0_2 a0_3)) else (if a0_2 = 0 then (if t173 = 0 then (cotterref03_Encode.j0 k t170 false t172 t173 (a0_3 != 0) a0_0 a0_1 a0_2 a0_3) else (cotterref03_Encode.j0 k t170 false t172 t173 false a0_0 a0_1 a0_2 a0_3)) else (cotterref03_Encode.j0 k t170 false t172 t173 true a0_0 a0_1 a0_2 a0_3))) else (cotterref03_Encode.j0 k t170 false t172 t173 true a0_0 a0_1 a0_2 a0_3)) = some (r1, r2) := by rw [if_neg (show ¬ (false = true) by decide)] at H; exact H
                clear H
                have H := H1
                clear H1
                by_cases c26 : a0_1 = 0
                · rw [if_pos c26] at H
                  have c26b0 : (a0_1 == 0) = true := beq_iff_eq.mpr c26
                  have c26b1 : (a0_1 != 0) = false := bne_eq_false_iff_eq.mpr c26
                  clear c26
                  by_cases c27 : t172 = true
                  · subst c27
                    have H1 : (if t173 = 0 then (cotterref03_Encode.j0 k t170 false true t173 (a0_3 != 0) a0_0 a0_1 a0_2 a0_3) else (cotterref03_Encode.j0 k t170 false true t173 false a0_0 a0_1 a0_2 a0_3)) = some (r1, r2) := by rw [if_pos rfl] at H; exact H
                    clear H
                    have H := H1
                    clear H1
                    by_cases c28 : t173 = 0
                    · rw [if_pos c28] at H
                      have c28b0 : (t173 == 0) = true := beq_iff_eq.mpr c28
                      have c28b1 : (t173 != 0) = false := bne_eq_false_iff_eq.mpr c28
                      clear c28
                      have H' := Aside0.mk H
                      clear H
                      have hcz29_0 : w5.cell? ⟨gb169, 0, none⟩ = some (.int .i64 a0_0) := (blk_cell BK169.out 0).trans rfl
                      have hcz29_1 : w5.cell? ⟨gb169, 1, none⟩ = some (.int .i64 a0_1) := (blk_cell BK169.out 1).trans rfl
                      have hcz29_2 : w5.cell? ⟨gb169, 2, none⟩ = some (.int .i64 a0_2) := (blk_cell BK169.out 2).trans rfl
                      have hcz29_3 : w5.cell? ⟨gb169, 3, none⟩ = some (.int .i64 a0_3) := (blk_cell BK169.out 3).trans rfl
                      have hfz29_0 := blk_frozen BK169.out 0
                      have hfz29_1 := blk_frozen BK169.out 1
                      have hfz29_2 := blk_frozen BK169.out 2
                      have hfz29_3 := blk_frozen BK169.out 3
                      go_wp2
                      go_meet
                      case rel => exact ⟨_, ((a0_3 != 0)), (by first | rfl | (simp; done) | (simp [*]; done)), H', ⟨by first | omega | exact Nat.le_refl _⟩, ⟨by (with_reducible repeat (first | refine blk_drewN ?_ _ | refine blk_drew ?_ | refine blk_alloc ?_ _)); exact BK169.out⟩, ⟨by repeat (first | (with_reducible first | exact HB.out | apply below_alloc | apply pw_below_drewN | apply below_drew1 | refine below_set ?_ GE169.out) | exact HB.out)⟩⟩
                    · rw [if_neg c28] at H
                      have c28b0 : (t173 == 0) = false := beq_eq_false_iff_ne.mpr c28
                      have c28b1 : (t173 != 0) = true := bne_iff_ne.mpr c28
                      have H' := Aside0.mk H
                      clear H
                      have hcz30_0 : w5.cell? ⟨gb169, 0, none⟩ = some (.int .i64 a0_0) := (blk_cell BK169.out 0).trans rfl
                      have hcz30_1 : w5.cell? ⟨gb169, 1, none⟩ = some (.int .i64 a0_1) := (blk_cell BK169.out 1).trans rfl
                      have hcz30_2 : w5.cell? ⟨gb169, 2, none⟩ = some (.int .i64 a0_2) := (blk_cell BK169.out 2).trans rfl
                      have hcz30_3 : w5.cell? ⟨gb169, 3, none⟩ = some (.int .i64 a0_3) := (blk_cell BK169.out 3).trans rfl
                      have hfz30_0 := blk_frozen BK169.out 0
                      have hfz30_1 := blk_frozen BK169.out 1
                      have hfz30_2 := blk_frozen BK169.out 2
                      have hfz30_3 := blk_frozen BK169.out 3
                      go_wp2
                      go_meet
                      case rel => exact ⟨_, (false), (by first | rfl | (simp; done) | (simp [*]; done)), H', ⟨by first | omega | exact Nat.le_refl _⟩, ⟨by (with_reducible repeat (first | refine blk_drewN ?_ _ | refine blk_drew ?_ | refine blk_alloc ?_ _)); exact BK169.out⟩, ⟨by repeat (first | (with_reducible first | exact HB.out | apply below_alloc | apply pw_below_drewN | apply below_drew1 | refine below_set ?_ GE169.out) | exact HB.out)⟩⟩
                  · replace c27 := Bool.eq_false_iff.mpr c27
                    subst c27
                    have H1 : (if a0_2 = 0 then (if t173 = 0 then (cotterref03_Encode.j0 k t170 false false t173 (a0_3 != 0) a0_0 a0_1 a0_2 a0_3) else (cotterref03_Encode.j0 k t170 false false t173 false a0_0 a0_1 a0_2 a0_3)) else (cotterref03_Encode.j0 k t170 false false t173 true a0_0 a0_1 a0_2 a0_3)) = some (r1, r2) := by rw [if_neg (show ¬ (false = true) by decide)] at H; exact H
                    clear H
                    have H := H1
                    clear H1
                    by_cases c31 : a0_2 = 0
                    · rw [if_pos c31] at H
                      have c31b0 : (a0_2 == 0) = true := beq_iff_eq.mpr c31
                      have c31b1 : (a0_2 != 0) = false := bne_eq_false_iff_eq.mpr c31
                      clear c31
                      by_cases c32 : t173 = 0
                      · rw [if_pos c32] at H
                        have c32b0 : (t173 == 0) = true := beq_iff_eq.mpr c32
                        have c32b1 : (t173 != 0) = false := bne_eq_false_iff_eq.mpr c32
                        clear c32
                        have H' := Aside0.mk H
                        clear H
                        have hcz33_0 : w5.cell? ⟨gb169, 0, none⟩ = some (.int .i64 a0_0) := (blk_cell BK169.out 0).trans rfl
                        have hcz33_1 : w5.cell? ⟨gb169, 1, none⟩ = some (.int .i64 a0_1) := (blk_cell BK169.out 1).trans rfl
                        have hcz33_2 : w5.cell? ⟨gb169, 2, none⟩ = some (.int .i64 a0_2) := (blk_cell BK169.out 2).trans rfl
                        have hcz33_3 : w5.cell? ⟨gb169, 3, none⟩ = some (.int .i64 a0_3) := (blk_cell BK169.out 3).trans rfl
                        have hfz33_0 := blk_frozen BK169.out 0
                        have hfz33_1 := blk_frozen BK169.out 1
                        have hfz33_2 := blk_frozen BK169.out 2
                        have hfz33_3 := blk_frozen BK169.out 3
                        go_wp2
                        go_meet
                        case rel => exact ⟨_, ((a0_3 != 0)), (by first | rfl | (simp; done) | (simp [*]; done)), H', ⟨by first | omega | exact Nat.le_refl _⟩, ⟨by (with_reducible repeat (first | refine blk_drewN ?_ _ | refine blk_drew ?_ | refine blk_alloc ?_ _)); exact BK169.out⟩, ⟨by repeat (first | (with_reducible first | exact HB.out | apply below_alloc | apply pw_below_drewN | apply below_drew1 | refine below_set ?_ GE169.out) | exact HB.out)⟩⟩
                      · rw [if_neg c32] at H
                        have c32b0 : (t173 == 0) = false := beq_eq_false_iff_ne.mpr c32
                        have c32b1 : (t173 != 0) = true := bne_iff_ne.mpr c32
                        have H' := Aside0.mk H
                        clear H
                        have hcz34_0 : w5.cell? ⟨gb169, 0, none⟩ = some (.int .i64 a0_0) := (blk_cell BK169.out 0).trans rfl
                        have hcz34_1 : w5.cell? ⟨gb169, 1, none⟩ = some (.int .i64 a0_1) := (blk_cell BK169.out 1).trans rfl
                        have hcz34_2 : w5.cell? ⟨gb169, 2, none⟩ = some (.int .i64 a0_2) := (blk_cell BK169.out 2).trans rfl
                        have hcz34_3 : w5.cell? ⟨gb169, 3, none⟩ = some (.int .i64 a0_3) := (blk_cell BK169.out 3).trans rfl
                        have hfz34_0 := blk_frozen BK169.out 0
                        have hfz34_1 := blk_frozen BK169.out 1
                        have hfz34_2 := blk_frozen BK169.out 2
                        have hfz34_3 := blk_frozen BK169.out 3
                        go_wp2
                        go_meet
                        case rel => exact ⟨_, (false), (by first | rfl | (simp; done) | (simp [*]; done)), H', ⟨by first | omega | exact Nat.le_refl _⟩, ⟨by (with_reducible repeat (first | refine blk_drewN ?_ _ | refine blk_drew ?_ | refine blk_alloc ?_ _)); exact BK169.out⟩, ⟨by repeat (first | (with_reducible first | exact HB.out | apply below_alloc | apply pw_below_drewN | apply below_drew1 | refine below_set ?_ GE169.out) | exact HB.out)⟩⟩
                    · rw [if_neg c31] at H
                      have c31b0 : (a0_2 == 0) = false := beq_eq_false_iff_ne.mpr c31
                      have c31b1 : (a0_2 != 0) = true := bne_iff_ne.mpr c31
                      have H' := Aside0.mk H
                      clear H
                      have hcz35_0 : w5.cell? ⟨gb169, 0, none⟩ = some (.int .i64 a0_0) := (blk_cell BK169.out 0).trans rfl
                      have hcz35_1 : w5.cell? ⟨gb169, 1, none⟩ = some (.int .i64 a0_1) := (blk_cell BK169.out 1).trans rfl
                      have hcz35_2 : w5.cell? ⟨gb169, 2, none⟩ = some (.int .i64 a0_2) := (blk_cell BK169.out 2).trans rfl
                      have hcz35_3 : w5.cell? ⟨gb169, 3, none⟩ = some (.int .i64 a0_3) := (blk_cell BK169.out 3).trans rfl
                      have hfz35_0 := blk_frozen BK169.out 0
                      have hfz35_1 := blk_frozen BK169.out 1
                      have hfz35_2 := blk_frozen BK169.out 2
                      have hfz35_3 := blk_frozen BK169.out 3
                      go_wp2
                      go_meet
                      case rel => exact ⟨_, (true), (by first | rfl | (simp; done) | (simp [*]; done)), H', ⟨by first | omega | exact Nat.le_refl _⟩, ⟨by (with_reducible repeat (first | refine blk_drewN ?_ _ | refine blk_drew ?_ | refine blk_alloc ?_ _)); exact BK169.out⟩, ⟨by repeat (first | (with_reducible first | exact HB.out | apply below_alloc | apply pw_below_drewN | apply below_drew1 | refine below_set ?_ GE169.out) | exact HB.out)⟩⟩
                · rw [if_neg c26] at H
                  have c26b0 : (a0_1 == 0) = false := beq_eq_false_iff_ne.mpr c26
                  have c26b1 : (a0_1 != 0) = true := bne_iff_ne.mpr c26
                  have H' := Aside0.mk H
                  clear H
                  have hcz36_0 : w5.cell? ⟨gb169, 0, none⟩ = some (.int .i64 a0_0) := (blk_cell BK169.out 0).trans rfl
                  have hcz36_1 : w5.cell? ⟨gb169, 1, none⟩ = some (.int .i64 a0_1) := (blk_cell BK169.out 1).trans rfl
                  have hcz36_2 : w5.cell? ⟨gb169, 2, none⟩ = some (.int .i64 a0_2) := (blk_cell BK169.out 2).trans rfl
                  have hcz36_3 : w5.cell? ⟨gb169, 3, none⟩ = some (.int .i64 a0_3) := (blk_cell BK169.out 3).trans rfl
                  have hfz36_0 := blk_frozen BK169.out 0
                  have hfz36_1 := blk_frozen BK169.out 1
                  have hfz36_2 := blk_frozen BK169.out 2
                  have hfz36_3 := blk_frozen BK169.out 3
                  go_wp2
                  go_meet
                  case rel => exact ⟨_, (true), (by first | rfl | (simp; done) | (simp [*]; done)), H', ⟨by first | omega | exact Nat.le_refl _⟩, ⟨by (with_reducible repeat (first | refine blk_drewN ?_ _ | refine blk_drew ?_ | refine blk_alloc ?_ _)); exact BK169.out⟩, ⟨by repeat (first | (with_reducible first | exact HB.out | apply below_alloc | apply pw_below_drewN | apply below_drew1 | refine below_set ?_ GE169.out) | exact HB.out)⟩⟩
  case rest =>
    clear HC4
    try clear c1
    try clear c2
    try clear p2
    try clear c3
    try clear c7
    try clear c7b0
    try clear c7b1
    try clear c8
    try clear c8b0
    try clear c10
    try clear c10b0
    try clear c12
    try clear c12b0
    try clear c14
    try clear c14b0
    try clear c16
    try clear c17
    try clear c18
    try clear c18b0
    try clear c18b1
    try clear c21
    try clear c21b0
    try clear c21b1
    try clear c22
    try clear c22b0
    try clear c22b1
    try clear c24
    try clear c25
    try clear c26
    try clear c26b0
    try clear c26b1
    try clear c27
    try clear c28
    try clear c28b0
    try clear c28b1
    try clear c31
    try clear c31b0
    try clear c31b1
    try clear c32
    try clear c32b0
    try clear c32b1
    try clear hcz11_0
    try clear hcz11_1
    try clear hcz11_2
    try clear hcz11_3
    try clear hcz13_0
    try clear hcz13_1
    try clear hcz13_2
    try clear hcz13_3
    try clear hcz15_0
    try clear hcz15_1
    try clear hcz15_2
    try clear hcz15_3
    try clear hcz19_0
    try clear hcz19_1
    try clear hcz19_2
    try clear hcz19_3
    try clear hcz20_0
    try clear hcz20_1
    try clear hcz20_2
    try clear hcz20_3
    try clear hcz23_0
    try clear hcz23_1
    try clear hcz23_2
    try clear hcz23_3
    try clear hcz24_0
    try clear hcz24_1
    try clear hcz24_2
    try clear hcz24_3
    try clear hcz25_0
    try clear hcz25_1
    try clear hcz25_2
    try clear hcz25_3
    try clear hcz29_0
    try clear hcz29_1
    try clear hcz29_2
    try clear hcz29_3
    try clear hcz30_0
    try clear hcz30_1
    try clear hcz30_2
    try clear hcz30_3
    try clear hcz33_0
    try clear hcz33_1
    try clear hcz33_2
    try clear hcz33_3
    try clear hcz34_0
    try clear hcz34_1
    try clear hcz34_2
    try clear hcz34_3
    try clear hcz35_0
    try clear hcz35_1
    try clear hcz35_2
    try clear hcz35_3
    try clear hcz36_0
    try clear hcz36_1
    try clear hcz36_2
    try clear hcz36_3
    try clear hcz6_0
    try clear hcz6_1
    try clear hcz6_2
    try clear hcz6_3
    try clear hcz9_0
    try clear hcz9_1
    try clear hcz9_2
    try clear hcz9_3
    try clear hfz11_0
    try clear hfz11_1
    try clear hfz11_2
    try clear hfz11_3
    try clear hfz13_0
    try clear hfz13_1
    try clear hfz13_2
    try clear hfz13_3
    try clear hfz15_0
    try clear hfz15_1
    try clear hfz15_2
    try clear hfz15_3
    try clear hfz19_0
    try clear hfz19_1
    try clear hfz19_2
    try clear hfz19_3
    try clear hfz20_0
    try clear hfz20_1
    try clear hfz20_2
    try clear hfz20_3
    try clear hfz23_0
    try clear hfz23_1
    try clear hfz23_2
    try clear hfz23_3
    try clear hfz24_0
    try clear hfz24_1
    try clear hfz24_2
    try clear hfz24_3
    try clear hfz25_0
    try clear hfz25_1
    try clear hfz25_2
    try clear hfz25_3
    try clear hfz29_0
    try clear hfz29_1
    try clear hfz29_2
    try clear hfz29_3
    try clear hfz30_0
    try clear hfz30_1
    try clear hfz30_2
    try clear hfz30_3
    try clear hfz33_0
    try clear hfz33_1
    try clear hfz33_2
    try clear hfz33_3
    try clear hfz34_0
    try clear hfz34_1
    try clear hfz34_2
    try clear hfz34_3
    try clear hfz35_0
    try clear hfz35_1
    try clear hfz35_2
    try clear hfz35_3
    try clear hfz36_0
    try clear hfz36_1
    try clear hfz36_2
    try clear hfz36_3
    try clear hfz6_0
    try clear hfz6_1
    try clear hfz6_2
    try clear hfz6_3
    try clear hfz9_0
    try clear hfz9_1
    try clear hfz9_2
    try clear hfz9_3
    obtain ⟨kq, x68_3, rfl, HA, HJ3, BK169, HB⟩ := hcut
    cases kq with
    | zero => exact absurd HA.out (by simp [cotterref03_Encode.j0])
    | succ kj3 =>
      have H := HA.out
      clear HA
      simp only [cotterref03_Encode.j0] at H
      by_cases c37 : x68_3 = true
      · subst c37
        have H1 : (some ((⟨#[]⟩ : ByteArray), 1)) = some (r1, r2) := by rw [if_pos rfl] at H; exact H
        clear H
        have H := H1
        clear H1
        simp only [Option.some.injEq, Prod.mk.injEq] at H
        obtain ⟨rfl, rfl⟩ := H
        go_wp2
        go_ret2
        exact ⟨by first | rfl | (simp [errW_none, errW_some] <;> rfl) | (simp [*, errW_none, errW_some] <;> rfl), by repeat (first | (with_reducible first | exact HB.out | apply below_alloc | apply pw_below_drewN | apply below_drew1 | refine below_set ?_ GE169.out) | exact HB.out)⟩
      · replace c37 := Bool.eq_false_iff.mpr c37
        subst c37
        have H1 : (if t170 = 10 then (if a0_3 < 0 then (cotterref03_Encode.j1 kj3 t171 t172 t173 true a0_0 a0_1 a0_2 a0_3) else (cotterref03_Encode.j1 kj3 t171 t172 t173 (decide (a0_3 > 127)) a0_0 a0_1 a0_2 a0_3)) else (cotterref03_Encode.j1 kj3 t171 t172 t173 false a0_0 a0_1 a0_2 a0_3)) = some (r1, r2) := by rw [if_neg (show ¬ (false = true) by decide)] at H; exact H
        clear H
        have H := H1
        clear H1
        have HC38 := Aside0.mk H
        clear H
        go_upto_region 5 with (fail)
        go_cut [80] (fun v80 wc => ∃ (kq : Nat) (x80_37 : Bool), v80 = .bool x80_37 ∧ Aside0 (cotterref03_Encode.j1 kq t171 t172 t173 x80_37 a0_0 a0_1 a0_2 a0_3 = some (r1, r2)) ∧ Aside0 (kq ≤ kj3) ∧ Aside0 (wc.heap[gb169]? = some (.cells #[.int .i64 a0_0, .int .i64 a0_1, .int .i64 a0_2, .int .i64 a0_3] 23 (0, 0))) ∧ Aside0 (Below w.heap.size w wc))
        case first =>
          have H := HC38.out
          clear HC38
          by_cases c39 : t170 = 10
          · rw [if_pos c39] at H
            have c39b0 : (t170 == 10) = true := beq_iff_eq.mpr c39
            have c39b1 : (t170 != 10) = false := bne_eq_false_iff_eq.mpr c39
            clear c39
            (first | rw [c39b0] | (simp only [i64_w, i32_w]; rw [c39b0]) | skip)
            by_cases c40 : a0_3 < 0
            · rw [if_pos c40] at H
              have c40b0 : decide (a0_3 < 0) = true := decide_eq_true c40
              clear c40
              have H' := Aside0.mk H
              clear H
              have hcz41_0 : wc.cell? ⟨gb169, 0, none⟩ = some (.int .i64 a0_0) := (blk_cell BK169.out 0).trans rfl
              have hcz41_1 : wc.cell? ⟨gb169, 1, none⟩ = some (.int .i64 a0_1) := (blk_cell BK169.out 1).trans rfl
              have hcz41_2 : wc.cell? ⟨gb169, 2, none⟩ = some (.int .i64 a0_2) := (blk_cell BK169.out 2).trans rfl
              have hcz41_3 : wc.cell? ⟨gb169, 3, none⟩ = some (.int .i64 a0_3) := (blk_cell BK169.out 3).trans rfl
              have hfz41_0 := blk_frozen BK169.out 0
              have hfz41_1 := blk_frozen BK169.out 1
              have hfz41_2 := blk_frozen BK169.out 2
              have hfz41_3 := blk_frozen BK169.out 3
              go_wp2
              go_meet
              case rel => exact ⟨_, (true), (by first | rfl | (simp; done) | (simp [*]; done)), H', ⟨by have := HJ3.out; first | omega | exact Nat.le_refl _⟩, ⟨by (with_reducible repeat (first | refine blk_drewN ?_ _ | refine blk_drew ?_ | refine blk_alloc ?_ _)); exact BK169.out⟩, ⟨by repeat (first | (with_reducible first | exact HB.out | apply below_alloc | apply pw_below_drewN | apply below_drew1 | refine below_set ?_ GE169.out) | exact HB.out)⟩⟩
            · rw [if_neg c40] at H
              have c40b0 : decide (a0_3 < 0) = false := decide_eq_false c40
              clear c40
              have H' := Aside0.mk H
              clear H
              have hcz42_0 : wc.cell? ⟨gb169, 0, none⟩ = some (.int .i64 a0_0) := (blk_cell BK169.out 0).trans rfl
              have hcz42_1 : wc.cell? ⟨gb169, 1, none⟩ = some (.int .i64 a0_1) := (blk_cell BK169.out 1).trans rfl
              have hcz42_2 : wc.cell? ⟨gb169, 2, none⟩ = some (.int .i64 a0_2) := (blk_cell BK169.out 2).trans rfl
              have hcz42_3 : wc.cell? ⟨gb169, 3, none⟩ = some (.int .i64 a0_3) := (blk_cell BK169.out 3).trans rfl
              have hfz42_0 := blk_frozen BK169.out 0
              have hfz42_1 := blk_frozen BK169.out 1
              have hfz42_2 := blk_frozen BK169.out 2
              have hfz42_3 := blk_frozen BK169.out 3
              go_wp2
              go_meet
              case rel => exact ⟨_, (decide (a0_3 > 127)), (by first | rfl | (simp; done) | (simp [*]; done)), H', ⟨by have := HJ3.out; first | omega | exact Nat.le_refl _⟩, ⟨by (with_reducible repeat (first | refine blk_drewN ?_ _ | refine blk_drew ?_ | refine blk_alloc ?_ _)); exact BK169.out⟩, ⟨by repeat (first | (with_reducible first | exact HB.out | apply below_alloc | apply pw_below_drewN | apply below_drew1 | refine below_set ?_ GE169.out) | exact HB.out)⟩⟩
          · rw [if_neg c39] at H
            have c39b0 : (t170 == 10) = false := beq_eq_false_iff_ne.mpr c39
            have c39b1 : (t170 != 10) = true := bne_iff_ne.mpr c39
            (first | rw [c39b0] | (simp only [i64_w, i32_w]; rw [c39b0]) | skip)
            have H' := Aside0.mk H
            clear H
            go_wp2
            go_meet
            case rel => exact ⟨_, (false), (by first | rfl | (simp; done) | (simp [*]; done)), H', ⟨by have := HJ3.out; first | omega | exact Nat.le_refl _⟩, ⟨by (with_reducible repeat (first | refine blk_drewN ?_ _ | refine blk_drew ?_ | refine blk_alloc ?_ _)); exact BK169.out⟩, ⟨by repeat (first | (with_reducible first | exact HB.out | apply below_alloc | apply pw_below_drewN | apply below_drew1 | refine below_set ?_ GE169.out) | exact HB.out)⟩⟩
        case rest =>
          clear HC38
          try clear c1
          try clear c2
          try clear p2
          try clear c3
          try clear c4
          try clear c7
          try clear c7b0
          try clear c7b1
          try clear c8
          try clear c8b0
          try clear c10
          try clear c10b0
          try clear c12
          try clear c12b0
          try clear c14
          try clear c14b0
          try clear c16
          try clear c17
          try clear c18
          try clear c18b0
          try clear c18b1
          try clear c21
          try clear c21b0
          try clear c21b1
          try clear c22
          try clear c22b0
          try clear c22b1
          try clear c24
          try clear c25
          try clear c26
          try clear c26b0
          try clear c26b1
          try clear c27
          try clear c28
          try clear c28b0
          try clear c28b1
          try clear c31
          try clear c31b0
          try clear c31b1
          try clear c32
          try clear c32b0
          try clear c32b1
          try clear c37
          try clear c39
          try clear c39b0
          try clear c39b1
          try clear c40
          try clear c40b0
          try clear hcz11_0
          try clear hcz11_1
          try clear hcz11_2
          try clear hcz11_3
          try clear hcz13_0
          try clear hcz13_1
          try clear hcz13_2
          try clear hcz13_3
          try clear hcz15_0
          try clear hcz15_1
          try clear hcz15_2
          try clear hcz15_3
          try clear hcz19_0
          try clear hcz19_1
          try clear hcz19_2
          try clear hcz19_3
          try clear hcz20_0
          try clear hcz20_1
          try clear hcz20_2
          try clear hcz20_3
          try clear hcz23_0
          try clear hcz23_1
          try clear hcz23_2
          try clear hcz23_3
          try clear hcz24_0
          try clear hcz24_1
          try clear hcz24_2
          try clear hcz24_3
          try clear hcz25_0
          try clear hcz25_1
          try clear hcz25_2
          try clear hcz25_3
          try clear hcz29_0
          try clear hcz29_1
          try clear hcz29_2
          try clear hcz29_3
          try clear hcz30_0
          try clear hcz30_1
          try clear hcz30_2
          try clear hcz30_3
          try clear hcz33_0
          try clear hcz33_1
          try clear hcz33_2
          try clear hcz33_3
          try clear hcz34_0
          try clear hcz34_1
          try clear hcz34_2
          try clear hcz34_3
          try clear hcz35_0
          try clear hcz35_1
          try clear hcz35_2
          try clear hcz35_3
          try clear hcz36_0
          try clear hcz36_1
          try clear hcz36_2
          try clear hcz36_3
          try clear hcz41_0
          try clear hcz41_1
          try clear hcz41_2
          try clear hcz41_3
          try clear hcz42_0
          try clear hcz42_1
          try clear hcz42_2
          try clear hcz42_3
          try clear hcz6_0
          try clear hcz6_1
          try clear hcz6_2
          try clear hcz6_3
          try clear hcz9_0
          try clear hcz9_1
          try clear hcz9_2
          try clear hcz9_3
          try clear hfz11_0
          try clear hfz11_1
          try clear hfz11_2
          try clear hfz11_3
          try clear hfz13_0
          try clear hfz13_1
          try clear hfz13_2
          try clear hfz13_3
          try clear hfz15_0
          try clear hfz15_1
          try clear hfz15_2
          try clear hfz15_3
          try clear hfz19_0
          try clear hfz19_1
          try clear hfz19_2
          try clear hfz19_3
          try clear hfz20_0
          try clear hfz20_1
          try clear hfz20_2
          try clear hfz20_3
          try clear hfz23_0
          try clear hfz23_1
          try clear hfz23_2
          try clear hfz23_3
          try clear hfz24_0
          try clear hfz24_1
          try clear hfz24_2
          try clear hfz24_3
          try clear hfz25_0
          try clear hfz25_1
          try clear hfz25_2
          try clear hfz25_3
          try clear hfz29_0
          try clear hfz29_1
          try clear hfz29_2
          try clear hfz29_3
          try clear hfz30_0
          try clear hfz30_1
          try clear hfz30_2
          try clear hfz30_3
          try clear hfz33_0
          try clear hfz33_1
          try clear hfz33_2
          try clear hfz33_3
          try clear hfz34_0
          try clear hfz34_1
          try clear hfz34_2
          try clear hfz34_3
          try clear hfz35_0
          try clear hfz35_1
          try clear hfz35_2
          try clear hfz35_3
          try clear hfz36_0
          try clear hfz36_1
          try clear hfz36_2
          try clear hfz36_3
          try clear hfz41_0
          try clear hfz41_1
          try clear hfz41_2
          try clear hfz41_3
          try clear hfz42_0
          try clear hfz42_1
          try clear hfz42_2
          try clear hfz42_3
          try clear hfz6_0
          try clear hfz6_1
          try clear hfz6_2
          try clear hfz6_3
          try clear hfz9_0
          try clear hfz9_1
          try clear hfz9_2
          try clear hfz9_3
          try clear p2
          obtain ⟨kq, x80_37, rfl, HA, HJ37, BK169, HB⟩ := hcut
          cases kq with
          | zero => exact absurd HA.out (by simp [cotterref03_Encode.j1])
          | succ kj37 =>
            have H := HA.out
            clear HA
            simp only [cotterref03_Encode.j1] at H
            by_cases c43 : x80_37 = true
            · subst c43
              have H1 : (some ((⟨#[]⟩ : ByteArray), 7)) = some (r1, r2) := by rw [if_pos rfl] at H; exact H
              clear H
              have H := H1
              clear H1
              simp only [Option.some.injEq, Prod.mk.injEq] at H
              obtain ⟨rfl, rfl⟩ := H
              go_wp2
              go_ret2
              exact ⟨by first | rfl | (simp [errW_none, errW_some] <;> rfl) | (simp [*, errW_none, errW_some] <;> rfl), by repeat (first | (with_reducible first | exact HB.out | apply below_alloc | apply pw_below_drewN | apply below_drew1 | refine below_set ?_ GE169.out) | exact HB.out)⟩
            · replace c43 := Bool.eq_false_iff.mpr c43
              subst c43
              have H1 : ((some (([(a0_0) % 256] : List Int) : List Int)).bind fun y174 => (if t172 = true then ((some (([(wrap64 ((wrap64 (16 * a0_1)) + a0_2)) % 256] : List Int) : List Int)).bind fun y177 => (if (strOfNums y174).size + (strOfNums y177).size ≤ 9223372036854775807 then (cotterref03_Encode.j2 kj37 t173 ((strOfNums y174) ++ (strOfNums y177)) a0_0 a0_1 a0_2 a0_3) else (none))) else (if t171 = true then ((some (([(a0_1) % 256] : List Int) : List Int)).bind fun y180 => (if (strOfNums y174).size + (strOfNums y180).size ≤ 9223372036854775807 then (cotterref03_Encode.j2 kj37 t173 ((strOfNums y174) ++ (strOfNums y180)) a0_0 a0_1 a0_2 a0_3) else (none))) else (cotterref03_Encode.j2 kj37 t173 (strOfNums y174) a0_0 a0_1 a0_2 a0_3)))) = some (r1, r2) := by rw [if_neg (show ¬ (false = true) by decide)] at H; exact H
              clear H
              have H := H1
              clear H1
              obtain ⟨y174, hy174⟩ : ∃ y_ : List Int, y_ = (([(a0_0) % 256] : List Int)) := ⟨_, rfl⟩
              replace H : (if t172 = true then ((some (([(wrap64 ((wrap64 (16 * a0_1)) + a0_2)) % 256] : List Int) : List Int)).bind fun y177 => (if (strOfNums y174).size + (strOfNums y177).size ≤ 9223372036854775807 then (cotterref03_Encode.j2 kj37 t173 ((strOfNums y174) ++ (strOfNums y177)) a0_0 a0_1 a0_2 a0_3) else (none))) else (if t171 = true then ((some (([(a0_1) % 256] : List Int) : List Int)).bind fun y180 => (if (strOfNums y174).size + (strOfNums y180).size ≤ 9223372036854775807 then (cotterref03_Encode.j2 kj37 t173 ((strOfNums y174) ++ (strOfNums y180)) a0_0 a0_1 a0_2 a0_3) else (none))) else (cotterref03_Encode.j2 kj37 t173 (strOfNums y174) a0_0 a0_1 a0_2 a0_3))) = some (r1, r2) := by first | (rw [hy174]; with_reducible exact H) | (have H2_ := (Option.bind_some _ _).symm.trans H; rw [hy174]; with_reducible exact H2_) | (have H2_ := (Option.bind_some _ _).symm.trans H; with_reducible exact H2_) | with_reducible exact H | (rw [hy174]; exact H) | exact H
              have Ny174 := Aside0.mk hy174
              clear hy174
              have HC44 := Aside0.mk H
              clear H
              have hcz45_0 : wc.cell? ⟨gb169, 0, none⟩ = some (.int .i64 a0_0) := (blk_cell BK169.out 0).trans rfl
              have hcz45_1 : wc.cell? ⟨gb169, 1, none⟩ = some (.int .i64 a0_1) := (blk_cell BK169.out 1).trans rfl
              have hcz45_2 : wc.cell? ⟨gb169, 2, none⟩ = some (.int .i64 a0_2) := (blk_cell BK169.out 2).trans rfl
              have hcz45_3 : wc.cell? ⟨gb169, 3, none⟩ = some (.int .i64 a0_3) := (blk_cell BK169.out 3).trans rfl
              have hfz45_0 := blk_frozen BK169.out 0
              have hfz45_1 := blk_frozen BK169.out 1
              have hfz45_2 := blk_frozen BK169.out 2
              have hfz45_3 := blk_frozen BK169.out 3
              go_upto_if 86 with (first | ((with_reducible refine gate_dst (N := 84) rfl ?_); refine Kd.R_lit (Kd.int .u8) _ 5 ?hg (N := 84) ?hd (xs := ([(a0_0) % 256] : List Int)) (inner := [.int .u8 ((a0_0) % 256)]) (ok := fun _ => True) (okp := fun _ => True) ?hr ?hp (fun _ hk => hk) trivial (Below.refl _ _) (Nat.le_refl _) (by simp) ?_; (case hd => rfl); (case hg => rfl); (case hr => first | (go_simp; done) | (go_simp; rfl)); (case hp => exact (Reps.one (show Kd.M (Kd.int .u8) _ _ _ ((a0_0) % 256) [.int .u8 ((a0_0) % 256)] from rfl) (Reps.none _ _))); intro v175 w46 ho47 hb hg_ hnew_; clear hg_ hnew_; (first | rw [← Ny174.out] at ho47 | (simp only [Int.reduceToNat] at ho47; rw [← Ny174.out] at ho47)); have n0_ := Aside0.mk (Kd.R_lower ho47 (below_size (by repeat (first | (with_reducible first | exact HB.out | apply below_alloc | apply pw_below_drewN | apply below_drew1 | refine below_set ?_ GE169.out) | exact HB.out)))); have n1_ := Aside0.mk (blk_below (g := gb169) (o := .cells #[.int .i64 a0_0, .int .i64 a0_1, .int .i64 a0_2, .int .i64 a0_3] 23 (0, 0)) (by (with_reducible repeat (first | refine blk_drewN ?_ _ | refine blk_drew ?_ | refine blk_alloc ?_ _)); exact BK169.out) hb); have n2_ := Aside0.mk (below_step (by repeat (first | (with_reducible first | exact HB.out | apply below_alloc | apply pw_below_drewN | apply below_drew1 | refine below_set ?_ GE169.out) | exact HB.out)) hb); clear BK169; clear HB; have HO176 := n0_; have BK169 := n1_; have HB := n2_; clear n0_ n1_ n2_; clear hb ho47; have hcv48 := own_string (P := Tryd.prog) Tryd.underlying44 Tryd.underlying5 Tryd.underlying9 (Kd.own_of_R HO176.out)))
              (try simp only [Act.put, List.setIfInBounds_toArray, List.set_cons_zero, List.set_cons_succ])
              go_cut [8] (fun v8 wc => ∃ (kq : Nat) (x8_43 : ByteArray), v8 = .string x8_43 ∧ Aside0 (cotterref03_Encode.j2 kq t173 x8_43 a0_0 a0_1 a0_2 a0_3 = some (r1, r2)) ∧ Aside0 (kq ≤ kj37) ∧ Aside0 (wc.heap[gb169]? = some (.cells #[.int .i64 a0_0, .int .i64 a0_1, .int .i64 a0_2, .int .i64 a0_3] 23 (0, 0))) ∧ Aside0 (Below w.heap.size w wc))
              case first =>
                have H := HC44.out
                clear HC44
                by_cases c49 : t172 = true
                · subst c49
                  have H1 : ((some (([(wrap64 ((wrap64 (16 * a0_1)) + a0_2)) % 256] : List Int) : List Int)).bind fun y177 => (if (strOfNums y174).size + (strOfNums y177).size ≤ 9223372036854775807 then (cotterref03_Encode.j2 kj37 t173 ((strOfNums y174) ++ (strOfNums y177)) a0_0 a0_1 a0_2 a0_3) else (none))) = some (r1, r2) := by rw [if_pos rfl] at H; exact H
                  clear H
                  have H := H1
                  clear H1
                  obtain ⟨y177, hy177⟩ : ∃ y_ : List Int, y_ = (([(wrap64 ((wrap64 (16 * a0_1)) + a0_2)) % 256] : List Int)) := ⟨_, rfl⟩
                  replace H : (if (strOfNums y174).size + (strOfNums y177).size ≤ 9223372036854775807 then (cotterref03_Encode.j2 kj37 t173 ((strOfNums y174) ++ (strOfNums y177)) a0_0 a0_1 a0_2 a0_3) else (none)) = some (r1, r2) := by first | (rw [hy177]; with_reducible exact H) | (have H2_ := (Option.bind_some _ _).symm.trans H; rw [hy177]; with_reducible exact H2_) | (have H2_ := (Option.bind_some _ _).symm.trans H; with_reducible exact H2_) | with_reducible exact H | (rw [hy177]; exact H) | exact H
                  have Ny177 := Aside0.mk hy177
                  clear hy177
                  by_cases c50 : (strOfNums y174).size + (strOfNums y177).size ≤ 9223372036854775807
                  · rw [if_pos c50] at H
                    have c50b0 := eq_true c50
                    have c50b1 : decide ((strOfNums y174).size + (strOfNums y177).size ≤ 9223372036854775807) = true := decide_eq_true c50
                    try have c50b2 : (9223372036854775807 < (strOfNums y174).size + (strOfNums y177).size) = False := eq_false (Nat.not_lt.2 c50)
                    have H' := Aside0.mk H
                    clear H
                    have hcz51_0 : w46.cell? ⟨gb169, 0, none⟩ = some (.int .i64 a0_0) := (blk_cell BK169.out 0).trans rfl
                    have hcz51_1 : w46.cell? ⟨gb169, 1, none⟩ = some (.int .i64 a0_1) := (blk_cell BK169.out 1).trans rfl
                    have hcz51_2 : w46.cell? ⟨gb169, 2, none⟩ = some (.int .i64 a0_2) := (blk_cell BK169.out 2).trans rfl
                    have hcz51_3 : w46.cell? ⟨gb169, 3, none⟩ = some (.int .i64 a0_3) := (blk_cell BK169.out 3).trans rfl
                    have hfz51_0 := blk_frozen BK169.out 0
                    have hfz51_1 := blk_frozen BK169.out 1
                    have hfz51_2 := blk_frozen BK169.out 2
                    have hfz51_3 := blk_frozen BK169.out 3
                    go_wp2_with (first | ((with_reducible refine gate_dst (N := 95) rfl ?_); refine Kd.R_lit (Kd.int .u8) _ 5 ?hg (N := 95) ?hd (xs := ([(wrap64 ((wrap64 (16 * a0_1)) + a0_2)) % 256] : List Int)) (inner := [.int .u8 ((wrap64 ((wrap64 (16 * a0_1)) + a0_2)) % 256)]) (ok := fun _ => True) (okp := fun _ => True) ?hr ?hp (fun _ hk => hk) trivial (Below.refl _ _) (Nat.le_refl _) (by simp) ?_; (case hd => rfl); (case hg => rfl); (case hr => first | (go_simp; done) | (go_simp; rfl)); (case hp => exact (Reps.one (show Kd.M (Kd.int .u8) _ _ _ ((wrap64 ((wrap64 (16 * a0_1)) + a0_2)) % 256) [.int .u8 ((wrap64 ((wrap64 (16 * a0_1)) + a0_2)) % 256)] from rfl) (Reps.none _ _))); intro v178 w52 ho53 hb hg_ hnew_; clear hg_ hnew_; (first | rw [← Ny177.out] at ho53 | (simp only [Int.reduceToNat] at ho53; rw [← Ny177.out] at ho53)); have n0_ := Aside0.mk (Kd.R_elder' (by (with_reducible repeat (first | apply Kd.R_alloc | apply Kd.R_drewN | apply Kd.R_drew)); exact HO176.out) (Kd.R_base ho53) hb); have n1_ := Aside0.mk (Kd.R_lower (Kd.R_new' ho53 (Kd.R_lt (by (with_reducible repeat (first | apply Kd.R_alloc | apply Kd.R_drewN | apply Kd.R_drew)); exact HO176.out))) (below_size (by repeat (first | (with_reducible first | exact HB.out | apply below_alloc | apply pw_below_drewN | apply below_drew1 | refine below_set ?_ GE169.out) | exact HB.out)))); have n2_ := Aside0.mk (blk_below (g := gb169) (o := .cells #[.int .i64 a0_0, .int .i64 a0_1, .int .i64 a0_2, .int .i64 a0_3] 23 (0, 0)) (by (with_reducible repeat (first | refine blk_drewN ?_ _ | refine blk_drew ?_ | refine blk_alloc ?_ _)); exact BK169.out) hb); have n3_ := Aside0.mk (below_step (by repeat (first | (with_reducible first | exact HB.out | apply below_alloc | apply pw_below_drewN | apply below_drew1 | refine below_set ?_ GE169.out) | exact HB.out)) hb); clear HO176; clear BK169; clear HB; have HO176 := n0_; have HO179 := n1_; have BK169 := n2_; have HB := n3_; clear n0_ n1_ n2_ n3_; clear hb ho53; have hcv54 := own_string (P := Tryd.prog) Tryd.underlying44 Tryd.underlying5 Tryd.underlying9 (Kd.own_of_R HO179.out)))
                    go_meet
                    case rel => exact ⟨_, ((strOfNums y174) ++ (strOfNums y177)), (by first | rfl | (simp; done) | (simp [*]; done)), H', ⟨by have := HJ3.out; have := HJ37.out; first | omega | exact Nat.le_refl _⟩, ⟨by (with_reducible repeat (first | refine blk_drewN ?_ _ | refine blk_drew ?_ | refine blk_alloc ?_ _)); exact BK169.out⟩, ⟨by repeat (first | (with_reducible first | exact HB.out | apply below_alloc | apply pw_below_drewN | apply below_drew1 | refine below_set ?_ GE169.out) | exact HB.out)⟩⟩
                  · rw [if_neg c50] at H
                    exact absurd H (by simp)
                · replace c49 := Bool.eq_false_iff.mpr c49
                  subst c49
                  have H1 : (if t171 = true then ((some (([(a0_1) % 256] : List Int) : List Int)).bind fun y180 => (if (strOfNums y174).size + (strOfNums y180).size ≤ 9223372036854775807 then (cotterref03_Encode.j2 kj37 t173 ((strOfNums y174) ++ (strOfNums y180)) a0_0 a0_1 a0_2 a0_3) else (none))) else (cotterref03_Encode.j2 kj37 t173 (strOfNums y174) a0_0 a0_1 a0_2 a0_3)) = some (r1, r2) := by rw [if_neg (show ¬ (false = true) by decide)] at H; exact H
                  clear H
                  have H := H1
                  clear H1
                  by_cases c55 : t171 = true
                  · subst c55
                    have H1 : ((some (([(a0_1) % 256] : List Int) : List Int)).bind fun y180 => (if (strOfNums y174).size + (strOfNums y180).size ≤ 9223372036854775807 then (cotterref03_Encode.j2 kj37 t173 ((strOfNums y174) ++ (strOfNums y180)) a0_0 a0_1 a0_2 a0_3) else (none))) = some (r1, r2) := by rw [if_pos rfl] at H; exact H
                    clear H
                    have H := H1
                    clear H1
                    obtain ⟨y180, hy180⟩ : ∃ y_ : List Int, y_ = (([(a0_1) % 256] : List Int)) := ⟨_, rfl⟩
                    replace H : (if (strOfNums y174).size + (strOfNums y180).size ≤ 9223372036854775807 then (cotterref03_Encode.j2 kj37 t173 ((strOfNums y174) ++ (strOfNums y180)) a0_0 a0_1 a0_2 a0_3) else (none)) = some (r1, r2) := by first | (rw [hy180]; with_reducible exact H) | (have H2_ := (Option.bind_some _ _).symm.trans H; rw [hy180]; with_reducible exact H2_) | (have H2_ := (Option.bind_some _ _).symm.trans H; with_reducible exact H2_) | with_reducible exact H | (rw [hy180]; exact H) | exact H
                    have Ny180 := Aside0.mk hy180
                    clear hy180
                    by_cases c56 : (strOfNums y174).size + (strOfNums y180).size ≤ 9223372036854775807
                    · rw [if_pos c56] at H
                      have c56b0 := eq_true c56
                      have c56b1 : decide ((strOfNums y174).size + (strOfNums y180).size ≤ 9223372036854775807) = true := decide_eq_true c56
                      try have c56b2 : (9223372036854775807 < (strOfNums y174).size + (strOfNums y180).size) = False := eq_false (Nat.not_lt.2 c56)
                      have H' := Aside0.mk H
                      clear H
                      have hcz57_0 : w46.cell? ⟨gb169, 0, none⟩ = some (.int .i64 a0_0) := (blk_cell BK169.out 0).trans rfl
                      have hcz57_1 : w46.cell? ⟨gb169, 1, none⟩ = some (.int .i64 a0_1) := (blk_cell BK169.out 1).trans rfl
                      have hcz57_2 : w46.cell? ⟨gb169, 2, none⟩ = some (.int .i64 a0_2) := (blk_cell BK169.out 2).trans rfl
                      have hcz57_3 : w46.cell? ⟨gb169, 3, none⟩ = some (.int .i64 a0_3) := (blk_cell BK169.out 3).trans rfl
                      have hfz57_0 := blk_frozen BK169.out 0
                      have hfz57_1 := blk_frozen BK169.out 1
                      have hfz57_2 := blk_frozen BK169.out 2
                      have hfz57_3 := blk_frozen BK169.out 3
                      go_wp2_with (first | ((with_reducible refine gate_dst (N := 103) rfl ?_); refine Kd.R_lit (Kd.int .u8) _ 5 ?hg (N := 103) ?hd (xs := ([(a0_1) % 256] : List Int)) (inner := [.int .u8 ((a0_1) % 256)]) (ok := fun _ => True) (okp := fun _ => True) ?hr ?hp (fun _ hk => hk) trivial (Below.refl _ _) (Nat.le_refl _) (by simp) ?_; (case hd => rfl); (case hg => rfl); (case hr => first | (go_simp; done) | (go_simp; rfl)); (case hp => exact (Reps.one (show Kd.M (Kd.int .u8) _ _ _ ((a0_1) % 256) [.int .u8 ((a0_1) % 256)] from rfl) (Reps.none _ _))); intro v181 w58 ho59 hb hg_ hnew_; clear hg_ hnew_; (first | rw [← Ny180.out] at ho59 | (simp only [Int.reduceToNat] at ho59; rw [← Ny180.out] at ho59)); have n0_ := Aside0.mk (Kd.R_elder' (by (with_reducible repeat (first | apply Kd.R_alloc | apply Kd.R_drewN | apply Kd.R_drew)); exact HO176.out) (Kd.R_base ho59) hb); have n1_ := Aside0.mk (Kd.R_lower (Kd.R_new' ho59 (Kd.R_lt (by (with_reducible repeat (first | apply Kd.R_alloc | apply Kd.R_drewN | apply Kd.R_drew)); exact HO176.out))) (below_size (by repeat (first | (with_reducible first | exact HB.out | apply below_alloc | apply pw_below_drewN | apply below_drew1 | refine below_set ?_ GE169.out) | exact HB.out)))); have n2_ := Aside0.mk (blk_below (g := gb169) (o := .cells #[.int .i64 a0_0, .int .i64 a0_1, .int .i64 a0_2, .int .i64 a0_3] 23 (0, 0)) (by (with_reducible repeat (first | refine blk_drewN ?_ _ | refine blk_drew ?_ | refine blk_alloc ?_ _)); exact BK169.out) hb); have n3_ := Aside0.mk (below_step (by repeat (first | (with_reducible first | exact HB.out | apply below_alloc | apply pw_below_drewN | apply below_drew1 | refine below_set ?_ GE169.out) | exact HB.out)) hb); clear HO176; clear BK169; clear HB; have HO176 := n0_; have HO182 := n1_; have BK169 := n2_; have HB := n3_; clear n0_ n1_ n2_ n3_; clear hb ho59; have hcv60 := own_string (P := Tryd.prog) Tryd.underlying44 Tryd.underlying5 Tryd.underlying9 (Kd.own_of_R HO182.out)))
                      go_meet
                      case rel => exact ⟨_, ((strOfNums y174) ++ (strOfNums y180)), (by first | rfl | (simp; done) | (simp [*]; done)), H', ⟨by have := HJ3.out; have := HJ37.out; first | omega | exact Nat.le_refl _⟩, ⟨by (with_reducible repeat (first | refine blk_drewN ?_ _ | refine blk_drew ?_ | refine blk_alloc ?_ _)); exact BK169.out⟩, ⟨by repeat (first | (with_reducible first | exact HB.out | apply below_alloc | apply pw_below_drewN | apply below_drew1 | refine below_set ?_ GE169.out) | exact HB.out)⟩⟩
                    · rw [if_neg c56] at H
                      exact absurd H (by simp)
                  · replace c55 := Bool.eq_false_iff.mpr c55
                    subst c55
                    have H1 : (cotterref03_Encode.j2 kj37 t173 (strOfNums y174) a0_0 a0_1 a0_2 a0_3) = some (r1, r2) := by rw [if_neg (show ¬ (false = true) by decide)] at H; exact H
                    clear H
                    have H := H1
                    clear H1
                    have H' := Aside0.mk H
                    clear H
                    go_wp2
                    go_meet
                    case rel => exact ⟨_, (strOfNums y174), (by first | rfl | (simp; done) | (simp [*]; done)), H', ⟨by have := HJ3.out; have := HJ37.out; first | omega | exact Nat.le_refl _⟩, ⟨by (with_reducible repeat (first | refine blk_drewN ?_ _ | refine blk_drew ?_ | refine blk_alloc ?_ _)); exact BK169.out⟩, ⟨by repeat (first | (with_reducible first | exact HB.out | apply below_alloc | apply pw_below_drewN | apply below_drew1 | refine below_set ?_ GE169.out) | exact HB.out)⟩⟩
              case rest =>
                clear HC44
                try clear c1
                try clear c2
                try clear p2
                try clear c3
                try clear c4
                try clear hcv4
                try clear c5
                try clear hcv5
                try clear p6
                try clear hcv6
                try clear c7
                try clear c7b0
                try clear c7b1
                try clear c8
                try clear c8b0
                try clear c10
                try clear c10b0
                try clear c12
                try clear c12b0
                try clear c14
                try clear c14b0
                try clear c16
                try clear c17
                try clear c18
                try clear c18b0
                try clear c18b1
                try clear c21
                try clear c21b0
                try clear c21b1
                try clear c22
                try clear c22b0
                try clear c22b1
                try clear c24
                try clear c25
                try clear c26
                try clear c26b0
                try clear c26b1
                try clear c27
                try clear c28
                try clear c28b0
                try clear c28b1
                try clear c31
                try clear c31b0
                try clear c31b1
                try clear c32
                try clear c32b0
                try clear c32b1
                try clear c37
                try clear c39
                try clear c39b0
                try clear c39b1
                try clear c40
                try clear c40b0
                try clear c43
                try clear hcv48
                try clear c49
                try clear c50
                try clear c50b0
                try clear c50b1
                try clear c50b2
                try clear hcv54
                try clear c55
                try clear c56
                try clear c56b0
                try clear c56b1
                try clear c56b2
                try clear hcv60
                try clear hcz11_0
                try clear hcz11_1
                try clear hcz11_2
                try clear hcz11_3
                try clear hcz13_0
                try clear hcz13_1
                try clear hcz13_2
                try clear hcz13_3
                try clear hcz15_0
                try clear hcz15_1
                try clear hcz15_2
                try clear hcz15_3
                try clear hcz19_0
                try clear hcz19_1
                try clear hcz19_2
                try clear hcz19_3
                try clear hcz20_0
                try clear hcz20_1
                try clear hcz20_2
                try clear hcz20_3
                try clear hcz23_0
                try clear hcz23_1
                try clear hcz23_2
                try clear hcz23_3
                try clear hcz24_0
                try clear hcz24_1
                try clear hcz24_2
                try clear hcz24_3
                try clear hcz25_0
                try clear hcz25_1
                try clear hcz25_2
                try clear hcz25_3
                try clear hcz29_0
                try clear hcz29_1
                try clear hcz29_2
                try clear hcz29_3
                try clear hcz30_0
                try clear hcz30_1
                try clear hcz30_2
                try clear hcz30_3
                try clear hcz33_0
                try clear hcz33_1
                try clear hcz33_2
                try clear hcz33_3
                try clear hcz34_0
                try clear hcz34_1
                try clear hcz34_2
                try clear hcz34_3
                try clear hcz35_0
                try clear hcz35_1
                try clear hcz35_2
                try clear hcz35_3
                try clear hcz36_0
                try clear hcz36_1
                try clear hcz36_2
                try clear hcz36_3
                try clear hcz41_0
                try clear hcz41_1
                try clear hcz41_2
                try clear hcz41_3
                try clear hcz42_0
                try clear hcz42_1
                try clear hcz42_2
                try clear hcz42_3
                try clear hcz45_0
                try clear hcz45_1
                try clear hcz45_2
                try clear hcz45_3
                try clear hcz51_0
                try clear hcz51_1
                try clear hcz51_2
                try clear hcz51_3
                try clear hcz57_0
                try clear hcz57_1
                try clear hcz57_2
                try clear hcz57_3
                try clear hcz6_0
                try clear hcz6_1
                try clear hcz6_2
                try clear hcz6_3
                try clear hcz9_0
                try clear hcz9_1
                try clear hcz9_2
                try clear hcz9_3
                try clear hfz11_0
                try clear hfz11_1
                try clear hfz11_2
                try clear hfz11_3
                try clear hfz13_0
                try clear hfz13_1
                try clear hfz13_2
                try clear hfz13_3
                try clear hfz15_0
                try clear hfz15_1
                try clear hfz15_2
                try clear hfz15_3
                try clear hfz19_0
                try clear hfz19_1
                try clear hfz19_2
                try clear hfz19_3
                try clear hfz20_0
                try clear hfz20_1
                try clear hfz20_2
                try clear hfz20_3
                try clear hfz23_0
                try clear hfz23_1
                try clear hfz23_2
                try clear hfz23_3
                try clear hfz24_0
                try clear hfz24_1
                try clear hfz24_2
                try clear hfz24_3
                try clear hfz25_0
                try clear hfz25_1
                try clear hfz25_2
                try clear hfz25_3
                try clear hfz29_0
                try clear hfz29_1
                try clear hfz29_2
                try clear hfz29_3
                try clear hfz30_0
                try clear hfz30_1
                try clear hfz30_2
                try clear hfz30_3
                try clear hfz33_0
                try clear hfz33_1
                try clear hfz33_2
                try clear hfz33_3
                try clear hfz34_0
                try clear hfz34_1
                try clear hfz34_2
                try clear hfz34_3
                try clear hfz35_0
                try clear hfz35_1
                try clear hfz35_2
                try clear hfz35_3
                try clear hfz36_0
                try clear hfz36_1
                try clear hfz36_2
                try clear hfz36_3
                try clear hfz41_0
                try clear hfz41_1
                try clear hfz41_2
                try clear hfz41_3
                try clear hfz42_0
                try clear hfz42_1
                try clear hfz42_2
                try clear hfz42_3
                try clear hfz45_0
                try clear hfz45_1
                try clear hfz45_2
                try clear hfz45_3
                try clear hfz51_0
                try clear hfz51_1
                try clear hfz51_2
                try clear hfz51_3
                try clear hfz57_0
                try clear hfz57_1
                try clear hfz57_2
                try clear hfz57_3
                try clear hfz6_0
                try clear hfz6_1
                try clear hfz6_2
                try clear hfz6_3
                try clear hfz9_0
                try clear hfz9_1
                try clear hfz9_2
                try clear hfz9_3
                try clear p2
                obtain ⟨kq, x8_43, rfl, HA, HJ43, BK169, HB⟩ := hcut
                cases kq with
                | zero => exact absurd HA.out (by simp [cotterref03_Encode.j2])
                | succ kj43 =>
                  have H := HA.out
                  clear HA
                  simp only [cotterref03_Encode.j2] at H
                  by_cases c61 : t173 > 0
                  · rw [if_pos c61] at H
                    have c61b0 : decide (0 < t173) = true := decide_eq_true c61
                    clear c61
                    replace H := Option.bind_eq_some_iff.mp H
                    obtain ⟨⟨t183, t184⟩, A620, H⟩ := H
                    replace H : (if t184 = 0 then (if x8_43.size + t183.size ≤ 9223372036854775807 then (some (x8_43 ++ t183, 0)) else (none)) else (some ((⟨#[]⟩ : ByteArray), t184))) = some (r1, r2) := H
                    have A62 := Aside0.mk A620
                    clear A620
                    by_cases c63 : t184 = 0
                    · rw [if_pos c63] at H
                      have c63b0 : (t184 == 0) = true := beq_iff_eq.mpr c63
                      have c63b1 : (t184 != 0) = false := bne_eq_false_iff_eq.mpr c63
                      clear c63
                      by_cases c64 : x8_43.size + t183.size ≤ 9223372036854775807
                      · rw [if_pos c64] at H
                        have c64b0 := eq_true c64
                        have c64b1 : decide (x8_43.size + t183.size ≤ 9223372036854775807) = true := decide_eq_true c64
                        try have c64b2 : (9223372036854775807 < x8_43.size + t183.size) = False := eq_false (Nat.not_lt.2 c64)
                        simp only [Option.some.injEq, Prod.mk.injEq] at H
                        obtain ⟨rfl, rfl⟩ := H
                        have hcz65_0 : wc.cell? ⟨gb169, 0, none⟩ = some (.int .i64 a0_0) := (blk_cell BK169.out 0).trans rfl
                        have hcz65_1 : wc.cell? ⟨gb169, 1, none⟩ = some (.int .i64 a0_1) := (blk_cell BK169.out 1).trans rfl
                        have hcz65_2 : wc.cell? ⟨gb169, 2, none⟩ = some (.int .i64 a0_2) := (blk_cell BK169.out 2).trans rfl
                        have hcz65_3 : wc.cell? ⟨gb169, 3, none⟩ = some (.int .i64 a0_3) := (blk_cell BK169.out 3).trans rfl
                        have hfz65_0 := blk_frozen BK169.out 0
                        have hfz65_1 := blk_frozen BK169.out 1
                        have hfz65_2 := blk_frozen BK169.out 2
                        have hfz65_3 := blk_frozen BK169.out 3
                        go_wp2_with (first | ((with_reducible refine gate_callee (f := 26) rfl ?_); refine goesL_ (some 112) rfl rfl Tryd.func26 (by kernel_rfl) rfl #[.int .i64 a0_3, .int .i64 t173] rfl (by (try simp only [List.map_toArray, List.map_cons, List.map_nil]); first | done | rfl | (simp only [List.length_drop, List.length_take]; rfl)) ?_; (with_reducible refine (cotterref01_Bytes.calls kj43 a0_3 t173 t183 t184 _ A62.out).mono ?_); rintro e w66 ⟨rfl, hb⟩; refine ⟨_, rfl, ?_⟩; have n0_ := Aside0.mk (blk_below (g := gb169) (o := .cells #[.int .i64 a0_0, .int .i64 a0_1, .int .i64 a0_2, .int .i64 a0_3] 23 (0, 0)) (by (with_reducible repeat (first | refine blk_drewN ?_ _ | refine blk_drew ?_ | refine blk_alloc ?_ _)); exact BK169.out) hb); have n1_ := Aside0.mk (below_step (by repeat (first | (with_reducible first | exact HB.out | apply below_alloc | apply pw_below_drewN | apply below_drew1 | refine below_set ?_ GE169.out) | exact HB.out)) hb); clear BK169; clear HB; have BK169 := n0_; have HB := n1_; clear n0_ n1_; (try clear hb); (try clear hb2); (try clear hk); (try clear hi)))
                        go_ret2
                        exact ⟨by first | rfl | (simp [errW_none, errW_some] <;> rfl) | (simp [*, errW_none, errW_some] <;> rfl), by repeat (first | (with_reducible first | exact HB.out | apply below_alloc | apply pw_below_drewN | apply below_drew1 | refine below_set ?_ GE169.out) | exact HB.out)⟩
                      · rw [if_neg c64] at H
                        exact absurd H (by simp)
                    · rw [if_neg c63] at H
                      have c63b0 : (t184 == 0) = false := beq_eq_false_iff_ne.mpr c63
                      have c63b1 : (t184 != 0) = true := bne_iff_ne.mpr c63
                      simp only [Option.some.injEq, Prod.mk.injEq] at H
                      obtain ⟨rfl, rfl⟩ := H
                      have hcz67_0 : wc.cell? ⟨gb169, 0, none⟩ = some (.int .i64 a0_0) := (blk_cell BK169.out 0).trans rfl
                      have hcz67_1 : wc.cell? ⟨gb169, 1, none⟩ = some (.int .i64 a0_1) := (blk_cell BK169.out 1).trans rfl
                      have hcz67_2 : wc.cell? ⟨gb169, 2, none⟩ = some (.int .i64 a0_2) := (blk_cell BK169.out 2).trans rfl
                      have hcz67_3 : wc.cell? ⟨gb169, 3, none⟩ = some (.int .i64 a0_3) := (blk_cell BK169.out 3).trans rfl
                      have hfz67_0 := blk_frozen BK169.out 0
                      have hfz67_1 := blk_frozen BK169.out 1
                      have hfz67_2 := blk_frozen BK169.out 2
                      have hfz67_3 := blk_frozen BK169.out 3
                      go_wp2_with (first | ((with_reducible refine gate_callee (f := 26) rfl ?_); refine goesL_ (some 112) rfl rfl Tryd.func26 (by kernel_rfl) rfl #[.int .i64 a0_3, .int .i64 t173] rfl (by (try simp only [List.map_toArray, List.map_cons, List.map_nil]); first | done | rfl | (simp only [List.length_drop, List.length_take]; rfl)) ?_; (with_reducible refine (cotterref01_Bytes.calls kj43 a0_3 t173 t183 t184 _ A62.out).mono ?_); rintro e w68 ⟨rfl, hb⟩; refine ⟨_, rfl, ?_⟩; have n0_ := Aside0.mk (blk_below (g := gb169) (o := .cells #[.int .i64 a0_0, .int .i64 a0_1, .int .i64 a0_2, .int .i64 a0_3] 23 (0, 0)) (by (with_reducible repeat (first | refine blk_drewN ?_ _ | refine blk_drew ?_ | refine blk_alloc ?_ _)); exact BK169.out) hb); have n1_ := Aside0.mk (below_step (by repeat (first | (with_reducible first | exact HB.out | apply below_alloc | apply pw_below_drewN | apply below_drew1 | refine below_set ?_ GE169.out) | exact HB.out)) hb); clear BK169; clear HB; have BK169 := n0_; have HB := n1_; clear n0_ n1_; (try clear hb); (try clear hb2); (try clear hk); (try clear hi)))
                      go_ret2
                      exact ⟨by first | rfl | (simp [errW_none, errW_some] <;> rfl) | (simp [*, errW_none, errW_some] <;> rfl), by repeat (first | (with_reducible first | exact HB.out | apply below_alloc | apply pw_below_drewN | apply below_drew1 | refine below_set ?_ GE169.out) | exact HB.out)⟩
                  · rw [if_neg c61] at H
                    have c61b0 : decide (0 < t173) = false := decide_eq_false c61
                    clear c61
                    simp only [Option.some.injEq, Prod.mk.injEq] at H
                    obtain ⟨rfl, rfl⟩ := H
                    go_wp2
                    go_ret2
                    exact ⟨by first | rfl | (simp [errW_none, errW_some] <;> rfl) | (simp [*, errW_none, errW_some] <;> rfl), by repeat (first | (with_reducible first | exact HB.out | apply below_alloc | apply pw_below_drewN | apply below_drew1 | refine below_set ?_ GE169.out) | exact HB.out)⟩

end Go.Proofs.YthmheblilgegcaaDoor.M
