/-
  Texts of the proofs of ImageBack, cut to what the proofs reach and packed by a program of this session (wip/packs.py). Each part begins with what it says; conditions: those told there.
-/
import Derived.Test.YtimhcpmfhebbhaaDoorProg
import Derived.Test.YtimhcpmfhebbhaaDoorPKA2
import Derived.Test.YtimhcpmfhebbhaaDoorPKA3
-- Written by a program of this session (wip/ownprint.py) over the translation. Lean checks it.
namespace Go.Proofs.YtimhcpmfhebbhaaDoor.M
open Go.RowKit Go.Proofs.YtimhcpmfhebbhaaDoorW.PrintWords Go.Proofs.YtimhcpmfhebbhaaDoorW.PrintLast
set_option linter.unusedVariables false
set_option linter.unusedSimpArgs false



def errW : Option Int → Value
  | none => .nilIface
  | some c => .iface 0 (.int .i64 c)
theorem errW_none : errW none = .nilIface := rfl
theorem errW_some (c : Int) : errW (some c) = .iface 0 (.int .i64 c) := rfl

theorem info2 : (Tryd.prog.info? 2).map (fun i => (i.zero, i.size, i.bytes)) = some (some (.int .i64 0), 1, 8) := by kernel_rfl
theorem info5 : (Tryd.prog.info? 5).map (fun i => (i.zero, i.size, i.bytes)) = some (some (.int .u8 0), 1, 1) := by kernel_rfl
theorem info9 : (Tryd.prog.info? 9).map (fun i => (i.zero, i.size, i.bytes)) = some (some (.string ⟨#[]⟩), 1, 16) := by kernel_rfl
theorem info68 : (Tryd.prog.info? 68).map (fun i => (i.zero, i.size, i.bytes)) = some (some (.agg #[(.string ⟨#[]⟩), (.int .i64 0), (.int .i64 0)]), 3, 32) := by kernel_rfl
theorem info79 : (Tryd.prog.info? 79).map (fun i => (i.zero, i.size, i.bytes)) = some (some (.agg #[(.int .i64 0), (.int .i64 0), (.int .i64 0), (.int .i64 0)]), 4, 32) := by kernel_rfl
-- the values' own types
/-! #### struct type 79 -/
structure S79 where
  f0 : Int
  f1 : Int
  f2 : Int
  f3 : Int
def z79 : S79 := ⟨(0 : Int), (0 : Int), (0 : Int), (0 : Int)⟩
def k79 : Kd S79 := Kd.iso (Kd.pair (Kd.int .i64) (Kd.pair (Kd.int .i64) (Kd.pair (Kd.int .i64) (Kd.int .i64)))) (fun x : S79 => (x.f0, x.f1, x.f2, x.f3))
theorem k79_open {w : World} {x : S79} {cs : List Value} (h : k79.K w x cs) : cs = [.int .i64 x.f0, .int .i64 x.f1, .int .i64 x.f2, .int .i64 x.f3] := by
  obtain ⟨_, _, rfl, rfl, ⟨_, _, rfl, rfl, ⟨_, _, rfl, rfl, rfl⟩⟩⟩ := h
  exact rfl
theorem k79_mkM (w : World) (base : Nat) (ok : Nat → Prop) (x : S79)  : k79.M w base ok x [.int .i64 x.f0, .int .i64 x.f1, .int .i64 x.f2, .int .i64 x.f3] := ⟨[.int .i64 x.f0], [.int .i64 x.f1, .int .i64 x.f2, .int .i64 x.f3], rfl, rfl, ⟨[.int .i64 x.f1], [.int .i64 x.f2, .int .i64 x.f3], rfl, rfl, ⟨[.int .i64 x.f2], [.int .i64 x.f3], rfl, rfl, rfl⟩⟩⟩
def rd_T79 (xs : List S79) (i : Int) : S79 := xs.getD i.toNat z79
theorem at_T79 {w : World} {A : Option Addr} {n : Nat} {xs : List S79} (h : Kd.C k79 w A n xs) (i : Int) (h0 : 0 ≤ i) (h1 : i < n) : ∃ ad , A = some ad ∧ w.cell? (ad.add (i.toNat * 4)) = some (.int .i64 (rd_T79 xs i).f0) ∧ w.cell? ⟨(ad.add (i.toNat * 4)).block, (ad.add (i.toNat * 4)).off + 1, none⟩ = some (.int .i64 (rd_T79 xs i).f1) ∧ w.cell? ⟨(ad.add (i.toNat * 4)).block, (ad.add (i.toNat * 4)).off + 2, none⟩ = some (.int .i64 (rd_T79 xs i).f2) ∧ w.cell? ⟨(ad.add (i.toNat * 4)).block, (ad.add (i.toNat * 4)).off + 3, none⟩ = some (.int .i64 (rd_T79 xs i).f3) := by
  obtain ⟨ad, c, e, _, hK, hc0⟩ := Kd.C_get h z79 i h0 h1
  have hc : ∀ j u, c[j]? = some u → w.cell? (ad.add (i.toNat * 4 + j)) = some u := hc0
  obtain rfl := k79_open hK
  exact ⟨ad, e, hc 0 _ rfl, by rw [← add_field _ _ 1 (by omega)]; exact hc 1 _ rfl, by rw [← add_field _ _ 2 (by omega)]; exact hc 2 _ rfl, by rw [← add_field _ _ 3 (by omega)]; exact hc 3 _ rfl⟩

/-! #### struct type 116 -/
structure S116 where
  f0 : Int
  f1 : Int
  f2 : ByteArray
  f3 : Int
def z116 : S116 := ⟨(0 : Int), (0 : Int), (⟨#[]⟩ : ByteArray), (0 : Int)⟩
def k116 : Kd S116 := Kd.iso (Kd.pair (Kd.int .i64) (Kd.pair (Kd.int .i64) (Kd.pair Kd.string (Kd.int .i64)))) (fun x : S116 => (x.f0, x.f1, x.f2, x.f3))
theorem k116_open {w : World} {x : S116} {cs : List Value} (h : k116.K w x cs) : cs = [.int .i64 x.f0, .int .i64 x.f1, .string x.f2, .int .i64 x.f3] := by
  obtain ⟨_, _, rfl, rfl, ⟨_, _, rfl, rfl, ⟨_, _, rfl, rfl, rfl⟩⟩⟩ := h
  exact rfl
theorem k116_mkM (w : World) (base : Nat) (ok : Nat → Prop) (x : S116)  : k116.M w base ok x [.int .i64 x.f0, .int .i64 x.f1, .string x.f2, .int .i64 x.f3] := ⟨[.int .i64 x.f0], [.int .i64 x.f1, .string x.f2, .int .i64 x.f3], rfl, rfl, ⟨[.int .i64 x.f1], [.string x.f2, .int .i64 x.f3], rfl, rfl, ⟨[.string x.f2], [.int .i64 x.f3], rfl, rfl, rfl⟩⟩⟩
def rd_T116 (xs : List S116) (i : Int) : S116 := xs.getD i.toNat z116
theorem at_T116 {w : World} {A : Option Addr} {n : Nat} {xs : List S116} (h : Kd.C k116 w A n xs) (i : Int) (h0 : 0 ≤ i) (h1 : i < n) : ∃ ad , A = some ad ∧ w.cell? (ad.add (i.toNat * 4)) = some (.int .i64 (rd_T116 xs i).f0) ∧ w.cell? ⟨(ad.add (i.toNat * 4)).block, (ad.add (i.toNat * 4)).off + 1, none⟩ = some (.int .i64 (rd_T116 xs i).f1) ∧ w.cell? ⟨(ad.add (i.toNat * 4)).block, (ad.add (i.toNat * 4)).off + 2, none⟩ = some (.string (rd_T116 xs i).f2) ∧ w.cell? ⟨(ad.add (i.toNat * 4)).block, (ad.add (i.toNat * 4)).off + 3, none⟩ = some (.int .i64 (rd_T116 xs i).f3) := by
  obtain ⟨ad, c, e, _, hK, hc0⟩ := Kd.C_get h z116 i h0 h1
  have hc : ∀ j u, c[j]? = some u → w.cell? (ad.add (i.toNat * 4 + j)) = some u := hc0
  obtain rfl := k116_open hK
  exact ⟨ad, e, hc 0 _ rfl, by rw [← add_field _ _ 1 (by omega)]; exact hc 1 _ rfl, by rw [← add_field _ _ 2 (by omega)]; exact hc 2 _ rfl, by rw [← add_field _ _ 3 (by omega)]; exact hc 3 _ rfl⟩

/-! #### struct type 68 -/
structure S68 where
  f0 : ByteArray
  f1 : Int
  f2 : Int
def z68 : S68 := ⟨(⟨#[]⟩ : ByteArray), (0 : Int), (0 : Int)⟩
def k68 : Kd S68 := Kd.iso (Kd.pair Kd.string (Kd.pair (Kd.int .i64) (Kd.int .i64))) (fun x : S68 => (x.f0, x.f1, x.f2))
theorem k68_open {w : World} {x : S68} {cs : List Value} (h : k68.K w x cs) : cs = [.string x.f0, .int .i64 x.f1, .int .i64 x.f2] := by
  obtain ⟨_, _, rfl, rfl, ⟨_, _, rfl, rfl, rfl⟩⟩ := h
  exact rfl
theorem k68_mkM (w : World) (base : Nat) (ok : Nat → Prop) (x : S68)  : k68.M w base ok x [.string x.f0, .int .i64 x.f1, .int .i64 x.f2] := ⟨[.string x.f0], [.int .i64 x.f1, .int .i64 x.f2], rfl, rfl, ⟨[.int .i64 x.f1], [.int .i64 x.f2], rfl, rfl, rfl⟩⟩
def rd_T68 (xs : List S68) (i : Int) : S68 := xs.getD i.toNat z68
theorem at_T68 {w : World} {A : Option Addr} {n : Nat} {xs : List S68} (h : Kd.C k68 w A n xs) (i : Int) (h0 : 0 ≤ i) (h1 : i < n) : ∃ ad , A = some ad ∧ w.cell? (ad.add (i.toNat * 3)) = some (.string (rd_T68 xs i).f0) ∧ w.cell? ⟨(ad.add (i.toNat * 3)).block, (ad.add (i.toNat * 3)).off + 1, none⟩ = some (.int .i64 (rd_T68 xs i).f1) ∧ w.cell? ⟨(ad.add (i.toNat * 3)).block, (ad.add (i.toNat * 3)).off + 2, none⟩ = some (.int .i64 (rd_T68 xs i).f2) := by
  obtain ⟨ad, c, e, _, hK, hc0⟩ := Kd.C_get h z68 i h0 h1
  have hc : ∀ j u, c[j]? = some u → w.cell? (ad.add (i.toNat * 3 + j)) = some u := hc0
  obtain rfl := k68_open hK
  exact ⟨ad, e, hc 0 _ rfl, by rw [← add_field _ _ 1 (by omega)]; exact hc 1 _ rfl, by rw [← add_field _ _ 2 (by omega)]; exact hc 2 _ rfl⟩

end Go.Proofs.YtimhcpmfhebbhaaDoor.M

-- Written by a program of this session (wip/ownprint.py) over the translation. Lean checks it.
namespace Go.Proofs.YtimhcpmfhebbhaaDoor.M
open Go.RowKit Go.Proofs.YtimhcpmfhebbhaaDoorW.PrintWords Go.Proofs.YtimhcpmfhebbhaaDoorW.PrintLast
set_option linter.unusedVariables false
set_option linter.unusedSimpArgs false

/-! ### cotterref03_form: function 66 -/
mutual
def cotterref03_form.j0 : Nat → Int → Bool → Option (Int)
  | 0, _, _ => none
  | k + 1, x0, x6 => if x6 = true then (some 2) else (if x0 = 17 then (cotterref03_form.j1 k x0 true) else (if x0 = 18 then (cotterref03_form.j1 k x0 true) else (if x0 = 28 then (cotterref03_form.j1 k x0 true) else (cotterref03_form.j1 k x0 (x0 == 29)))))
def cotterref03_form.j1 : Nat → Int → Bool → Option (Int)
  | 0, _, _ => none
  | k + 1, x0, x13 => if x13 = true then (some 3) else (if x0 = 19 then (cotterref03_form.j2 k x0 true) else (if x0 = 21 then (cotterref03_form.j2 k x0 true) else (cotterref03_form.j2 k x0 (x0 == 22))))
def cotterref03_form.j2 : Nat → Int → Bool → Option (Int)
  | 0, _, _ => none
  | k + 1, x0, x28 => if x28 = true then (some 4) else (if x0 = 20 then (cotterref03_form.j3 k x0 true) else (cotterref03_form.j3 k x0 (x0 == 23)))
def cotterref03_form.j3 : Nat → Int → Bool → Option (Int)
  | 0, _, _ => none
  | k + 1, x0, x39 => if x39 = true then (some 5) else (if x0 = 24 then (cotterref03_form.j4 k x0 true) else (if x0 = 30 then (cotterref03_form.j4 k x0 true) else (cotterref03_form.j4 k x0 (x0 == 32))))
def cotterref03_form.j4 : Nat → Int → Bool → Option (Int)
  | 0, _, _ => none
  | k + 1, x0, x46 => if x46 = true then (some 6) else (if x0 = 25 then (some 7) else (if x0 = 26 then (cotterref03_form.j5 k x0 true) else (cotterref03_form.j5 k x0 (x0 == 27))))
def cotterref03_form.j5 : Nat → Int → Bool → Option (Int)
  | 0, _, _ => none
  | k + 1, x0, x60 => if x60 = true then (some 8) else (if x0 = 31 then (some 9) else (if x0 = 33 then (some 10) else (some 0)))
end
def cotterref03_form.f (k : Nat) (a0 : Int) : Option (Int) := if a0 = 1 then (some 1) else (if a0 ≥ 2 then (cotterref03_form.j0 k a0 (decide (a0 ≤ 16))) else (cotterref03_form.j0 k a0 false))
theorem cotterref03_form.mono_l : ∀ k, (∀ y0 y1, LeO (cotterref03_form.j0 k y0 y1) (cotterref03_form.j0 (k + 1) y0 y1)) ∧ (∀ y0 y1, LeO (cotterref03_form.j1 k y0 y1) (cotterref03_form.j1 (k + 1) y0 y1)) ∧ (∀ y0 y1, LeO (cotterref03_form.j2 k y0 y1) (cotterref03_form.j2 (k + 1) y0 y1)) ∧ (∀ y0 y1, LeO (cotterref03_form.j3 k y0 y1) (cotterref03_form.j3 (k + 1) y0 y1)) ∧ (∀ y0 y1, LeO (cotterref03_form.j4 k y0 y1) (cotterref03_form.j4 (k + 1) y0 y1)) ∧ (∀ y0 y1, LeO (cotterref03_form.j5 k y0 y1) (cotterref03_form.j5 (k + 1) y0 y1))
  | 0 => ⟨fun _ _ r h => by simp [cotterref03_form.j0] at h, fun _ _ r h => by simp [cotterref03_form.j1] at h, fun _ _ r h => by simp [cotterref03_form.j2] at h, fun _ _ r h => by simp [cotterref03_form.j3] at h, fun _ _ r h => by simp [cotterref03_form.j4] at h, fun _ _ r h => by simp [cotterref03_form.j5] at h⟩
  | k + 1 => by
    obtain ⟨ih0, ih1, ih2, ih3, ih4, ih5⟩ := cotterref03_form.mono_l k
    refine ⟨?_, ?_, ?_, ?_, ?_, ?_⟩
    · intro y0 y1
      unfold cotterref03_form.j0
      repeat' first
      | (with_reducible exact ih0 _ _)
      | (with_reducible exact ih1 _ _)
      | (with_reducible exact ih2 _ _)
      | (with_reducible exact ih3 _ _)
      | (with_reducible exact ih4 _ _)
      | (with_reducible exact ih5 _ _)
      | (with_reducible exact LeO.refl _)
      | (with_reducible exact LeO.none _)
      | (with_reducible refine LeO.ite ?_ ?_)
      | (with_reducible refine LeO.bind ?_ (fun _ => ?_))
      | exact ih0 _ _
      | exact ih1 _ _
      | exact ih2 _ _
      | exact ih3 _ _
      | exact ih4 _ _
      | exact ih5 _ _
      | exact LeO.none _
      | refine LeO.ite ?_ ?_
      | refine LeO.bind ?_ (fun _ => ?_)
    · intro y0 y1
      unfold cotterref03_form.j1
      repeat' first
      | (with_reducible exact ih0 _ _)
      | (with_reducible exact ih1 _ _)
      | (with_reducible exact ih2 _ _)
      | (with_reducible exact ih3 _ _)
      | (with_reducible exact ih4 _ _)
      | (with_reducible exact ih5 _ _)
      | (with_reducible exact LeO.refl _)
      | (with_reducible exact LeO.none _)
      | (with_reducible refine LeO.ite ?_ ?_)
      | (with_reducible refine LeO.bind ?_ (fun _ => ?_))
      | exact ih0 _ _
      | exact ih1 _ _
      | exact ih2 _ _
      | exact ih3 _ _
      | exact ih4 _ _
      | exact ih5 _ _
      | exact LeO.none _
      | refine LeO.ite ?_ ?_
      | refine LeO.bind ?_ (fun _ => ?_)
    · intro y0 y1
      unfold cotterref03_form.j2
      repeat' first
      | (with_reducible exact ih0 _ _)
      | (with_reducible exact ih1 _ _)
      | (with_reducible exact ih2 _ _)
      | (with_reducible exact ih3 _ _)
      | (with_reducible exact ih4 _ _)
      | (with_reducible exact ih5 _ _)
      | (with_reducible exact LeO.refl _)
      | (with_reducible exact LeO.none _)
      | (with_reducible refine LeO.ite ?_ ?_)
      | (with_reducible refine LeO.bind ?_ (fun _ => ?_))
      | exact ih0 _ _
      | exact ih1 _ _
      | exact ih2 _ _
      | exact ih3 _ _
      | exact ih4 _ _
      | exact ih5 _ _
      | exact LeO.none _
      | refine LeO.ite ?_ ?_
      | refine LeO.bind ?_ (fun _ => ?_)
    · intro y0 y1
      unfold cotterref03_form.j3
      repeat' first
      | (with_reducible exact ih0 _ _)
      | (with_reducible exact ih1 _ _)
      | (with_reducible exact ih2 _ _)
      | (with_reducible exact ih3 _ _)
      | (with_reducible exact ih4 _ _)
      | (with_reducible exact ih5 _ _)
      | (with_reducible exact LeO.refl _)
      | (with_reducible exact LeO.none _)
      | (with_reducible refine LeO.ite ?_ ?_)
      | (with_reducible refine LeO.bind ?_ (fun _ => ?_))
      | exact ih0 _ _
      | exact ih1 _ _
      | exact ih2 _ _
      | exact ih3 _ _
      | exact ih4 _ _
      | exact ih5 _ _
      | exact LeO.none _
      | refine LeO.ite ?_ ?_
      | refine LeO.bind ?_ (fun _ => ?_)
    · intro y0 y1
      unfold cotterref03_form.j4
      repeat' first
      | (with_reducible exact ih0 _ _)
      | (with_reducible exact ih1 _ _)
      | (with_reducible exact ih2 _ _)
      | (with_reducible exact ih3 _ _)
      | (with_reducible exact ih4 _ _)
      | (with_reducible exact ih5 _ _)
      | (with_reducible exact LeO.refl _)
      | (with_reducible exact LeO.none _)
      | (with_reducible refine LeO.ite ?_ ?_)
      | (with_reducible refine LeO.bind ?_ (fun _ => ?_))
      | exact ih0 _ _
      | exact ih1 _ _
      | exact ih2 _ _
      | exact ih3 _ _
      | exact ih4 _ _
      | exact ih5 _ _
      | exact LeO.none _
      | refine LeO.ite ?_ ?_
      | refine LeO.bind ?_ (fun _ => ?_)
    · intro y0 y1
      unfold cotterref03_form.j5
      repeat' first
      | (with_reducible exact ih0 _ _)
      | (with_reducible exact ih1 _ _)
      | (with_reducible exact ih2 _ _)
      | (with_reducible exact ih3 _ _)
      | (with_reducible exact ih4 _ _)
      | (with_reducible exact ih5 _ _)
      | (with_reducible exact LeO.refl _)
      | (with_reducible exact LeO.none _)
      | (with_reducible refine LeO.ite ?_ ?_)
      | (with_reducible refine LeO.bind ?_ (fun _ => ?_))
      | exact ih0 _ _
      | exact ih1 _ _
      | exact ih2 _ _
      | exact ih3 _ _
      | exact ih4 _ _
      | exact ih5 _ _
      | exact LeO.none _
      | refine LeO.ite ?_ ?_
      | refine LeO.bind ?_ (fun _ => ?_)
theorem cotterref03_form.mono : ∀ a0 k, LeO (cotterref03_form.f k a0) (cotterref03_form.f (k + 1) a0) := by
  intro a0 k
  obtain ⟨ih0, ih1, ih2, ih3, ih4, ih5⟩ := cotterref03_form.mono_l k
  unfold cotterref03_form.f
  repeat' first
      | (with_reducible exact ih0 _ _)
      | (with_reducible exact ih1 _ _)
      | (with_reducible exact ih2 _ _)
      | (with_reducible exact ih3 _ _)
      | (with_reducible exact ih4 _ _)
      | (with_reducible exact ih5 _ _)
      | (with_reducible exact LeO.refl _)
      | (with_reducible exact LeO.none _)
      | (with_reducible refine LeO.ite ?_ ?_)
      | (with_reducible refine LeO.bind ?_ (fun _ => ?_))
      | exact ih0 _ _
      | exact ih1 _ _
      | exact ih2 _ _
      | exact ih3 _ _
      | exact ih4 _ _
      | exact ih5 _ _
      | exact LeO.none _
      | refine LeO.ite ?_ ?_
      | refine LeO.bind ?_ (fun _ => ?_)
end Go.Proofs.YtimhcpmfhebbhaaDoor.M

-- Written by a program of this session (wip/ownprint.py) over the translation. Lean checks it.
namespace Go.Proofs.YtimhcpmfhebbhaaDoor.M
open Go.RowKit Go.Proofs.YtimhcpmfhebbhaaDoorW.PrintWords Go.Proofs.YtimhcpmfhebbhaaDoorW.PrintLast
set_option linter.unusedVariables false
set_option linter.unusedSimpArgs false

/-! ### cotterref03_parts: function 67 -/
def cotterref03_parts.j0 : Nat → Int → Bool → Option (Bool × Bool × Int)
  | 0, _, _ => none
  | k + 1, x5, x16 => if x16 = true then (some (false, false, 1)) else (if x5 = 8 then (some (true, false, 1)) else (if x5 = 9 then (some (true, false, 0)) else (some (false, false, 0))))
def cotterref03_parts.f (k : Nat) (a0 : Int) : Option (Bool × Bool × Int) := if a0 = 1 then (some (true, false, 8)) else (if a0 = 2 then (some (true, true, 0)) else (if a0 = 3 then (some (true, true, 4)) else (if a0 = 4 then (some (true, false, 4)) else (if a0 = 5 then (some (false, false, 4)) else (if a0 = 7 then (cotterref03_parts.j0 k a0 (a0 == 7)) else (cotterref03_parts.j0 k a0 (a0 == 10)))))))
/-! ### cotterref03_Size: function 39 -/
def cotterref03_Size.f (k : Nat) (a0 : Int) : Option (Int) := (cotterref03_form.f k a0).bind fun t127 => (if t127 = 0 then (some 0) else ((cotterref03_parts.f k t127).bind fun bt128 => (if bt128.1 = true then (some (wrap64 (1 + (wrap64 (bt128.2.2 + 1))))) else (some (wrap64 (1 + bt128.2.2))))))
/-! ### cotterref01_sized: function 90 -/
def cotterref01_sized.f (a0 : Int) : Option (Bool) := if a0 = 1 then (some true) else (if a0 = 4 then (some true) else (some (a0 == 8)))
end Go.Proofs.YtimhcpmfhebbhaaDoor.M

-- Written by a program of this session (wip/ownprint.py) over the translation. Lean checks it.
namespace Go.Proofs.YtimhcpmfhebbhaaDoor.M
open Go.RowKit Go.Proofs.YtimhcpmfhebbhaaDoorW.PrintWords Go.Proofs.YtimhcpmfhebbhaaDoorW.PrintLast
set_option linter.unusedVariables false
set_option linter.unusedSimpArgs false

/-! ### cotterref01_Number: function 81 -/
def cotterref01_Number.l0 : Nat → ByteArray → Int → Int → Option (Int × Int)
  | 0, _, _, _ => none
  | k + 1, x0, x4, x5 => if x5 ≥ 0 then (if 0 ≤ x5 then (if x5 < (x0.size : Int) then (cotterref01_Number.l0 k x0 (IntKind.u64.wrap ((IntKind.u64.wrap (x4 * 256)) + (IntKind.u64.wrap (bt x0 x5)))) (wrap64 (x5 - 1))) else (none)) else (none)) else (if (x0.size : Int) < 8 then (if 0 ≤ (wrap64 ((x0.size : Int) - 1)) then (if (wrap64 ((x0.size : Int) - 1)) < (x0.size : Int) then (if (bt x0 (wrap64 ((x0.size : Int) - 1))) ≥ 128 then (if 0 ≤ (IntKind.u64.wrap (wrap64 (8 * (x0.size : Int)))) then (some (wrap64 (IntKind.u64.wrap (x4 - (shl .u64 1 (IntKind.u64.wrap (wrap64 (8 * (x0.size : Int))))))), 0)) else (none)) else (some (wrap64 (x4), 0))) else (none)) else (none)) else (some (wrap64 (x4), 0)))
def cotterref01_Number.f (k : Nat) (a0 : ByteArray) : Option (Int × Int) := (cotterref01_sized.f (a0.size : Int)).bind fun t131 => (if t131 = true then (cotterref01_Number.l0 k a0 0 (wrap64 ((a0.size : Int) - 1))) else (some (0, 1)))
/-! ### cotterref01_Bytes: function 73 -/
mutual
def cotterref01_Bytes.j0 : Nat → Int → Int → Option (ByteArray × Int)
  | 0, _, _ => none
  | k + 1, x0, x1 => cotterref01_Bytes.l0 k x1 ([] : List Int) (IntKind.u64.wrap (x0)) 0
def cotterref01_Bytes.l0 : Nat → Int → List Int → Int → Int → Option (ByteArray × Int)
  | 0, _, _, _, _ => none
  | k + 1, x1, x7, x8, x9 => if x9 < x1 then (if x7.length < 140737488355328 then (cotterref01_Bytes.l0 k x1 (x7 ++ [(Int.tmod x8 256) % 256]) (IntKind.u64.wrap (Int.tdiv x8 256)) (wrap64 (x9 + 1))) else (none)) else (some (strOfNums x7, 0))
end
def cotterref01_Bytes.f (k : Nat) (a0 : Int) (a1 : Int) : Option (ByteArray × Int) := (cotterref01_sized.f a1).bind fun t132 => (if t132 = true then (if a1 < 8 then (if 0 ≤ (IntKind.u64.wrap (wrap64 ((wrap64 (8 * a1)) - 1))) then (if a0 < (wrap64 (-(shl .i64 1 (IntKind.u64.wrap (wrap64 ((wrap64 (8 * a1)) - 1)))))) then (some ((⟨#[]⟩ : ByteArray), 7)) else (if a0 ≥ (shl .i64 1 (IntKind.u64.wrap (wrap64 ((wrap64 (8 * a1)) - 1)))) then (some ((⟨#[]⟩ : ByteArray), 7)) else (cotterref01_Bytes.j0 k a0 a1))) else (none)) else (cotterref01_Bytes.j0 k a0 a1)) else (some ((⟨#[]⟩ : ByteArray), 1)))
end Go.Proofs.YtimhcpmfhebbhaaDoor.M

-- Written by a program of this session (wip/ownprint.py) over the translation. Lean checks it.
namespace Go.Proofs.YtimhcpmfhebbhaaDoor.M
open Go.RowKit Go.Proofs.YtimhcpmfhebbhaaDoorW.PrintWords Go.Proofs.YtimhcpmfhebbhaaDoorW.PrintLast
set_option linter.unusedVariables false
set_option linter.unusedSimpArgs false

/-! ### cotterref03_Encode: function 82 -/
mutual
def cotterref03_Encode.j0 : Nat → Int → Bool → Bool → Int → Bool → Int → Int → Int → Int → Option (ByteArray × Int)
  | 0, _, _, _, _, _, _, _, _, _ => none
  | k + 1, x4, x5, x6, x7, x68, x137000, x137001, x137002, x137003 => if x68 = true then (some ((⟨#[]⟩ : ByteArray), 1)) else (if x4 = 10 then (if x137003 < 0 then (cotterref03_Encode.j1 k x5 x6 x7 true x137000 x137001 x137002 x137003) else (cotterref03_Encode.j1 k x5 x6 x7 (decide (x137003 > 127)) x137000 x137001 x137002 x137003)) else (cotterref03_Encode.j1 k x5 x6 x7 false x137000 x137001 x137002 x137003))
def cotterref03_Encode.j1 : Nat → Bool → Bool → Int → Bool → Int → Int → Int → Int → Option (ByteArray × Int)
  | 0, _, _, _, _, _, _, _, _ => none
  | k + 1, x5, x6, x7, x80, x137000, x137001, x137002, x137003 => if x80 = true then (some ((⟨#[]⟩ : ByteArray), 7)) else ((some (([(x137000) % 256] : List Int) : List Int)).bind fun y141 => (if x6 = true then ((some (([(wrap64 ((wrap64 (16 * x137001)) + x137002)) % 256] : List Int) : List Int)).bind fun y144 => (if (strOfNums y141).size + (strOfNums y144).size ≤ 9223372036854775807 then (cotterref03_Encode.j2 k x7 ((strOfNums y141) ++ (strOfNums y144)) x137000 x137001 x137002 x137003) else (none))) else (if x5 = true then ((some (([(x137001) % 256] : List Int) : List Int)).bind fun y147 => (if (strOfNums y141).size + (strOfNums y147).size ≤ 9223372036854775807 then (cotterref03_Encode.j2 k x7 ((strOfNums y141) ++ (strOfNums y147)) x137000 x137001 x137002 x137003) else (none))) else (cotterref03_Encode.j2 k x7 (strOfNums y141) x137000 x137001 x137002 x137003))))
def cotterref03_Encode.j2 : Nat → Int → ByteArray → Int → Int → Int → Int → Option (ByteArray × Int)
  | 0, _, _, _, _, _, _ => none
  | k + 1, x7, x8, x137000, x137001, x137002, x137003 => if x7 > 0 then ((cotterref01_Bytes.f k x137003 x7).bind fun bt150 => (if bt150.2 = 0 then (if x8.size + bt150.1.size ≤ 9223372036854775807 then (some (x8 ++ bt150.1, 0)) else (none)) else (some ((⟨#[]⟩ : ByteArray), bt150.2)))) else (some (x8, 0))
end
def cotterref03_Encode.f (k : Nat) (a0_0 : Int) (a0_1 : Int) (a0_2 : Int) (a0_3 : Int) : Option (ByteArray × Int) := (cotterref03_form.f k a0_0).bind fun t137 => ((cotterref03_parts.f k t137).bind fun bt138 => (if t137 = 0 then (cotterref03_Encode.j0 k t137 bt138.1 bt138.2.1 bt138.2.2 true a0_0 a0_1 a0_2 a0_3) else (if a0_1 < 0 then (cotterref03_Encode.j0 k t137 bt138.1 bt138.2.1 bt138.2.2 true a0_0 a0_1 a0_2 a0_3) else (if a0_1 > 7 then (cotterref03_Encode.j0 k t137 bt138.1 bt138.2.1 bt138.2.2 true a0_0 a0_1 a0_2 a0_3) else (if a0_2 < 0 then (cotterref03_Encode.j0 k t137 bt138.1 bt138.2.1 bt138.2.2 true a0_0 a0_1 a0_2 a0_3) else (if a0_2 > 7 then (cotterref03_Encode.j0 k t137 bt138.1 bt138.2.1 bt138.2.2 true a0_0 a0_1 a0_2 a0_3) else (if bt138.1 = true then (if bt138.2.1 = true then (if bt138.2.2 = 0 then (cotterref03_Encode.j0 k t137 bt138.1 bt138.2.1 bt138.2.2 (a0_3 != 0) a0_0 a0_1 a0_2 a0_3) else (cotterref03_Encode.j0 k t137 bt138.1 bt138.2.1 bt138.2.2 false a0_0 a0_1 a0_2 a0_3)) else (if a0_2 = 0 then (if bt138.2.2 = 0 then (cotterref03_Encode.j0 k t137 bt138.1 bt138.2.1 bt138.2.2 (a0_3 != 0) a0_0 a0_1 a0_2 a0_3) else (cotterref03_Encode.j0 k t137 bt138.1 bt138.2.1 bt138.2.2 false a0_0 a0_1 a0_2 a0_3)) else (cotterref03_Encode.j0 k t137 bt138.1 bt138.2.1 bt138.2.2 true a0_0 a0_1 a0_2 a0_3))) else (if a0_1 = 0 then (if bt138.2.1 = true then (if bt138.2.2 = 0 then (cotterref03_Encode.j0 k t137 bt138.1 bt138.2.1 bt138.2.2 (a0_3 != 0) a0_0 a0_1 a0_2 a0_3) else (cotterref03_Encode.j0 k t137 bt138.1 bt138.2.1 bt138.2.2 false a0_0 a0_1 a0_2 a0_3)) else (if a0_2 = 0 then (if bt138.2.2 = 0 then (cotterref03_Encode.j0 k t137 bt138.1 bt138.2.1 bt138.2.2 (a0_3 != 0) a0_0 a0_1 a0_2 a0_3) else (cotterref03_Encode.j0 k t137 bt138.1 bt138.2.1 bt138.2.2 false a0_0 a0_1 a0_2 a0_3)) else (cotterref03_Encode.j0 k t137 bt138.1 bt138.2.1 bt138.2.2 true a0_0 a0_1 a0_2 a0_3))) else (cotterref03_Encode.j0 k t137 bt138.1 bt138.2.1 bt138.2.2 true a0_0 a0_1 a0_2 a0_3)))))))))
end Go.Proofs.YtimhcpmfhebbhaaDoor.M

-- Written by a program of this session (wip/ownprint.py) over the translation. Lean checks it.
namespace Go.Proofs.YtimhcpmfhebbhaaDoor.M
open Go.RowKit Go.Proofs.YtimhcpmfhebbhaaDoorW.PrintWords Go.Proofs.YtimhcpmfhebbhaaDoorW.PrintLast
set_option linter.unusedVariables false
set_option linter.unusedSimpArgs false

/-! ### cotterref03_Decode: function 65 -/
mutual
def cotterref03_Decode.j0 : Nat → ByteArray → Int → Bool → Option (Int × Int × Int × Int × Int × Int)
  | 0, _, _, _ => none
  | k + 1, x0, x1, x21 => if x21 = true then (some (0, 0, 0, 0, 0, 1)) else (if x1 = (x0.size : Int) then (some (0, 0, 0, 0, 0, 9)) else (if 0 ≤ x1 then (if x1 < (x0.size : Int) then ((cotterref03_Size.f k (wrap64 (bt x0 x1))).bind fun t154 => (if t154 = 0 then (cotterref03_Decode.j1 k x0 x1 t154 true (wrap64 (bt x0 x1)) 0 0 0) else (cotterref03_Decode.j1 k x0 x1 t154 (decide ((wrap64 (x1 + t154)) > (x0.size : Int))) (wrap64 (bt x0 x1)) 0 0 0))) else (none)) else (none)))
def cotterref03_Decode.j1 : Nat → ByteArray → Int → Int → Bool → Int → Int → Int → Int → Option (Int × Int × Int × Int × Int × Int)
  | 0, _, _, _, _, _, _, _, _ => none
  | k + 1, x0, x1, x8, x45, x154000, x154001, x154002, x154003 => if x45 = true then (some (0, 0, 0, 0, 0, 9)) else ((cotterref03_form.f k x154000).bind fun t155 => ((cotterref03_parts.f k t155).bind fun bt156 => (if bt156.2.1 = true then (if 0 ≤ (wrap64 (x1 + 1)) then (if (wrap64 (x1 + 1)) < (x0.size : Int) then (cotterref03_Decode.j2 k x0 x1 x8 bt156.2.2 x154000 (wrap64 (Int.tdiv (wrap64 (bt x0 (wrap64 (x1 + 1)))) 16)) (Int.tmod (wrap64 (bt x0 (wrap64 (x1 + 1)))) 16) x154003) else (none)) else (none)) else (if bt156.1 = true then (if 0 ≤ (wrap64 (x1 + 1)) then (if (wrap64 (x1 + 1)) < (x0.size : Int) then (cotterref03_Decode.j2 k x0 x1 x8 bt156.2.2 x154000 (wrap64 (bt x0 (wrap64 (x1 + 1)))) x154002 x154003) else (none)) else (none)) else (cotterref03_Decode.j2 k x0 x1 x8 bt156.2.2 x154000 x154001 x154002 x154003)))))
def cotterref03_Decode.j2 : Nat → ByteArray → Int → Int → Int → Int → Int → Int → Int → Option (Int × Int × Int × Int × Int × Int)
  | 0, _, _, _, _, _, _, _, _ => none
  | k + 1, x0, x1, x8, x11, x154000, x154001, x154002, x154003 => if x11 > 0 then (if 0 ≤ (wrap64 ((wrap64 (x1 + x8)) - x11)) then (if (wrap64 ((wrap64 (x1 + x8)) - x11)) ≤ (wrap64 (x1 + x8)) then (if (wrap64 (x1 + x8)) ≤ (x0.size : Int) then ((cotterref01_Number.f k (x0.extract ((wrap64 ((wrap64 (x1 + x8)) - x11)) : Int).toNat ((wrap64 (x1 + x8)) : Int).toNat)).bind fun bt159 => ((cotterref03_Encode.f k x154000 x154001 x154002 bt159.1).bind fun bt161 => (if bt161.2 = 0 then (some (x154000, x154001, x154002, bt159.1, wrap64 (x1 + x8), 0)) else (some (0, 0, 0, 0, 0, 9))))) else (none)) else (none)) else (none)) else ((cotterref03_Encode.f k x154000 x154001 x154002 x154003).bind fun bt163 => (if bt163.2 = 0 then (some (x154000, x154001, x154002, x154003, wrap64 (x1 + x8), 0)) else (some (0, 0, 0, 0, 0, 9))))
end
def cotterref03_Decode.f (k : Nat) (a0 : ByteArray) (a1 : Int) : Option (Int × Int × Int × Int × Int × Int) := if a1 < 0 then (cotterref03_Decode.j0 k a0 a1 true) else (cotterref03_Decode.j0 k a0 a1 (decide (a1 > (a0.size : Int))))
end Go.Proofs.YtimhcpmfhebbhaaDoor.M

-- Written by a program of this session (wip/ownprint.py) over the translation. Lean checks it.
namespace Go.Proofs.YtimhcpmfhebbhaaDoor.M
open Go.RowKit Go.Proofs.YtimhcpmfhebbhaaDoorW.PrintWords Go.Proofs.YtimhcpmfhebbhaaDoorW.PrintLast
set_option linter.unusedVariables false
set_option linter.unusedSimpArgs false

/-! ### cotterref03_All: function 38 -/
def cotterref03_All.l0 : Nat → ByteArray → List (S79) → Int → Option ((List (S79)) × Int)
  | 0, _, _, _ => none
  | k + 1, x0, x4, x5 => if x5 < (x0.size : Int) then ((cotterref03_Decode.f k x0 x5).bind fun bt165 => (if bt165.2.2.2.2.2 = 0 then (if x4.length < 4398046511104 then (cotterref03_All.l0 k x0 (x4 ++ [(⟨bt165.1, bt165.2.1, bt165.2.2.1, bt165.2.2.2.1⟩ : S79)]) bt165.2.2.2.2.1) else (none)) else (some (([] : List (S79)), 9)))) else (some (x4, 0))
def cotterref03_All.f (k : Nat) (a0 : ByteArray) : Option ((List (S79)) × Int) := cotterref03_All.l0 k a0 ([] : List (S79)) 0
/-! ### cotterref03_Jumps: function 45 -/
/-! ### objf_isName: function 74 -/
def objf_isName.f (a0 : ByteArray) : Option (Bool) := if (a0.size : Int) > 0 then (some (decide ((a0.size : Int) ≤ 28))) else (some false)
set_option maxHeartbeats 8000000 in
set_option maxRecDepth 100000 in
theorem objf_isName.calls (a0 : ByteArray) (r : Bool) (w : World) (h : objf_isName.f a0 = some r) :
    Calls Tryd.prog 74 #[.string a0] w fun e w' => e = .returned (.bool r) ∧ Drawn0 w w' := by
  have H : (if (a0.size : Int) > 0 then (some (decide ((a0.size : Int) ≤ 28))) else (some false)) = some r := h
  clear h
  by_cases c2 : (a0.size : Int) > 0
  · rw [if_pos c2] at H
    have c2b0 : decide (0 < (a0.size : Int)) = true := decide_eq_true c2
    have c2b1 : decide (0 < a0.size) = true := decide_eq_true (by omega)
    clear c2
    obtain rfl := Option.some.inj H
    go_enter Tryd.func74, Tryd.ntmps74
    go_wp2
    go_ret
    exact ⟨by first | rfl | (simp; done) | (simp [*]; done), by repeat (first | exact Drawn0.refl _ | apply Drawn0.step)⟩
  · rw [if_neg c2] at H
    have c2b0 : decide (0 < (a0.size : Int)) = false := decide_eq_false c2
    have c2b1 : decide (0 < a0.size) = false := decide_eq_false (by omega)
    clear c2
    obtain rfl := Option.some.inj H
    go_enter Tryd.func74, Tryd.ntmps74
    go_wp2
    go_ret
    exact ⟨by first | rfl | (simp; done) | (simp [*]; done), by repeat (first | exact Drawn0.refl _ | apply Drawn0.step)⟩

/-! ### objf_symbols: function 50 -/
def symGood (code data : Int) (s : S68) : Bool :=
  decide (s.f1 = 1 ∨ s.f1 = 2 ∨ s.f1 = 3) && decide (0 < s.f0.size ∧ s.f0.size ≤ 28) && decide (0 ≤ s.f2) && decide (s.f2 < (if s.f1 = 2 then data else code))
/-- How many texts there are, each counted once. -/
def distinct : List (List UInt8) → Nat
  | [] => 0
  | s :: r => distinct r + if s ∈ r then 0 else 1
theorem distinct_cons (s : List UInt8) (r : List (List UInt8)) : distinct (s :: r) = distinct r + if s ∈ r then 0 else 1 := rfl
def symNames (l : List S68) : List (List UInt8) := (l.map (·.f0.data.toList)).reverse
def objf_symbols.f (l0 : List S68) (a1 a2 : Int) : Option Bool :=
  some (l0.all (symGood a1 a2) && decide (distinct (symNames l0) = l0.length) && decide (l0.length ≤ 1000))
abbrev SymD := DataW Unit
def Named (D : SymD) (xs : List (List UInt8)) : Prop := (∀ s : List UInt8, Maps.has D (.string s) = decide (s ∈ xs)) ∧ Maps.size D = distinct xs
theorem named_nil : Named (.map []) [] := ⟨fun s => by simp [Maps.has], rfl⟩
theorem named_put {D : SymD} {xs : List (List UInt8)} (h : Named D xs) (t : Maps.Tidy D) (s : List UInt8) (d : SymD) : Named (D.put (.string s) d) (s :: xs) := by
  refine ⟨fun u => ?_, ?_⟩
  · by_cases e : u = s
    · subst e
      rw [Maps.has_put_same t.isMap (by simp [WideAt.IsKeyLit])]
      simp
    · rw [Maps.has_put_other (fun h => e (by injection h)), h.1 u]
      simp [e]
  · rw [Maps.size_put t, h.1 s, h.2]
    rw [distinct_cons]
    by_cases e : s ∈ xs <;> simp [e]
theorem symNames_snoc (l : List S68) (k : Nat) (h : k < l.length) : symNames (l.take (k + 1)) = (l.getD k z68).f0.data.toList :: symNames (l.take k) := by
  have e := congrArg (fun x : List S68 => (x.map (fun y => y.f0.data.toList)).reverse) (List.take_succ_eq_append_getElem h)
  refine Eq.trans e ?_
  simp only [symNames, List.map_append, List.reverse_append, List.map_cons, List.map_nil, List.reverse_cons, List.reverse_nil, List.nil_append, List.singleton_append, List.getD_eq_getElem?_getD, List.getElem?_eq_getElem h, Option.getD_some, List.cons_append]
theorem all_snoc (p : S68 → Bool) (l : List S68) (k : Nat) (h : k < l.length) : (l.take (k + 1)).all p = ((l.take k).all p && p (l.getD k z68)) := by
  rw [List.take_succ_eq_append_getElem h, List.all_append]
  simp [List.getD_eq_getElem?_getD, List.getElem?_eq_getElem h]
theorem all_false_of (p : S68 → Bool) (l : List S68) (k : Nat) (h : k < l.length) (hp : p (l.getD k z68) = false) : l.all p = false := by
  rw [List.all_eq_false]
  exact ⟨l[k], List.getElem_mem h, by rw [List.getD_eq_getElem?_getD, List.getElem?_eq_getElem h] at hp; simpa using hp⟩
theorem sym_law9 : Maps.Keyed Tryd.prog 9 := Maps.string_keyed Tryd.underlying9
theorem sym_zero3 (w : World) : (zeroValue 3).run Tryd.prog w = .ok (.int .i64 0) w := by kernel_rfl
theorem sym_grown {w W W1 : World} {b : Nat} (hg : W.grownBy W1 (some b)) (hb : w.heap.size ≤ b) (h : Below w.heap.size w W) : Below w.heap.size w W1 := h.grown hg h.size (fun j hj => by cases hj; exact hb)
theorem sym_bad {l0 : List S68} {a1 a2 : Int} {r : Bool} (h : objf_symbols.f l0 a1 a2 = some r) (k : Nat) (hk : k < l0.length) (hp : symGood a1 a2 (l0.getD k z68) = false) : r = false := by
  unfold objf_symbols.f at h
  rw [all_false_of _ _ k hk hp] at h
  simpa using h.symm
theorem sym_end {l0 : List S68} {a1 a2 : Int} {r : Bool} (h : objf_symbols.f l0 a1 a2 = some r) (hg : l0.all (symGood a1 a2) = true) : r = (decide (distinct (symNames l0) = l0.length) && decide (l0.length ≤ 1000)) := by
  unfold objf_symbols.f at h
  rw [hg] at h
  simpa using h.symm
set_option maxHeartbeats 8000000 in
set_option maxRecDepth 100000 in
theorem objf_symbols.calls (A0 : Option Addr) (c0 : Nat) (l0 : List (S68)) (a1 : Int) (a2 : Int) (r : Bool) (w : World) (hr0 : Kd.C k68 w A0 l0.length l0) (hc0 : l0.length ≤ c0) (h : objf_symbols.f l0 a1 a2 = some r) :
    Calls Tryd.prog 50 #[.slice A0 l0.length c0, .int .i64 a1, .int .i64 a2] w fun e w' => e = .returned (.bool r) ∧ Below w.heap.size w w' := by
  have hlm : l0.length ≤ 9223372036854775807 := by have := hr0.2.1; simpa [maxLen] using this
  have HR0 := Aside0.mk hr0
  have H := Aside0.mk h
  have hmm := @run_makeMap Tryd.prog
  clear hr0 h
  go_enter Tryd.func50, Tryd.ntmps50
  go_wp2
  go_loopw [14] (fun v wr => ∃ k : Nat, k ≤ l0.length ∧ v = .int .i64 k ∧ Aside0 ((l0.take k).all (symGood a1 a2) = true) ∧ (∃ D : SymD, Aside0 (wr.ownsMap Tryd.prog 9 (plainElem Tryd.prog 3) w.heap.size k D) ∧ Aside0 (Named D (symNames (l0.take k)))) ∧ Aside0 (Below w.heap.size w wr)) (fun v _ => l0.length - (intOf v).toNat)
  case atStart => exact ⟨0, Nat.zero_le _, rfl, ⟨rfl⟩, ⟨_, ⟨World.ownsMap_made _ _ _ _⟩, ⟨named_nil⟩⟩, ⟨(Below.refl _ _).alloc (Nat.le_refl _) _⟩⟩
  case round =>
    obtain ⟨k, hk, rfl, HG, ⟨D, HO, HN⟩, HB⟩ := hrel
    by_cases hlt : k < l0.length
    case neg =>
      obtain rfl : k = l0.length := by omega
      have hend := sym_end H.out (by simpa using HG.out)
      have hsz : Maps.size D = distinct (symNames l0) := by have := HN.out.2; simpa using this
      by_cases e1 : distinct (symNames l0) = l0.length
      · have e2 : ((distinct (symNames l0) : Int) == (l0.length : Int)) = true := by simp [e1]
        have e3 : (distinct (symNames l0) == l0.length) = true := by simp [e1]
        have e4 : r = decide (l0.length ≤ 1000) := by rw [hend]; simp [e1]
        rw [← hsz] at e2 e3
        subst e4
        clear hend e1 hsz H hmm
        go_wp2_with (first | (at_len; refine wpList_len_own _ rfl _ 132 rfl 9 3 Tryd.underlying132 _ w.heap.size _ _ rfl HO.out ?_))
        go_ret
        exact ⟨by first | rfl | (simp; done) | (simp; omega), by repeat (first | exact HB.out | apply Below.drew)⟩
      · have e2 : ((distinct (symNames l0) : Int) == (l0.length : Int)) = false := by simp; omega
        have e3 : (distinct (symNames l0) == l0.length) = false := by simp [e1]
        have e4 : r = false := by rw [hend]; simp [e1]
        rw [← hsz] at e2 e3
        subst e4
        clear hend e1 hsz H hmm
        go_wp2_with (first | (at_len; refine wpList_len_own _ rfl _ 132 rfl 9 3 Tryd.underlying132 _ w.heap.size _ _ rfl HO.out ?_))
        go_ret
        exact ⟨by first | rfl | (simp; done), by repeat (first | exact HB.out | apply Below.drew)⟩
    case pos =>
      obtain ⟨ad, he, hx0, hx1, hx2⟩ := at_T68 HR0.out (k : Int) (by omega) (by omega)
      cases he
      have hbad := fun hp => sym_bad H.out k hlt hp
      have hgood := fun (hp : symGood a1 a2 (l0.getD k z68) = true) => (show (l0.take (k + 1)).all (symGood a1 a2) = true by rw [all_snoc _ _ k hlt, HG.out, hp]; rfl)
      have hnm := symNames_snoc l0 k hlt
      have hrd : rd_T68 l0 (k : Int) = l0.getD k z68 := by simp [rd_T68]
      rw [hrd] at hx0 hx1 hx2
      clear hrd
      generalize l0.getD k z68 = s at hx0 hx1 hx2 hbad hgood hnm
      obtain ⟨s0, s1, s2⟩ := s
      replace hx0 := (HB.out.cell (World.block_lt_of_cell? w _ hx0)).trans hx0
      replace hx1 := (HB.out.cell (World.block_lt_of_cell? w _ hx1)).trans hx1
      replace hx2 := (HB.out.cell (World.block_lt_of_cell? w _ hx2)).trans hx2
      have hk1 : wrap64 ((k : Int) + 1) = ((k + 1 : Nat) : Int) := by unfold wrap64; omega
      simp only [Int.toNat_natCast] at hx0 hx1 hx2
      have HBAD := Aside0.mk hbad
      have HGOOD := Aside0.mk hgood
      have HNM := Aside0.mk hnm
      clear hbad hgood hnm H
      try dsimp only at hx0 hx1 hx2
      by_cases e2 : s1 = 2
      case pos =>
        subst e2
        by_cases hn : 0 < s0.size ∧ s0.size ≤ 28
        case neg =>
          have in1 : objf_isName.f s0 = some false := by unfold objf_isName.f; by_cases q : (s0.size : Int) > 0 <;> simp [q] <;> omega
          obtain rfl := HBAD.out (by simp [symGood, hn])
          go_wp2_with (first | (go_at_call 74; (with_reducible refine (objf_isName.calls s0 false _ in1).mono ?_); rintro e w1 ⟨rfl, ⟨n1, rfl⟩⟩))
          all_goals go_ret
          all_goals exact ⟨rfl, by (repeat (first | exact HB.out | apply Below.drew | apply pw_below_drewN | (refine Below.setCell ?_ (below_size HB.out) _) | (refine Below.alloc ?_ (below_size HB.out) _)))⟩
        case pos =>
          have in1 : objf_isName.f s0 = some true := by unfold objf_isName.f; rw [if_pos (by omega)]; simp; omega
          by_cases h0 : s2 < 0
          · have d0 : decide (s2 < 0) = true := decide_eq_true h0
            obtain rfl := HBAD.out (by simp [symGood, show ¬ (0 ≤ s2) by omega])
            go_wp2_with (first | (go_at_call 74; (with_reducible refine (objf_isName.calls s0 true _ in1).mono ?_); rintro e w1 ⟨rfl, ⟨n1, rfl⟩⟩))
            all_goals go_ret
            all_goals exact ⟨rfl, by (repeat (first | exact HB.out | apply Below.drew | apply pw_below_drewN | (refine Below.setCell ?_ (below_size HB.out) _) | (refine Below.alloc ?_ (below_size HB.out) _)))⟩
          have d0 : decide (s2 < 0) = false := decide_eq_false h0
          by_cases h1 : a2 ≤ s2
          · have d1 : decide (a2 ≤ s2) = true := decide_eq_true h1
            obtain rfl := HBAD.out (by simp [symGood, show ¬ (s2 < a2) by omega])
            go_wp2_with (first | (go_at_call 74; (with_reducible refine (objf_isName.calls s0 true _ in1).mono ?_); rintro e w1 ⟨rfl, ⟨n1, rfl⟩⟩))
            all_goals go_ret
            all_goals exact ⟨rfl, by (repeat (first | exact HB.out | apply Below.drew | apply pw_below_drewN | (refine Below.setCell ?_ (below_size HB.out) _) | (refine Below.alloc ?_ (below_size HB.out) _)))⟩
          have d1 : decide (a2 ≤ s2) = false := decide_eq_false h1
          have R1 := Aside0.mk (HGOOD.out (by simp [symGood, hn, show 0 ≤ s2 by omega, show s2 < a2 by omega]))
          have hkey : keyOf Tryd.prog 9 (.string s0) = some (.string s0.data.toList) := WideMaps.keyOf_string_mk Tryd.underlying9 (by unfold maxLen; omega)
          clear h0 h1 hn HBAD HGOOD
          go_wp2_with (first | (go_at_call 74; (with_reducible refine (objf_isName.calls s0 true _ in1).mono ?_); rintro e w1 ⟨rfl, ⟨n1, rfl⟩⟩) | (at_lookup; refine wpList_lookup_own_int _ rfl _ _ 132 rfl 9 3 .i64 sym_law9 Tryd.underlying132 Tryd.underlying3 (sym_zero3 _) w.heap.size k _ rfl (by repeat (first | exact HO.out | apply World.ownsMap.drew | apply World.ownsMap.alloc | (refine World.ownsMap.setCell ?_ (by have := HO.out.lt; simp; omega) _))) _ _ rfl hkey ?_; intro c hat hwc) | (at_mapUpdate; refine wpList_mapUpdate_own _ rfl _ _ _ 132 rfl 9 3 sym_law9 Tryd.underlying132 _ w.heap.size k _ rfl (by repeat (first | exact HO.out | apply World.ownsMap.drew | apply World.ownsMap.alloc | (refine World.ownsMap.setCell ?_ (by have := HO.out.lt; simp; omega) _))) (by unfold maxLen; omega) _ _ _ rfl rfl hkey _ [] (plainElem_int Tryd.underlying3 (wrap64_wf _)) ?_; intro w2 hown2 hgrow2; have HO2 := Aside0.mk hown2; have HB2 := Aside0.mk (sym_grown (w := w) hgrow2 (Nat.le_refl _) (by repeat (first | exact HB.out | apply Below.drew | apply pw_below_drewN | (refine Below.setCell ?_ (below_size HB.out) _) | (refine Below.alloc ?_ (below_size HB.out) _)))); clear hown2 hgrow2))
          go_roundw
          case rel => exact ⟨k + 1, by omega, by first | rfl | go_num, R1, ⟨_, HO2, ⟨by rw [HNM.out]; exact named_put HN.out (HO.out.tidy sym_law9) _ _⟩⟩, HB2⟩
          case measure => simp [intOf]; omega
      case neg =>
        have t2 : (s1 == 2) = false := beq_eq_false_iff_ne.mpr e2
        by_cases e1 : s1 = 1
        case pos =>
          subst e1
          clear t2 e2
          by_cases hn : 0 < s0.size ∧ s0.size ≤ 28
          case neg =>
            have in1 : objf_isName.f s0 = some false := by unfold objf_isName.f; by_cases q : (s0.size : Int) > 0 <;> simp [q] <;> omega
            obtain rfl := HBAD.out (by simp [symGood, hn])
            go_wp2_with (first | (go_at_call 74; (with_reducible refine (objf_isName.calls s0 false _ in1).mono ?_); rintro e w1 ⟨rfl, ⟨n1, rfl⟩⟩))
            all_goals go_ret
            all_goals exact ⟨rfl, by (repeat (first | exact HB.out | apply Below.drew | apply pw_below_drewN | (refine Below.setCell ?_ (below_size HB.out) _) | (refine Below.alloc ?_ (below_size HB.out) _)))⟩
          case pos =>
            have in1 : objf_isName.f s0 = some true := by unfold objf_isName.f; rw [if_pos (by omega)]; simp; omega
            by_cases h0 : s2 < 0
            · have d0 : decide (s2 < 0) = true := decide_eq_true h0
              obtain rfl := HBAD.out (by simp [symGood, show ¬ (0 ≤ s2) by omega])
              go_wp2_with (first | (go_at_call 74; (with_reducible refine (objf_isName.calls s0 true _ in1).mono ?_); rintro e w1 ⟨rfl, ⟨n1, rfl⟩⟩))
              all_goals go_ret
              all_goals exact ⟨rfl, by (repeat (first | exact HB.out | apply Below.drew | apply pw_below_drewN | (refine Below.setCell ?_ (below_size HB.out) _) | (refine Below.alloc ?_ (below_size HB.out) _)))⟩
            have d0 : decide (s2 < 0) = false := decide_eq_false h0
            by_cases h1 : a1 ≤ s2
            · have d1 : decide (a1 ≤ s2) = true := decide_eq_true h1
              obtain rfl := HBAD.out (by simp [symGood, show ¬ (s2 < a1) by omega])
              go_wp2_with (first | (go_at_call 74; (with_reducible refine (objf_isName.calls s0 true _ in1).mono ?_); rintro e w1 ⟨rfl, ⟨n1, rfl⟩⟩))
              all_goals go_ret
              all_goals exact ⟨rfl, by (repeat (first | exact HB.out | apply Below.drew | apply pw_below_drewN | (refine Below.setCell ?_ (below_size HB.out) _) | (refine Below.alloc ?_ (below_size HB.out) _)))⟩
            have d1 : decide (a1 ≤ s2) = false := decide_eq_false h1
            have R1 := Aside0.mk (HGOOD.out (by simp [symGood, hn, show 0 ≤ s2 by omega, show s2 < a1 by omega]))
            have hkey : keyOf Tryd.prog 9 (.string s0) = some (.string s0.data.toList) := WideMaps.keyOf_string_mk Tryd.underlying9 (by unfold maxLen; omega)
            clear h0 h1 hn HBAD HGOOD
            go_wp2_with (first | (go_at_call 74; (with_reducible refine (objf_isName.calls s0 true _ in1).mono ?_); rintro e w1 ⟨rfl, ⟨n1, rfl⟩⟩) | (at_lookup; refine wpList_lookup_own_int _ rfl _ _ 132 rfl 9 3 .i64 sym_law9 Tryd.underlying132 Tryd.underlying3 (sym_zero3 _) w.heap.size k _ rfl (by repeat (first | exact HO.out | apply World.ownsMap.drew | apply World.ownsMap.alloc | (refine World.ownsMap.setCell ?_ (by have := HO.out.lt; simp; omega) _))) _ _ rfl hkey ?_; intro c hat hwc) | (at_mapUpdate; refine wpList_mapUpdate_own _ rfl _ _ _ 132 rfl 9 3 sym_law9 Tryd.underlying132 _ w.heap.size k _ rfl (by repeat (first | exact HO.out | apply World.ownsMap.drew | apply World.ownsMap.alloc | (refine World.ownsMap.setCell ?_ (by have := HO.out.lt; simp; omega) _))) (by unfold maxLen; omega) _ _ _ rfl rfl hkey _ [] (plainElem_int Tryd.underlying3 (wrap64_wf _)) ?_; intro w2 hown2 hgrow2; have HO2 := Aside0.mk hown2; have HB2 := Aside0.mk (sym_grown (w := w) hgrow2 (Nat.le_refl _) (by repeat (first | exact HB.out | apply Below.drew | apply pw_below_drewN | (refine Below.setCell ?_ (below_size HB.out) _) | (refine Below.alloc ?_ (below_size HB.out) _)))); clear hown2 hgrow2))
            go_roundw
            case rel => exact ⟨k + 1, by omega, by first | rfl | go_num, R1, ⟨_, HO2, ⟨by rw [HNM.out]; exact named_put HN.out (HO.out.tidy sym_law9) _ _⟩⟩, HB2⟩
            case measure => simp [intOf]; omega
        case neg =>
          have t1 : (s1 == 1) = false := beq_eq_false_iff_ne.mpr e1
          by_cases e3 : s1 = 3
          case pos =>
            subst e3
            clear t2 e2 t1 e1
            by_cases hn : 0 < s0.size ∧ s0.size ≤ 28
            case neg =>
              have in1 : objf_isName.f s0 = some false := by unfold objf_isName.f; by_cases q : (s0.size : Int) > 0 <;> simp [q] <;> omega
              obtain rfl := HBAD.out (by simp [symGood, hn])
              go_wp2_with (first | (go_at_call 74; (with_reducible refine (objf_isName.calls s0 false _ in1).mono ?_); rintro e w1 ⟨rfl, ⟨n1, rfl⟩⟩))
              all_goals go_ret
              all_goals exact ⟨rfl, by (repeat (first | exact HB.out | apply Below.drew | apply pw_below_drewN | (refine Below.setCell ?_ (below_size HB.out) _) | (refine Below.alloc ?_ (below_size HB.out) _)))⟩
            case pos =>
              have in1 : objf_isName.f s0 = some true := by unfold objf_isName.f; rw [if_pos (by omega)]; simp; omega
              by_cases h0 : s2 < 0
              · have d0 : decide (s2 < 0) = true := decide_eq_true h0
                obtain rfl := HBAD.out (by simp [symGood, show ¬ (0 ≤ s2) by omega])
                go_wp2_with (first | (go_at_call 74; (with_reducible refine (objf_isName.calls s0 true _ in1).mono ?_); rintro e w1 ⟨rfl, ⟨n1, rfl⟩⟩))
                all_goals go_ret
                all_goals exact ⟨rfl, by (repeat (first | exact HB.out | apply Below.drew | apply pw_below_drewN | (refine Below.setCell ?_ (below_size HB.out) _) | (refine Below.alloc ?_ (below_size HB.out) _)))⟩
              have d0 : decide (s2 < 0) = false := decide_eq_false h0
              by_cases h1 : a1 ≤ s2
              · have d1 : decide (a1 ≤ s2) = true := decide_eq_true h1
                obtain rfl := HBAD.out (by simp [symGood, show ¬ (s2 < a1) by omega])
                go_wp2_with (first | (go_at_call 74; (with_reducible refine (objf_isName.calls s0 true _ in1).mono ?_); rintro e w1 ⟨rfl, ⟨n1, rfl⟩⟩))
                all_goals go_ret
                all_goals exact ⟨rfl, by (repeat (first | exact HB.out | apply Below.drew | apply pw_below_drewN | (refine Below.setCell ?_ (below_size HB.out) _) | (refine Below.alloc ?_ (below_size HB.out) _)))⟩
              have d1 : decide (a1 ≤ s2) = false := decide_eq_false h1
              have R1 := Aside0.mk (HGOOD.out (by simp [symGood, hn, show 0 ≤ s2 by omega, show s2 < a1 by omega]))
              have hkey : keyOf Tryd.prog 9 (.string s0) = some (.string s0.data.toList) := WideMaps.keyOf_string_mk Tryd.underlying9 (by unfold maxLen; omega)
              clear h0 h1 hn HBAD HGOOD
              go_wp2_with (first | (go_at_call 74; (with_reducible refine (objf_isName.calls s0 true _ in1).mono ?_); rintro e w1 ⟨rfl, ⟨n1, rfl⟩⟩) | (at_lookup; refine wpList_lookup_own_int _ rfl _ _ 132 rfl 9 3 .i64 sym_law9 Tryd.underlying132 Tryd.underlying3 (sym_zero3 _) w.heap.size k _ rfl (by repeat (first | exact HO.out | apply World.ownsMap.drew | apply World.ownsMap.alloc | (refine World.ownsMap.setCell ?_ (by have := HO.out.lt; simp; omega) _))) _ _ rfl hkey ?_; intro c hat hwc) | (at_mapUpdate; refine wpList_mapUpdate_own _ rfl _ _ _ 132 rfl 9 3 sym_law9 Tryd.underlying132 _ w.heap.size k _ rfl (by repeat (first | exact HO.out | apply World.ownsMap.drew | apply World.ownsMap.alloc | (refine World.ownsMap.setCell ?_ (by have := HO.out.lt; simp; omega) _))) (by unfold maxLen; omega) _ _ _ rfl rfl hkey _ [] (plainElem_int Tryd.underlying3 (wrap64_wf _)) ?_; intro w2 hown2 hgrow2; have HO2 := Aside0.mk hown2; have HB2 := Aside0.mk (sym_grown (w := w) hgrow2 (Nat.le_refl _) (by repeat (first | exact HB.out | apply Below.drew | apply pw_below_drewN | (refine Below.setCell ?_ (below_size HB.out) _) | (refine Below.alloc ?_ (below_size HB.out) _)))); clear hown2 hgrow2))
              go_roundw
              case rel => exact ⟨k + 1, by omega, by first | rfl | go_num, R1, ⟨_, HO2, ⟨by rw [HNM.out]; exact named_put HN.out (HO.out.tidy sym_law9) _ _⟩⟩, HB2⟩
              case measure => simp [intOf]; omega
          case neg =>
            have t3 : (s1 == 3) = false := beq_eq_false_iff_ne.mpr e3
            obtain rfl := HBAD.out (by simp [symGood, e1, e2, e3])
            go_wp2_with (fail)
            all_goals go_ret
            all_goals exact ⟨rfl, by (repeat (first | exact HB.out | apply Below.drew | apply pw_below_drewN | (refine Below.setCell ?_ (below_size HB.out) _) | (refine Below.alloc ?_ (below_size HB.out) _)))⟩

end Go.Proofs.YtimhcpmfhebbhaaDoor.M

-- Written by a program of this session (wip/ownprint.py) over the translation. Lean checks it.
namespace Go.Proofs.YtimhcpmfhebbhaaDoor.M
open Go.RowKit Go.Proofs.YtimhcpmfhebbhaaDoorW.PrintWords Go.Proofs.YtimhcpmfhebbhaaDoorW.PrintLast
set_option linter.unusedVariables false
set_option linter.unusedSimpArgs false

/-! ### objf_relocations: function 51 -/
mutual
def objf_relocations.l0 : Nat → List (S116) → Int → Int → List (S116) → Int → Int → Option (Bool)
  | 0, _, _, _, _, _, _ => none
  | k + 1, x0, x1, x5, x8, x9, x10 => if x10 < x9 then (if 0 ≤ x10 then (if x10 < (x8.length : Int) then ((objf_isName.f ((rd_T116 x8 x10).f2)).bind fun t177 => (if t177 = true then (if ((rd_T116 x8 x10).f0) < x5 then (objf_relocations.j1 k x0 x1 x8 x9 x10 true ((rd_T116 x8 x10).f0) ((rd_T116 x8 x10).f1) ((rd_T116 x8 x10).f2) ((rd_T116 x8 x10).f3)) else (objf_relocations.j1 k x0 x1 x8 x9 x10 (decide (((rd_T116 x8 x10).f0) > (wrap64 (x1 - 4)))) ((rd_T116 x8 x10).f0) ((rd_T116 x8 x10).f1) ((rd_T116 x8 x10).f2) ((rd_T116 x8 x10).f3))) else (objf_relocations.j1 k x0 x1 x8 x9 x10 true ((rd_T116 x8 x10).f0) ((rd_T116 x8 x10).f1) ((rd_T116 x8 x10).f2) ((rd_T116 x8 x10).f3)))) else (none)) else (none)) else (some (decide ((x0.length : Int) ≤ 8000)))
def objf_relocations.j1 : Nat → List (S116) → Int → List (S116) → Int → Int → Bool → Int → Int → ByteArray → Int → Option (Bool)
  | 0, _, _, _, _, _, _, _, _, _, _ => none
  | k + 1, x0, x1, x8, x9, x10, x30, x177000, x177001, x177002, x177003 => if x30 = true then (some false) else (if x177001 = 1 then (if x177003 = 0 then (objf_relocations.l0 k x0 x1 (wrap64 (x177000 + 4)) x8 x9 (wrap64 (x10 + 1))) else (some false)) else (if x177001 = 2 then (if x177003 < (-2147483648) then (some false) else (if x177003 > 2147483647 then (some false) else (objf_relocations.l0 k x0 x1 (wrap64 (x177000 + 4)) x8 x9 (wrap64 (x10 + 1))))) else (some false)))
end
def objf_relocations.f (k : Nat) (l0 : List (S116)) (a1 : Int) : Option (Bool) := objf_relocations.l0 k l0 a1 0 l0 (l0.length : Int) 0
set_option maxHeartbeats 8000000 in
set_option maxRecDepth 100000 in
theorem objf_relocations.calls (k : Nat) (A0 : Option Addr) (c0 : Nat) (l0 : List (S116)) (a1 : Int) (r : Bool) (w : World) (hr0 : Kd.C k116 w A0 l0.length l0) (hc0 : l0.length ≤ c0) (h : objf_relocations.f k l0 a1 = some r) :
    Calls Tryd.prog 51 #[.slice A0 l0.length c0, .int .i64 a1] w fun e w' => e = .returned (.bool r) ∧ Below w.heap.size w w' := by
  have hu116 := Tryd.underlying116
  have HR0 := Aside0.mk hr0
  have HC0 := Aside0.mk hc0
  clear hr0 hc0
  have HB := Aside0.mk (Below.refl w.heap.size w)
  have H : (objf_relocations.l0 k l0 a1 0 l0 (l0.length : Int) 0) = some r := h
  clear h
  have H' := Aside0.mk H
  clear H
  go_enter Tryd.func51, Tryd.ntmps51
  go_wp2
  go_loopg [5, 10] k (fun kq v5 v10 w' => ∃ (x5_1 : Int) (x10_1 : Int), v5 = .int .i64 x5_1 ∧ v10 = .int .i64 x10_1 ∧ Aside0 (objf_relocations.l0 kq l0 a1 x5_1 l0 (l0.length : Int) x10_1 = some r) ∧ Aside0 (kq ≤ k) ∧ Aside0 (Below w.heap.size w w'))
  case atStart => exact ⟨(0), (0), (by first | rfl | (simp; done) | (simp [*]; done)), (by first | rfl | (simp; done) | (simp [*]; done)), H', ⟨Nat.le_refl _⟩, ⟨by repeat (first | (with_reducible first | exact HB.out | apply below_alloc | apply pw_below_drewN | apply below_drew1) | exact HB.out)⟩⟩
  case round =>
    clear H'
    try clear p2
    obtain ⟨x5_1, x10_1, rfl, rfl, HA, HK1, HB⟩ := hrel
    cases gk with
    | zero => exact absurd HA.out (by simp [objf_relocations.l0])
    | succ k1 =>
      have H := HA.out
      clear HA
      simp only [objf_relocations.l0] at H
      by_cases c3 : x10_1 < (l0.length : Int)
      · rw [if_pos c3] at H
        have c3b0 : decide (x10_1 < (l0.length : Int)) = true := decide_eq_true c3
        clear c3
        by_cases c4 : 0 ≤ x10_1
        · rw [if_pos c4] at H
          have c4b0 : decide (0 ≤ x10_1) = true := decide_eq_true c4
          clear c4
          by_cases c5 : x10_1 < (l0.length : Int)
          · rw [if_pos c5] at H
            have c5b0 : decide (x10_1 < (l0.length : Int)) = true := decide_eq_true c5
            clear c5
            have HC6 := Aside0.mk H
            clear H
            have p175 : 0 ≤ (x10_1 : Int) := of_decide_eq_true (by first | (with_reducible assumption) | assumption)
            have q175 : x10_1 < (l0.length : Int) := of_decide_eq_true (by first | (with_reducible assumption) | assumption)
            obtain ⟨ad175, e175, hx175_0, hx175_1, hx175_2, hx175_3⟩ := at_T116 HR0.out x10_1 p175 q175
            cases e175
            replace hx175_0 := (HB.out.cell (World.block_lt_of_cell? w _ hx175_0)).trans hx175_0
            replace hx175_1 := (HB.out.cell (World.block_lt_of_cell? w _ hx175_1)).trans hx175_1
            replace hx175_2 := (HB.out.cell (World.block_lt_of_cell? w _ hx175_2)).trans hx175_2
            replace hx175_3 := (HB.out.cell (World.block_lt_of_cell? w _ hx175_3)).trans hx175_3
            replace p175 := eq_true p175
            replace q175 := eq_true q175
            go_upto_region 5 with (first | ((with_reducible refine gate_dst (N := 7) rfl ?_); refine box_event ?hg (N := 7) ?hd (cs := #[.int .i64 0, .int .i64 0, .string (⟨#[]⟩ : ByteArray), .int .i64 0]) (t := 116) ?hr ?_; (case hd => rfl); (case hg => rfl); (case hr => first | (go_simp; done) | (go_simp; rfl)); intro gb176 hg w7 hbox hb; have n0_ := Aside0.mk (below_step (by repeat (first | (with_reducible first | exact HB.out | apply below_alloc | apply pw_below_drewN | apply below_drew1) | exact HB.out)) hb); have n1_ := Aside0.mk (hbox); have n2_ := Aside0.mk ((by rw [hg]; exact (below_size (by repeat (first | (with_reducible first | exact HB.out | apply below_alloc | apply pw_below_drewN | apply below_drew1) | exact HB.out))) : w.heap.size ≤ gb176)); have n3_ := Aside0.mk ((by rw [hg]; exact (below_size (by repeat (first | (with_reducible first | exact HB.out | apply below_alloc | apply pw_below_drewN | apply below_drew1) | exact HB.out))) : w.heap.size ≤ gb176)); clear HB; have HB := n0_; have BK176 := n1_; have GW176 := n2_; have GE176 := n3_; clear n0_ n1_ n2_ n3_; clear hb hbox hg; have hcz8_0 : w7.cell? ⟨gb176, 0, none⟩ = some (.int .i64 0) := (blk_cell BK176.out 0).trans rfl; have hcz8_1 : w7.cell? ⟨gb176, 1, none⟩ = some (.int .i64 0) := (blk_cell BK176.out 1).trans rfl; have hcz8_2 : w7.cell? ⟨gb176, 2, none⟩ = some (.string (⟨#[]⟩ : ByteArray)) := (blk_cell BK176.out 2).trans rfl; have hcz8_3 : w7.cell? ⟨gb176, 3, none⟩ = some (.int .i64 0) := (blk_cell BK176.out 3).trans rfl; have hfz8_0 := blk_frozen BK176.out 0; have hfz8_1 := blk_frozen BK176.out 1; have hfz8_2 := blk_frozen BK176.out 2; have hfz8_3 := blk_frozen BK176.out 3))
            (try simp only [Act.put, List.setIfInBounds_toArray, List.set_cons_zero, List.set_cons_succ])
            go_cut [30] (fun v30 wc => ∃ (kq : Nat) (x30_5 : Bool), v30 = .bool x30_5 ∧ Aside0 (objf_relocations.j1 kq l0 a1 l0 (l0.length : Int) x10_1 x30_5 ((rd_T116 l0 x10_1).f0) ((rd_T116 l0 x10_1).f1) ((rd_T116 l0 x10_1).f2) ((rd_T116 l0 x10_1).f3) = some r) ∧ Aside0 (kq ≤ k1) ∧ Aside0 (wc.heap[gb176]? = some (.cells #[.int .i64 ((rd_T116 l0 x10_1).f0), .int .i64 ((rd_T116 l0 x10_1).f1), .string ((rd_T116 l0 x10_1).f2), .int .i64 ((rd_T116 l0 x10_1).f3)] 116 (0, 0))) ∧ Aside0 (Below w.heap.size w wc))
            case first =>
              have H := HC6.out
              clear HC6
              replace H := Option.bind_eq_some_iff.mp H
              obtain ⟨t177, A90, H⟩ := H
              replace H : (if t177 = true then (if ((rd_T116 l0 x10_1).f0) < x5_1 then (objf_relocations.j1 k1 l0 a1 l0 (l0.length : Int) x10_1 true ((rd_T116 l0 x10_1).f0) ((rd_T116 l0 x10_1).f1) ((rd_T116 l0 x10_1).f2) ((rd_T116 l0 x10_1).f3)) else (objf_relocations.j1 k1 l0 a1 l0 (l0.length : Int) x10_1 (decide (((rd_T116 l0 x10_1).f0) > (wrap64 (a1 - 4)))) ((rd_T116 l0 x10_1).f0) ((rd_T116 l0 x10_1).f1) ((rd_T116 l0 x10_1).f2) ((rd_T116 l0 x10_1).f3))) else (objf_relocations.j1 k1 l0 a1 l0 (l0.length : Int) x10_1 true ((rd_T116 l0 x10_1).f0) ((rd_T116 l0 x10_1).f1) ((rd_T116 l0 x10_1).f2) ((rd_T116 l0 x10_1).f3))) = some r := H
              have A9 := Aside0.mk A90
              clear A90
              by_cases c10 : t177 = true
              · subst c10
                have H1 : (if ((rd_T116 l0 x10_1).f0) < x5_1 then (objf_relocations.j1 k1 l0 a1 l0 (l0.length : Int) x10_1 true ((rd_T116 l0 x10_1).f0) ((rd_T116 l0 x10_1).f1) ((rd_T116 l0 x10_1).f2) ((rd_T116 l0 x10_1).f3)) else (objf_relocations.j1 k1 l0 a1 l0 (l0.length : Int) x10_1 (decide (((rd_T116 l0 x10_1).f0) > (wrap64 (a1 - 4)))) ((rd_T116 l0 x10_1).f0) ((rd_T116 l0 x10_1).f1) ((rd_T116 l0 x10_1).f2) ((rd_T116 l0 x10_1).f3))) = some r := by rw [if_pos rfl] at H; exact H
                clear H
                have H := H1
                clear H1
                by_cases c11 : ((rd_T116 l0 x10_1).f0) < x5_1
                · rw [if_pos c11] at H
                  have c11b0 : decide (((rd_T116 l0 x10_1).f0) < x5_1) = true := decide_eq_true c11
                  clear c11
                  (first | rw [c11b0] | (simp only [i64_w, i32_w]; rw [c11b0]) | skip)
                  have H' := Aside0.mk H
                  clear H
                  have hcz12_0 : w7.cell? ⟨gb176, 0, none⟩ = some (.int .i64 0) := (blk_cell BK176.out 0).trans rfl
                  have hcz12_1 : w7.cell? ⟨gb176, 1, none⟩ = some (.int .i64 0) := (blk_cell BK176.out 1).trans rfl
                  have hcz12_2 : w7.cell? ⟨gb176, 2, none⟩ = some (.string (⟨#[]⟩ : ByteArray)) := (blk_cell BK176.out 2).trans rfl
                  have hcz12_3 : w7.cell? ⟨gb176, 3, none⟩ = some (.int .i64 0) := (blk_cell BK176.out 3).trans rfl
                  have hfz12_0 := blk_frozen BK176.out 0
                  have hfz12_1 := blk_frozen BK176.out 1
                  have hfz12_2 := blk_frozen BK176.out 2
                  have hfz12_3 := blk_frozen BK176.out 3
                  go_wp2_with (first | ((with_reducible refine gate_callee (f := 74) rfl ?_); refine goesL_ (some 16) rfl rfl Tryd.func74 (by kernel_rfl) rfl #[.string ((rd_T116 l0 x10_1).f2)] rfl (by (try simp only [List.map_toArray, List.map_cons, List.map_nil]); first | done | rfl | (simp only [List.length_drop, List.length_take]; rfl)) ?_; (with_reducible refine (objf_isName.calls ((rd_T116 l0 x10_1).f2) true _ A9.out).mono ?_); rintro e w' ⟨rfl, ⟨nd, rfl⟩⟩; refine ⟨_, rfl, ?_⟩))
                  go_meet
                  case rel => exact ⟨_, (true), (by first | rfl | (simp; done) | (simp [*]; done)), H', ⟨by have := HK1.out; first | omega | exact Nat.le_refl _⟩, ⟨by (with_reducible repeat (first | refine blk_drewN ?_ _ | refine blk_drew ?_ | refine blk_alloc ?_ _)); refine blk_put (cs := #[.int .i64 ((rd_T116 l0 x10_1).f0), .int .i64 ((rd_T116 l0 x10_1).f1), .string ((rd_T116 l0 x10_1).f2), .int .i64 0]) ?_ 3 _ rfl; (with_reducible repeat (first | refine blk_drewN ?_ _ | refine blk_drew ?_ | refine blk_alloc ?_ _)); refine blk_put (cs := #[.int .i64 ((rd_T116 l0 x10_1).f0), .int .i64 ((rd_T116 l0 x10_1).f1), .string (⟨#[]⟩ : ByteArray), .int .i64 0]) ?_ 2 _ rfl; (with_reducible repeat (first | refine blk_drewN ?_ _ | refine blk_drew ?_ | refine blk_alloc ?_ _)); refine blk_put (cs := #[.int .i64 ((rd_T116 l0 x10_1).f0), .int .i64 0, .string (⟨#[]⟩ : ByteArray), .int .i64 0]) ?_ 1 _ rfl; (with_reducible repeat (first | refine blk_drewN ?_ _ | refine blk_drew ?_ | refine blk_alloc ?_ _)); refine blk_put (cs := #[.int .i64 0, .int .i64 0, .string (⟨#[]⟩ : ByteArray), .int .i64 0]) ?_ 0 _ rfl; (with_reducible repeat (first | refine blk_drewN ?_ _ | refine blk_drew ?_ | refine blk_alloc ?_ _)); exact BK176.out⟩, ⟨by repeat (first | (with_reducible first | exact HB.out | apply below_alloc | apply pw_below_drewN | apply below_drew1 | refine below_set ?_ GE176.out) | exact HB.out)⟩⟩
                · rw [if_neg c11] at H
                  have c11b0 : decide (((rd_T116 l0 x10_1).f0) < x5_1) = false := decide_eq_false c11
                  clear c11
                  (first | rw [c11b0] | (simp only [i64_w, i32_w]; rw [c11b0]) | skip)
                  have H' := Aside0.mk H
                  clear H
                  have hcz13_0 : w7.cell? ⟨gb176, 0, none⟩ = some (.int .i64 0) := (blk_cell BK176.out 0).trans rfl
                  have hcz13_1 : w7.cell? ⟨gb176, 1, none⟩ = some (.int .i64 0) := (blk_cell BK176.out 1).trans rfl
                  have hcz13_2 : w7.cell? ⟨gb176, 2, none⟩ = some (.string (⟨#[]⟩ : ByteArray)) := (blk_cell BK176.out 2).trans rfl
                  have hcz13_3 : w7.cell? ⟨gb176, 3, none⟩ = some (.int .i64 0) := (blk_cell BK176.out 3).trans rfl
                  have hfz13_0 := blk_frozen BK176.out 0
                  have hfz13_1 := blk_frozen BK176.out 1
                  have hfz13_2 := blk_frozen BK176.out 2
                  have hfz13_3 := blk_frozen BK176.out 3
                  go_wp2_with (first | ((with_reducible refine gate_callee (f := 74) rfl ?_); refine goesL_ (some 16) rfl rfl Tryd.func74 (by kernel_rfl) rfl #[.string ((rd_T116 l0 x10_1).f2)] rfl (by (try simp only [List.map_toArray, List.map_cons, List.map_nil]); first | done | rfl | (simp only [List.length_drop, List.length_take]; rfl)) ?_; (with_reducible refine (objf_isName.calls ((rd_T116 l0 x10_1).f2) true _ A9.out).mono ?_); rintro e w' ⟨rfl, ⟨nd, rfl⟩⟩; refine ⟨_, rfl, ?_⟩))
                  go_meet
                  case rel => exact ⟨_, (decide (((rd_T116 l0 x10_1).f0) > (wrap64 (a1 - 4)))), (by first | rfl | (simp; done) | (simp [*]; done)), H', ⟨by have := HK1.out; first | omega | exact Nat.le_refl _⟩, ⟨by (with_reducible repeat (first | refine blk_drewN ?_ _ | refine blk_drew ?_ | refine blk_alloc ?_ _)); refine blk_put (cs := #[.int .i64 ((rd_T116 l0 x10_1).f0), .int .i64 ((rd_T116 l0 x10_1).f1), .string ((rd_T116 l0 x10_1).f2), .int .i64 0]) ?_ 3 _ rfl; (with_reducible repeat (first | refine blk_drewN ?_ _ | refine blk_drew ?_ | refine blk_alloc ?_ _)); refine blk_put (cs := #[.int .i64 ((rd_T116 l0 x10_1).f0), .int .i64 ((rd_T116 l0 x10_1).f1), .string (⟨#[]⟩ : ByteArray), .int .i64 0]) ?_ 2 _ rfl; (with_reducible repeat (first | refine blk_drewN ?_ _ | refine blk_drew ?_ | refine blk_alloc ?_ _)); refine blk_put (cs := #[.int .i64 ((rd_T116 l0 x10_1).f0), .int .i64 0, .string (⟨#[]⟩ : ByteArray), .int .i64 0]) ?_ 1 _ rfl; (with_reducible repeat (first | refine blk_drewN ?_ _ | refine blk_drew ?_ | refine blk_alloc ?_ _)); refine blk_put (cs := #[.int .i64 0, .int .i64 0, .string (⟨#[]⟩ : ByteArray), .int .i64 0]) ?_ 0 _ rfl; (with_reducible repeat (first | refine blk_drewN ?_ _ | refine blk_drew ?_ | refine blk_alloc ?_ _)); exact BK176.out⟩, ⟨by repeat (first | (with_reducible first | exact HB.out | apply below_alloc | apply pw_below_drewN | apply below_drew1 | refine below_set ?_ GE176.out) | exact HB.out)⟩⟩
              · replace c10 := Bool.eq_false_iff.mpr c10
                subst c10
                have H1 : (objf_relocations.j1 k1 l0 a1 l0 (l0.length : Int) x10_1 true ((rd_T116 l0 x10_1).f0) ((rd_T116 l0 x10_1).f1) ((rd_T116 l0 x10_1).f2) ((rd_T116 l0 x10_1).f3)) = some r := by rw [if_neg (show ¬ (false = true) by decide)] at H; exact H
                clear H
                have H := H1
                clear H1
                have H' := Aside0.mk H
                clear H
                have hcz14_0 : w7.cell? ⟨gb176, 0, none⟩ = some (.int .i64 0) := (blk_cell BK176.out 0).trans rfl
                have hcz14_1 : w7.cell? ⟨gb176, 1, none⟩ = some (.int .i64 0) := (blk_cell BK176.out 1).trans rfl
                have hcz14_2 : w7.cell? ⟨gb176, 2, none⟩ = some (.string (⟨#[]⟩ : ByteArray)) := (blk_cell BK176.out 2).trans rfl
                have hcz14_3 : w7.cell? ⟨gb176, 3, none⟩ = some (.int .i64 0) := (blk_cell BK176.out 3).trans rfl
                have hfz14_0 := blk_frozen BK176.out 0
                have hfz14_1 := blk_frozen BK176.out 1
                have hfz14_2 := blk_frozen BK176.out 2
                have hfz14_3 := blk_frozen BK176.out 3
                go_wp2_with (first | ((with_reducible refine gate_callee (f := 74) rfl ?_); refine goesL_ (some 16) rfl rfl Tryd.func74 (by kernel_rfl) rfl #[.string ((rd_T116 l0 x10_1).f2)] rfl (by (try simp only [List.map_toArray, List.map_cons, List.map_nil]); first | done | rfl | (simp only [List.length_drop, List.length_take]; rfl)) ?_; (with_reducible refine (objf_isName.calls ((rd_T116 l0 x10_1).f2) false _ A9.out).mono ?_); rintro e w' ⟨rfl, ⟨nd, rfl⟩⟩; refine ⟨_, rfl, ?_⟩))
                go_meet
                case rel => exact ⟨_, (true), (by first | rfl | (simp; done) | (simp [*]; done)), H', ⟨by have := HK1.out; first | omega | exact Nat.le_refl _⟩, ⟨by (with_reducible repeat (first | refine blk_drewN ?_ _ | refine blk_drew ?_ | refine blk_alloc ?_ _)); refine blk_put (cs := #[.int .i64 ((rd_T116 l0 x10_1).f0), .int .i64 ((rd_T116 l0 x10_1).f1), .string ((rd_T116 l0 x10_1).f2), .int .i64 0]) ?_ 3 _ rfl; (with_reducible repeat (first | refine blk_drewN ?_ _ | refine blk_drew ?_ | refine blk_alloc ?_ _)); refine blk_put (cs := #[.int .i64 ((rd_T116 l0 x10_1).f0), .int .i64 ((rd_T116 l0 x10_1).f1), .string (⟨#[]⟩ : ByteArray), .int .i64 0]) ?_ 2 _ rfl; (with_reducible repeat (first | refine blk_drewN ?_ _ | refine blk_drew ?_ | refine blk_alloc ?_ _)); refine blk_put (cs := #[.int .i64 ((rd_T116 l0 x10_1).f0), .int .i64 0, .string (⟨#[]⟩ : ByteArray), .int .i64 0]) ?_ 1 _ rfl; (with_reducible repeat (first | refine blk_drewN ?_ _ | refine blk_drew ?_ | refine blk_alloc ?_ _)); refine blk_put (cs := #[.int .i64 0, .int .i64 0, .string (⟨#[]⟩ : ByteArray), .int .i64 0]) ?_ 0 _ rfl; (with_reducible repeat (first | refine blk_drewN ?_ _ | refine blk_drew ?_ | refine blk_alloc ?_ _)); exact BK176.out⟩, ⟨by repeat (first | (with_reducible first | exact HB.out | apply below_alloc | apply pw_below_drewN | apply below_drew1 | refine below_set ?_ GE176.out) | exact HB.out)⟩⟩
            case rest =>
              clear HC6
              try clear c1
              try clear p1
              try clear q1
              try clear hx1
              try clear p2
              try clear c3
              try clear c3b0
              try clear c4
              try clear c4b0
              try clear c5
              try clear c5b0
              try clear p6
              try clear c7
              try clear c10
              try clear c11
              try clear c11b0
              try clear hcz12_0
              try clear hcz12_1
              try clear hcz12_2
              try clear hcz12_3
              try clear hcz13_0
              try clear hcz13_1
              try clear hcz13_2
              try clear hcz13_3
              try clear hcz14_0
              try clear hcz14_1
              try clear hcz14_2
              try clear hcz14_3
              try clear hcz8_0
              try clear hcz8_1
              try clear hcz8_2
              try clear hcz8_3
              try clear hfz12_0
              try clear hfz12_1
              try clear hfz12_2
              try clear hfz12_3
              try clear hfz13_0
              try clear hfz13_1
              try clear hfz13_2
              try clear hfz13_3
              try clear hfz14_0
              try clear hfz14_1
              try clear hfz14_2
              try clear hfz14_3
              try clear hfz8_0
              try clear hfz8_1
              try clear hfz8_2
              try clear hfz8_3
              try clear hx175_0
              try clear hx175_1
              try clear hx175_2
              try clear hx175_3
              try clear p175
              try clear p2
              try clear q175
              obtain ⟨kq, x30_5, rfl, HA, HJ5, BK176, HB⟩ := hcut
              cases kq with
              | zero => exact absurd HA.out (by simp [objf_relocations.j1])
              | succ kj5 =>
                have H := HA.out
                clear HA
                simp only [objf_relocations.j1] at H
                by_cases c15 : x30_5 = true
                · subst c15
                  have H1 : (some false) = some r := by rw [if_pos rfl] at H; exact H
                  clear H
                  have H := H1
                  clear H1
                  obtain rfl := Option.some.inj H
                  go_wp2
                  go_ret
                  exact ⟨by first | rfl | (simp [errW_none, errW_some] <;> rfl) | (simp [*, errW_none, errW_some] <;> rfl), by repeat (first | (with_reducible first | exact HB.out | apply below_alloc | apply pw_below_drewN | apply below_drew1 | refine below_set ?_ GE176.out) | exact HB.out)⟩
                · replace c15 := Bool.eq_false_iff.mpr c15
                  subst c15
                  have H1 : (if ((rd_T116 l0 x10_1).f1) = 1 then (if ((rd_T116 l0 x10_1).f3) = 0 then (objf_relocations.l0 kj5 l0 a1 (wrap64 (((rd_T116 l0 x10_1).f0) + 4)) l0 (l0.length : Int) (wrap64 (x10_1 + 1))) else (some false)) else (if ((rd_T116 l0 x10_1).f1) = 2 then (if ((rd_T116 l0 x10_1).f3) < (-2147483648) then (some false) else (if ((rd_T116 l0 x10_1).f3) > 2147483647 then (some false) else (objf_relocations.l0 kj5 l0 a1 (wrap64 (((rd_T116 l0 x10_1).f0) + 4)) l0 (l0.length : Int) (wrap64 (x10_1 + 1))))) else (some false))) = some r := by rw [if_neg (show ¬ (false = true) by decide)] at H; exact H
                  clear H
                  have H := H1
                  clear H1
                  by_cases c16 : ((rd_T116 l0 x10_1).f1) = 1
                  · rw [if_pos c16] at H
                    have c16b0 : (((rd_T116 l0 x10_1).f1) == 1) = true := beq_iff_eq.mpr c16
                    have c16b1 : (((rd_T116 l0 x10_1).f1) != 1) = false := bne_eq_false_iff_eq.mpr c16
                    clear c16
                    by_cases c17 : ((rd_T116 l0 x10_1).f3) = 0
                    · rw [if_pos c17] at H
                      have c17b0 : (((rd_T116 l0 x10_1).f3) == 0) = true := beq_iff_eq.mpr c17
                      have c17b1 : (((rd_T116 l0 x10_1).f3) != 0) = false := bne_eq_false_iff_eq.mpr c17
                      clear c17
                      have H' := Aside0.mk H
                      clear H
                      have hcz18_0 : wc.cell? ⟨gb176, 0, none⟩ = some (.int .i64 ((rd_T116 l0 x10_1).f0)) := (blk_cell BK176.out 0).trans rfl
                      have hcz18_1 : wc.cell? ⟨gb176, 1, none⟩ = some (.int .i64 ((rd_T116 l0 x10_1).f1)) := (blk_cell BK176.out 1).trans rfl
                      have hcz18_2 : wc.cell? ⟨gb176, 2, none⟩ = some (.string ((rd_T116 l0 x10_1).f2)) := (blk_cell BK176.out 2).trans rfl
                      have hcz18_3 : wc.cell? ⟨gb176, 3, none⟩ = some (.int .i64 ((rd_T116 l0 x10_1).f3)) := (blk_cell BK176.out 3).trans rfl
                      have hfz18_0 := blk_frozen BK176.out 0
                      have hfz18_1 := blk_frozen BK176.out 1
                      have hfz18_2 := blk_frozen BK176.out 2
                      have hfz18_3 := blk_frozen BK176.out 3
                      go_wp2
                      go_roundg kj5
                      case measure => have := HK1.out; have := HJ5.out; omega
                      case rel => exact ⟨(wrap64 (((rd_T116 l0 x10_1).f0) + 4)), (wrap64 (x10_1 + 1)), (by first | rfl | (simp; done) | (simp [*]; done)), (by first | rfl | (simp; done) | (simp [*]; done)), H', ⟨by have := HK1.out; have := HJ5.out; omega⟩, ⟨by repeat (first | (with_reducible first | exact HB.out | apply below_alloc | apply pw_below_drewN | apply below_drew1 | refine below_set ?_ GE176.out) | exact HB.out)⟩⟩
                    · rw [if_neg c17] at H
                      have c17b0 : (((rd_T116 l0 x10_1).f3) == 0) = false := beq_eq_false_iff_ne.mpr c17
                      have c17b1 : (((rd_T116 l0 x10_1).f3) != 0) = true := bne_iff_ne.mpr c17
                      obtain rfl := Option.some.inj H
                      have hcz19_0 : wc.cell? ⟨gb176, 0, none⟩ = some (.int .i64 ((rd_T116 l0 x10_1).f0)) := (blk_cell BK176.out 0).trans rfl
                      have hcz19_1 : wc.cell? ⟨gb176, 1, none⟩ = some (.int .i64 ((rd_T116 l0 x10_1).f1)) := (blk_cell BK176.out 1).trans rfl
                      have hcz19_2 : wc.cell? ⟨gb176, 2, none⟩ = some (.string ((rd_T116 l0 x10_1).f2)) := (blk_cell BK176.out 2).trans rfl
                      have hcz19_3 : wc.cell? ⟨gb176, 3, none⟩ = some (.int .i64 ((rd_T116 l0 x10_1).f3)) := (blk_cell BK176.out 3).trans rfl
                      have hfz19_0 := blk_frozen BK176.out 0
                      have hfz19_1 := blk_frozen BK176.out 1
                      have hfz19_2 := blk_frozen BK176.out 2
                      have hfz19_3 := blk_frozen BK176.out 3
                      go_wp2
                      go_ret
                      exact ⟨by first | rfl | (simp [errW_none, errW_some] <;> rfl) | (simp [*, errW_none, errW_some] <;> rfl), by repeat (first | (with_reducible first | exact HB.out | apply below_alloc | apply pw_below_drewN | apply below_drew1 | refine below_set ?_ GE176.out) | exact HB.out)⟩
                  · rw [if_neg c16] at H
                    have c16b0 : (((rd_T116 l0 x10_1).f1) == 1) = false := beq_eq_false_iff_ne.mpr c16
                    have c16b1 : (((rd_T116 l0 x10_1).f1) != 1) = true := bne_iff_ne.mpr c16
                    by_cases c20 : ((rd_T116 l0 x10_1).f1) = 2
                    · rw [if_pos c20] at H
                      have c20b0 : (((rd_T116 l0 x10_1).f1) == 2) = true := beq_iff_eq.mpr c20
                      have c20b1 : (((rd_T116 l0 x10_1).f1) != 2) = false := bne_eq_false_iff_eq.mpr c20
                      clear c20
                      by_cases c21 : ((rd_T116 l0 x10_1).f3) < (-2147483648)
                      · rw [if_pos c21] at H
                        have c21b0 : decide (((rd_T116 l0 x10_1).f3) < (-2147483648)) = true := decide_eq_true c21
                        clear c21
                        obtain rfl := Option.some.inj H
                        have hcz22_0 : wc.cell? ⟨gb176, 0, none⟩ = some (.int .i64 ((rd_T116 l0 x10_1).f0)) := (blk_cell BK176.out 0).trans rfl
                        have hcz22_1 : wc.cell? ⟨gb176, 1, none⟩ = some (.int .i64 ((rd_T116 l0 x10_1).f1)) := (blk_cell BK176.out 1).trans rfl
                        have hcz22_2 : wc.cell? ⟨gb176, 2, none⟩ = some (.string ((rd_T116 l0 x10_1).f2)) := (blk_cell BK176.out 2).trans rfl
                        have hcz22_3 : wc.cell? ⟨gb176, 3, none⟩ = some (.int .i64 ((rd_T116 l0 x10_1).f3)) := (blk_cell BK176.out 3).trans rfl
                        have hfz22_0 := blk_frozen BK176.out 0
                        have hfz22_1 := blk_frozen BK176.out 1
                        have hfz22_2 := blk_frozen BK176.out 2
                        have hfz22_3 := blk_frozen BK176.out 3
                        go_wp2
                        go_ret
                        exact ⟨by first | rfl | (simp [errW_none, errW_some] <;> rfl) | (simp [*, errW_none, errW_some] <;> rfl), by repeat (first | (with_reducible first | exact HB.out | apply below_alloc | apply pw_below_drewN | apply below_drew1 | refine below_set ?_ GE176.out) | exact HB.out)⟩
                      · rw [if_neg c21] at H
                        have c21b0 : decide (((rd_T116 l0 x10_1).f3) < (-2147483648)) = false := decide_eq_false c21
                        clear c21
                        by_cases c23 : ((rd_T116 l0 x10_1).f3) > 2147483647
                        · rw [if_pos c23] at H
                          have c23b0 : decide (2147483647 < ((rd_T116 l0 x10_1).f3)) = true := decide_eq_true c23
                          clear c23
                          obtain rfl := Option.some.inj H
                          have hcz24_0 : wc.cell? ⟨gb176, 0, none⟩ = some (.int .i64 ((rd_T116 l0 x10_1).f0)) := (blk_cell BK176.out 0).trans rfl
                          have hcz24_1 : wc.cell? ⟨gb176, 1, none⟩ = some (.int .i64 ((rd_T116 l0 x10_1).f1)) := (blk_cell BK176.out 1).trans rfl
                          have hcz24_2 : wc.cell? ⟨gb176, 2, none⟩ = some (.string ((rd_T116 l0 x10_1).f2)) := (blk_cell BK176.out 2).trans rfl
                          have hcz24_3 : wc.cell? ⟨gb176, 3, none⟩ = some (.int .i64 ((rd_T116 l0 x10_1).f3)) := (blk_cell BK176.out 3).trans rfl
                          have hfz24_0 := blk_frozen BK176.out 0
                          have hfz24_1 := blk_frozen BK176.out 1
                          have hfz24_2 := blk_frozen BK176.out 2
                          have hfz24_3 := blk_frozen BK176.out 3
                          go_wp2
                          go_ret
                          exact ⟨by first | rfl | (simp [errW_none, errW_some] <;> rfl) | (simp [*, errW_none, errW_some] <;> rfl), by repeat (first | (with_reducible first | exact HB.out | apply below_alloc | apply pw_below_drewN | apply below_drew1 | refine below_set ?_ GE176.out) | exact HB.out)⟩
                        · rw [if_neg c23] at H
                          have c23b0 : decide (2147483647 < ((rd_T116 l0 x10_1).f3)) = false := decide_eq_false c23
                          clear c23
                          have H' := Aside0.mk H
                          clear H
                          have hcz25_0 : wc.cell? ⟨gb176, 0, none⟩ = some (.int .i64 ((rd_T116 l0 x10_1).f0)) := (blk_cell BK176.out 0).trans rfl
                          have hcz25_1 : wc.cell? ⟨gb176, 1, none⟩ = some (.int .i64 ((rd_T116 l0 x10_1).f1)) := (blk_cell BK176.out 1).trans rfl
                          have hcz25_2 : wc.cell? ⟨gb176, 2, none⟩ = some (.string ((rd_T116 l0 x10_1).f2)) := (blk_cell BK176.out 2).trans rfl
                          have hcz25_3 : wc.cell? ⟨gb176, 3, none⟩ = some (.int .i64 ((rd_T116 l0 x10_1).f3)) := (blk_cell BK176.out 3).trans rfl
                          have hfz25_0 := blk_frozen BK176.out 0
                          have hfz25_1 := blk_frozen BK176.out 1
                          have hfz25_2 := blk_frozen BK176.out 2
                          have hfz25_3 := blk_frozen BK176.out 3
                          go_wp2
                          go_roundg kj5
                          case measure => have := HK1.out; have := HJ5.out; omega
                          case rel => exact ⟨(wrap64 (((rd_T116 l0 x10_1).f0) + 4)), (wrap64 (x10_1 + 1)), (by first | rfl | (simp; done) | (simp [*]; done)), (by first | rfl | (simp; done) | (simp [*]; done)), H', ⟨by have := HK1.out; have := HJ5.out; omega⟩, ⟨by repeat (first | (with_reducible first | exact HB.out | apply below_alloc | apply pw_below_drewN | apply below_drew1 | refine below_set ?_ GE176.out) | exact HB.out)⟩⟩
                    · rw [if_neg c20] at H
                      have c20b0 : (((rd_T116 l0 x10_1).f1) == 2) = false := beq_eq_false_iff_ne.mpr c20
                      have c20b1 : (((rd_T116 l0 x10_1).f1) != 2) = true := bne_iff_ne.mpr c20
                      obtain rfl := Option.some.inj H
                      have hcz26_0 : wc.cell? ⟨gb176, 0, none⟩ = some (.int .i64 ((rd_T116 l0 x10_1).f0)) := (blk_cell BK176.out 0).trans rfl
                      have hcz26_1 : wc.cell? ⟨gb176, 1, none⟩ = some (.int .i64 ((rd_T116 l0 x10_1).f1)) := (blk_cell BK176.out 1).trans rfl
                      have hcz26_2 : wc.cell? ⟨gb176, 2, none⟩ = some (.string ((rd_T116 l0 x10_1).f2)) := (blk_cell BK176.out 2).trans rfl
                      have hcz26_3 : wc.cell? ⟨gb176, 3, none⟩ = some (.int .i64 ((rd_T116 l0 x10_1).f3)) := (blk_cell BK176.out 3).trans rfl
                      have hfz26_0 := blk_frozen BK176.out 0
                      have hfz26_1 := blk_frozen BK176.out 1
                      have hfz26_2 := blk_frozen BK176.out 2
                      have hfz26_3 := blk_frozen BK176.out 3
                      go_wp2
                      go_ret
                      exact ⟨by first | rfl | (simp [errW_none, errW_some] <;> rfl) | (simp [*, errW_none, errW_some] <;> rfl), by repeat (first | (with_reducible first | exact HB.out | apply below_alloc | apply pw_below_drewN | apply below_drew1 | refine below_set ?_ GE176.out) | exact HB.out)⟩
          · rw [if_neg c5] at H
            exact absurd H (by simp)
        · rw [if_neg c4] at H
          exact absurd H (by simp)
      · rw [if_neg c3] at H
        have c3b0 : decide (x10_1 < (l0.length : Int)) = false := decide_eq_false c3
        clear c3
        obtain rfl := Option.some.inj H
        go_wp2
        go_ret
        exact ⟨by first | rfl | (simp [errW_none, errW_some] <;> rfl) | (simp [*, errW_none, errW_some] <;> rfl), by repeat (first | (with_reducible first | exact HB.out | apply below_alloc | apply pw_below_drewN | apply below_drew1) | exact HB.out)⟩

/-! ### objf_Check: function 31 -/
def objf_Check.f (k : Nat) (a0_0 : ByteArray) (l0_1 : List Int) (l0_2 : List (S68)) (l0_3 : List (S116)) : Option (Int) := if (a0_0.size : Int) > 65536 then (some 1) else (if (l0_1.length : Int) > 4096 then (some 1) else ((objf_symbols.f l0_2 (a0_0.size : Int) (l0_1.length : Int)).bind fun t179 => (if t179 = true then ((objf_relocations.f k l0_3 (a0_0.size : Int)).bind fun t180 => (if t180 = true then (some 0) else (some 1))) else (some 1))))
set_option maxHeartbeats 8000000 in
set_option maxRecDepth 100000 in
theorem objf_Check.calls (k : Nat) (a0_0 : ByteArray) (A0_1 : Option Addr) (c0_1 : Nat) (l0_1 : List Int) (A0_2 : Option Addr) (c0_2 : Nat) (l0_2 : List (S68)) (A0_3 : Option Addr) (c0_3 : Nat) (l0_3 : List (S116)) (r : Int) (w : World) (hr0_1 : Kd.C (Kd.int .i64) w A0_1 l0_1.length l0_1) (hc0_1 : l0_1.length ≤ c0_1) (hr0_2 : Kd.C k68 w A0_2 l0_2.length l0_2) (hc0_2 : l0_2.length ≤ c0_2) (hr0_3 : Kd.C k116 w A0_3 l0_3.length l0_3) (hc0_3 : l0_3.length ≤ c0_3) (h : objf_Check.f k a0_0 l0_1 l0_2 l0_3 = some r) :
    Calls Tryd.prog 31 #[.agg #[.string a0_0, .slice A0_1 l0_1.length c0_1, .slice A0_2 l0_2.length c0_2, .slice A0_3 l0_3.length c0_3]] w fun e w' => e = .returned (.int .i64 r) ∧ Below w.heap.size w w' := by
  have hu74 := Tryd.underlying74
  have HR0_1 := Aside0.mk hr0_1
  have HC0_1 := Aside0.mk hc0_1
  clear hr0_1 hc0_1
  have HR0_2 := Aside0.mk hr0_2
  have HC0_2 := Aside0.mk hc0_2
  clear hr0_2 hc0_2
  have HR0_3 := Aside0.mk hr0_3
  have HC0_3 := Aside0.mk hc0_3
  clear hr0_3 hc0_3
  have HB := Aside0.mk (Below.refl w.heap.size w)
  have H : (if (a0_0.size : Int) > 65536 then (some 1) else (if (l0_1.length : Int) > 4096 then (some 1) else ((objf_symbols.f l0_2 (a0_0.size : Int) (l0_1.length : Int)).bind fun t179 => (if t179 = true then ((objf_relocations.f k l0_3 (a0_0.size : Int)).bind fun t180 => (if t180 = true then (some 0) else (some 1))) else (some 1))))) = some r := h
  clear h
  by_cases c2 : (a0_0.size : Int) > 65536
  · rw [if_pos c2] at H
    have c2b0 : decide (65536 < (a0_0.size : Int)) = true := decide_eq_true c2
    have c2b1 : decide (65536 < a0_0.size) = true := decide_eq_true (by omega)
    clear c2
    obtain rfl := Option.some.inj H
    go_enter Tryd.func31, Tryd.ntmps31
    go_wp2_with (first | ((with_reducible refine gate_dst (N := 1) rfl ?_); (try (refine gate_guard (by rfl) ?_; dsimp only)); refine box_event ?hg (N := 1) ?hd (cs := #[.string a0_0, .slice A0_1 l0_1.length c0_1, .slice A0_2 l0_2.length c0_2, .slice A0_3 l0_3.length c0_3]) (t := 74) ?hr ?_; (case hd => rfl); (case hg => rfl); (case hr => first | (go_simp; done) | (go_simp; rfl)); intro gb178 hg w3 hbox hb; have n0_ := Aside0.mk (below_step (by repeat (first | (with_reducible first | exact HB.out | apply below_alloc | apply pw_below_drewN | apply below_drew1) | exact HB.out)) hb); have n1_ := Aside0.mk (hbox); have n2_ := Aside0.mk ((by rw [hg]; exact (below_size (by repeat (first | (with_reducible first | exact HB.out | apply below_alloc | apply pw_below_drewN | apply below_drew1) | exact HB.out))) : w.heap.size ≤ gb178)); have n3_ := Aside0.mk ((by rw [hg]; exact (below_size (by repeat (first | (with_reducible first | exact HB.out | apply below_alloc | apply pw_below_drewN | apply below_drew1) | exact HB.out))) : w.heap.size ≤ gb178)); clear HB; have HB := n0_; have BK178 := n1_; have GW178 := n2_; have GE178 := n3_; clear n0_ n1_ n2_ n3_; clear hb hbox hg; have hcz4_0 : w3.cell? ⟨gb178, 0, none⟩ = some (.string a0_0) := (blk_cell BK178.out 0).trans rfl; have hcz4_1 : w3.cell? ⟨gb178, 1, none⟩ = some (.slice A0_1 l0_1.length c0_1) := (blk_cell BK178.out 1).trans rfl; have hcz4_2 : w3.cell? ⟨gb178, 2, none⟩ = some (.slice A0_2 l0_2.length c0_2) := (blk_cell BK178.out 2).trans rfl; have hcz4_3 : w3.cell? ⟨gb178, 3, none⟩ = some (.slice A0_3 l0_3.length c0_3) := (blk_cell BK178.out 3).trans rfl; have hfz4_0 := blk_frozen BK178.out 0; have hfz4_1 := blk_frozen BK178.out 1; have hfz4_2 := blk_frozen BK178.out 2; have hfz4_3 := blk_frozen BK178.out 3))
    go_ret
    exact ⟨by first | rfl | (simp [errW_none, errW_some] <;> rfl) | (simp [*, errW_none, errW_some] <;> rfl), by repeat (first | (with_reducible first | exact HB.out | apply below_alloc | apply pw_below_drewN | apply below_drew1 | refine below_set ?_ GE178.out) | exact HB.out)⟩
  · rw [if_neg c2] at H
    have c2b0 : decide (65536 < (a0_0.size : Int)) = false := decide_eq_false c2
    have c2b1 : decide (65536 < a0_0.size) = false := decide_eq_false (by omega)
    clear c2
    by_cases c5 : (l0_1.length : Int) > 4096
    · rw [if_pos c5] at H
      have c5b0 : decide (4096 < (l0_1.length : Int)) = true := decide_eq_true c5
      have c5b1 : decide (4096 < l0_1.length) = true := decide_eq_true (by omega)
      clear c5
      obtain rfl := Option.some.inj H
      go_enter Tryd.func31, Tryd.ntmps31
      go_wp2_with (first | ((with_reducible refine gate_dst (N := 1) rfl ?_); (try (refine gate_guard (by rfl) ?_; dsimp only)); refine box_event ?hg (N := 1) ?hd (cs := #[.string a0_0, .slice A0_1 l0_1.length c0_1, .slice A0_2 l0_2.length c0_2, .slice A0_3 l0_3.length c0_3]) (t := 74) ?hr ?_; (case hd => rfl); (case hg => rfl); (case hr => first | (go_simp; done) | (go_simp; rfl)); intro gb178 hg w6 hbox hb; have n0_ := Aside0.mk (below_step (by repeat (first | (with_reducible first | exact HB.out | apply below_alloc | apply pw_below_drewN | apply below_drew1) | exact HB.out)) hb); have n1_ := Aside0.mk (hbox); have n2_ := Aside0.mk ((by rw [hg]; exact (below_size (by repeat (first | (with_reducible first | exact HB.out | apply below_alloc | apply pw_below_drewN | apply below_drew1) | exact HB.out))) : w.heap.size ≤ gb178)); have n3_ := Aside0.mk ((by rw [hg]; exact (below_size (by repeat (first | (with_reducible first | exact HB.out | apply below_alloc | apply pw_below_drewN | apply below_drew1) | exact HB.out))) : w.heap.size ≤ gb178)); clear HB; have HB := n0_; have BK178 := n1_; have GW178 := n2_; have GE178 := n3_; clear n0_ n1_ n2_ n3_; clear hb hbox hg; have hcz7_0 : w6.cell? ⟨gb178, 0, none⟩ = some (.string a0_0) := (blk_cell BK178.out 0).trans rfl; have hcz7_1 : w6.cell? ⟨gb178, 1, none⟩ = some (.slice A0_1 l0_1.length c0_1) := (blk_cell BK178.out 1).trans rfl; have hcz7_2 : w6.cell? ⟨gb178, 2, none⟩ = some (.slice A0_2 l0_2.length c0_2) := (blk_cell BK178.out 2).trans rfl; have hcz7_3 : w6.cell? ⟨gb178, 3, none⟩ = some (.slice A0_3 l0_3.length c0_3) := (blk_cell BK178.out 3).trans rfl; have hfz7_0 := blk_frozen BK178.out 0; have hfz7_1 := blk_frozen BK178.out 1; have hfz7_2 := blk_frozen BK178.out 2; have hfz7_3 := blk_frozen BK178.out 3))
      go_ret
      exact ⟨by first | rfl | (simp [errW_none, errW_some] <;> rfl) | (simp [*, errW_none, errW_some] <;> rfl), by repeat (first | (with_reducible first | exact HB.out | apply below_alloc | apply pw_below_drewN | apply below_drew1 | refine below_set ?_ GE178.out) | exact HB.out)⟩
    · rw [if_neg c5] at H
      have c5b0 : decide (4096 < (l0_1.length : Int)) = false := decide_eq_false c5
      have c5b1 : decide (4096 < l0_1.length) = false := decide_eq_false (by omega)
      clear c5
      replace H := Option.bind_eq_some_iff.mp H
      obtain ⟨t179, A80, H⟩ := H
      replace H : (if t179 = true then ((objf_relocations.f k l0_3 (a0_0.size : Int)).bind fun t180 => (if t180 = true then (some 0) else (some 1))) else (some 1)) = some r := H
      have A8 := Aside0.mk A80
      clear A80
      by_cases c9 : t179 = true
      · subst c9
        have H1 : ((objf_relocations.f k l0_3 (a0_0.size : Int)).bind fun t180 => (if t180 = true then (some 0) else (some 1))) = some r := by rw [if_pos rfl] at H; exact H
        clear H
        have H := H1
        clear H1
        replace H := Option.bind_eq_some_iff.mp H
        obtain ⟨t180, A100, H⟩ := H
        replace H : (if t180 = true then (some 0) else (some 1)) = some r := H
        have A10 := Aside0.mk A100
        clear A100
        by_cases c11 : t180 = true
        · subst c11
          have H1 : (some 0) = some r := by rw [if_pos rfl] at H; exact H
          clear H
          have H := H1
          clear H1
          obtain rfl := Option.some.inj H
          go_enter Tryd.func31, Tryd.ntmps31
          go_wp2_with (first | ((with_reducible refine gate_dst (N := 1) rfl ?_); (try (refine gate_guard (by rfl) ?_; dsimp only)); refine box_event ?hg (N := 1) ?hd (cs := #[.string a0_0, .slice A0_1 l0_1.length c0_1, .slice A0_2 l0_2.length c0_2, .slice A0_3 l0_3.length c0_3]) (t := 74) ?hr ?_; (case hd => rfl); (case hg => rfl); (case hr => first | (go_simp; done) | (go_simp; rfl)); intro gb178 hg w12 hbox hb; have n0_ := Aside0.mk (below_step (by repeat (first | (with_reducible first | exact HB.out | apply below_alloc | apply pw_below_drewN | apply below_drew1) | exact HB.out)) hb); have n1_ := Aside0.mk (hbox); have n2_ := Aside0.mk ((by rw [hg]; exact (below_size (by repeat (first | (with_reducible first | exact HB.out | apply below_alloc | apply pw_below_drewN | apply below_drew1) | exact HB.out))) : w.heap.size ≤ gb178)); have n3_ := Aside0.mk ((by rw [hg]; exact (below_size (by repeat (first | (with_reducible first | exact HB.out | apply below_alloc | apply pw_below_drewN | apply below_drew1) | exact HB.out))) : w.heap.size ≤ gb178)); clear HB; have HB := n0_; have BK178 := n1_; have GW178 := n2_; have GE178 := n3_; clear n0_ n1_ n2_ n3_; clear hb hbox hg; have hcz13_0 : w12.cell? ⟨gb178, 0, none⟩ = some (.string a0_0) := (blk_cell BK178.out 0).trans rfl; have hcz13_1 : w12.cell? ⟨gb178, 1, none⟩ = some (.slice A0_1 l0_1.length c0_1) := (blk_cell BK178.out 1).trans rfl; have hcz13_2 : w12.cell? ⟨gb178, 2, none⟩ = some (.slice A0_2 l0_2.length c0_2) := (blk_cell BK178.out 2).trans rfl; have hcz13_3 : w12.cell? ⟨gb178, 3, none⟩ = some (.slice A0_3 l0_3.length c0_3) := (blk_cell BK178.out 3).trans rfl; have hfz13_0 := blk_frozen BK178.out 0; have hfz13_1 := blk_frozen BK178.out 1; have hfz13_2 := blk_frozen BK178.out 2; have hfz13_3 := blk_frozen BK178.out 3) | (go_at_call 50; (with_reducible refine (objf_symbols.calls _ _ l0_2 (a0_0.size : Int) (l0_1.length : Int) true _ ?side1 ?side2 A8.out).mono ?_); (case side1 => repeat (first | exact (Kd.C_below HR0_2.out HB.out) | (with_reducible refine Kd.C_alloc ?_ _) | (with_reducible refine Kd.C_drewN ?_ _) | (with_reducible refine Kd.C_drew ?_))); (case side2 => exact HC0_2.out); rintro e w14 ⟨rfl, hb⟩; have n0_ := Aside0.mk (blk_below (g := gb178) (o := .cells #[.string a0_0, .slice A0_1 l0_1.length c0_1, .slice A0_2 l0_2.length c0_2, .slice A0_3 l0_3.length c0_3] 74 (0, 0)) (by (with_reducible repeat (first | refine blk_drewN ?_ _ | refine blk_drew ?_ | refine blk_alloc ?_ _)); exact BK178.out) hb); have n1_ := Aside0.mk (below_step (by repeat (first | (with_reducible first | exact HB.out | apply below_alloc | apply pw_below_drewN | apply below_drew1 | refine below_set ?_ GE178.out) | exact HB.out)) hb); clear BK178; clear HB; have BK178 := n0_; have HB := n1_; clear n0_ n1_; (try clear hb); (try clear hb2); (try clear hk); (try clear hi); have hcz15_0 : w14.cell? ⟨gb178, 0, none⟩ = some (.string a0_0) := (blk_cell BK178.out 0).trans rfl; have hcz15_1 : w14.cell? ⟨gb178, 1, none⟩ = some (.slice A0_1 l0_1.length c0_1) := (blk_cell BK178.out 1).trans rfl; have hcz15_2 : w14.cell? ⟨gb178, 2, none⟩ = some (.slice A0_2 l0_2.length c0_2) := (blk_cell BK178.out 2).trans rfl; have hcz15_3 : w14.cell? ⟨gb178, 3, none⟩ = some (.slice A0_3 l0_3.length c0_3) := (blk_cell BK178.out 3).trans rfl; have hfz15_0 := blk_frozen BK178.out 0; have hfz15_1 := blk_frozen BK178.out 1; have hfz15_2 := blk_frozen BK178.out 2; have hfz15_3 := blk_frozen BK178.out 3) | (go_at_call 51; (with_reducible refine (objf_relocations.calls k _ _ l0_3 (a0_0.size : Int) true _ ?side1 ?side2 A10.out).mono ?_); (case side1 => repeat (first | exact (Kd.C_below HR0_3.out HB.out) | (with_reducible refine Kd.C_alloc ?_ _) | (with_reducible refine Kd.C_drewN ?_ _) | (with_reducible refine Kd.C_drew ?_))); (case side2 => exact HC0_3.out); rintro e w16 ⟨rfl, hb⟩; have n0_ := Aside0.mk (blk_below (g := gb178) (o := .cells #[.string a0_0, .slice A0_1 l0_1.length c0_1, .slice A0_2 l0_2.length c0_2, .slice A0_3 l0_3.length c0_3] 74 (0, 0)) (by (with_reducible repeat (first | refine blk_drewN ?_ _ | refine blk_drew ?_ | refine blk_alloc ?_ _)); exact BK178.out) hb); have n1_ := Aside0.mk (below_step (by repeat (first | (with_reducible first | exact HB.out | apply below_alloc | apply pw_below_drewN | apply below_drew1 | refine below_set ?_ GE178.out) | exact HB.out)) hb); clear BK178; clear HB; have BK178 := n0_; have HB := n1_; clear n0_ n1_; (try clear hb); (try clear hb2); (try clear hk); (try clear hi)))
          go_ret
          exact ⟨by first | rfl | (simp [errW_none, errW_some] <;> rfl) | (simp [*, errW_none, errW_some] <;> rfl), by repeat (first | (with_reducible first | exact HB.out | apply below_alloc | apply pw_below_drewN | apply below_drew1 | refine below_set ?_ GE178.out) | exact HB.out)⟩
        · replace c11 := Bool.eq_false_iff.mpr c11
          subst c11
          have H1 : (some 1) = some r := by rw [if_neg (show ¬ (false = true) by decide)] at H; exact H
          clear H
          have H := H1
          clear H1
          obtain rfl := Option.some.inj H
          go_enter Tryd.func31, Tryd.ntmps31
          go_wp2_with (first | ((with_reducible refine gate_dst (N := 1) rfl ?_); (try (refine gate_guard (by rfl) ?_; dsimp only)); refine box_event ?hg (N := 1) ?hd (cs := #[.string a0_0, .slice A0_1 l0_1.length c0_1, .slice A0_2 l0_2.length c0_2, .slice A0_3 l0_3.length c0_3]) (t := 74) ?hr ?_; (case hd => rfl); (case hg => rfl); (case hr => first | (go_simp; done) | (go_simp; rfl)); intro gb178 hg w17 hbox hb; have n0_ := Aside0.mk (below_step (by repeat (first | (with_reducible first | exact HB.out | apply below_alloc | apply pw_below_drewN | apply below_drew1) | exact HB.out)) hb); have n1_ := Aside0.mk (hbox); have n2_ := Aside0.mk ((by rw [hg]; exact (below_size (by repeat (first | (with_reducible first | exact HB.out | apply below_alloc | apply pw_below_drewN | apply below_drew1) | exact HB.out))) : w.heap.size ≤ gb178)); have n3_ := Aside0.mk ((by rw [hg]; exact (below_size (by repeat (first | (with_reducible first | exact HB.out | apply below_alloc | apply pw_below_drewN | apply below_drew1) | exact HB.out))) : w.heap.size ≤ gb178)); clear HB; have HB := n0_; have BK178 := n1_; have GW178 := n2_; have GE178 := n3_; clear n0_ n1_ n2_ n3_; clear hb hbox hg; have hcz18_0 : w17.cell? ⟨gb178, 0, none⟩ = some (.string a0_0) := (blk_cell BK178.out 0).trans rfl; have hcz18_1 : w17.cell? ⟨gb178, 1, none⟩ = some (.slice A0_1 l0_1.length c0_1) := (blk_cell BK178.out 1).trans rfl; have hcz18_2 : w17.cell? ⟨gb178, 2, none⟩ = some (.slice A0_2 l0_2.length c0_2) := (blk_cell BK178.out 2).trans rfl; have hcz18_3 : w17.cell? ⟨gb178, 3, none⟩ = some (.slice A0_3 l0_3.length c0_3) := (blk_cell BK178.out 3).trans rfl; have hfz18_0 := blk_frozen BK178.out 0; have hfz18_1 := blk_frozen BK178.out 1; have hfz18_2 := blk_frozen BK178.out 2; have hfz18_3 := blk_frozen BK178.out 3) | (go_at_call 50; (with_reducible refine (objf_symbols.calls _ _ l0_2 (a0_0.size : Int) (l0_1.length : Int) true _ ?side1 ?side2 A8.out).mono ?_); (case side1 => repeat (first | exact (Kd.C_below HR0_2.out HB.out) | (with_reducible refine Kd.C_alloc ?_ _) | (with_reducible refine Kd.C_drewN ?_ _) | (with_reducible refine Kd.C_drew ?_))); (case side2 => exact HC0_2.out); rintro e w19 ⟨rfl, hb⟩; have n0_ := Aside0.mk (blk_below (g := gb178) (o := .cells #[.string a0_0, .slice A0_1 l0_1.length c0_1, .slice A0_2 l0_2.length c0_2, .slice A0_3 l0_3.length c0_3] 74 (0, 0)) (by (with_reducible repeat (first | refine blk_drewN ?_ _ | refine blk_drew ?_ | refine blk_alloc ?_ _)); exact BK178.out) hb); have n1_ := Aside0.mk (below_step (by repeat (first | (with_reducible first | exact HB.out | apply below_alloc | apply pw_below_drewN | apply below_drew1 | refine below_set ?_ GE178.out) | exact HB.out)) hb); clear BK178; clear HB; have BK178 := n0_; have HB := n1_; clear n0_ n1_; (try clear hb); (try clear hb2); (try clear hk); (try clear hi); have hcz20_0 : w19.cell? ⟨gb178, 0, none⟩ = some (.string a0_0) := (blk_cell BK178.out 0).trans rfl; have hcz20_1 : w19.cell? ⟨gb178, 1, none⟩ = some (.slice A0_1 l0_1.length c0_1) := (blk_cell BK178.out 1).trans rfl; have hcz20_2 : w19.cell? ⟨gb178, 2, none⟩ = some (.slice A0_2 l0_2.length c0_2) := (blk_cell BK178.out 2).trans rfl; have hcz20_3 : w19.cell? ⟨gb178, 3, none⟩ = some (.slice A0_3 l0_3.length c0_3) := (blk_cell BK178.out 3).trans rfl; have hfz20_0 := blk_frozen BK178.out 0; have hfz20_1 := blk_frozen BK178.out 1; have hfz20_2 := blk_frozen BK178.out 2; have hfz20_3 := blk_frozen BK178.out 3) | (go_at_call 51; (with_reducible refine (objf_relocations.calls k _ _ l0_3 (a0_0.size : Int) false _ ?side1 ?side2 A10.out).mono ?_); (case side1 => repeat (first | exact (Kd.C_below HR0_3.out HB.out) | (with_reducible refine Kd.C_alloc ?_ _) | (with_reducible refine Kd.C_drewN ?_ _) | (with_reducible refine Kd.C_drew ?_))); (case side2 => exact HC0_3.out); rintro e w21 ⟨rfl, hb⟩; have n0_ := Aside0.mk (blk_below (g := gb178) (o := .cells #[.string a0_0, .slice A0_1 l0_1.length c0_1, .slice A0_2 l0_2.length c0_2, .slice A0_3 l0_3.length c0_3] 74 (0, 0)) (by (with_reducible repeat (first | refine blk_drewN ?_ _ | refine blk_drew ?_ | refine blk_alloc ?_ _)); exact BK178.out) hb); have n1_ := Aside0.mk (below_step (by repeat (first | (with_reducible first | exact HB.out | apply below_alloc | apply pw_below_drewN | apply below_drew1 | refine below_set ?_ GE178.out) | exact HB.out)) hb); clear BK178; clear HB; have BK178 := n0_; have HB := n1_; clear n0_ n1_; (try clear hb); (try clear hb2); (try clear hk); (try clear hi)))
          go_ret
          exact ⟨by first | rfl | (simp [errW_none, errW_some] <;> rfl) | (simp [*, errW_none, errW_some] <;> rfl), by repeat (first | (with_reducible first | exact HB.out | apply below_alloc | apply pw_below_drewN | apply below_drew1 | refine below_set ?_ GE178.out) | exact HB.out)⟩
      · replace c9 := Bool.eq_false_iff.mpr c9
        subst c9
        have H1 : (some 1) = some r := by rw [if_neg (show ¬ (false = true) by decide)] at H; exact H
        clear H
        have H := H1
        clear H1
        obtain rfl := Option.some.inj H
        go_enter Tryd.func31, Tryd.ntmps31
        go_wp2_with (first | ((with_reducible refine gate_dst (N := 1) rfl ?_); (try (refine gate_guard (by rfl) ?_; dsimp only)); refine box_event ?hg (N := 1) ?hd (cs := #[.string a0_0, .slice A0_1 l0_1.length c0_1, .slice A0_2 l0_2.length c0_2, .slice A0_3 l0_3.length c0_3]) (t := 74) ?hr ?_; (case hd => rfl); (case hg => rfl); (case hr => first | (go_simp; done) | (go_simp; rfl)); intro gb178 hg w22 hbox hb; have n0_ := Aside0.mk (below_step (by repeat (first | (with_reducible first | exact HB.out | apply below_alloc | apply pw_below_drewN | apply below_drew1) | exact HB.out)) hb); have n1_ := Aside0.mk (hbox); have n2_ := Aside0.mk ((by rw [hg]; exact (below_size (by repeat (first | (with_reducible first | exact HB.out | apply below_alloc | apply pw_below_drewN | apply below_drew1) | exact HB.out))) : w.heap.size ≤ gb178)); have n3_ := Aside0.mk ((by rw [hg]; exact (below_size (by repeat (first | (with_reducible first | exact HB.out | apply below_alloc | apply pw_below_drewN | apply below_drew1) | exact HB.out))) : w.heap.size ≤ gb178)); clear HB; have HB := n0_; have BK178 := n1_; have GW178 := n2_; have GE178 := n3_; clear n0_ n1_ n2_ n3_; clear hb hbox hg; have hcz23_0 : w22.cell? ⟨gb178, 0, none⟩ = some (.string a0_0) := (blk_cell BK178.out 0).trans rfl; have hcz23_1 : w22.cell? ⟨gb178, 1, none⟩ = some (.slice A0_1 l0_1.length c0_1) := (blk_cell BK178.out 1).trans rfl; have hcz23_2 : w22.cell? ⟨gb178, 2, none⟩ = some (.slice A0_2 l0_2.length c0_2) := (blk_cell BK178.out 2).trans rfl; have hcz23_3 : w22.cell? ⟨gb178, 3, none⟩ = some (.slice A0_3 l0_3.length c0_3) := (blk_cell BK178.out 3).trans rfl; have hfz23_0 := blk_frozen BK178.out 0; have hfz23_1 := blk_frozen BK178.out 1; have hfz23_2 := blk_frozen BK178.out 2; have hfz23_3 := blk_frozen BK178.out 3) | (go_at_call 50; (with_reducible refine (objf_symbols.calls _ _ l0_2 (a0_0.size : Int) (l0_1.length : Int) false _ ?side1 ?side2 A8.out).mono ?_); (case side1 => repeat (first | exact (Kd.C_below HR0_2.out HB.out) | (with_reducible refine Kd.C_alloc ?_ _) | (with_reducible refine Kd.C_drewN ?_ _) | (with_reducible refine Kd.C_drew ?_))); (case side2 => exact HC0_2.out); rintro e w24 ⟨rfl, hb⟩; have n0_ := Aside0.mk (blk_below (g := gb178) (o := .cells #[.string a0_0, .slice A0_1 l0_1.length c0_1, .slice A0_2 l0_2.length c0_2, .slice A0_3 l0_3.length c0_3] 74 (0, 0)) (by (with_reducible repeat (first | refine blk_drewN ?_ _ | refine blk_drew ?_ | refine blk_alloc ?_ _)); exact BK178.out) hb); have n1_ := Aside0.mk (below_step (by repeat (first | (with_reducible first | exact HB.out | apply below_alloc | apply pw_below_drewN | apply below_drew1 | refine below_set ?_ GE178.out) | exact HB.out)) hb); clear BK178; clear HB; have BK178 := n0_; have HB := n1_; clear n0_ n1_; (try clear hb); (try clear hb2); (try clear hk); (try clear hi)))
        go_ret
        exact ⟨by first | rfl | (simp [errW_none, errW_some] <;> rfl) | (simp [*, errW_none, errW_some] <;> rfl), by repeat (first | (with_reducible first | exact HB.out | apply below_alloc | apply pw_below_drewN | apply below_drew1 | refine below_set ?_ GE178.out) | exact HB.out)⟩

end Go.Proofs.YtimhcpmfhebbhaaDoor.M

/-
  Layer 6, plain: whether an object may be, as the program tells it (objf.Check), said by plain functions on lists. Conditions: lengths below 2^63.
-/
namespace Go.Proofs.YtimhcpmfhebbhaaDoor.Obj
set_option maxRecDepth 100000
open Go.RowKit Go.Proofs.YtimhcpmfhebbhaaDoor.M Go.Proofs.YtimhcpmfhebbhaaDoor.Num Go.Proofs.YtimhcpmfhebbhaaDoorW.PrintWords Go.Proofs.YtimhcpmfhebbhaaDoorW.PrintLast
def named (s : ByteArray) : Prop := 0 < s.size ∧ s.size ≤ 28
instance (s : ByteArray) : Decidable (named s) := by unfold named; exact inferInstance
def relGood (code free : Int) (r : S116) : Prop :=
  named r.f2 ∧ free ≤ r.f0 ∧ r.f0 ≤ code - 4 ∧ ((r.f1 = 1 ∧ r.f3 = 0) ∨ (r.f1 = 2 ∧ -2147483648 ≤ r.f3 ∧ r.f3 ≤ 2147483647))
instance (code free : Int) (r : S116) : Decidable (relGood code free r) := by unfold relGood; exact inferInstance
def relsOk (code : Int) : Int → List S116 → Bool
  | _, [] => true
  | free, r :: rs => decide (relGood code free r) && relsOk code (r.f0 + 4) rs
def symsOk (code data : Int) (l : List S68) : Bool := l.all (symGood code data) && decide (M.distinct (symNames l) = l.length) && decide (l.length ≤ 1000)
/-- May an object be? -/
def may (code : ByteArray) (data : List Int) (syms : List S68) (rels : List S116) : Bool :=
  decide (code.size ≤ 65536) && decide (data.length ≤ 4096) && symsOk code.size data.length syms && relsOk code.size 0 rels && decide (rels.length ≤ 8000)
theorem rd_SR (l : List S116) (i : Nat) (h : i < l.length) : rd_T116 l (i : Int) = l[i] := by
  simp [rd_T116, List.getD_eq_getElem?_getD, List.getElem?_eq_getElem h]
theorem isName_f (s : ByteArray) : objf_isName.f s = some (decide (named s)) := by
  unfold objf_isName.f
  by_cases h : (s.size : Int) > 0
  · rw [if_pos h]
    congr 1
    exact decide_eq_decide.mpr ⟨fun h' => ⟨by omega, by omega⟩, fun h' => by have := h'.2; omega⟩
  · rw [if_neg h]
    congr 1
    exact (decide_eq_false (fun h' : named s => h (by have := h'.1; omega))).symm
theorem rel_l0 (l : List S116) (code : Int) (h0 : 0 ≤ code) (h1 : code ≤ 65536) (hm : l.length ≤ 9223372036854775807) : ∀ (d k i : Nat) (free : Int), l.length - i = d → i ≤ l.length → 0 ≤ free → 2 * d + 1 < k →
    objf_relocations.l0 k l code free l (l.length : Int) (i : Int) = some (relsOk code free (l.drop i) && decide (l.length ≤ 8000)) := by
  intro d
  induction d with
  | zero =>
    intro k i free hd hi hf hk
    obtain ⟨k, rfl⟩ : ∃ m, k = m + 1 := ⟨k - 1, by omega⟩
    obtain rfl : i = l.length := by omega
    simp only [objf_relocations.l0]
    rw [if_neg (by omega), List.drop_length]
    simp only [relsOk, Bool.true_and]
    congr 1
    rw [Bool.eq_iff_iff]
    simp
    omega
  | succ d ih =>
    intro k i free hd hi hf hk
    obtain ⟨k, rfl⟩ : ∃ m, k = m + 2 := ⟨k - 2, by omega⟩
    have hlt : i < l.length := by omega
    have hs := ih k (i + 1)
    have hw : wrap64 ((i : Int) + 1) = ((i + 1 : Nat) : Int) := by unfold wrap64; omega
    have hw4 : wrap64 (code - 4) = code - 4 := by unfold wrap64; omega
    simp only [objf_relocations.l0]
    rw [if_pos (by omega), if_pos (by omega), if_pos (by omega), rd_SR l i hlt, List.drop_eq_getElem_cons hlt]
    generalize l[i] = r
    obtain ⟨f0, f1, f2, f3⟩ := r
    simp only [isName_f, Option.bind_some, relsOk, relGood]
    by_cases hn : named f2
    · simp only [hn, decide_true, if_true, hw4, true_and]
      by_cases c1 : f0 < free
      · rw [if_pos c1]
        simp only [objf_relocations.j1, if_true]
        simp [show ¬ free ≤ f0 by omega]
      · rw [if_neg c1]
        by_cases c2 : f0 > code - 4
        · simp only [objf_relocations.j1, c2, decide_true, if_true]
          simp [show ¬ f0 ≤ code - 4 by omega]
        · have hw0 : wrap64 (f0 + 4) = f0 + 4 := by unfold wrap64; omega
          have hs' := hs (f0 + 4) (by omega) (by omega) (by omega) (by omega)
          simp only [objf_relocations.j1, c2, decide_false, hw, hw0, hs']
          simp only [show free ≤ f0 by omega, show f0 ≤ code - 4 by omega, true_and]
          by_cases k1 : f1 = 1
          · subst k1
            by_cases a0 : f3 = 0
            · simp [a0]
            · simp [a0]
          · by_cases k2 : f1 = 2
            · subst k2
              by_cases a1 : f3 < -2147483648
              · simp [a1, show ¬ (-2147483648 ≤ f3) by omega]
              · by_cases a2 : f3 > 2147483647
                · simp [a1, a2, show ¬ (f3 ≤ 2147483647) by omega]
                · simp [a1, a2, show (-2147483648 ≤ f3) by omega, show (f3 ≤ 2147483647) by omega]
            · simp [k1, k2]
    · simp only [hn, decide_false, objf_relocations.j1, if_true]
      simp
theorem relocations_f (l : List S116) (code : Int) (h0 : 0 ≤ code) (h1 : code ≤ 65536) (hm : l.length ≤ 9223372036854775807) (k : Nat) (hk : 2 * l.length + 1 < k) :
    objf_relocations.f k l code = some (relsOk code 0 l && decide (l.length ≤ 8000)) := by
  unfold objf_relocations.f
  have := rel_l0 l code h0 h1 hm l.length k 0 0 (by omega) (by omega) (by omega) hk
  simpa using this
theorem check_f (code : ByteArray) (data : List Int) (syms : List S68) (rels : List S116) (hm : rels.length ≤ 9223372036854775807) (k : Nat) (hk : 2 * rels.length + 1 < k) :
    objf_Check.f k code data syms rels = some (if may code data syms rels = true then 0 else 1) := by
  unfold objf_Check.f may symsOk
  by_cases c1 : (code.size : Int) > 65536
  · rw [if_pos c1]
    simp [show ¬ code.size ≤ 65536 by omega]
  rw [if_neg c1]
  by_cases c2 : (data.length : Int) > 4096
  · rw [if_pos c2]
    simp [show ¬ data.length ≤ 4096 by omega]
  rw [if_neg c2]
  unfold objf_symbols.f
  simp only [Option.bind_some, show code.size ≤ 65536 by omega, show data.length ≤ 4096 by omega, decide_true, Bool.true_and]
  by_cases c3 : (syms.all (symGood (code.size : Int) (data.length : Int)) && decide (M.distinct (symNames syms) = syms.length) && decide (syms.length ≤ 1000)) = true
  · rw [if_pos c3, relocations_f rels _ (by omega) (by omega) hm k hk]
    simp only [c3, Bool.true_and, Option.bind_some]
    cases relsOk (code.size : Int) 0 rels <;> by_cases c4 : rels.length ≤ 8000 <;> simp [c4]
  · rw [if_neg c3]
    simp [Bool.eq_false_iff.mpr c3]
end Go.Proofs.YtimhcpmfhebbhaaDoor.Obj

/-
  Plain lemmas: numbers in groups of seven bits, numbers as bytes, texts made of numbers; no program in sight. No condition.
-/
namespace Go.Proofs.YtimhcpmfhebbhaaDoor.Seven
open Go.RowKit Go.Proofs.YtimhcpmfhebbhaaDoor.Num Go.Proofs.YtimhcpmfhebbhaaDoorW.PrintWords

/-- All of them are bytes. -/
def Bs (l : List Int) : Prop := ∀ x ∈ l, 0 ≤ x ∧ x < 256

theorem Bs.nil : Bs [] := fun _ h => by cases h
theorem Bs.cons {b : Int} {l : List Int} (h0 : 0 ≤ b) (h1 : b < 256) (h : Bs l) : Bs (b :: l) := by
  intro x hx
  rcases List.mem_cons.1 hx with rfl | hx
  · exact ⟨h0, h1⟩
  · exact h x hx
theorem Bs.append {a b : List Int} (ha : Bs a) (hb : Bs b) : Bs (a ++ b) := by
  intro x hx
  rcases List.mem_append.1 hx with hx | hx
  · exact ha x hx
  · exact hb x hx
theorem Bs.left {a b : List Int} (h : Bs (a ++ b)) : Bs a := fun x hx => h x (List.mem_append_left _ hx)
theorem Bs.right {a b : List Int} (h : Bs (a ++ b)) : Bs b := fun x hx => h x (List.mem_append_right _ hx)
theorem Bs.drop {a : List Int} (h : Bs a) (n : Nat) : Bs (a.drop n) := fun x hx => h x (List.mem_of_mem_drop hx)
theorem Bs.take {a : List Int} (h : Bs a) (n : Nat) : Bs (a.take n) := fun x hx => h x (List.mem_of_mem_take hx)

theorem bytesOf_Bs (s : ByteArray) : Bs (bytesOf s) := by
  intro x hx
  obtain ⟨b, _, rfl⟩ := List.mem_map.1 hx
  have := b.toNat_lt
  omega

theorem ofNat_toNat {x : Int} (h0 : 0 ≤ x) (h1 : x < 256) : ((UInt8.ofNat x.toNat).toNat : Int) = x := by
  rw [UInt8.toNat_ofNat']
  omega

theorem bytesOf_str {l : List Int} (h : Bs l) : bytesOf (strOfNums l) = l := by
  unfold bytesOf
  rw [strOfNums_data, List.map_map]
  conv => rhs; rw [← List.map_id l]
  refine List.map_congr_left fun x hx => ?_
  exact ofNat_toNat (h x hx).1 (h x hx).2

theorem str_bytesOf (s : ByteArray) : strOfNums (bytesOf s) = s := by
  have h : (strOfNums (bytesOf s)).data.toList = s.data.toList := by
    rw [strOfNums_data, bytesOf, List.map_map]
    conv => rhs; rw [← List.map_id s.data.toList]
    refine List.map_congr_left fun x _ => ?_
    simp
  have h2 : (strOfNums (bytesOf s)).data = s.data := Array.toList_inj.1 h
  cases s
  cases hs : strOfNums (bytesOf _)
  rw [hs] at h2
  simp only at h2
  rw [h2]

theorem bytesOf_inj {s t : ByteArray} (h : bytesOf s = bytesOf t) : s = t := by
  rw [← str_bytesOf s, h, str_bytesOf]

theorem bytesOf_append (s t : ByteArray) : bytesOf (s ++ t) = bytesOf s ++ bytesOf t := by
  unfold bytesOf
  rw [ByteArray.data_append, Array.toList_append, List.map_append]

theorem str_append (a b : List Int) : strOfNums a ++ strOfNums b = strOfNums (a ++ b) := by
  have h : (strOfNums a ++ strOfNums b).data = (strOfNums (a ++ b)).data := by
    rw [ByteArray.data_append]
    simp [strOfNums]
  cases h1 : strOfNums a ++ strOfNums b
  cases h2 : strOfNums (a ++ b)
  rw [h1, h2] at h
  simp only at h
  rw [h]

theorem bt_drop (s : ByteArray) (j : Nat) (h : j < s.size) : (bytesOf s).drop j = bt s j :: (bytesOf s).drop (j + 1) := by
  have hl : j < (bytesOf s).length := by rw [bytesOf_length]; exact h
  rw [List.drop_eq_getElem_cons hl, ← rd_bytesOf]
  unfold rd
  rw [Int.toNat_natCast, List.getD_eq_getElem?_getD, List.getElem?_eq_getElem hl]
  rfl

/-! ### groups of seven bits -/
def putL (u : Nat) : List Int := if u < 128 then [(u : Int)] else ((u % 128 + 128 : Nat) : Int) :: putL (u / 128)
termination_by u
decreasing_by omega

theorem putL_small {u : Nat} (h : u < 128) : putL u = [(u : Int)] := by rw [putL, if_pos h]
theorem putL_great {u : Nat} (h : ¬ u < 128) : putL u = ((u % 128 + 128 : Nat) : Int) :: putL (u / 128) := by rw [putL, if_neg h]

theorem putL_Bs : ∀ (n u : Nat), u ≤ n → Bs (putL u) := by
  intro n
  induction n with
  | zero => intro u h; rw [putL_small (by omega)]; exact Bs.nil.cons (by omega) (by omega) |> fun h => h
  | succ n ih =>
    intro u h
    by_cases hu : u < 128
    · rw [putL_small hu]; exact Bs.nil.cons (by omega) (by omega)
    · rw [putL_great hu]; exact (ih _ (by omega)).cons (by omega) (by omega)
theorem putL_bs (u : Nat) : Bs (putL u) := putL_Bs u u (Nat.le_refl _)

theorem putL_len : ∀ (n u : Nat), u < 128 ^ n → (putL u).length ≤ n ∨ n = 0 := by
  intro n
  induction n with
  | zero => intro u _; exact .inr rfl
  | succ n ih =>
    intro u h
    left
    by_cases hu : u < 128
    · rw [putL_small hu]; simp
    · rw [putL_great hu]
      have h2 : u / 128 < 128 ^ n := by rw [Nat.div_lt_iff_lt_mul (by decide)]; rw [Nat.pow_succ] at h; exact h
      rcases ih _ h2 with h3 | h3
      · simp; exact h3
      · subst h3; simp at h; omega
theorem putL_pos (u : Nat) : 0 < (putL u).length := by
  by_cases hu : u < 128
  · rw [putL_small hu]; simp
  · rw [putL_great hu]; simp
theorem putL_ten {u : Nat} (h : u < 18446744073709551616) : (putL u).length ≤ 10 := by
  have : u < 128 ^ 10 := by omega
  rcases putL_len 10 u this with h | h
  · exact h
  · cases h

/-- Reads a number in groups of seven bits, from its group number i on: what it is worth, and how many groups. -/
def takeL : List Int → Nat → Option (Int × Nat)
  | [], _ => none
  | b :: r, i => if i > 9 ∨ (i = 9 ∧ b > 1) ∨ (i > 0 ∧ b = 0) then none else if b < 128 then some (b, 1) else (takeL r (i + 1)).map fun p => (b - 128 + 128 * p.1, p.2 + 1)

theorem takeL_putL : ∀ (n u i : Nat) (r : List Int), u ≤ n → u * 2 ^ (7 * i) < 18446744073709551616 → (i = 0 ∨ 0 < u) → takeL (putL u ++ r) i = some ((u : Int), (putL u).length) := by
  intro n
  induction n with
  | zero =>
    intro u i r h h1 h2
    have hu : u = 0 := by omega
    subst hu
    rw [putL_small (by omega)]
    simp only [List.cons_append, List.nil_append, takeL]
    rw [if_neg (by omega), if_pos (by omega)]
    rfl
  | succ n ih =>
    intro u i r h h1 h2
    have hp : 0 < 2 ^ (7 * i) := Nat.two_pow_pos _
    have hi : i ≤ 9 ∨ u = 0 := by
      by_cases hi : i ≤ 9
      · exact .inl hi
      · right
        have h70 : 2 ^ 70 ≤ 2 ^ (7 * i) := Nat.pow_le_pow_right (by decide) (by omega)
        have e70 : (2 : Nat) ^ 70 = 1180591620717411303424 := by decide
        rw [e70] at h70
        by_cases hu : u = 0
        · exact hu
        · have := Nat.mul_le_mul (show 1 ≤ u by omega) h70
          omega
    have h9 : i = 9 → u ≤ 1 := by
      intro h
      subst h
      have e63 : (2 : Nat) ^ (7 * 9) = 9223372036854775808 := by decide
      rw [e63] at h1
      omega
    by_cases hu : u < 128
    · rw [putL_small hu]
      simp only [List.cons_append, List.nil_append, takeL]
      rw [if_neg (by omega), if_pos (by omega)]
      rfl
    · rw [putL_great hu]
      simp only [List.cons_append, takeL]
      have hn9 : i ≠ 9 := by intro h; have := h9 h; omega
      rw [if_neg (by omega), if_neg (by omega)]
      have e : 2 ^ (7 * (i + 1)) = 128 * 2 ^ (7 * i) := by rw [Nat.mul_add, Nat.pow_add]; omega
      rw [ih (u / 128) (i + 1) r (by omega) (by
        rw [e]
        have := Nat.mul_le_mul_right (2 ^ (7 * i)) (show u / 128 * 128 ≤ u by omega)
        rw [Nat.mul_assoc] at this
        omega) (.inr (by omega))]
      simp only [Option.map_some, List.length_cons, Option.some.injEq, Prod.mk.injEq, and_true]
      omega

/-- What takes something takes it from the front. -/
theorem takeL_some : ∀ (l : List Int) (i : Nat) (p : Int × Nat), Bs l → takeL l i = some p → 0 < p.2 ∧ p.2 ≤ l.length ∧ 0 ≤ p.1 ∧ p.1 * 2 ^ (7 * i) < 18446744073709551616 ∧ l.take p.2 = putL p.1.toNat := by
  intro l
  induction l with
  | nil => intro i p _ h; cases h
  | cons b r ih =>
    intro i p hb h
    have hb0 := hb b (List.mem_cons_self)
    simp only [takeL] at h
    by_cases hc : i > 9 ∨ (i = 9 ∧ b > 1) ∨ (i > 0 ∧ b = 0)
    · rw [if_pos hc] at h; cases h
    · rw [if_neg hc] at h
      have hpow : (2 : Int) ^ (7 * i) ≤ 9223372036854775808 := by
        have h1 : 2 ^ (7 * i) ≤ 2 ^ 63 := Nat.pow_le_pow_right (by decide) (by omega)
        have h2 : ((2 ^ (7 * i) : Nat) : Int) = (2 : Int) ^ (7 * i) := by simp
        have h3 : (2 : Nat) ^ 63 = 9223372036854775808 := by decide
        rw [h3] at h1
        omega
      have hpos : (0 : Int) < 2 ^ (7 * i) := by
        have h1 : 0 < 2 ^ (7 * i) := Nat.two_pow_pos _
        have h2 : ((2 ^ (7 * i) : Nat) : Int) = (2 : Int) ^ (7 * i) := by simp
        omega
      have hpow8 : i ≤ 8 → (2 : Int) ^ (7 * i) ≤ 72057594037927936 := by
        intro h8
        have h1 : 2 ^ (7 * i) ≤ 2 ^ 56 := Nat.pow_le_pow_right (by decide) (by omega)
        have h2 : ((2 ^ (7 * i) : Nat) : Int) = (2 : Int) ^ (7 * i) := by simp
        have h3 : (2 : Nat) ^ 56 = 72057594037927936 := by decide
        rw [h3] at h1
        omega
      by_cases hs : b < 128
      · rw [if_pos hs] at h
        cases h
        refine ⟨by simp, by simp, hb0.1, ?_, ?_⟩
        · simp only
          by_cases h9 : i = 9
          · have hb1 : b ≤ 1 := by omega
            have := Int.mul_le_mul_of_nonneg_right hb1 (show (0 : Int) ≤ 2 ^ (7 * i) by omega)
            omega
          · have hp := hpow8 (by omega)
            have := Int.mul_le_mul_of_nonneg_right (show b ≤ 127 by omega) (show (0 : Int) ≤ 2 ^ (7 * i) by omega)
            omega
        · rw [putL_small (by omega)]
          simp
          omega
      · rw [if_neg hs] at h
        cases ht : takeL r (i + 1) with
        | none => rw [ht] at h; cases h
        | some q =>
          rw [ht] at h
          cases h
          obtain ⟨h1, h2, h3, h4, h5⟩ := ih (i + 1) q (fun x hx => hb x (List.mem_cons_of_mem _ hx)) ht
          have e : (2 : Int) ^ (7 * (i + 1)) = 128 * 2 ^ (7 * i) := by rw [Nat.mul_add, Int.pow_add]; omega
          rw [e] at h4
          have hq : 0 < q.1 := by
            cases r with
            | nil => cases ht
            | cons c r =>
              simp only [takeL] at ht
              by_cases hc2 : i + 1 > 9 ∨ (i + 1 = 9 ∧ c > 1) ∨ (i + 1 > 0 ∧ c = 0)
              · rw [if_pos hc2] at ht; cases ht
              · rw [if_neg hc2] at ht
                have hc0 := hb c (by simp)
                by_cases hs2 : c < 128
                · rw [if_pos hs2] at ht; cases ht; simp; omega
                · rw [if_neg hs2] at ht
                  cases ht2 : takeL r (i + 1 + 1) with
                  | none => rw [ht2] at ht; cases ht
                  | some z =>
                    rw [ht2] at ht
                    cases ht
                    simp only at h3 ⊢
                    by_cases hz : z.1 < 0
                    · omega
                    · have : 0 < z.1 ∨ c - 128 + 128 * z.1 ≠ 0 ∨ z.1 = 0 ∧ c = 128 := by omega
                      rcases this with g | g | ⟨g1, g2⟩
                      · omega
                      · omega
                      · exfalso
                        -- a last group of nought is none
                        have key : ∀ (r : List Int) (j : Nat) (z : Int × Nat), 0 < j → Bs r → takeL r j = some z → z.1 ≠ 0 := by
                          intro r
                          induction r with
                          | nil => intro j z _ _ h; cases h
                          | cons d r ihr =>
                            intro j z hj hbr h
                            have hd := hbr d (by simp)
                            simp only [takeL] at h
                            by_cases hcd : j > 9 ∨ (j = 9 ∧ d > 1) ∨ (j > 0 ∧ d = 0)
                            · rw [if_pos hcd] at h; cases h
                            · rw [if_neg hcd] at h
                              by_cases hsd : d < 128
                              · rw [if_pos hsd] at h; cases h; simp; omega
                              · rw [if_neg hsd] at h
                                cases hz : takeL r (j + 1) with
                                | none => rw [hz] at h; cases h
                                | some y =>
                                  rw [hz] at h
                                  cases h
                                  have := ihr (j + 1) y (by omega) (fun x hx => hbr x (List.mem_cons_of_mem _ hx)) hz
                                  simp only
                                  omega
                        exact key r (i + 1 + 1) z (by omega) (fun x hx => hb x (by simp [hx])) ht2 g1
          refine ⟨by simp, by simp; omega, by simp only; omega, ?_, ?_⟩
          · simp only
            have hi8 : i ≤ 8 := by
              by_cases h9 : i = 9
              · omega
              · omega
            have hM : (2 : Int) ^ (7 * i) * (128 * 2 ^ (57 - 7 * i)) = 18446744073709551616 := by
              have e1 : (128 : Int) = 2 ^ 7 := by decide
              rw [e1, ← Int.pow_add, ← Int.pow_add, show 7 * i + (7 + (57 - 7 * i)) = 64 by omega]
              decide
            have hM0 : (0 : Int) < 2 ^ (57 - 7 * i) := by
              have h1 : 0 < 2 ^ (57 - 7 * i) := Nat.two_pow_pos _
              have h2 : ((2 ^ (57 - 7 * i) : Nat) : Int) = (2 : Int) ^ (57 - 7 * i) := by simp
              omega
            generalize (2 : Int) ^ (7 * i) = P at *
            generalize (2 : Int) ^ (57 - 7 * i) = M at *
            have hqM : q.1 < M := by
              by_cases hc : q.1 < M
              · exact hc
              · have := Int.mul_le_mul_of_nonneg_right (show M ≤ q.1 by omega) (show (0 : Int) ≤ 128 * P by omega)
                have e2 : M * (128 * P) = P * (128 * M) := by rw [Int.mul_left_comm, Int.mul_comm M P, Int.mul_left_comm]
                omega
            have g1 := Int.mul_le_mul_of_nonneg_right (show b - 128 + 128 * q.1 ≤ 128 * M - 1 by omega) (show (0 : Int) ≤ P by omega)
            have g2 : (128 * M - 1) * P = P * (128 * M) - P := by rw [Int.sub_mul, Int.mul_comm (128 * M) P, Int.one_mul]
            omega
          · simp only [List.take_succ_cons]
            have e1 : (b - 128 + 128 * q.1).toNat / 128 = q.1.toNat := by omega
            have e2 : (((b - 128 + 128 * q.1).toNat % 128 + 128 : Nat) : Int) = b := by omega
            rw [putL_great (u := (b - 128 + 128 * q.1).toNat) (by omega), e1, e2, h5]

/-! ### numbers as bytes, the lowest first -/
def leL : Int → Nat → List Int
  | _, 0 => []
  | n, s + 1 => n % 256 :: leL (n / 256) s
def unleL : List Int → Int
  | [] => 0
  | b :: r => b + 256 * unleL r

theorem leL_len (n : Int) (s : Nat) : (leL n s).length = s := by
  induction s generalizing n with
  | zero => rfl
  | succ s ih => simp [leL, ih]
theorem leL_bs (n : Int) (s : Nat) : Bs (leL n s) := by
  induction s generalizing n with
  | zero => exact Bs.nil
  | succ s ih => exact (ih _).cons (by omega) (by omega)
theorem leL_snoc (n : Int) (s : Nat) : leL n (s + 1) = leL n s ++ [n / 256 ^ s % 256] := by
  induction s generalizing n with
  | zero => simp [leL]
  | succ s ih =>
    rw [leL, ih (n / 256), leL]
    simp only [List.cons_append, List.cons.injEq, true_and, List.append_cancel_left_eq, and_true]
    rw [Int.pow_succ', Int.ediv_ediv_of_nonneg (by decide)]
theorem pow256_pos (s : Nat) : (0 : Int) < 256 ^ s := by
  have h1 : 0 < 256 ^ s := Nat.pow_pos (by decide)
  have h2 : ((256 ^ s : Nat) : Int) = (256 : Int) ^ s := by simp
  omega
theorem unleL_leL (n : Int) (s : Nat) : unleL (leL n s) = n % 256 ^ s := by
  induction s generalizing n with
  | zero => simp [leL, unleL, Int.emod_one]
  | succ s ih =>
    simp only [leL, unleL, ih]
    have hp := pow256_pos s
    have h := Int.emod_emod_of_dvd
    rw [Int.pow_succ', Int.emod_def n (256 * 256 ^ s), Int.emod_def (n / 256) (256 ^ s), Int.ediv_ediv_of_nonneg (by decide), Int.mul_sub, ← Int.mul_assoc]
    have := Int.emod_add_mul_ediv n 256
    omega
theorem unleL_range (l : List Int) (h : Bs l) : 0 ≤ unleL l ∧ unleL l < 256 ^ l.length := by
  induction l with
  | nil => simp [unleL]
  | cons b r ih =>
    have hb := h b (by simp)
    obtain ⟨h1, h2⟩ := ih (fun x hx => h x (List.mem_cons_of_mem _ hx))
    simp only [unleL, List.length_cons, Int.pow_succ']
    omega
theorem leL_unleL (l : List Int) (h : Bs l) : leL (unleL l) l.length = l := by
  induction l with
  | nil => rfl
  | cons b r ih =>
    have hb := h b (by simp)
    simp only [unleL, List.length_cons, leL]
    rw [show (b + 256 * unleL r) % 256 = b by omega, show (b + 256 * unleL r) / 256 = unleL r by omega, ih (fun x hx => h x (List.mem_cons_of_mem _ hx))]
theorem leL_mod (n : Int) (s t : Nat) (h : s ≤ t) : leL (n % 256 ^ t) s = leL n s := by
  induction s generalizing n t with
  | zero => rfl
  | succ s ih =>
    cases t with
    | zero => omega
    | succ t =>
      have hp := pow256_pos t
      simp only [leL]
      have e1 : n % 256 ^ (t + 1) % 256 = n % 256 := by
        rw [Int.pow_succ']
        exact Int.emod_emod_of_dvd n (Int.dvd_mul_right _ _)
      have e2 : n % 256 ^ (t + 1) / 256 = n / 256 % 256 ^ t := by
        rw [Int.pow_succ']
        generalize (256 : Int) ^ t = P at *
        have h1 := Int.emod_add_mul_ediv (n / 256) P
        have h2 := Int.emod_nonneg (n / 256) (show P ≠ 0 by omega)
        have h3 := Int.emod_lt_of_pos (n / 256) hp
        have h4 : n = 256 * (n / 256 % P) + n % 256 + 256 * P * (n / 256 / P) := by rw [Int.mul_assoc]; omega
        have h5 : n % (256 * P) = 256 * (n / 256 % P) + n % 256 := by
          conv => lhs; rw [h4]
          rw [Int.add_mul_emod_self_left]
          exact Int.emod_eq_of_lt (by omega) (by omega)
        rw [h5]
        omega
      rw [e1, e2, ih _ _ (by omega)]
theorem leL_mod' (n : Int) (s : Nat) (h : s ≤ 8) : leL (n % 18446744073709551616) s = leL n s := by
  have e8 : (256 : Int) ^ 8 = 18446744073709551616 := by decide
  rw [← e8]
  exact leL_mod n s 8 h
theorem unleL_snoc (l : List Int) (b : Int) : unleL (l ++ [b]) = unleL l + b * 256 ^ l.length := by
  induction l with
  | nil => simp [unleL]
  | cons c r ih =>
    simp only [List.cons_append, unleL, ih, List.length_cons, Int.pow_succ', Int.mul_add]
    rw [Int.mul_left_comm b 256]
    omega

/-- Bytes joined by 'or' are a sum. -/
theorem or_join (u b : Int) (i : Nat) (hi : i ≤ 7) (hu : 0 ≤ u) (hu1 : u < 256 ^ i) (hb : 0 ≤ b) (hb1 : b < 256) :
    bits .or .i64 (wrap64 u) (wrap64 (b * 256 ^ i)) = wrap64 (u + b * 256 ^ i) := by
  have hp := pow256_pos i
  have hp7 : (256 : Int) ^ i ≤ 72057594037927936 := by
    have h1 : 256 ^ i ≤ 256 ^ 7 := Nat.pow_le_pow_right (by decide) hi
    have h2 : ((256 ^ i : Nat) : Int) = (256 : Int) ^ i := by simp
    have h3 : (256 : Nat) ^ 7 = 72057594037927936 := by decide
    rw [h3] at h1
    omega
  have hbp := Int.mul_le_mul_of_nonneg_right (show b ≤ 255 by omega) (show (0 : Int) ≤ 256 ^ i by omega)
  have hbp0 := Int.mul_nonneg hb (show (0 : Int) ≤ 256 ^ i by omega)
  obtain ⟨v, rfl⟩ := Int.eq_ofNat_of_zero_le hu
  obtain ⟨c, rfl⟩ := Int.eq_ofNat_of_zero_le hb
  have hwr : ∀ x : Int, 0 ≤ x → x < 18446744073709551616 → (BitVec.ofInt 64 (wrap64 x)).toNat = x.toNat := by
    intro x h0 h1
    have h := ofInt_toNat 64 (wrap64 x)
    have e : (2 : Int) ^ 64 = 18446744073709551616 := by decide
    rw [e] at h
    unfold wrap64 at *
    omega
  rw [bits_or_i64, hwr _ (by omega) (by omega), hwr _ hbp0 (by omega)]
  have e1 : ((c : Int) * 256 ^ i).toNat = 2 ^ (8 * i) * c := by
    have h2 : ((2 ^ (8 * i) * c : Nat) : Int) = (c : Int) * 256 ^ i := by
      rw [Nat.pow_mul]
      simp [Int.mul_comm]
    rw [← h2, Int.toNat_natCast]
  have h8 : (2 : Nat) ^ (8 * i) = 256 ^ i := by rw [Nat.pow_mul]
  have e2 : v < 2 ^ (8 * i) := by
    rw [h8]
    have h2 : ((256 ^ i : Nat) : Int) = (256 : Int) ^ i := by simp
    omega
  rw [e1, Int.toNat_natCast, Nat.or_comm, ← Nat.two_pow_add_eq_or_of_lt e2 c]
  congr 1
  have h2 : ((2 ^ (8 * i) * c : Nat) : Int) = (c : Int) * 256 ^ i := by
    rw [h8]
    simp [Int.mul_comm]
  omega

end Go.Proofs.YtimhcpmfhebbhaaDoor.Seven

-- Written by a program of this session (wip/ownprint.py) over the translation. Lean checks it.
namespace Go.Proofs.YtimhcpmfhebbhaaDoor.M
open Go.RowKit Go.Proofs.YtimhcpmfhebbhaaDoorW.PrintWords Go.Proofs.YtimhcpmfhebbhaaDoorW.PrintLast
set_option linter.unusedVariables false
set_option linter.unusedSimpArgs false

/-! ### word_put: function 43 -/
def word_put.l0 : Nat → List Int → Int → Option (List Int)
  | 0, _, _ => none
  | k + 1, x0, x1 => if x1 ≥ 128 then (if x0.length < 140737488355328 then (word_put.l0 k (x0 ++ [Go.bits .or .u8 ((x1) % 256) 128]) (x1 / 128)) else (none)) else (if x0.length < 140737488355328 then (some (x0 ++ [(x1) % 256])) else (none))
def word_put.f (k : Nat) (l0 : List Int) (a1 : Int) : Option (List Int) := word_put.l0 k l0 a1
set_option maxHeartbeats 8000000 in
set_option maxRecDepth 100000 in
theorem word_put.calls (k : Nat) (P0_ : Nat → Prop) (u9000_ : Value) (l0 : List Int) (a1 : Int) (r : List Int) (w0 w : World) (hB : Below w0.heap.size w0 w) (ho0 : Kd.R (Kd.int .u8) 5 w w0.heap.size P0_ u9000_ l0) (h : word_put.f k l0 a1 = some r) :
    Calls Tryd.prog 43 #[u9000_, .int .u64 a1] w fun e w' => ∃ v0_ : Value, e = .returned (v0_) ∧ Kd.R (Kd.int .u8) 5 w' w0.heap.size (fun k_ => (P0_ k_ ∨ w.heap.size ≤ k_)) v0_ r ∧ Below w0.heap.size w0 w' ∧ Kept w w' (fun k_ => P0_ k_) := by
  have HO0 := Aside0.mk (show Kd.R (Kd.int .u8) 5 w w0.heap.size (fun k_ => (P0_ k_ ∨ w.heap.size ≤ k_)) u9000_ l0 from Kd.R_mono ho0 (fun k_ hk => (.inl hk)))
  have HK := Aside0.mk (Kept.refl w (fun k_ => P0_ k_))
  have HW0 := Aside0.mk hB.size
  have HB := Aside0.mk hB
  clear hB
  have H : (word_put.l0 k l0 a1) = some r := h
  clear h
  have H' := Aside0.mk H
  clear H
  go_enter Tryd.func43, Tryd.ntmps43
  go_wp2
  go_loopg [0, 1] k (fun kq v0 v1 w' => ∃ (x0_1 : List Int) (x1_1 : Int), v1 = .int .u64 x1_1 ∧ Aside0 (word_put.l0 kq x0_1 x1_1 = some r) ∧ Aside0 (kq ≤ k) ∧ Aside0 (Kd.R (Kd.int .u8) 5 w' w0.heap.size (fun k_ => (P0_ k_ ∨ w.heap.size ≤ k_)) v0 x0_1) ∧ Aside0 (Kept w w' (fun k_ => P0_ k_)) ∧ Aside0 (Below w0.heap.size w0 w'))
  case atStart => exact ⟨(l0), (a1), (by first | rfl | (simp; done) | (simp [*]; done)), H', ⟨Nat.le_refl _⟩, ⟨by (with_reducible repeat (first | apply Kd.R_alloc | apply Kd.R_drewN | apply Kd.R_drew)); exact HO0.out⟩, ⟨by repeat (first | (with_reducible first | exact HK.out | apply Kept.alloc | apply Kept.drewN | apply Kept.drew) | exact HK.out)⟩, ⟨by repeat (first | (with_reducible first | exact HB.out | apply below_alloc | apply pw_below_drewN | apply below_drew1) | exact HB.out)⟩⟩
  case round =>
    clear H'
    try clear p2
    obtain ⟨x0_1, x1_1, rfl, HA, HK1, HO_0, HK, HB⟩ := hrel
    cases gk with
    | zero => exact absurd HA.out (by simp [word_put.l0])
    | succ k1 =>
      have H := HA.out
      clear HA
      simp only [word_put.l0] at H
      by_cases c3 : x1_1 ≥ 128
      · rw [if_pos c3] at H
        have c3b0 : decide (128 ≤ x1_1) = true := decide_eq_true c3
        clear c3
        by_cases c4 : x0_1.length < 140737488355328
        · rw [if_pos c4] at H
          have LMc4 := Aside0.mk c4
          clear c4
          obtain ⟨y252, hy252⟩ : ∃ y_ : List Int, y_ = (x0_1 ++ [Go.bits .or .u8 ((x1_1) % 256) 128]) := ⟨_, rfl⟩
          replace H : (word_put.l0 k1 y252 (x1_1 / 128)) = some r := by first | (rw [hy252]; with_reducible exact H) | (have H2_ := (Option.bind_some _ _).symm.trans H; rw [hy252]; with_reducible exact H2_) | (have H2_ := (Option.bind_some _ _).symm.trans H; with_reducible exact H2_) | with_reducible exact H | (rw [hy252]; exact H) | exact H
          have Ny252 := Aside0.mk hy252
          clear hy252
          have H' := Aside0.mk H
          clear H
          go_wp2_with (first | ((with_reducible refine gate_builtin (b := .append) (xs := #[.tmp 9, .tmp 13]) rfl ?_); at_builtin; refine Kd.R_append (Kd.int .u8) (w0 := w0) w0.heap.size rfl (.tmp 9) (.tmp 13) 60 5 (.int .u8 0) 1 rfl Tryd.underlying60 info5 rfl (by decide) (by omega) u0 x0_1 (Go.bits .or .u8 ((x1_1) % 256) 128) [.int .u8 (Go.bits .or .u8 ((x1_1) % 256) 128)] (fun k_ => (P0_ k_ ∨ w.heap.size ≤ k_)) (fun _ => False) rfl rfl ?aP (fun _ hk => hk.elim) ?aF ?aO ?aB ?aS ?aL ?_; (case aP => exact rfl); (case aB => exact (by repeat (first | (with_reducible first | exact HB.out | apply below_alloc | apply pw_below_drewN | apply below_drew1) | exact HB.out))); (case aF => exact (fun k_ hk => (.inr (Nat.le_trans (by first | exact HK.out.1 | exact (show Kept w _ (fun k_ => P0_ k_) from by repeat (first | (with_reducible first | exact HK.out | apply Kept.alloc | apply Kept.drewN | apply Kept.drew) | exact HK.out)).1) hk)))); (case aO => exact (by (with_reducible repeat (first | apply Kd.R_alloc | apply Kd.R_drewN | apply Kd.R_drew)); exact HO_0.out)); (case aS => exact (below_size (by repeat (first | (with_reducible first | exact HB.out | apply below_alloc | apply pw_below_drewN | apply below_drew1) | exact HB.out)))); (case aL => have := LMc4.out; omega); intro v253 w5 ho hb hg hat; rw [← Ny252.out] at ho; have n0_ := Aside0.mk (hb); have n1_ := Aside0.mk (Kept.of_grown (S := (fun k_ => P0_ k_)) hg (by repeat (first | (with_reducible first | exact HK.out | apply Kept.alloc | apply Kept.drewN | apply Kept.drew) | exact HK.out)) (fun k_ e_ => (HO_0.out.1 k_ e_))); have n2_ := Aside0.mk (ho); clear HB; clear HK; clear HO_0; have HB := n0_; have HK := n1_; have HO254 := n2_; clear n0_ n1_ n2_; clear ho hb hg hat))
          go_roundg k1
          case measure => have := HK1.out; omega
          case rel => exact ⟨(y252), (x1_1 / 128), (by first | rfl | (simp; done) | (simp [*]; done)), H', ⟨by have := HK1.out; omega⟩, ⟨by (with_reducible repeat (first | apply Kd.R_alloc | apply Kd.R_drewN | apply Kd.R_drew)); exact HO254.out⟩, ⟨by repeat (first | (with_reducible first | exact HK.out | apply Kept.alloc | apply Kept.drewN | apply Kept.drew) | exact HK.out)⟩, ⟨by repeat (first | (with_reducible first | exact HB.out | apply below_alloc | apply pw_below_drewN | apply below_drew1) | exact HB.out)⟩⟩
        · rw [if_neg c4] at H
          exact absurd H (by simp)
      · rw [if_neg c3] at H
        have c3b0 : decide (128 ≤ x1_1) = false := decide_eq_false c3
        clear c3
        by_cases c6 : x0_1.length < 140737488355328
        · rw [if_pos c6] at H
          have LMc6 := Aside0.mk c6
          clear c6
          obtain ⟨y255, hy255⟩ : ∃ y_ : List Int, y_ = (x0_1 ++ [(x1_1) % 256]) := ⟨_, rfl⟩
          replace H : (some y255) = some r := by first | (rw [hy255]; with_reducible exact H) | (have H2_ := (Option.bind_some _ _).symm.trans H; rw [hy255]; with_reducible exact H2_) | (have H2_ := (Option.bind_some _ _).symm.trans H; with_reducible exact H2_) | with_reducible exact H | (rw [hy255]; exact H) | exact H
          have Ny255 := Aside0.mk hy255
          clear hy255
          obtain rfl := Option.some.inj H
          go_wp2_with (first | ((with_reducible refine gate_builtin (b := .append) (xs := #[.tmp 15, .tmp 18]) rfl ?_); at_builtin; refine Kd.R_append (Kd.int .u8) (w0 := w0) w0.heap.size rfl (.tmp 15) (.tmp 18) 60 5 (.int .u8 0) 1 rfl Tryd.underlying60 info5 rfl (by decide) (by omega) u0 x0_1 ((x1_1) % 256) [.int .u8 ((x1_1) % 256)] (fun k_ => (P0_ k_ ∨ w.heap.size ≤ k_)) (fun _ => False) rfl rfl ?aP (fun _ hk => hk.elim) ?aF ?aO ?aB ?aS ?aL ?_; (case aP => exact rfl); (case aB => exact (by repeat (first | (with_reducible first | exact HB.out | apply below_alloc | apply pw_below_drewN | apply below_drew1) | exact HB.out))); (case aF => exact (fun k_ hk => (.inr (Nat.le_trans (by first | exact HK.out.1 | exact (show Kept w _ (fun k_ => P0_ k_) from by repeat (first | (with_reducible first | exact HK.out | apply Kept.alloc | apply Kept.drewN | apply Kept.drew) | exact HK.out)).1) hk)))); (case aO => exact (by (with_reducible repeat (first | apply Kd.R_alloc | apply Kd.R_drewN | apply Kd.R_drew)); exact HO_0.out)); (case aS => exact (below_size (by repeat (first | (with_reducible first | exact HB.out | apply below_alloc | apply pw_below_drewN | apply below_drew1) | exact HB.out)))); (case aL => have := LMc6.out; omega); intro v256 w7 ho hb hg hat; rw [← Ny255.out] at ho; have n0_ := Aside0.mk (hb); have n1_ := Aside0.mk (Kept.of_grown (S := (fun k_ => P0_ k_)) hg (by repeat (first | (with_reducible first | exact HK.out | apply Kept.alloc | apply Kept.drewN | apply Kept.drew) | exact HK.out)) (fun k_ e_ => (HO_0.out.1 k_ e_))); have n2_ := Aside0.mk (ho); clear HB; clear HK; clear HO_0; have HB := n0_; have HK := n1_; have HO257 := n2_; clear n0_ n1_ n2_; clear ho hb hg hat))
          go_ret
          exact ⟨_, by first | rfl | (simp [errW_none, errW_some] <;> rfl) | (simp [*, errW_none, errW_some] <;> rfl), by (with_reducible repeat (first | apply Kd.R_alloc | apply Kd.R_drewN | apply Kd.R_drew)); exact HO257.out, by repeat (first | (with_reducible first | exact HB.out | apply below_alloc | apply pw_below_drewN | apply below_drew1) | exact HB.out), by repeat (first | (with_reducible first | exact HK.out | apply Kept.alloc | apply Kept.drewN | apply Kept.drew) | exact HK.out)⟩
        · rw [if_neg c6] at H
          exact absurd H (by simp)

/-! ### word_Put: function 23 -/
def word_Put.f (k : Nat) (a0 : Int) : Option (ByteArray) := (word_put.f k ([] : List Int) a0).bind fun t258 => (some (strOfNums t258))
set_option maxHeartbeats 8000000 in
set_option maxRecDepth 100000 in
theorem word_Put.calls (k : Nat) (a0 : Int) (r : ByteArray) (w : World) (h : word_Put.f k a0 = some r) :
    Calls Tryd.prog 23 #[.int .u64 a0] w fun e w' => e = .returned (.string r) ∧ Below w.heap.size w w' := by
  have HB := Aside0.mk (Below.refl w.heap.size w)
  have H : ((word_put.f k ([] : List Int) a0).bind fun t258 => (some (strOfNums t258))) = some r := h
  clear h
  replace H := Option.bind_eq_some_iff.mp H
  obtain ⟨t258, A20, H⟩ := H
  replace H : (some (strOfNums t258)) = some r := H
  have A2 := Aside0.mk A20
  clear A20
  obtain rfl := Option.some.inj H
  go_enter Tryd.func23, Tryd.ntmps23
  go_wp2_with (first | ((with_reducible refine gate_callee (f := 43) rfl ?_); refine goesL_ (some 4) rfl rfl Tryd.func43 (by kernel_rfl) rfl #[.slice none 0 0, .int .u64 a0] rfl (by (try simp only [List.map_toArray, List.map_cons, List.map_nil]); first | done | rfl | (simp only [List.length_drop, List.length_take]; rfl)) ?_; (refine (word_put.calls k (fun k_ => some k_ = (.slice none 0 0 : Value).ownBlock) (.slice none 0 0) ([] : List Int) a0 t258 w _ ?side1 ?side2 A2.out).mono ?_); (case side1 => repeat (first | (with_reducible first | exact HB.out | apply below_alloc | apply pw_below_drewN | apply below_drew1) | exact HB.out)); (case side2 => exact Kd.R_nil _ _ _ _ _); rintro e w3 ⟨v259, rfl, ho0, hb, hkp⟩; refine ⟨_, rfl, ?_⟩; have n0_ := Aside0.mk (Kd.R_mono (ok' := fun k_ => True) ho0 (fun k_ hk_ => trivial)); have n1_ := Aside0.mk (hb); clear HB; have HO260 := n0_; have HB := n1_; clear n0_ n1_; (try clear hb); (try clear hkp); (try clear ho0); have hcv4 := own_string (P := Tryd.prog) Tryd.underlying60 Tryd.underlying5 Tryd.underlying9 (Kd.own_of_R HO260.out)))
  go_ret
  exact ⟨by first | rfl | (simp [errW_none, errW_some] <;> rfl) | (simp [*, errW_none, errW_some] <;> rfl), by repeat (first | (with_reducible first | exact HB.out | apply below_alloc | apply pw_below_drewN | apply below_drew1) | exact HB.out)⟩

/-! ### word_Bytes: function 26 -/
mutual
def word_Bytes.j0 : Nat → Int → Int → Option (ByteArray × Int)
  | 0, _, _ => none
  | k + 1, x0, x1 => if 0 ≤ x1 then (if (x1 : Int).toNat ≤ 281474976710656 then ((some (List.replicate (x1 : Int).toNat 0 : List Int)).bind fun y261 => (word_Bytes.l0 k x0 y261 (y261.length : Int) 0)) else (none)) else (none)
def word_Bytes.l0 : Nat → Int → List Int → Int → Int → Option (ByteArray × Int)
  | 0, _, _, _, _ => none
  | k + 1, x0, x6, x28, x29 => if x29 < x28 then (if 0 ≤ (wrap64 (8 * x29)) then (if 0 ≤ x29 then (if x29 < (x6.length : Int) then (word_Bytes.l0 k x0 (x6.set (x29 : Int).toNat ((shr .i64 x0 (wrap64 (8 * x29))) % 256)) x28 (wrap64 (x29 + 1))) else (none)) else (none)) else (none)) else (some (strOfNums x6, 0))
end
def word_Bytes.f (k : Nat) (a0 : Int) (a1 : Int) : Option (ByteArray × Int) := if a1 = 1 then (if a0 = (wrap64 (IntKind.i8.wrap (a0))) then (word_Bytes.j0 k a0 a1) else (some ((⟨#[]⟩ : ByteArray), 7))) else (if a1 = 4 then (if a0 = (wrap64 (wrap32 (a0))) then (word_Bytes.j0 k a0 a1) else (some ((⟨#[]⟩ : ByteArray), 7))) else (if a1 = 8 then (word_Bytes.j0 k a0 a1) else (some ((⟨#[]⟩ : ByteArray), 1))))
set_option maxHeartbeats 8000000 in
set_option maxRecDepth 100000 in
theorem word_Bytes.calls (k : Nat) (a0 : Int) (a1 : Int) (r1 : ByteArray) (r2 : Int) (w : World) (h : word_Bytes.f k a0 a1 = some (r1, r2)) :
    Calls Tryd.prog 26 #[.int .i64 a0, .int .i64 a1] w fun e w' => e = .returned (.tuple #[.string r1, .int .i64 r2]) ∧ Below w.heap.size w w' := by
  have HB := Aside0.mk (Below.refl w.heap.size w)
  have H : (if a1 = 1 then (if a0 = (wrap64 (IntKind.i8.wrap (a0))) then (word_Bytes.j0 k a0 a1) else (some ((⟨#[]⟩ : ByteArray), 7))) else (if a1 = 4 then (if a0 = (wrap64 (wrap32 (a0))) then (word_Bytes.j0 k a0 a1) else (some ((⟨#[]⟩ : ByteArray), 7))) else (if a1 = 8 then (word_Bytes.j0 k a0 a1) else (some ((⟨#[]⟩ : ByteArray), 1))))) = some (r1, r2) := h
  clear h
  have HC3 := Aside0.mk H
  clear H
  go_enter Tryd.func26, Tryd.ntmps26
  go_upto_block 0 with (fail)
  go_cut [] (fun wc => ∃ (kq : Nat), Aside0 (word_Bytes.j0 kq a0 a1 = some (r1, r2)) ∧ Aside0 (kq ≤ k) ∧ Aside0 (Below w.heap.size w wc))
  case first =>
    have H := HC3.out
    clear HC3
    by_cases c4 : a1 = 1
    · rw [if_pos c4] at H
      have c4b0 : (a1 == 1) = true := beq_iff_eq.mpr c4
      have c4b1 : (a1 != 1) = false := bne_eq_false_iff_eq.mpr c4
      clear c4
      (first | rw [c4b0] | (simp only [i64_w, i32_w]; rw [c4b0]) | skip)
      by_cases c5 : a0 = (wrap64 (IntKind.i8.wrap (a0)))
      · rw [if_pos c5] at H
        have c5b0 : (a0 == (wrap64 (IntKind.i8.wrap (a0)))) = true := beq_iff_eq.mpr c5
        have c5b1 : (a0 != (wrap64 (IntKind.i8.wrap (a0)))) = false := bne_eq_false_iff_eq.mpr c5
        clear c5
        have H' := Aside0.mk H
        clear H
        go_wp2
        go_meet
        case rel => exact ⟨_, H', ⟨by first | omega | exact Nat.le_refl _⟩, ⟨by repeat (first | (with_reducible first | exact HB.out | apply below_alloc | apply pw_below_drewN | apply below_drew1) | exact HB.out)⟩⟩
      · rw [if_neg c5] at H
        have c5b0 : (a0 == (wrap64 (IntKind.i8.wrap (a0)))) = false := beq_eq_false_iff_ne.mpr c5
        have c5b1 : (a0 != (wrap64 (IntKind.i8.wrap (a0)))) = true := bne_iff_ne.mpr c5
        simp only [Option.some.injEq, Prod.mk.injEq] at H
        obtain ⟨rfl, rfl⟩ := H
        go_wp2
        go_ret2
        exact ⟨by first | rfl | (simp [errW_none, errW_some] <;> rfl) | (simp [*, errW_none, errW_some] <;> rfl), by repeat (first | (with_reducible first | exact HB.out | apply below_alloc | apply pw_below_drewN | apply below_drew1) | exact HB.out)⟩
    · rw [if_neg c4] at H
      have c4b0 : (a1 == 1) = false := beq_eq_false_iff_ne.mpr c4
      have c4b1 : (a1 != 1) = true := bne_iff_ne.mpr c4
      (first | rw [c4b0] | (simp only [i64_w, i32_w]; rw [c4b0]) | skip)
      by_cases c6 : a1 = 4
      · rw [if_pos c6] at H
        have c6b0 : (a1 == 4) = true := beq_iff_eq.mpr c6
        have c6b1 : (a1 != 4) = false := bne_eq_false_iff_eq.mpr c6
        clear c6
        by_cases c7 : a0 = (wrap64 (wrap32 (a0)))
        · rw [if_pos c7] at H
          have c7b0 : (a0 == (wrap64 (wrap32 (a0)))) = true := beq_iff_eq.mpr c7
          have c7b1 : (a0 != (wrap64 (wrap32 (a0)))) = false := bne_eq_false_iff_eq.mpr c7
          clear c7
          have H' := Aside0.mk H
          clear H
          go_wp2
          go_meet
          case rel => exact ⟨_, H', ⟨by first | omega | exact Nat.le_refl _⟩, ⟨by repeat (first | (with_reducible first | exact HB.out | apply below_alloc | apply pw_below_drewN | apply below_drew1) | exact HB.out)⟩⟩
        · rw [if_neg c7] at H
          have c7b0 : (a0 == (wrap64 (wrap32 (a0)))) = false := beq_eq_false_iff_ne.mpr c7
          have c7b1 : (a0 != (wrap64 (wrap32 (a0)))) = true := bne_iff_ne.mpr c7
          simp only [Option.some.injEq, Prod.mk.injEq] at H
          obtain ⟨rfl, rfl⟩ := H
          go_wp2
          go_ret2
          exact ⟨by first | rfl | (simp [errW_none, errW_some] <;> rfl) | (simp [*, errW_none, errW_some] <;> rfl), by repeat (first | (with_reducible first | exact HB.out | apply below_alloc | apply pw_below_drewN | apply below_drew1) | exact HB.out)⟩
      · rw [if_neg c6] at H
        have c6b0 : (a1 == 4) = false := beq_eq_false_iff_ne.mpr c6
        have c6b1 : (a1 != 4) = true := bne_iff_ne.mpr c6
        by_cases c8 : a1 = 8
        · rw [if_pos c8] at H
          have c8b0 : (a1 == 8) = true := beq_iff_eq.mpr c8
          have c8b1 : (a1 != 8) = false := bne_eq_false_iff_eq.mpr c8
          clear c8
          have H' := Aside0.mk H
          clear H
          go_wp2
          go_meet
          case rel => exact ⟨_, H', ⟨by first | omega | exact Nat.le_refl _⟩, ⟨by repeat (first | (with_reducible first | exact HB.out | apply below_alloc | apply pw_below_drewN | apply below_drew1) | exact HB.out)⟩⟩
        · rw [if_neg c8] at H
          have c8b0 : (a1 == 8) = false := beq_eq_false_iff_ne.mpr c8
          have c8b1 : (a1 != 8) = true := bne_iff_ne.mpr c8
          simp only [Option.some.injEq, Prod.mk.injEq] at H
          obtain ⟨rfl, rfl⟩ := H
          go_wp2
          go_ret2
          exact ⟨by first | rfl | (simp [errW_none, errW_some] <;> rfl) | (simp [*, errW_none, errW_some] <;> rfl), by repeat (first | (with_reducible first | exact HB.out | apply below_alloc | apply pw_below_drewN | apply below_drew1) | exact HB.out)⟩
  case rest =>
    clear HC3
    try clear c2
    try clear p2
    try clear p3
    try clear c4
    try clear c4b0
    try clear c4b1
    try clear c5
    try clear c5b0
    try clear c5b1
    try clear c6
    try clear c6b0
    try clear c6b1
    try clear p6
    try clear c7
    try clear c7b0
    try clear c7b1
    try clear c8
    try clear c8b0
    try clear c8b1
    obtain ⟨kq, HA, HJ2, HB⟩ := hcut
    cases kq with
    | zero => exact absurd HA.out (by simp [word_Bytes.j0])
    | succ kj2 =>
      have H := HA.out
      clear HA
      simp only [word_Bytes.j0] at H
      by_cases c9 : 0 ≤ a1
      · rw [if_pos c9] at H
        have c9b0 := eq_true c9
        have c9b1 : decide (0 ≤ a1) = true := decide_eq_true c9
        clear c9
        by_cases c10 : (a1 : Int).toNat ≤ 281474976710656
        · rw [if_pos c10] at H
          have c10b0 := eq_true c10
          have c10b1 : decide ((a1 : Int).toNat ≤ 281474976710656) = true := decide_eq_true c10
          clear c10
          obtain ⟨y261, hy261⟩ : ∃ y_ : List Int, y_ = (List.replicate (a1 : Int).toNat 0) := ⟨_, rfl⟩
          replace H : (word_Bytes.l0 kj2 a0 y261 (y261.length : Int) 0) = some (r1, r2) := by first | (rw [hy261]; with_reducible exact H) | (have H2_ := (Option.bind_some _ _).symm.trans H; rw [hy261]; with_reducible exact H2_) | (have H2_ := (Option.bind_some _ _).symm.trans H; with_reducible exact H2_) | with_reducible exact H | (rw [hy261]; exact H) | exact H
          have Ny261 := Aside0.mk hy261
          clear hy261
          have H' := Aside0.mk H
          clear H
          go_wp2_with (first | ((with_reducible refine gate_dst (N := 26) rfl ?_); refine Kd.R_make (Kd.int .u8) _ 5 rfl (N := 26) rfl 60 _ _ rfl a1 rfl rfl Tryd.underlying60 (.int .u8 0) 1 info5 rfl (by decide) (by omega) 0 (ok := fun _ => True) (okp := fun _ => True) rfl (fun _ hk => hk) trivial (of_decide_eq_true (by first | (with_reducible assumption) | assumption)) (Nat.le_trans (Nat.mul_le_mul_right _ (of_decide_eq_true (by first | (with_reducible assumption) | assumption) : a1.toNat ≤ 281474976710656)) (by omega)) (Below.refl _ _) (Nat.le_refl _) ?_; intro v262 w11 ho12 hb hg_ hnew_; clear hg_ hnew_; (first | rw [← Ny261.out] at ho12 | (simp only [Int.reduceToNat] at ho12; rw [← Ny261.out] at ho12)); have n0_ := Aside0.mk (Kd.R_lower ho12 (below_size (by repeat (first | (with_reducible first | exact HB.out | apply below_alloc | apply pw_below_drewN | apply below_drew1) | exact HB.out)))); have n1_ := Aside0.mk (below_step (by repeat (first | (with_reducible first | exact HB.out | apply below_alloc | apply pw_below_drewN | apply below_drew1) | exact HB.out)) hb); clear HB; have HO263 := n0_; have HB := n1_; clear n0_ n1_; clear hb ho12; obtain ⟨Ao13, co13, eo13⟩ := Kd.R_slice HO263.out; subst eo13))
          go_loopg [29] kj2 (fun kq v29 w' => ∃ (x6_2 : List Int) (x29_2 : Int), v29 = .int .i64 x29_2 ∧ Aside0 (word_Bytes.l0 kq a0 x6_2 (y261.length : Int) x29_2 = some (r1, r2)) ∧ Aside0 (kq ≤ kj2) ∧ Aside0 (Kd.R (Kd.int .u8) 5 w' w.heap.size (fun _ => True) (.slice Ao13 y261.length co13) x6_2) ∧ Aside0 (Below w.heap.size w w'))
          case atStart => exact ⟨(y261), (0), (by first | rfl | (simp; done) | (simp [*]; done)), H', ⟨Nat.le_refl _⟩, ⟨by (with_reducible repeat (first | apply Kd.R_alloc | apply Kd.R_drewN | apply Kd.R_drew)); exact HO263.out⟩, ⟨by repeat (first | (with_reducible first | exact HB.out | apply below_alloc | apply pw_below_drewN | apply below_drew1) | exact HB.out)⟩⟩
          case round =>
            clear H'
            try clear c1
            try clear c2
            try clear p2
            try clear p3
            try clear c4
            try clear c4b0
            try clear c4b1
            try clear c5
            try clear c5b0
            try clear c5b1
            try clear c6
            try clear c6b0
            try clear c6b1
            try clear p6
            try clear c7
            try clear c7b0
            try clear c7b1
            try clear c8
            try clear c8b0
            try clear c8b1
            try clear c9
            try clear c9b0
            try clear c9b1
            try clear c10
            try clear c10b0
            try clear c10b1
            try clear p2
            try clear p3
            try clear p6
            obtain ⟨x6_2, x29_2, rfl, HA, HK2, HO_6, HB⟩ := hrel
            have hl6_2 := (Kd.R_reads' HO_6.out).1
            rw [hl6_2] at HO_6
            (try simp only [hl6_2])
            cases gk with
            | zero => exact absurd HA.out (by simp [word_Bytes.l0])
            | succ k2 =>
              have H := HA.out
              clear HA
              simp only [word_Bytes.l0] at H
              by_cases c14 : x29_2 < (y261.length : Int)
              · rw [if_pos c14] at H
                have c14b0 : decide (x29_2 < (y261.length : Int)) = true := decide_eq_true c14
                (try simp only [hl6_2] at c14b0)
                clear c14
                obtain ⟨ji15, hji15⟩ : ∃ j_ : Int, (wrap64 (8 * x29_2)) = j_ := ⟨_, rfl⟩
                replace H : (if 0 ≤ (ji15) then (if 0 ≤ x29_2 then (if x29_2 < (x6_2.length : Int) then (word_Bytes.l0 k2 a0 (x6_2.set (x29_2 : Int).toNat ((shr .i64 a0 (ji15)) % 256)) (y261.length : Int) (wrap64 (x29_2 + 1))) else (none)) else (none)) else (none)) = some (r1, r2) := by first | (rw [hji15] at H; exact H) | (simp only [hji15] at H ⊢; exact H)
                have hji15w : (IntKind.i64.wrap (8 * x29_2)) = ji15 := (i64_w _).trans hji15
                by_cases c16 : 0 ≤ (ji15)
                · rw [if_pos c16] at H
                  have c16b0 := eq_true c16
                  have c16b1 : decide (0 ≤ (ji15)) = true := decide_eq_true c16
                  clear c16
                  obtain ⟨ji17, hji17⟩ : ∃ j_ : Int, (shr .i64 a0 (ji15)) = j_ := ⟨_, rfl⟩
                  replace H : (if 0 ≤ x29_2 then (if x29_2 < (x6_2.length : Int) then (word_Bytes.l0 k2 a0 (x6_2.set (x29_2 : Int).toNat ((ji17) % 256)) (y261.length : Int) (wrap64 (x29_2 + 1))) else (none)) else (none)) = some (r1, r2) := by first | (rw [hji17] at H; exact H) | (simp only [hji17] at H ⊢; exact H)
                  have hji17_ : (a0 / 2 ^ min (ji15).toNat 64) = ji17 := hji17
                  have hji17z : (ji15) ≤ 64 → (a0 / 2 ^ (ji15).toNat) = ji17 := shr_small hji17
                  by_cases c18 : 0 ≤ x29_2
                  · rw [if_pos c18] at H
                    have c18b0 : decide (0 ≤ x29_2) = true := decide_eq_true c18
                    clear c18
                    by_cases c19 : x29_2 < (x6_2.length : Int)
                    · rw [if_pos c19] at H
                      have c19b0 : decide (x29_2 < (x6_2.length : Int)) = true := decide_eq_true c19
                      (try simp only [hl6_2] at c19b0)
                      clear c19
                      obtain ⟨y264, hy264⟩ : ∃ y_ : List Int, y_ = (x6_2.set (x29_2 : Int).toNat ((ji17) % 256)) := ⟨_, rfl⟩
                      replace H : (word_Bytes.l0 k2 a0 y264 (y261.length : Int) (wrap64 (x29_2 + 1))) = some (r1, r2) := by first | (rw [hy264]; with_reducible exact H) | (have H2_ := (Option.bind_some _ _).symm.trans H; rw [hy264]; with_reducible exact H2_) | (have H2_ := (Option.bind_some _ _).symm.trans H; with_reducible exact H2_) | with_reducible exact H | (rw [hy264]; exact H) | exact H
                      have Ny264 := Aside0.mk hy264
                      clear hy264
                      have H' := Aside0.mk H
                      clear H
                      have p20 : 0 ≤ (x29_2 : Int) := of_decide_eq_true (by first | (with_reducible assumption) | assumption)
                      have q20 : (x29_2 : Int) < ((x6_2.length : Int) : Int) := of_decide_eq_true (by first | (with_reducible assumption) | assumption)
                      obtain ⟨go20, co20, eo20, gb20, gl20, cl20, HG20⟩ := Kd.R_form HO_6.out (by omega)
                      (first | cases eo20 | (injection eo20 with ea_ en_ ec_; (first | subst ea_ | (injection ea_ with ea_; subst ea_)); subst ec_; clear en_))
                      have GB20 := Aside0.mk gb20
                      have GG20 := Aside0.mk HG20
                      clear gb20 gl20 HG20
                      obtain ⟨hx20_0, hf20_0⟩ := Kd.R_celln 0 HO_6.out (x29_2 : Int) p20 q20
                      replace p20 := eq_true p20
                      replace q20 := eq_true q20
                      have HP21 := Kd.R_putg HO_6.out (x29_2 : Int) ((ji17) % 256)
                      go_wp2_with (first | ((with_reducible refine gate_store (t := 5) (p := 39) rfl ?_); refine store_event (t := 5) (p := 39) (v := ?vo_w22) (w1 := (wr.setCell ⟨go20, (x29_2 : Int).toNat, none⟩ (.int .u8 ((ji17) % 256)))) ?hg ?ho ?hn ?hr ?_; (case ho => rfl); (case hg => rfl); (case hn => rfl); (case hr => first | (go_simp; done) | (go_simp; rfl)); intro w22 hw; have hg : wr.grownBy w22 (some go20) := (by rw [hw]; exact HP21.2); have hp_ : Kd.R (Kd.int .u8) 5 w22 w.heap.size (fun _ => True) (.slice (some ⟨go20, 0, none⟩) x6_2.length co13) y264 := (by rw [hw, Ny264.out]; exact HP21.1); clear HP21; have n0_ := Aside0.mk (hp_); have n1_ := Aside0.mk ((by rw [hw]; exact below_set (HB.out) GB20.out : Below w.heap.size w w22)); clear HO_6; clear HB; have HO_6 := n0_; have HB := n1_; clear n0_ n1_; clear hg hw hp_))
                      (try simp only [← hl6_2])
                      go_roundg k2
                      case measure => have := HJ2.out; have := HK2.out; omega
                      case rel => exact ⟨(y264), (wrap64 (x29_2 + 1)), (by first | rfl | (simp; done) | (simp [*]; done)), H', ⟨by have := HJ2.out; have := HK2.out; omega⟩, ⟨by (try simp only [hl6_2]); (with_reducible repeat (first | apply Kd.R_alloc | apply Kd.R_drewN | apply Kd.R_drew)); exact HO_6.out⟩, ⟨by repeat (first | (with_reducible first | exact HB.out | apply below_alloc | apply pw_below_drewN | apply below_drew1) | exact HB.out)⟩⟩
                    · rw [if_neg c19] at H
                      exact absurd H (by simp)
                  · rw [if_neg c18] at H
                    exact absurd H (by simp)
                · rw [if_neg c16] at H
                  exact absurd H (by simp)
              · rw [if_neg c14] at H
                have c14b0 : decide (x29_2 < (y261.length : Int)) = false := decide_eq_false c14
                (try simp only [hl6_2] at c14b0)
                clear c14
                simp only [Option.some.injEq, Prod.mk.injEq] at H
                obtain ⟨rfl, rfl⟩ := H
                have hcv23 := own_string (P := Tryd.prog) Tryd.underlying60 Tryd.underlying5 Tryd.underlying9 (Kd.own_of_R HO_6.out)
                go_wp2
                go_ret2
                exact ⟨by first | rfl | (simp [errW_none, errW_some] <;> rfl) | (simp [*, errW_none, errW_some] <;> rfl), by repeat (first | (with_reducible first | exact HB.out | apply below_alloc | apply pw_below_drewN | apply below_drew1) | exact HB.out)⟩
        · rw [if_neg c10] at H
          exact absurd H (by simp)
      · rw [if_neg c9] at H
        exact absurd H (by simp)

end Go.Proofs.YtimhcpmfhebbhaaDoor.M

-- Written by a program of this session (wip/ownprint.py) over the translation. Lean checks it.
namespace Go.Proofs.YtimhcpmfhebbhaaDoor.M
open Go.RowKit Go.Proofs.YtimhcpmfhebbhaaDoorW.PrintWords Go.Proofs.YtimhcpmfhebbhaaDoorW.PrintLast
set_option linter.unusedVariables false
set_option linter.unusedSimpArgs false

/-! ### word_Take: function 78 -/
mutual
def word_Take.j0 : Nat → ByteArray → Int → Bool → Option (Int × Int × Int)
  | 0, _, _, _ => none
  | k + 1, x0, x1, x17 => if x17 = true then (some (0, 0, 1)) else (word_Take.l0 k x0 x1 0 0)
def word_Take.l0 : Nat → ByteArray → Int → Int → Int → Option (Int × Int × Int)
  | 0, _, _, _, _ => none
  | k + 1, x0, x1, x7, x8 => if (wrap64 (x1 + x8)) < (x0.size : Int) then (if 0 ≤ (wrap64 (x1 + x8)) then (if x8 > 9 then (word_Take.j2 k x0 x1 x7 x8 (bt x0 (wrap64 (x1 + x8))) true) else (if x8 = 9 then (if (bt x0 (wrap64 (x1 + x8))) > 1 then (word_Take.j2 k x0 x1 x7 x8 (bt x0 (wrap64 (x1 + x8))) true) else (if x8 > 0 then (word_Take.j2 k x0 x1 x7 x8 (bt x0 (wrap64 (x1 + x8))) ((bt x0 (wrap64 (x1 + x8))) == 0)) else (word_Take.j2 k x0 x1 x7 x8 (bt x0 (wrap64 (x1 + x8))) false))) else (if x8 > 0 then (word_Take.j2 k x0 x1 x7 x8 (bt x0 (wrap64 (x1 + x8))) ((bt x0 (wrap64 (x1 + x8))) == 0)) else (word_Take.j2 k x0 x1 x7 x8 (bt x0 (wrap64 (x1 + x8))) false)))) else (none)) else (some (0, 0, 9))
def word_Take.j2 : Nat → ByteArray → Int → Int → Int → Int → Bool → Option (Int × Int × Int)
  | 0, _, _, _, _, _, _ => none
  | k + 1, x0, x1, x7, x8, x9, x48 => if x48 = true then (some (0, 0, 9)) else (if 0 ≤ (wrap64 (7 * x8)) then (if x9 < 128 then (some (Go.bits .or .u64 x7 (shl .u64 (IntKind.u64.wrap (Go.bits .and .u8 x9 127)) (wrap64 (7 * x8))), wrap64 ((wrap64 (x1 + x8)) + 1), 0)) else (word_Take.l0 k x0 x1 (Go.bits .or .u64 x7 (shl .u64 (IntKind.u64.wrap (Go.bits .and .u8 x9 127)) (wrap64 (7 * x8)))) (wrap64 (x8 + 1)))) else (none))
end
def word_Take.f (k : Nat) (a0 : ByteArray) (a1 : Int) : Option (Int × Int × Int) := if a1 < 0 then (word_Take.j0 k a0 a1 true) else (word_Take.j0 k a0 a1 (decide (a1 > (a0.size : Int))))
set_option maxHeartbeats 8000000 in
set_option maxRecDepth 100000 in
theorem word_Take.calls (k : Nat) (a0 : ByteArray) (a1 : Int) (r1 : Int) (r2 : Int) (r3 : Int) (w : World) (h : word_Take.f k a0 a1 = some (r1, r2, r3)) :
    Calls Tryd.prog 78 #[.string a0, .int .i64 a1] w fun e w' => e = .returned (.tuple #[.int .u64 r1, .int .i64 r2, .int .i64 r3]) ∧ Drawn0 w w' := by
  have H : (if a1 < 0 then (word_Take.j0 k a0 a1 true) else (word_Take.j0 k a0 a1 (decide (a1 > (a0.size : Int))))) = some (r1, r2, r3) := h
  clear h
  have HC3 := Aside0.mk H
  clear H
  go_enter Tryd.func78, Tryd.ntmps78
  go_upto_region 1 with (fail)
  go_cut [17] (fun v17 wc => ∃ (kq : Nat) (x17_2 : Bool), v17 = .bool x17_2 ∧ Aside0 (word_Take.j0 kq a0 a1 x17_2 = some (r1, r2, r3)) ∧ Aside0 (kq ≤ k) ∧ Drawn0 w wc)
  case first =>
    have H := HC3.out
    clear HC3
    by_cases c4 : a1 < 0
    · rw [if_pos c4] at H
      have c4b0 : decide (a1 < 0) = true := decide_eq_true c4
      clear c4
      (first | rw [c4b0] | (simp only [i64_w, i32_w]; rw [c4b0]) | skip)
      have H' := Aside0.mk H
      clear H
      go_wp2
      go_meet
      case rel => exact ⟨_, (true), (by first | rfl | (simp; done) | (simp [*]; done)), H', ⟨by first | omega | exact Nat.le_refl _⟩, by repeat (first | exact Drawn0.refl _ | apply Drawn0.step)⟩
    · rw [if_neg c4] at H
      have c4b0 : decide (a1 < 0) = false := decide_eq_false c4
      clear c4
      (first | rw [c4b0] | (simp only [i64_w, i32_w]; rw [c4b0]) | skip)
      have H' := Aside0.mk H
      clear H
      go_wp2
      go_meet
      case rel => exact ⟨_, (decide (a1 > (a0.size : Int))), (by first | rfl | (simp; done) | (simp [*]; done)), H', ⟨by first | omega | exact Nat.le_refl _⟩, by repeat (first | exact Drawn0.refl _ | apply Drawn0.step)⟩
  case rest =>
    clear HC3
    try clear p2
    try clear c4
    try clear c4b0
    obtain ⟨kq, x17_2, rfl, HA, HJ2, ⟨mc2, rfl⟩⟩ := hcut
    cases kq with
    | zero => exact absurd HA.out (by simp [word_Take.j0])
    | succ kj2 =>
      have H := HA.out
      clear HA
      simp only [word_Take.j0] at H
      by_cases c5 : x17_2 = true
      · subst c5
        have H1 : (some (0, 0, 1)) = some (r1, r2, r3) := by rw [if_pos rfl] at H; exact H
        clear H
        have H := H1
        clear H1
        simp only [Option.some.injEq, Prod.mk.injEq] at H
        obtain ⟨rfl, rfl, rfl⟩ := H
        go_wp2
        go_ret3
        exact ⟨by first | rfl | (simp; done) | (simp [*]; done), by repeat (first | exact Drawn0.refl _ | apply Drawn0.step)⟩
      · replace c5 := Bool.eq_false_iff.mpr c5
        subst c5
        have H1 : (word_Take.l0 kj2 a0 a1 0 0) = some (r1, r2, r3) := by rw [if_neg (show ¬ (false = true) by decide)] at H; exact H
        clear H
        have H := H1
        clear H1
        have H' := Aside0.mk H
        clear H
        go_wp2
        go_loopg [7, 8] kj2 (fun kq v7 v8 w' => ∃ (x7_2 : Int) (x8_2 : Int), v7 = .int .u64 x7_2 ∧ v8 = .int .i64 x8_2 ∧ Aside0 (word_Take.l0 kq a0 a1 x7_2 x8_2 = some (r1, r2, r3)) ∧ Aside0 (kq ≤ kj2) ∧ Drawn0 w w')
        case atStart => exact ⟨(0), (0), (by first | rfl | (simp; done) | (simp [*]; done)), (by first | rfl | (simp; done) | (simp [*]; done)), H', ⟨Nat.le_refl _⟩, by repeat (first | exact Drawn0.refl _ | apply Drawn0.step)⟩
        case round =>
          clear H'
          try clear c2
          try clear p2
          try clear c4
          try clear c4b0
          try clear c5
          try clear p2
          obtain ⟨x7_2, x8_2, rfl, rfl, HA, HK2, ⟨m2, rfl⟩⟩ := hrel
          cases gk with
          | zero => exact absurd HA.out (by simp [word_Take.l0])
          | succ k2 =>
            have H := HA.out
            clear HA
            simp only [word_Take.l0] at H
            by_cases c6 : (wrap64 (a1 + x8_2)) < (a0.size : Int)
            · rw [if_pos c6] at H
              have c6b0 : decide ((wrap64 (a1 + x8_2)) < (a0.size : Int)) = true := decide_eq_true c6
              clear c6
              obtain ⟨ji7, hji7⟩ : ∃ j_ : Int, (wrap64 (a1 + x8_2)) = j_ := ⟨_, rfl⟩
              replace H : (if 0 ≤ (ji7) then (if x8_2 > 9 then (word_Take.j2 k2 a0 a1 x7_2 x8_2 (bt a0 (ji7)) true) else (if x8_2 = 9 then (if (bt a0 (ji7)) > 1 then (word_Take.j2 k2 a0 a1 x7_2 x8_2 (bt a0 (ji7)) true) else (if x8_2 > 0 then (word_Take.j2 k2 a0 a1 x7_2 x8_2 (bt a0 (ji7)) ((bt a0 (ji7)) == 0)) else (word_Take.j2 k2 a0 a1 x7_2 x8_2 (bt a0 (ji7)) false))) else (if x8_2 > 0 then (word_Take.j2 k2 a0 a1 x7_2 x8_2 (bt a0 (ji7)) ((bt a0 (ji7)) == 0)) else (word_Take.j2 k2 a0 a1 x7_2 x8_2 (bt a0 (ji7)) false)))) else (none)) = some (r1, r2, r3) := by first | (rw [hji7] at H; exact H) | (simp only [hji7] at H ⊢; exact H)
              (try rw [hji7] at c6b0)
              have hji7w : (IntKind.i64.wrap (a1 + x8_2)) = ji7 := (i64_w _).trans hji7
              by_cases c8 : 0 ≤ (ji7)
              · rw [if_pos c8] at H
                have c8b0 : decide (0 ≤ (ji7)) = true := decide_eq_true c8
                clear c8
                have HC10 := Aside0.mk H
                clear H
                have p9 : 0 ≤ ((ji7) : Int) := of_decide_eq_true (by first | (with_reducible assumption) | assumption)
                have q9 : (ji7) < (a0.size : Int) := of_decide_eq_true (by first | (with_reducible assumption) | assumption)
                have hx9 := bt_at a0 (ji7)
                replace p9 := eq_true p9
                replace q9 := eq_true q9
                go_upto_region 8 with (fail)
                go_cut [48] (fun v48 wc => ∃ (kq : Nat) (x48_9 : Bool), v48 = .bool x48_9 ∧ Aside0 (word_Take.j2 kq a0 a1 x7_2 x8_2 (bt a0 (ji7)) x48_9 = some (r1, r2, r3)) ∧ Aside0 (kq ≤ k2) ∧ Drawn0 w wc)
                case first =>
                  have H := HC10.out
                  clear HC10
                  by_cases c11 : x8_2 > 9
                  · rw [if_pos c11] at H
                    have c11b0 : decide (9 < x8_2) = true := decide_eq_true c11
                    clear c11
                    (first | rw [c11b0] | (simp only [i64_w, i32_w]; rw [c11b0]) | skip)
                    have H' := Aside0.mk H
                    clear H
                    go_wp2
                    go_meet
                    case rel => exact ⟨_, (true), (by first | rfl | (simp; done) | (simp [*]; done)), H', ⟨by have := HJ2.out; have := HK2.out; first | omega | exact Nat.le_refl _⟩, by repeat (first | exact Drawn0.refl _ | apply Drawn0.step)⟩
                  · rw [if_neg c11] at H
                    have c11b0 : decide (9 < x8_2) = false := decide_eq_false c11
                    clear c11
                    (first | rw [c11b0] | (simp only [i64_w, i32_w]; rw [c11b0]) | skip)
                    by_cases c12 : x8_2 = 9
                    · rw [if_pos c12] at H
                      have c12b0 : (x8_2 == 9) = true := beq_iff_eq.mpr c12
                      have c12b1 : (x8_2 != 9) = false := bne_eq_false_iff_eq.mpr c12
                      clear c12
                      by_cases c13 : (bt a0 (ji7)) > 1
                      · rw [if_pos c13] at H
                        have c13b0 : decide (1 < (bt a0 (ji7))) = true := decide_eq_true c13
                        clear c13
                        have H' := Aside0.mk H
                        clear H
                        go_wp2
                        go_meet
                        case rel => exact ⟨_, (true), (by first | rfl | (simp; done) | (simp [*]; done)), H', ⟨by have := HJ2.out; have := HK2.out; first | omega | exact Nat.le_refl _⟩, by repeat (first | exact Drawn0.refl _ | apply Drawn0.step)⟩
                      · rw [if_neg c13] at H
                        have c13b0 : decide (1 < (bt a0 (ji7))) = false := decide_eq_false c13
                        clear c13
                        by_cases c14 : x8_2 > 0
                        · rw [if_pos c14] at H
                          have c14b0 : decide (0 < x8_2) = true := decide_eq_true c14
                          clear c14
                          have H' := Aside0.mk H
                          clear H
                          go_wp2
                          go_meet
                          case rel => exact ⟨_, (((bt a0 (ji7)) == 0)), (by first | rfl | (simp; done) | (simp only [← hji7] <;> (first | rfl | simp)) | (simp [*]; done)), H', ⟨by have := HJ2.out; have := HK2.out; first | omega | exact Nat.le_refl _⟩, by repeat (first | exact Drawn0.refl _ | apply Drawn0.step)⟩
                        · rw [if_neg c14] at H
                          have c14b0 : decide (0 < x8_2) = false := decide_eq_false c14
                          clear c14
                          have H' := Aside0.mk H
                          clear H
                          go_wp2
                          go_meet
                          case rel => exact ⟨_, (false), (by first | rfl | (simp; done) | (simp [*]; done)), H', ⟨by have := HJ2.out; have := HK2.out; first | omega | exact Nat.le_refl _⟩, by repeat (first | exact Drawn0.refl _ | apply Drawn0.step)⟩
                    · rw [if_neg c12] at H
                      have c12b0 : (x8_2 == 9) = false := beq_eq_false_iff_ne.mpr c12
                      have c12b1 : (x8_2 != 9) = true := bne_iff_ne.mpr c12
                      by_cases c15 : x8_2 > 0
                      · rw [if_pos c15] at H
                        have c15b0 : decide (0 < x8_2) = true := decide_eq_true c15
                        clear c15
                        have H' := Aside0.mk H
                        clear H
                        go_wp2
                        go_meet
                        case rel => exact ⟨_, (((bt a0 (ji7)) == 0)), (by first | rfl | (simp; done) | (simp only [← hji7] <;> (first | rfl | simp)) | (simp [*]; done)), H', ⟨by have := HJ2.out; have := HK2.out; first | omega | exact Nat.le_refl _⟩, by repeat (first | exact Drawn0.refl _ | apply Drawn0.step)⟩
                      · rw [if_neg c15] at H
                        have c15b0 : decide (0 < x8_2) = false := decide_eq_false c15
                        clear c15
                        have H' := Aside0.mk H
                        clear H
                        go_wp2
                        go_meet
                        case rel => exact ⟨_, (false), (by first | rfl | (simp; done) | (simp [*]; done)), H', ⟨by have := HJ2.out; have := HK2.out; first | omega | exact Nat.le_refl _⟩, by repeat (first | exact Drawn0.refl _ | apply Drawn0.step)⟩
                case rest =>
                  clear HC10
                  try clear c1
                  try clear c2
                  try clear p2
                  try clear c4
                  try clear c4b0
                  try clear c5
                  try clear c6
                  try clear c6b0
                  try clear p6
                  try clear c7
                  try clear c8
                  try clear c8b0
                  try clear p9
                  try clear q9
                  try clear hx9
                  try clear c11
                  try clear c11b0
                  try clear c12
                  try clear c12b0
                  try clear c12b1
                  try clear c13
                  try clear c13b0
                  try clear c14
                  try clear c14b0
                  try clear c15
                  try clear c15b0
                  try clear p2
                  try clear p9
                  try clear q9
                  obtain ⟨kq, x48_9, rfl, HA, HJ9, ⟨mc9, rfl⟩⟩ := hcut
                  cases kq with
                  | zero => exact absurd HA.out (by simp [word_Take.j2])
                  | succ kj9 =>
                    have H := HA.out
                    clear HA
                    simp only [word_Take.j2] at H
                    by_cases c16 : x48_9 = true
                    · subst c16
                      have H1 : (some (0, 0, 9)) = some (r1, r2, r3) := by rw [if_pos rfl] at H; exact H
                      clear H
                      have H := H1
                      clear H1
                      simp only [Option.some.injEq, Prod.mk.injEq] at H
                      obtain ⟨rfl, rfl, rfl⟩ := H
                      go_wp2
                      go_ret3
                      exact ⟨by first | rfl | (simp; done) | (simp only [← hji7] <;> (first | rfl | simp)) | (simp [*]; done), by repeat (first | exact Drawn0.refl _ | apply Drawn0.step)⟩
                    · replace c16 := Bool.eq_false_iff.mpr c16
                      subst c16
                      have H1 : (if 0 ≤ (wrap64 (7 * x8_2)) then (if (bt a0 (ji7)) < 128 then (some (Go.bits .or .u64 x7_2 (shl .u64 (IntKind.u64.wrap (Go.bits .and .u8 (bt a0 (ji7)) 127)) (wrap64 (7 * x8_2))), wrap64 ((wrap64 (a1 + x8_2)) + 1), 0)) else (word_Take.l0 kj9 a0 a1 (Go.bits .or .u64 x7_2 (shl .u64 (IntKind.u64.wrap (Go.bits .and .u8 (bt a0 (ji7)) 127)) (wrap64 (7 * x8_2)))) (wrap64 (x8_2 + 1)))) else (none)) = some (r1, r2, r3) := by rw [if_neg (show ¬ (false = true) by decide)] at H; exact H
                      clear H
                      have H := H1
                      clear H1
                      obtain ⟨ji17, hji17⟩ : ∃ j_ : Int, (wrap64 (7 * x8_2)) = j_ := ⟨_, rfl⟩
                      replace H : (if 0 ≤ (ji17) then (if (bt a0 (ji7)) < 128 then (some (Go.bits .or .u64 x7_2 (shl .u64 (IntKind.u64.wrap (Go.bits .and .u8 (bt a0 (ji7)) 127)) (ji17)), wrap64 ((wrap64 (a1 + x8_2)) + 1), 0)) else (word_Take.l0 kj9 a0 a1 (Go.bits .or .u64 x7_2 (shl .u64 (IntKind.u64.wrap (Go.bits .and .u8 (bt a0 (ji7)) 127)) (ji17))) (wrap64 (x8_2 + 1)))) else (none)) = some (r1, r2, r3) := by first | (rw [hji17] at H; exact H) | (simp only [hji17] at H ⊢; exact H)
                      have hji17w : (IntKind.i64.wrap (7 * x8_2)) = ji17 := (i64_w _).trans hji17
                      by_cases c18 : 0 ≤ (ji17)
                      · rw [if_pos c18] at H
                        have c18b0 := eq_true c18
                        have c18b1 : decide (0 ≤ (ji17)) = true := decide_eq_true c18
                        clear c18
                        obtain ⟨ji19, hji19⟩ : ∃ j_ : Int, (shl .u64 (IntKind.u64.wrap (Go.bits .and .u8 (bt a0 (ji7)) 127)) (ji17)) = j_ := ⟨_, rfl⟩
                        replace H : (if (bt a0 (ji7)) < 128 then (some (Go.bits .or .u64 x7_2 (ji19), wrap64 ((wrap64 (a1 + x8_2)) + 1), 0)) else (word_Take.l0 kj9 a0 a1 (Go.bits .or .u64 x7_2 (ji19)) (wrap64 (x8_2 + 1)))) = some (r1, r2, r3) := by first | (rw [hji19] at H; exact H) | (simp only [hji19] at H ⊢; exact H)
                        have hji19_ : (IntKind.u64.wrap ((IntKind.u64.wrap (Go.bits .and .u8 (bt a0 (ji7)) 127)) * 2 ^ min (ji17).toNat 64)) = ji19 := hji19
                        have hji19z : (ji17) ≤ 64 → (IntKind.u64.wrap ((IntKind.u64.wrap (Go.bits .and .u8 (bt a0 (ji7)) 127)) * 2 ^ (ji17).toNat)) = ji19 := shl_small hji19
                        by_cases c20 : (bt a0 (ji7)) < 128
                        · rw [if_pos c20] at H
                          have c20b0 : decide ((bt a0 (ji7)) < 128) = true := decide_eq_true c20
                          clear c20
                          simp only [Option.some.injEq, Prod.mk.injEq] at H
                          obtain ⟨rfl, rfl, rfl⟩ := H
                          go_wp2
                          go_ret3
                          exact ⟨by first | rfl | (simp; done) | (simp only [← hji7, ← hji17, ← hji19] <;> (first | rfl | simp)) | (simp [*]; done), by repeat (first | exact Drawn0.refl _ | apply Drawn0.step)⟩
                        · rw [if_neg c20] at H
                          have c20b0 : decide ((bt a0 (ji7)) < 128) = false := decide_eq_false c20
                          clear c20
                          have H' := Aside0.mk H
                          clear H
                          go_wp2
                          go_roundg kj9
                          case measure => have := HJ2.out; have := HK2.out; have := HJ9.out; omega
                          case rel => exact ⟨(Go.bits .or .u64 x7_2 (ji19)), (wrap64 (x8_2 + 1)), (by first | rfl | (simp; done) | (simp only [← hji19] <;> (first | rfl | simp)) | (simp [*]; done)), (by first | rfl | (simp; done) | (simp [*]; done)), H', ⟨by have := HJ2.out; have := HK2.out; have := HJ9.out; omega⟩, by repeat (first | exact Drawn0.refl _ | apply Drawn0.step)⟩
                      · rw [if_neg c18] at H
                        exact absurd H (by simp)
              · rw [if_neg c8] at H
                exact absurd H (by simp)
            · rw [if_neg c6] at H
              have c6b0 : decide ((wrap64 (a1 + x8_2)) < (a0.size : Int)) = false := decide_eq_false c6
              clear c6
              simp only [Option.some.injEq, Prod.mk.injEq] at H
              obtain ⟨rfl, rfl, rfl⟩ := H
              go_wp2
              go_ret3
              exact ⟨by first | rfl | (simp; done) | (simp [*]; done), by repeat (first | exact Drawn0.refl _ | apply Drawn0.step)⟩

/-! ### cotterref06_wide: function 49 -/
/-! ### cotterref01_Put: function 72 -/
end Go.Proofs.YtimhcpmfhebbhaaDoor.M

/-
  What word.put, Put, All and Take answer, said by plain functions on lists of bytes. Conditions: numbers of 64 bits without a sign; lists small enough.
-/
namespace Go.Proofs.YtimhcpmfhebbhaaDoor.Word1
open Go.RowKit Go.Proofs.YtimhcpmfhebbhaaDoor.M Go.Proofs.YtimhcpmfhebbhaaDoor.Num Go.Proofs.YtimhcpmfhebbhaaDoor.Seven Go.Proofs.YtimhcpmfhebbhaaDoorW.PrintWords Go.Proofs.YtimhcpmfhebbhaaDoorW.PrintLast

theorem or128 (v : Nat) : bits .or .u8 ((v : Int) % 256) 128 = ((v % 128 + 128 : Nat) : Int) := by
  have key : ∀ w : Fin 256, bits .or .u8 (w.val : Int) 128 = ((w.val % 128 + 128 : Nat) : Int) := by decide +kernel
  have h := key ⟨v % 256, Nat.mod_lt _ (by decide)⟩
  simp only at h
  have e : (((v % 256 : Nat)) : Int) = (v : Int) % 256 := by omega
  rw [e] at h
  rw [h]
  congr 1
  omega

theorem put_l0 : ∀ (n k u : Nat) (x : List Int), u < 128 ^ (n + 1) → x.length + n < 140737488355328 → n < k → word_put.l0 k x u = some (x ++ putL u) := by
  intro n
  induction n with
  | zero =>
    intro k u x hu hx hk
    obtain ⟨k, rfl⟩ : ∃ m, k = m + 1 := ⟨k - 1, by omega⟩
    simp only [word_put.l0]
    rw [if_neg (by omega), if_pos (by omega), putL_small (by omega)]
    congr 3
    omega
  | succ n ih =>
    intro k u x hu hx hk
    obtain ⟨k, rfl⟩ : ∃ m, k = m + 1 := ⟨k - 1, by omega⟩
    simp only [word_put.l0]
    by_cases h : u < 128
    · rw [if_neg (by omega), if_pos (by omega), putL_small h]
      congr 3
      omega
    · rw [if_pos (by omega), if_pos (by omega)]
      have h2 : u / 128 < 128 ^ (n + 1) := by rw [Nat.div_lt_iff_lt_mul (by decide)]; rw [Nat.pow_succ] at hu; exact hu
      have e : (u : Int) / 128 = ((u / 128 : Nat) : Int) := by omega
      rw [e, ih k (u / 128) _ h2 (by simp; omega) (by omega), putL_great h, or128]
      simp

theorem put_f {k u : Nat} {x : List Int} (hu : u < 18446744073709551616) (hx : x.length + 9 < 140737488355328) (hk : 9 < k) : word_put.f k x u = some (x ++ putL u) := by
  unfold word_put.f
  exact put_l0 9 k u x (by omega) hx hk

theorem Put_f {k u : Nat} (hu : u < 18446744073709551616) (hk : 9 < k) : word_Put.f k u = some (strOfNums (putL u)) := by
  unfold word_Put.f
  rw [put_f hu (by simp) hk]
  rfl

def Us (l : List Int) : Prop := ∀ x ∈ l, 0 ≤ x ∧ x < 18446744073709551616
theorem Us.drop {l : List Int} (h : Us l) (n : Nat) : Us (l.drop n) := fun x hx => h x (List.mem_of_mem_drop hx)

/-- What Take answers: by the bytes from the place on. -/
def takeR (s : ByteArray) (at_ : Int) : Int × Int × Int :=
  if at_ < 0 ∨ at_ > s.size then (0, 0, 1) else match takeL ((bytesOf s).drop at_.toNat) 0 with
  | none => (0, 0, 9)
  | some (v, n) => (v, at_ + n, 0)

theorem and127 (b : Int) (h0 : 0 ≤ b) (h1 : b < 256) : IntKind.u64.wrap (bits .and .u8 b 127) = b % 128 := by
  have h := bits_mask .u8 8 (by decide) wraps_u8 7 (by decide) b h0 (by omega)
  have e : (2 : Int) ^ 7 - 1 = 127 := by decide
  have e2 : (2 : Int) ^ 7 = 128 := by decide
  rw [e, e2] at h
  rw [h, wrap_u64]
  omega

theorem p2 (n : Nat) : (0 : Int) < 2 ^ n := by
  have h2 : ((2 ^ n : Nat) : Int) = (2 : Int) ^ n := by simp
  have h3 := Nat.two_pow_pos n
  omega
theorem e64 : (2 : Int) ^ 64 = 18446744073709551616 := by decide

theorem shl_u64_small (x y : Int) (i : Nat) (hy : y = 7 * i) (hi : i ≤ 9) (h0 : 0 ≤ x) (h1 : x * 2 ^ (7 * i) < 18446744073709551616) : shl .u64 x y = x * 2 ^ (7 * i) := by
  subst hy
  unfold shl
  have e : (7 * (i : Int)).toNat = 7 * i := by omega
  have hm : min (7 * i) IntKind.u64.bits = 7 * i := Nat.min_eq_left (by have : IntKind.u64.bits = 64 := rfl; omega)
  rw [e, hm, wrap_u64]
  have hp : (0 : Int) ≤ 2 ^ (7 * i) := Int.le_of_lt (p2 _)
  have := Int.mul_nonneg h0 hp
  omega

theorem or_u64 (u c : Int) (i : Nat) (hu : 0 ≤ u) (hu1 : u < 2 ^ (7 * i)) (hc : 0 ≤ c) (hc1 : c * 2 ^ (7 * i) < 18446744073709551616) (hs : u + c * 2 ^ (7 * i) < 18446744073709551616) :
    bits .or .u64 u (c * 2 ^ (7 * i)) = u + c * 2 ^ (7 * i) := by
  have hp : (0 : Int) ≤ 2 ^ (7 * i) := Int.le_of_lt (p2 _)
  have hm := Int.mul_nonneg hc hp
  rw [bits_or_comm]
  have h := bits_join .u64 64 (by decide) (fun n h0 h1 => wrap_u64_id h0 (by rw [e64] at h1; exact h1)) (7 * i) (c * 2 ^ (7 * i)) u hm (Int.mul_emod_left _ _) (by rw [e64]; exact hc1) hu hu1 (by rw [e64]; omega)
  rw [h]
  omega

theorem take_fits {b : Int} {i : Nat} {u : Int} (h0 : 0 ≤ b) (h1 : b < 256) (hi : i ≤ 9) (h9 : i = 9 → b ≤ 1) (hu : 0 ≤ u) (hu1 : u < 2 ^ (7 * i)) :
    b % 128 * 2 ^ (7 * i) < 18446744073709551616 ∧ u + b % 128 * 2 ^ (7 * i) < 18446744073709551616 ∧ (i ≤ 8 → u + b % 128 * 2 ^ (7 * i) < 2 ^ (7 * (i + 1))) ∧ 0 ≤ u + b % 128 * 2 ^ (7 * i) := by
  have hp : (0 : Int) < 2 ^ (7 * i) := by
    have h2 : ((2 ^ (7 * i) : Nat) : Int) = (2 : Int) ^ (7 * i) := by simp
    have h3 := Nat.two_pow_pos (7 * i)
    omega
  have e : (2 : Int) ^ (7 * (i + 1)) = 128 * 2 ^ (7 * i) := by rw [Nat.mul_add, Int.pow_add]; omega
  have hm := Int.mul_nonneg (show 0 ≤ b % 128 by omega) (Int.le_of_lt hp)
  have g := Int.mul_le_mul_of_nonneg_right (show b % 128 ≤ 127 by omega) (Int.le_of_lt hp)
  by_cases hi9 : i = 9
  · subst hi9
    have e63 : (2 : Int) ^ (7 * 9) = 9223372036854775808 := by decide
    have := h9 rfl
    rw [e63] at *
    refine ⟨by omega, by omega, fun h => by omega, by omega⟩
  · have hp8 : (2 : Int) ^ (7 * i) ≤ 72057594037927936 := by
      have h1 : 2 ^ (7 * i) ≤ 2 ^ 56 := Nat.pow_le_pow_right (by decide) (by omega)
      have h2 : ((2 ^ (7 * i) : Nat) : Int) = (2 : Int) ^ (7 * i) := by simp
      have h3 : (2 : Nat) ^ 56 = 72057594037927936 := by decide
      rw [h3] at h1
      omega
    rw [e]
    generalize (2 : Int) ^ (7 * i) = P at *
    generalize b % 128 * P = m at *
    refine ⟨by omega, by omega, fun _ => by omega, by omega⟩

/-- What a loop over the groups comes to, from the group number i on, with u so far. -/
def restR (s : ByteArray) (at_ i : Nat) (u : Int) : Int × Int × Int :=
  match takeL ((bytesOf s).drop (at_ + i)) i with
  | none => (0, 0, 9)
  | some (v, n) => (u + v * 2 ^ (7 * i), ((at_ + i + n : Nat) : Int), 0)

theorem restR_end {s : ByteArray} {at_ i : Nat} {u : Int} (h : ¬ at_ + i < s.size) : restR s at_ i u = (0, 0, 9) := by
  unfold restR
  rw [List.drop_eq_nil_of_le (by rw [bytesOf_length]; omega)]
  rfl
theorem restR_bad {s : ByteArray} {at_ i : Nat} {u : Int} (hlt : at_ + i < s.size) (h : i > 9 ∨ (i = 9 ∧ bt s (at_ + i : Nat) > 1) ∨ (i > 0 ∧ bt s (at_ + i : Nat) = 0)) : restR s at_ i u = (0, 0, 9) := by
  unfold restR
  rw [bt_drop s _ hlt]
  simp only [takeL]
  rw [if_pos h]
theorem restR_last {s : ByteArray} {at_ i : Nat} {u : Int} (hlt : at_ + i < s.size) (h : ¬ (i > 9 ∨ (i = 9 ∧ bt s (at_ + i : Nat) > 1) ∨ (i > 0 ∧ bt s (at_ + i : Nat) = 0))) (hb : bt s (at_ + i : Nat) < 128) :
    restR s at_ i u = (u + bt s (at_ + i : Nat) * 2 ^ (7 * i), ((at_ + i + 1 : Nat) : Int), 0) := by
  unfold restR
  rw [bt_drop s _ hlt]
  simp only [takeL]
  rw [if_neg h, if_pos hb]
theorem restR_step {s : ByteArray} {at_ i : Nat} {u : Int} (hlt : at_ + i < s.size) (h : ¬ (i > 9 ∨ (i = 9 ∧ bt s (at_ + i : Nat) > 1) ∨ (i > 0 ∧ bt s (at_ + i : Nat) = 0))) (hb : ¬ bt s (at_ + i : Nat) < 128) :
    restR s at_ i u = restR s at_ (i + 1) (u + (bt s (at_ + i : Nat) - 128) * 2 ^ (7 * i)) := by
  unfold restR
  rw [bt_drop s _ hlt]
  simp only [takeL]
  rw [if_neg h, if_neg hb, show at_ + (i + 1) = at_ + i + 1 by omega]
  cases takeL ((bytesOf s).drop (at_ + i + 1)) (i + 1) with
  | none => rfl
  | some p =>
    simp only [Option.map_some]
    have e : (2 : Int) ^ (7 * (i + 1)) = 128 * 2 ^ (7 * i) := by rw [Nat.mul_add, Int.pow_add]; omega
    rw [e, Int.add_mul, Int.add_assoc, Int.mul_assoc 128, Int.mul_left_comm 128 p.1, show at_ + i + (p.2 + 1) = at_ + i + 1 + p.2 by omega]

theorem take_l0 (s : ByteArray) (at_ : Nat) (hs : s.size ≤ 281474976710656) (hat : at_ ≤ s.size) : ∀ (d k i : Nat) (u : Int), 10 - i = d → i ≤ 10 → 0 ≤ u → (i ≤ 9 → u < 2 ^ (7 * i)) → 2 * d + 2 < k →
    word_Take.l0 k s at_ u i = some (restR s at_ i u) := by
  intro d
  induction d with
  | zero =>
    intro k i u hd hi hu hu1 hk
    obtain ⟨k, rfl⟩ : ∃ m, k = m + 2 := ⟨k - 2, by omega⟩
    obtain rfl : i = 10 := by omega
    simp only [word_Take.l0]
    rw [wrap64_id (by omega) (by omega)]
    by_cases hlt : at_ + 10 < s.size
    · rw [if_pos (by omega), if_pos (by omega), if_pos (by omega), restR_bad hlt (.inl (by omega))]
      simp [word_Take.j2]
    · rw [if_neg (by omega), restR_end hlt]
  | succ d ih =>
    intro k i u hd hi hu hu1 hk
    obtain ⟨k, rfl⟩ : ∃ m, k = m + 2 := ⟨k - 2, by omega⟩
    simp only [word_Take.l0]
    have ew : wrap64 ((at_ : Int) + i) = ((at_ + i : Nat) : Int) := by rw [wrap64_id (by omega) (by omega)]; omega
    rw [ew]
    by_cases hlt : at_ + i < s.size
    · rw [if_pos (by omega), if_pos (by omega), if_neg (by omega)]
      have hbr := bt_range s (at_ + i : Nat)
      have hb7 : wrap64 (7 * (i : Int)) = 7 * i := wrap64_id (by omega) (by omega)
      have hu9 := hu1 (by omega)
      -- the one form in which all ways meet
      have good : ∀ (c : Bool), (c = true ↔ (i = 9 ∧ bt s (at_ + i : Nat) > 1) ∨ (i > 0 ∧ bt s (at_ + i : Nat) = 0)) → word_Take.j2 (k + 1) s at_ u i (bt s (at_ + i : Nat)) c = some (restR s at_ i u) := by
        intro c hc
        simp only [word_Take.j2, hb7]
        by_cases hbad : c = true
        · rw [if_pos hbad, restR_bad hlt (.inr (hc.1 hbad))]
        · have hno : ¬ (i > 9 ∨ (i = 9 ∧ bt s (at_ + i : Nat) > 1) ∨ (i > 0 ∧ bt s (at_ + i : Nat) = 0)) := by
            intro h
            rcases h with h | h
            · omega
            · exact hbad (hc.2 h)
          obtain ⟨f1, f2, f3, f4⟩ := take_fits (b := bt s (at_ + i : Nat)) (i := i) (u := u) (by omega) (by omega) (by omega) (by intro h; omega) hu hu9
          rw [if_neg hbad, if_pos (by omega), and127 _ (by omega) (by omega), shl_u64_small _ _ i rfl (by omega) (by omega) f1, or_u64 u _ i hu hu9 (by omega) f1 f2, ew]
          by_cases hl : bt s (at_ + i : Nat) < 128
          · rw [if_pos hl, restR_last hlt hno hl, wrap64_id (by omega) (by omega), show bt s (at_ + i : Nat) % 128 = bt s (at_ + i : Nat) by omega]
            congr 3
          · rw [if_neg hl, restR_step hlt hno hl, wrap64_id (by omega) (by omega), show ((i : Int) + 1) = ((i + 1 : Nat) : Int) by omega, show bt s (at_ + i : Nat) % 128 = bt s (at_ + i : Nat) - 128 by omega]
            rw [show bt s (at_ + i : Nat) % 128 = bt s (at_ + i : Nat) - 128 by omega] at f3 f4
            exact ih k (i + 1) _ (by omega) (by omega) f4 (fun h => f3 (by omega)) (by omega)
      by_cases h9 : i = 9
      · rw [if_pos (by omega)]
        by_cases hb1 : bt s (at_ + i : Nat) > 1
        · rw [if_pos hb1]; exact good true (by simp only [true_iff]; omega)
        · rw [if_neg hb1, if_pos (by omega)]; exact good _ (by simp only [beq_iff_eq]; omega)
      · rw [if_neg (by omega)]
        by_cases h0 : i > 0
        · rw [if_pos (by omega)]; exact good _ (by simp only [beq_iff_eq]; omega)
        · rw [if_neg (by omega)]; exact good false (by simp only [Bool.false_eq_true, false_iff]; omega)
    · rw [if_neg (by omega), restR_end hlt]

theorem restR_zero (s : ByteArray) (at_ : Nat) (h : at_ ≤ s.size) : restR s at_ 0 0 = takeR s at_ := by
  unfold restR takeR
  rw [if_neg (by omega), Nat.add_zero, Int.toNat_natCast]
  cases takeL ((bytesOf s).drop at_) 0 with
  | none => rfl
  | some p => simp

theorem take_f (s : ByteArray) (at_ : Int) (hs : s.size ≤ 281474976710656) (k : Nat) (hk : 24 < k) : word_Take.f k s at_ = some (takeR s at_) := by
  obtain ⟨k, rfl⟩ : ∃ m, k = m + 1 := ⟨k - 1, by omega⟩
  unfold word_Take.f
  by_cases h0 : at_ < 0
  · rw [if_pos h0]
    simp [word_Take.j0, takeR, h0]
  · rw [if_neg h0]
    by_cases h1 : at_ > (s.size : Int)
    · have e : decide (at_ > (s.size : Int)) = true := decide_eq_true h1
      rw [e]
      unfold takeR
      rw [if_pos (.inr h1)]
      simp [word_Take.j0]
    · have e : decide (at_ > (s.size : Int)) = false := decide_eq_false h1
      rw [e]
      simp only [word_Take.j0, Bool.false_eq_true, if_false]
      obtain ⟨a, rfl⟩ := Int.eq_ofNat_of_zero_le (show 0 ≤ at_ by omega)
      rw [← restR_zero s a (by omega)]
      exact take_l0 s a hs (by omega) 10 k 0 0 (by omega) (by omega) (by omega) (by simp) (by omega)

end Go.Proofs.YtimhcpmfhebbhaaDoor.Word1

