/-
  Texts of the proofs of ImageWrites, cut to what the proofs reach and packed by a program of this session (wip/packs.py). Each part begins with what it says; conditions: those told there.
-/
import Derived.Test.YtimhcpmfhebbhaaDoorProg
import Derived.Test.YtimhcpmfhebbhaaDoorPWA2
import Derived.Test.YtimhcpmfhebbhaaDoorPWA3
namespace Go.Proofs.YtimhcpmfhebbhaaDoor.M
open Go.RowKit Go.Proofs.YtimhcpmfhebbhaaDoorW.PrintWords Go.Proofs.YtimhcpmfhebbhaaDoorW.PrintLast
set_option linter.unusedVariables false
set_option linter.unusedSimpArgs false
def errW : Option Int → Value
 | none => .nilIface
 | some c => .iface 0 (.int .i64 c)
theorem errW_none : errW none = .nilIface := rfl
theorem errW_some (c : Int) : errW (some c) = .iface 0 (.int .i64 c) := rfl
theorem info2 : (Tryd.prog.info? 2).map (fun i => (i.zero, i.size, i.bytes)) = some (some (.int .i64 0), 1, 8) := by kernel_rfl
theorem info3 : (Tryd.prog.info? 3).map (fun i => (i.zero, i.size, i.bytes)) = some (some (.int .i64 0), 1, 8) := by kernel_rfl
theorem info5 : (Tryd.prog.info? 5).map (fun i => (i.zero, i.size, i.bytes)) = some (some (.int .u8 0), 1, 1) := by kernel_rfl
theorem info9 : (Tryd.prog.info? 9).map (fun i => (i.zero, i.size, i.bytes)) = some (some (.string ⟨#[]⟩), 1, 16) := by kernel_rfl
theorem info68 : (Tryd.prog.info? 68).map (fun i => (i.zero, i.size, i.bytes)) = some (some (.agg #[(.string ⟨#[]⟩), (.int .i64 0), (.int .i64 0)]), 3, 32) := by kernel_rfl
theorem info79 : (Tryd.prog.info? 79).map (fun i => (i.zero, i.size, i.bytes)) = some (some (.agg #[(.int .i64 0), (.int .i64 0), (.int .i64 0), (.int .i64 0)]), 4, 32) := by kernel_rfl
structure S79 where
 f0 : Int
 f1 : Int
 f2 : Int
 f3 : Int
def z79 : S79 := ⟨(0 : Int), (0 : Int), (0 : Int), (0 : Int)⟩
def k79 : Kd S79 := Kd.iso (Kd.pair (Kd.int .i64) (Kd.pair (Kd.int .i64) (Kd.pair (Kd.int .i64) (Kd.int .i64)))) (fun x : S79 => (x.f0, x.f1, x.f2, x.f3))
theorem k79_open {w : World} {x : S79} {cs : List Value} (h : k79.K w x cs) : cs = [.int .i64 x.f0, .int .i64 x.f1, .int .i64 x.f2, .int .i64 x.f3] := by
 obtain ⟨_, _, rfl, rfl, ⟨_, _, rfl, rfl, ⟨_, _, rfl, rfl, rfl⟩⟩⟩ := h
 exact rfl
theorem k79_mkM (w : World) (base : Nat) (ok : Nat → Prop) (x : S79)  : k79.M w base ok x [.int .i64 x.f0, .int .i64 x.f1, .int .i64 x.f2, .int .i64 x.f3] := ⟨[.int .i64 x.f0], [.int .i64 x.f1, .int .i64 x.f2, .int .i64 x.f3], rfl, rfl, ⟨[.int .i64 x.f1], [.int .i64 x.f2, .int .i64 x.f3], rfl, rfl, ⟨[.int .i64 x.f2], [.int .i64 x.f3], rfl, rfl, rfl⟩⟩⟩
def rd_T79 (xs : List S79) (i : Int) : S79 := xs.getD i.toNat z79
theorem at_T79 {w : World} {A : Option Addr} {n : Nat} {xs : List S79} (h : Kd.C k79 w A n xs) (i : Int) (h0 : 0 ≤ i) (h1 : i < n) : ∃ ad , A = some ad ∧ w.cell? (ad.add (i.toNat * 4)) = some (.int .i64 (rd_T79 xs i).f0) ∧ w.cell? ⟨(ad.add (i.toNat * 4)).block, (ad.add (i.toNat * 4)).off + 1, none⟩ = some (.int .i64 (rd_T79 xs i).f1) ∧ w.cell? ⟨(ad.add (i.toNat * 4)).block, (ad.add (i.toNat * 4)).off + 2, none⟩ = some (.int .i64 (rd_T79 xs i).f2) ∧ w.cell? ⟨(ad.add (i.toNat * 4)).block, (ad.add (i.toNat * 4)).off + 3, none⟩ = some (.int .i64 (rd_T79 xs i).f3) := by
 obtain ⟨ad, c, e, _, hK, hc0⟩ := Kd.C_get h z79 i h0 h1
 have hc : ∀ j u, c[j]? = some u → w.cell? (ad.add (i.toNat * 4 + j)) = some u := hc0
 obtain rfl := k79_open hK
 exact ⟨ad, e, hc 0 _ rfl, by rw [← add_field _ _ 1 (by omega)]; exact hc 1 _ rfl, by rw [← add_field _ _ 2 (by omega)]; exact hc 2 _ rfl, by rw [← add_field _ _ 3 (by omega)]; exact hc 3 _ rfl⟩
structure S116 where
 f0 : Int
 f1 : Int
 f2 : ByteArray
 f3 : Int
def z116 : S116 := ⟨(0 : Int), (0 : Int), (⟨#[]⟩ : ByteArray), (0 : Int)⟩
def k116 : Kd S116 := Kd.iso (Kd.pair (Kd.int .i64) (Kd.pair (Kd.int .i64) (Kd.pair Kd.string (Kd.int .i64)))) (fun x : S116 => (x.f0, x.f1, x.f2, x.f3))
theorem k116_open {w : World} {x : S116} {cs : List Value} (h : k116.K w x cs) : cs = [.int .i64 x.f0, .int .i64 x.f1, .string x.f2, .int .i64 x.f3] := by
 obtain ⟨_, _, rfl, rfl, ⟨_, _, rfl, rfl, ⟨_, _, rfl, rfl, rfl⟩⟩⟩ := h
 exact rfl
theorem k116_mkM (w : World) (base : Nat) (ok : Nat → Prop) (x : S116)  : k116.M w base ok x [.int .i64 x.f0, .int .i64 x.f1, .string x.f2, .int .i64 x.f3] := ⟨[.int .i64 x.f0], [.int .i64 x.f1, .string x.f2, .int .i64 x.f3], rfl, rfl, ⟨[.int .i64 x.f1], [.string x.f2, .int .i64 x.f3], rfl, rfl, ⟨[.string x.f2], [.int .i64 x.f3], rfl, rfl, rfl⟩⟩⟩
def rd_T116 (xs : List S116) (i : Int) : S116 := xs.getD i.toNat z116
theorem at_T116 {w : World} {A : Option Addr} {n : Nat} {xs : List S116} (h : Kd.C k116 w A n xs) (i : Int) (h0 : 0 ≤ i) (h1 : i < n) : ∃ ad , A = some ad ∧ w.cell? (ad.add (i.toNat * 4)) = some (.int .i64 (rd_T116 xs i).f0) ∧ w.cell? ⟨(ad.add (i.toNat * 4)).block, (ad.add (i.toNat * 4)).off + 1, none⟩ = some (.int .i64 (rd_T116 xs i).f1) ∧ w.cell? ⟨(ad.add (i.toNat * 4)).block, (ad.add (i.toNat * 4)).off + 2, none⟩ = some (.string (rd_T116 xs i).f2) ∧ w.cell? ⟨(ad.add (i.toNat * 4)).block, (ad.add (i.toNat * 4)).off + 3, none⟩ = some (.int .i64 (rd_T116 xs i).f3) := by
 obtain ⟨ad, c, e, _, hK, hc0⟩ := Kd.C_get h z116 i h0 h1
 have hc : ∀ j u, c[j]? = some u → w.cell? (ad.add (i.toNat * 4 + j)) = some u := hc0
 obtain rfl := k116_open hK
 exact ⟨ad, e, hc 0 _ rfl, by rw [← add_field _ _ 1 (by omega)]; exact hc 1 _ rfl, by rw [← add_field _ _ 2 (by omega)]; exact hc 2 _ rfl, by rw [← add_field _ _ 3 (by omega)]; exact hc 3 _ rfl⟩
structure S68 where
 f0 : ByteArray
 f1 : Int
 f2 : Int
def z68 : S68 := ⟨(⟨#[]⟩ : ByteArray), (0 : Int), (0 : Int)⟩
def k68 : Kd S68 := Kd.iso (Kd.pair Kd.string (Kd.pair (Kd.int .i64) (Kd.int .i64))) (fun x : S68 => (x.f0, x.f1, x.f2))
theorem k68_open {w : World} {x : S68} {cs : List Value} (h : k68.K w x cs) : cs = [.string x.f0, .int .i64 x.f1, .int .i64 x.f2] := by
 obtain ⟨_, _, rfl, rfl, ⟨_, _, rfl, rfl, rfl⟩⟩ := h
 exact rfl
theorem k68_mkM (w : World) (base : Nat) (ok : Nat → Prop) (x : S68)  : k68.M w base ok x [.string x.f0, .int .i64 x.f1, .int .i64 x.f2] := ⟨[.string x.f0], [.int .i64 x.f1, .int .i64 x.f2], rfl, rfl, ⟨[.int .i64 x.f1], [.int .i64 x.f2], rfl, rfl, rfl⟩⟩
def rd_T68 (xs : List S68) (i : Int) : S68 := xs.getD i.toNat z68
theorem at_T68 {w : World} {A : Option Addr} {n : Nat} {xs : List S68} (h : Kd.C k68 w A n xs) (i : Int) (h0 : 0 ≤ i) (h1 : i < n) : ∃ ad , A = some ad ∧ w.cell? (ad.add (i.toNat * 3)) = some (.string (rd_T68 xs i).f0) ∧ w.cell? ⟨(ad.add (i.toNat * 3)).block, (ad.add (i.toNat * 3)).off + 1, none⟩ = some (.int .i64 (rd_T68 xs i).f1) ∧ w.cell? ⟨(ad.add (i.toNat * 3)).block, (ad.add (i.toNat * 3)).off + 2, none⟩ = some (.int .i64 (rd_T68 xs i).f2) := by
 obtain ⟨ad, c, e, _, hK, hc0⟩ := Kd.C_get h z68 i h0 h1
 have hc : ∀ j u, c[j]? = some u → w.cell? (ad.add (i.toNat * 3 + j)) = some u := hc0
 obtain rfl := k68_open hK
 exact ⟨ad, e, hc 0 _ rfl, by rw [← add_field _ _ 1 (by omega)]; exact hc 1 _ rfl, by rw [← add_field _ _ 2 (by omega)]; exact hc 2 _ rfl⟩
end Go.Proofs.YtimhcpmfhebbhaaDoor.M
namespace Go.Proofs.YtimhcpmfhebbhaaDoor.M
open Go.RowKit Go.Proofs.YtimhcpmfhebbhaaDoorW.PrintWords Go.Proofs.YtimhcpmfhebbhaaDoorW.PrintLast
set_option linter.unusedVariables false
set_option linter.unusedSimpArgs false
mutual
def cotterref03_form.j0 : Nat → Int → Bool → Option (Int)
 | 0, _, _ => none
 | k + 1, x0, x6 => if x6 = true then (some 2) else (if x0 = 17 then (cotterref03_form.j1 k x0 true) else (if x0 = 18 then (cotterref03_form.j1 k x0 true) else (if x0 = 28 then (cotterref03_form.j1 k x0 true) else (cotterref03_form.j1 k x0 (x0 == 29)))))
def cotterref03_form.j1 : Nat → Int → Bool → Option (Int)
 | 0, _, _ => none
 | k + 1, x0, x13 => if x13 = true then (some 3) else (if x0 = 19 then (cotterref03_form.j2 k x0 true) else (if x0 = 21 then (cotterref03_form.j2 k x0 true) else (cotterref03_form.j2 k x0 (x0 == 22))))
def cotterref03_form.j2 : Nat → Int → Bool → Option (Int)
 | 0, _, _ => none
 | k + 1, x0, x28 => if x28 = true then (some 4) else (if x0 = 20 then (cotterref03_form.j3 k x0 true) else (cotterref03_form.j3 k x0 (x0 == 23)))
def cotterref03_form.j3 : Nat → Int → Bool → Option (Int)
 | 0, _, _ => none
 | k + 1, x0, x39 => if x39 = true then (some 5) else (if x0 = 24 then (cotterref03_form.j4 k x0 true) else (if x0 = 30 then (cotterref03_form.j4 k x0 true) else (cotterref03_form.j4 k x0 (x0 == 32))))
def cotterref03_form.j4 : Nat → Int → Bool → Option (Int)
 | 0, _, _ => none
 | k + 1, x0, x46 => if x46 = true then (some 6) else (if x0 = 25 then (some 7) else (if x0 = 26 then (cotterref03_form.j5 k x0 true) else (cotterref03_form.j5 k x0 (x0 == 27))))
def cotterref03_form.j5 : Nat → Int → Bool → Option (Int)
 | 0, _, _ => none
 | k + 1, x0, x60 => if x60 = true then (some 8) else (if x0 = 31 then (some 9) else (if x0 = 33 then (some 10) else (some 0)))
end
def cotterref03_form.f (k : Nat) (a0 : Int) : Option (Int) := if a0 = 1 then (some 1) else (if a0 ≥ 2 then (cotterref03_form.j0 k a0 (decide (a0 ≤ 16))) else (cotterref03_form.j0 k a0 false))
theorem cotterref03_form.mono_l : ∀ k, (∀ y0 y1, LeO (cotterref03_form.j0 k y0 y1) (cotterref03_form.j0 (k + 1) y0 y1)) ∧ (∀ y0 y1, LeO (cotterref03_form.j1 k y0 y1) (cotterref03_form.j1 (k + 1) y0 y1)) ∧ (∀ y0 y1, LeO (cotterref03_form.j2 k y0 y1) (cotterref03_form.j2 (k + 1) y0 y1)) ∧ (∀ y0 y1, LeO (cotterref03_form.j3 k y0 y1) (cotterref03_form.j3 (k + 1) y0 y1)) ∧ (∀ y0 y1, LeO (cotterref03_form.j4 k y0 y1) (cotterref03_form.j4 (k + 1) y0 y1)) ∧ (∀ y0 y1, LeO (cotterref03_form.j5 k y0 y1) (cotterref03_form.j5 (k + 1) y0 y1))
 | 0 => ⟨fun _ _ r h => by simp [cotterref03_form.j0] at h, fun _ _ r h => by simp [cotterref03_form.j1] at h, fun _ _ r h => by simp [cotterref03_form.j2] at h, fun _ _ r h => by simp [cotterref03_form.j3] at h, fun _ _ r h => by simp [cotterref03_form.j4] at h, fun _ _ r h => by simp [cotterref03_form.j5] at h⟩
 | k + 1 => by
  obtain ⟨ih0, ih1, ih2, ih3, ih4, ih5⟩ := cotterref03_form.mono_l k
  refine ⟨?_, ?_, ?_, ?_, ?_, ?_⟩
  ·intro y0 y1
   unfold cotterref03_form.j0
   repeat' first
   | (with_reducible exact ih0 _ _)
   | (with_reducible exact ih1 _ _)
   | (with_reducible exact ih2 _ _)
   | (with_reducible exact ih3 _ _)
   | (with_reducible exact ih4 _ _)
   | (with_reducible exact ih5 _ _)
   | (with_reducible exact LeO.refl _)
   | (with_reducible exact LeO.none _)
   | (with_reducible refine LeO.ite ?_ ?_)
   | (with_reducible refine LeO.bind ?_ (fun _ => ?_))
   | exact ih0 _ _
   | exact ih1 _ _
   | exact ih2 _ _
   | exact ih3 _ _
   | exact ih4 _ _
   | exact ih5 _ _
   | exact LeO.none _
   | refine LeO.ite ?_ ?_
   | refine LeO.bind ?_ (fun _ => ?_)
  ·intro y0 y1
   unfold cotterref03_form.j1
   repeat' first
   | (with_reducible exact ih0 _ _)
   | (with_reducible exact ih1 _ _)
   | (with_reducible exact ih2 _ _)
   | (with_reducible exact ih3 _ _)
   | (with_reducible exact ih4 _ _)
   | (with_reducible exact ih5 _ _)
   | (with_reducible exact LeO.refl _)
   | (with_reducible exact LeO.none _)
   | (with_reducible refine LeO.ite ?_ ?_)
   | (with_reducible refine LeO.bind ?_ (fun _ => ?_))
   | exact ih0 _ _
   | exact ih1 _ _
   | exact ih2 _ _
   | exact ih3 _ _
   | exact ih4 _ _
   | exact ih5 _ _
   | exact LeO.none _
   | refine LeO.ite ?_ ?_
   | refine LeO.bind ?_ (fun _ => ?_)
  ·intro y0 y1
   unfold cotterref03_form.j2
   repeat' first
   | (with_reducible exact ih0 _ _)
   | (with_reducible exact ih1 _ _)
   | (with_reducible exact ih2 _ _)
   | (with_reducible exact ih3 _ _)
   | (with_reducible exact ih4 _ _)
   | (with_reducible exact ih5 _ _)
   | (with_reducible exact LeO.refl _)
   | (with_reducible exact LeO.none _)
   | (with_reducible refine LeO.ite ?_ ?_)
   | (with_reducible refine LeO.bind ?_ (fun _ => ?_))
   | exact ih0 _ _
   | exact ih1 _ _
   | exact ih2 _ _
   | exact ih3 _ _
   | exact ih4 _ _
   | exact ih5 _ _
   | exact LeO.none _
   | refine LeO.ite ?_ ?_
   | refine LeO.bind ?_ (fun _ => ?_)
  ·intro y0 y1
   unfold cotterref03_form.j3
   repeat' first
   | (with_reducible exact ih0 _ _)
   | (with_reducible exact ih1 _ _)
   | (with_reducible exact ih2 _ _)
   | (with_reducible exact ih3 _ _)
   | (with_reducible exact ih4 _ _)
   | (with_reducible exact ih5 _ _)
   | (with_reducible exact LeO.refl _)
   | (with_reducible exact LeO.none _)
   | (with_reducible refine LeO.ite ?_ ?_)
   | (with_reducible refine LeO.bind ?_ (fun _ => ?_))
   | exact ih0 _ _
   | exact ih1 _ _
   | exact ih2 _ _
   | exact ih3 _ _
   | exact ih4 _ _
   | exact ih5 _ _
   | exact LeO.none _
   | refine LeO.ite ?_ ?_
   | refine LeO.bind ?_ (fun _ => ?_)
  ·intro y0 y1
   unfold cotterref03_form.j4
   repeat' first
   | (with_reducible exact ih0 _ _)
   | (with_reducible exact ih1 _ _)
   | (with_reducible exact ih2 _ _)
   | (with_reducible exact ih3 _ _)
   | (with_reducible exact ih4 _ _)
   | (with_reducible exact ih5 _ _)
   | (with_reducible exact LeO.refl _)
   | (with_reducible exact LeO.none _)
   | (with_reducible refine LeO.ite ?_ ?_)
   | (with_reducible refine LeO.bind ?_ (fun _ => ?_))
   | exact ih0 _ _
   | exact ih1 _ _
   | exact ih2 _ _
   | exact ih3 _ _
   | exact ih4 _ _
   | exact ih5 _ _
   | exact LeO.none _
   | refine LeO.ite ?_ ?_
   | refine LeO.bind ?_ (fun _ => ?_)
  ·intro y0 y1
   unfold cotterref03_form.j5
   repeat' first
   | (with_reducible exact ih0 _ _)
   | (with_reducible exact ih1 _ _)
   | (with_reducible exact ih2 _ _)
   | (with_reducible exact ih3 _ _)
   | (with_reducible exact ih4 _ _)
   | (with_reducible exact ih5 _ _)
   | (with_reducible exact LeO.refl _)
   | (with_reducible exact LeO.none _)
   | (with_reducible refine LeO.ite ?_ ?_)
   | (with_reducible refine LeO.bind ?_ (fun _ => ?_))
   | exact ih0 _ _
   | exact ih1 _ _
   | exact ih2 _ _
   | exact ih3 _ _
   | exact ih4 _ _
   | exact ih5 _ _
   | exact LeO.none _
   | refine LeO.ite ?_ ?_
   | refine LeO.bind ?_ (fun _ => ?_)
theorem cotterref03_form.mono : ∀ a0 k, LeO (cotterref03_form.f k a0) (cotterref03_form.f (k + 1) a0) := by
 intro a0 k
 obtain ⟨ih0, ih1, ih2, ih3, ih4, ih5⟩ := cotterref03_form.mono_l k
 unfold cotterref03_form.f
 repeat' first
  | (with_reducible exact ih0 _ _)
  | (with_reducible exact ih1 _ _)
  | (with_reducible exact ih2 _ _)
  | (with_reducible exact ih3 _ _)
  | (with_reducible exact ih4 _ _)
  | (with_reducible exact ih5 _ _)
  | (with_reducible exact LeO.refl _)
  | (with_reducible exact LeO.none _)
  | (with_reducible refine LeO.ite ?_ ?_)
  | (with_reducible refine LeO.bind ?_ (fun _ => ?_))
  | exact ih0 _ _
  | exact ih1 _ _
  | exact ih2 _ _
  | exact ih3 _ _
  | exact ih4 _ _
  | exact ih5 _ _
  | exact LeO.none _
  | refine LeO.ite ?_ ?_
  | refine LeO.bind ?_ (fun _ => ?_)
set_option maxHeartbeats 8000000 in
set_option maxRecDepth 100000 in
theorem cotterref03_form.calls (k : Nat) (a0 : Int) (r : Int) (w : World) (h : cotterref03_form.f k a0 = some r) :
 Calls Tryd.prog 66 #[.int .i64 a0] w fun e w' => e = .returned (.int .i64 r) ∧ Drawn0 w w' := by
 have H : (if a0 = 1 then (some 1) else (if a0 ≥ 2 then (cotterref03_form.j0 k a0 (decide (a0 ≤ 16))) else (cotterref03_form.j0 k a0 false))) = some r := h
 clear h
 by_cases c2 : a0 = 1
 ·rw [if_pos c2] at H
  have c2b0 : (a0 == 1) = true := z5 c2
  have c2b1 : (a0 != 1) = false := z6 c2
  clear c2
  obtain rfl := Option.some.inj H
  go_enter Tryd.func66, Tryd.ntmps66
  go_wp2
  go_ret
  exact ⟨by first | rfl | (simp; done) | (simp [*]; done), by repeat (first | exact Drawn0.refl _ | apply Drawn0.step)⟩
 ·rw [if_neg c2] at H
  have c2b0 : (a0 == 1) = false := z7 c2
  have c2b1 : (a0 != 1) = true := bne_iff_ne.mpr c2
  have HC3 := z4 H
  clear H
  go_enter Tryd.func66, Tryd.ntmps66
  go_upto_region 3 with (fail)
  go_cut [6] (fun v6 wc => ∃ (kq : Nat) (x6_2 : Bool), v6 = .bool x6_2 ∧ Aside0 (cotterref03_form.j0 kq a0 x6_2 = some r) ∧ Aside0 (kq ≤ k) ∧ Drawn0 w wc)
  case first =>
   have H := HC3.out
   clear HC3
   by_cases c4 : a0 ≥ 2
   ·rw [if_pos c4] at H
    have c4b0 : decide (2 ≤ a0) = true := decide_eq_true c4
    clear c4
    (first | rw [c4b0] | (simp only [i64_w, i32_w]; rw [c4b0]) | skip)
    have H' := z4 H
    clear H
    go_wp2
    go_meet
    case rel => exact ⟨_, (decide (a0 ≤ 16)), (by first | rfl | (simp; done) | (simp [*]; done)), H', ⟨by first | omega | exact Nat.le_refl _⟩, by repeat (first | exact Drawn0.refl _ | apply Drawn0.step)⟩
   ·rw [if_neg c4] at H
    have c4b0 : decide (2 ≤ a0) = false := decide_eq_false c4
    clear c4
    (first | rw [c4b0] | (simp only [i64_w, i32_w]; rw [c4b0]) | skip)
    have H' := z4 H
    clear H
    go_wp2
    go_meet
    case rel => exact ⟨_, (false), (by first | rfl | (simp; done) | (simp [*]; done)), H', ⟨by first | omega | exact Nat.le_refl _⟩, by repeat (first | exact Drawn0.refl _ | apply Drawn0.step)⟩
  case rest =>
   clear HC3
   try clear c2
   try clear c2b0
   try clear c2b1
   try clear p2
   try clear c4
   try clear c4b0
   obtain ⟨kq, x6_2, rfl, HA, HJ2, ⟨mc2, rfl⟩⟩ := hcut
   cases kq with
   | zero => exact absurd HA.out (by simp [cotterref03_form.j0])
   | succ kj2 =>
    have H := HA.out
    clear HA
    simp only [cotterref03_form.j0] at H
    by_cases c5 : x6_2 = true
    ·subst c5
     have H1 : (some 2) = some r := by rw [if_pos rfl] at H; exact H
     clear H
     have H := H1
     clear H1
     obtain rfl := Option.some.inj H
     go_wp2
     go_ret
     exact ⟨by first | rfl | (simp; done) | (simp [*]; done), by repeat (first | exact Drawn0.refl _ | apply Drawn0.step)⟩
    ·replace c5 := Bool.eq_false_iff.mpr c5
     subst c5
     have H1 : (if a0 = 17 then (cotterref03_form.j1 kj2 a0 true) else (if a0 = 18 then (cotterref03_form.j1 kj2 a0 true) else (if a0 = 28 then (cotterref03_form.j1 kj2 a0 true) else (cotterref03_form.j1 kj2 a0 (a0 == 29))))) = some r := by rw [if_neg (show ¬ (false = true) by decide)] at H; exact H
     clear H
     have H := H1
     clear H1
     have HC6 := z4 H
     clear H
     go_upto_region 5 with (fail)
     go_cut [13] (fun v13 wc => ∃ (kq : Nat) (x13_5 : Bool), v13 = .bool x13_5 ∧ Aside0 (cotterref03_form.j1 kq a0 x13_5 = some r) ∧ Aside0 (kq ≤ kj2) ∧ Drawn0 w wc)
     case first =>
      have H := HC6.out
      clear HC6
      by_cases c7 : a0 = 17
      ·rw [if_pos c7] at H
       have c7b0 : (a0 == 17) = true := z5 c7
       have c7b1 : (a0 != 17) = false := z6 c7
       clear c7
       (first | rw [c7b0] | (simp only [i64_w, i32_w]; rw [c7b0]) | skip)
       have H' := z4 H
       clear H
       go_wp2
       go_meet
       case rel => exact ⟨_, (true), (by first | rfl | (simp; done) | (simp [*]; done)), H', ⟨by have := HJ2.out; first | omega | exact Nat.le_refl _⟩, by repeat (first | exact Drawn0.refl _ | apply Drawn0.step)⟩
      ·rw [if_neg c7] at H
       have c7b0 : (a0 == 17) = false := z7 c7
       have c7b1 : (a0 != 17) = true := bne_iff_ne.mpr c7
       (first | rw [c7b0] | (simp only [i64_w, i32_w]; rw [c7b0]) | skip)
       by_cases c8 : a0 = 18
       ·rw [if_pos c8] at H
        have c8b0 : (a0 == 18) = true := z5 c8
        have c8b1 : (a0 != 18) = false := z6 c8
        clear c8
        have H' := z4 H
        clear H
        go_wp2
        go_meet
        case rel => exact ⟨_, (true), (by first | rfl | (simp; done) | (simp [*]; done)), H', ⟨by have := HJ2.out; first | omega | exact Nat.le_refl _⟩, by repeat (first | exact Drawn0.refl _ | apply Drawn0.step)⟩
       ·rw [if_neg c8] at H
        have c8b0 : (a0 == 18) = false := z7 c8
        have c8b1 : (a0 != 18) = true := bne_iff_ne.mpr c8
        by_cases c9 : a0 = 28
        ·rw [if_pos c9] at H
         have c9b0 : (a0 == 28) = true := z5 c9
         have c9b1 : (a0 != 28) = false := z6 c9
         clear c9
         have H' := z4 H
         clear H
         go_wp2
         go_meet
         case rel => exact ⟨_, (true), (by first | rfl | (simp; done) | (simp [*]; done)), H', ⟨by have := HJ2.out; first | omega | exact Nat.le_refl _⟩, by repeat (first | exact Drawn0.refl _ | apply Drawn0.step)⟩
        ·rw [if_neg c9] at H
         have c9b0 : (a0 == 28) = false := z7 c9
         have c9b1 : (a0 != 28) = true := bne_iff_ne.mpr c9
         have H' := z4 H
         clear H
         go_wp2
         go_meet
         case rel => exact ⟨_, ((a0 == 29)), (by first | rfl | (simp; done) | (simp [*]; done)), H', ⟨by have := HJ2.out; first | omega | exact Nat.le_refl _⟩, by repeat (first | exact Drawn0.refl _ | apply Drawn0.step)⟩
     case rest =>
      clear HC6
      try clear c2
      try clear c2b0
      try clear c2b1
      try clear p2
      try clear c4
      try clear c4b0
      try clear c5
      try clear c6
      try clear c7
      try clear c7b0
      try clear c7b1
      try clear c8
      try clear c8b0
      try clear c8b1
      try clear c9
      try clear c9b0
      try clear c9b1
      try clear p2
      obtain ⟨kq, x13_5, rfl, HA, HJ5, ⟨mc5, rfl⟩⟩ := hcut
      cases kq with
      | zero => exact absurd HA.out (by simp [cotterref03_form.j1])
      | succ kj5 =>
       have H := HA.out
       clear HA
       simp only [cotterref03_form.j1] at H
       by_cases c10 : x13_5 = true
       ·subst c10
        have H1 : (some 3) = some r := by rw [if_pos rfl] at H; exact H
        clear H
        have H := H1
        clear H1
        obtain rfl := Option.some.inj H
        go_wp2
        go_ret
        exact ⟨by first | rfl | (simp; done) | (simp [*]; done), by repeat (first | exact Drawn0.refl _ | apply Drawn0.step)⟩
       ·replace c10 := Bool.eq_false_iff.mpr c10
        subst c10
        have H1 : (if a0 = 19 then (cotterref03_form.j2 kj5 a0 true) else (if a0 = 21 then (cotterref03_form.j2 kj5 a0 true) else (cotterref03_form.j2 kj5 a0 (a0 == 22)))) = some r := by rw [if_neg (show ¬ (false = true) by decide)] at H; exact H
        clear H
        have H := H1
        clear H1
        have HC11 := z4 H
        clear H
        go_upto_region 7 with (fail)
        go_cut [28] (fun v28 wc => ∃ (kq : Nat) (x28_10 : Bool), v28 = .bool x28_10 ∧ Aside0 (cotterref03_form.j2 kq a0 x28_10 = some r) ∧ Aside0 (kq ≤ kj5) ∧ Drawn0 w wc)
        case first =>
         have H := HC11.out
         clear HC11
         by_cases c12 : a0 = 19
         ·rw [if_pos c12] at H
          have c12b0 : (a0 == 19) = true := z5 c12
          have c12b1 : (a0 != 19) = false := z6 c12
          clear c12
          (first | rw [c12b0] | (simp only [i64_w, i32_w]; rw [c12b0]) | skip)
          have H' := z4 H
          clear H
          go_wp2
          go_meet
          case rel => exact ⟨_, (true), (by first | rfl | (simp; done) | (simp [*]; done)), H', ⟨by have := HJ2.out; have := HJ5.out; first | omega | exact Nat.le_refl _⟩, by repeat (first | exact Drawn0.refl _ | apply Drawn0.step)⟩
         ·rw [if_neg c12] at H
          have c12b0 : (a0 == 19) = false := z7 c12
          have c12b1 : (a0 != 19) = true := bne_iff_ne.mpr c12
          (first | rw [c12b0] | (simp only [i64_w, i32_w]; rw [c12b0]) | skip)
          by_cases c13 : a0 = 21
          ·rw [if_pos c13] at H
           have c13b0 : (a0 == 21) = true := z5 c13
           have c13b1 : (a0 != 21) = false := z6 c13
           clear c13
           have H' := z4 H
           clear H
           go_wp2
           go_meet
           case rel => exact ⟨_, (true), (by first | rfl | (simp; done) | (simp [*]; done)), H', ⟨by have := HJ2.out; have := HJ5.out; first | omega | exact Nat.le_refl _⟩, by repeat (first | exact Drawn0.refl _ | apply Drawn0.step)⟩
          ·rw [if_neg c13] at H
           have c13b0 : (a0 == 21) = false := z7 c13
           have c13b1 : (a0 != 21) = true := bne_iff_ne.mpr c13
           have H' := z4 H
           clear H
           go_wp2
           go_meet
           case rel => exact ⟨_, ((a0 == 22)), (by first | rfl | (simp; done) | (simp [*]; done)), H', ⟨by have := HJ2.out; have := HJ5.out; first | omega | exact Nat.le_refl _⟩, by repeat (first | exact Drawn0.refl _ | apply Drawn0.step)⟩
        case rest =>
         clear HC11
         try clear c1
         try clear c2
         try clear c2b0
         try clear c2b1
         try clear p2
         try clear c4
         try clear c4b0
         try clear c5
         try clear c6
         try clear c7
         try clear c7b0
         try clear c7b1
         try clear c8
         try clear c8b0
         try clear c8b1
         try clear c9
         try clear c9b0
         try clear c9b1
         try clear c10
         try clear c12
         try clear c12b0
         try clear c12b1
         try clear c13
         try clear c13b0
         try clear c13b1
         try clear p2
         obtain ⟨kq, x28_10, rfl, HA, HJ10, ⟨mc10, rfl⟩⟩ := hcut
         cases kq with
         | zero => exact absurd HA.out (by simp [cotterref03_form.j2])
         | succ kj10 =>
          have H := HA.out
          clear HA
          simp only [cotterref03_form.j2] at H
          by_cases c14 : x28_10 = true
          ·subst c14
           have H1 : (some 4) = some r := by rw [if_pos rfl] at H; exact H
           clear H
           have H := H1
           clear H1
           obtain rfl := Option.some.inj H
           go_wp2
           go_ret
           exact ⟨by first | rfl | (simp; done) | (simp [*]; done), by repeat (first | exact Drawn0.refl _ | apply Drawn0.step)⟩
          ·replace c14 := Bool.eq_false_iff.mpr c14
           subst c14
           have H1 : (if a0 = 20 then (cotterref03_form.j3 kj10 a0 true) else (cotterref03_form.j3 kj10 a0 (a0 == 23))) = some r := by rw [if_neg (show ¬ (false = true) by decide)] at H; exact H
           clear H
           have H := H1
           clear H1
           have HC15 := z4 H
           clear H
           go_upto_region 9 with (fail)
           go_cut [39] (fun v39 wc => ∃ (kq : Nat) (x39_14 : Bool), v39 = .bool x39_14 ∧ Aside0 (cotterref03_form.j3 kq a0 x39_14 = some r) ∧ Aside0 (kq ≤ kj10) ∧ Drawn0 w wc)
           case first =>
            have H := HC15.out
            clear HC15
            by_cases c16 : a0 = 20
            ·rw [if_pos c16] at H
             have c16b0 : (a0 == 20) = true := z5 c16
             have c16b1 : (a0 != 20) = false := z6 c16
             clear c16
             (first | rw [c16b0] | (simp only [i64_w, i32_w]; rw [c16b0]) | skip)
             have H' := z4 H
             clear H
             go_wp2
             go_meet
             case rel => exact ⟨_, (true), (by first | rfl | (simp; done) | (simp [*]; done)), H', ⟨by have := HJ2.out; have := HJ5.out; have := HJ10.out; first | omega | exact Nat.le_refl _⟩, by repeat (first | exact Drawn0.refl _ | apply Drawn0.step)⟩
            ·rw [if_neg c16] at H
             have c16b0 : (a0 == 20) = false := z7 c16
             have c16b1 : (a0 != 20) = true := bne_iff_ne.mpr c16
             (first | rw [c16b0] | (simp only [i64_w, i32_w]; rw [c16b0]) | skip)
             have H' := z4 H
             clear H
             go_wp2
             go_meet
             case rel => exact ⟨_, ((a0 == 23)), (by first | rfl | (simp; done) | (simp [*]; done)), H', ⟨by have := HJ2.out; have := HJ5.out; have := HJ10.out; first | omega | exact Nat.le_refl _⟩, by repeat (first | exact Drawn0.refl _ | apply Drawn0.step)⟩
           case rest =>
            clear HC15
            try clear c1
            try clear c2
            try clear c2b0
            try clear c2b1
            try clear p2
            try clear c4
            try clear c4b0
            try clear c5
            try clear c6
            try clear c7
            try clear c7b0
            try clear c7b1
            try clear c8
            try clear c8b0
            try clear c8b1
            try clear c9
            try clear c9b0
            try clear c9b1
            try clear c10
            try clear c12
            try clear c12b0
            try clear c12b1
            try clear c13
            try clear c13b0
            try clear c13b1
            try clear c14
            try clear c16
            try clear c16b0
            try clear c16b1
            try clear p2
            obtain ⟨kq, x39_14, rfl, HA, HJ14, ⟨mc14, rfl⟩⟩ := hcut
            cases kq with
            | zero => exact absurd HA.out (by simp [cotterref03_form.j3])
            | succ kj14 =>
             have H := HA.out
             clear HA
             simp only [cotterref03_form.j3] at H
             by_cases c17 : x39_14 = true
             ·subst c17
              have H1 : (some 5) = some r := by rw [if_pos rfl] at H; exact H
              clear H
              have H := H1
              clear H1
              obtain rfl := Option.some.inj H
              go_wp2
              go_ret
              exact ⟨by first | rfl | (simp; done) | (simp [*]; done), by repeat (first | exact Drawn0.refl _ | apply Drawn0.step)⟩
             ·replace c17 := Bool.eq_false_iff.mpr c17
              subst c17
              have H1 : (if a0 = 24 then (cotterref03_form.j4 kj14 a0 true) else (if a0 = 30 then (cotterref03_form.j4 kj14 a0 true) else (cotterref03_form.j4 kj14 a0 (a0 == 32)))) = some r := by rw [if_neg (show ¬ (false = true) by decide)] at H; exact H
              clear H
              have H := H1
              clear H1
              have HC18 := z4 H
              clear H
              go_upto_region 11 with (fail)
              go_cut [46] (fun v46 wc => ∃ (kq : Nat) (x46_17 : Bool), v46 = .bool x46_17 ∧ Aside0 (cotterref03_form.j4 kq a0 x46_17 = some r) ∧ Aside0 (kq ≤ kj14) ∧ Drawn0 w wc)
              case first =>
               have H := HC18.out
               clear HC18
               by_cases c19 : a0 = 24
               ·rw [if_pos c19] at H
                have c19b0 : (a0 == 24) = true := z5 c19
                have c19b1 : (a0 != 24) = false := z6 c19
                clear c19
                (first | rw [c19b0] | (simp only [i64_w, i32_w]; rw [c19b0]) | skip)
                have H' := z4 H
                clear H
                go_wp2
                go_meet
                case rel => exact ⟨_, (true), (by first | rfl | (simp; done) | (simp [*]; done)), H', ⟨by have := HJ2.out; have := HJ5.out; have := HJ10.out; have := HJ14.out; first | omega | exact Nat.le_refl _⟩, by repeat (first | exact Drawn0.refl _ | apply Drawn0.step)⟩
               ·rw [if_neg c19] at H
                have c19b0 : (a0 == 24) = false := z7 c19
                have c19b1 : (a0 != 24) = true := bne_iff_ne.mpr c19
                (first | rw [c19b0] | (simp only [i64_w, i32_w]; rw [c19b0]) | skip)
                by_cases c20 : a0 = 30
                ·rw [if_pos c20] at H
                 have c20b0 : (a0 == 30) = true := z5 c20
                 have c20b1 : (a0 != 30) = false := z6 c20
                 clear c20
                 have H' := z4 H
                 clear H
                 go_wp2
                 go_meet
                 case rel => exact ⟨_, (true), (by first | rfl | (simp; done) | (simp [*]; done)), H', ⟨by have := HJ2.out; have := HJ5.out; have := HJ10.out; have := HJ14.out; first | omega | exact Nat.le_refl _⟩, by repeat (first | exact Drawn0.refl _ | apply Drawn0.step)⟩
                ·rw [if_neg c20] at H
                 have c20b0 : (a0 == 30) = false := z7 c20
                 have c20b1 : (a0 != 30) = true := bne_iff_ne.mpr c20
                 have H' := z4 H
                 clear H
                 go_wp2
                 go_meet
                 case rel => exact ⟨_, ((a0 == 32)), (by first | rfl | (simp; done) | (simp [*]; done)), H', ⟨by have := HJ2.out; have := HJ5.out; have := HJ10.out; have := HJ14.out; first | omega | exact Nat.le_refl _⟩, by repeat (first | exact Drawn0.refl _ | apply Drawn0.step)⟩
              case rest =>
               clear HC18
               try clear c1
               try clear c2
               try clear c2b0
               try clear c2b1
               try clear p2
               try clear c4
               try clear c4b0
               try clear c5
               try clear c6
               try clear c7
               try clear c7b0
               try clear c7b1
               try clear c8
               try clear c8b0
               try clear c8b1
               try clear c9
               try clear c9b0
               try clear c9b1
               try clear c10
               try clear c12
               try clear c12b0
               try clear c12b1
               try clear c13
               try clear c13b0
               try clear c13b1
               try clear c14
               try clear c16
               try clear c16b0
               try clear c16b1
               try clear c17
               try clear c19
               try clear c19b0
               try clear c19b1
               try clear c20
               try clear c20b0
               try clear c20b1
               try clear p2
               obtain ⟨kq, x46_17, rfl, HA, HJ17, ⟨mc17, rfl⟩⟩ := hcut
               cases kq with
               | zero => exact absurd HA.out (by simp [cotterref03_form.j4])
               | succ kj17 =>
                have H := HA.out
                clear HA
                simp only [cotterref03_form.j4] at H
                by_cases c21 : x46_17 = true
                ·subst c21
                 have H1 : (some 6) = some r := by rw [if_pos rfl] at H; exact H
                 clear H
                 have H := H1
                 clear H1
                 obtain rfl := Option.some.inj H
                 go_wp2
                 go_ret
                 exact ⟨by first | rfl | (simp; done) | (simp [*]; done), by repeat (first | exact Drawn0.refl _ | apply Drawn0.step)⟩
                ·replace c21 := Bool.eq_false_iff.mpr c21
                 subst c21
                 have H1 : (if a0 = 25 then (some 7) else (if a0 = 26 then (cotterref03_form.j5 kj17 a0 true) else (cotterref03_form.j5 kj17 a0 (a0 == 27)))) = some r := by rw [if_neg (show ¬ (false = true) by decide)] at H; exact H
                 clear H
                 have H := H1
                 clear H1
                 by_cases c22 : a0 = 25
                 ·rw [if_pos c22] at H
                  have c22b0 : (a0 == 25) = true := z5 c22
                  have c22b1 : (a0 != 25) = false := z6 c22
                  clear c22
                  obtain rfl := Option.some.inj H
                  go_wp2
                  go_ret
                  exact ⟨by first | rfl | (simp; done) | (simp [*]; done), by repeat (first | exact Drawn0.refl _ | apply Drawn0.step)⟩
                 ·rw [if_neg c22] at H
                  have c22b0 : (a0 == 25) = false := z7 c22
                  have c22b1 : (a0 != 25) = true := bne_iff_ne.mpr c22
                  have HC23 := z4 H
                  clear H
                  go_upto_region 15 with (fail)
                  go_cut [60] (fun v60 wc => ∃ (kq : Nat) (x60_22 : Bool), v60 = .bool x60_22 ∧ Aside0 (cotterref03_form.j5 kq a0 x60_22 = some r) ∧ Aside0 (kq ≤ kj17) ∧ Drawn0 w wc)
                  case first =>
                   have H := HC23.out
                   clear HC23
                   by_cases c24 : a0 = 26
                   ·rw [if_pos c24] at H
                    have c24b0 : (a0 == 26) = true := z5 c24
                    have c24b1 : (a0 != 26) = false := z6 c24
                    clear c24
                    (first | rw [c24b0] | (simp only [i64_w, i32_w]; rw [c24b0]) | skip)
                    have H' := z4 H
                    clear H
                    go_wp2
                    go_meet
                    case rel => exact ⟨_, (true), (by first | rfl | (simp; done) | (simp [*]; done)), H', ⟨by have := HJ2.out; have := HJ5.out; have := HJ10.out; have := HJ14.out; have := HJ17.out; first | omega | exact Nat.le_refl _⟩, by repeat (first | exact Drawn0.refl _ | apply Drawn0.step)⟩
                   ·rw [if_neg c24] at H
                    have c24b0 : (a0 == 26) = false := z7 c24
                    have c24b1 : (a0 != 26) = true := bne_iff_ne.mpr c24
                    (first | rw [c24b0] | (simp only [i64_w, i32_w]; rw [c24b0]) | skip)
                    have H' := z4 H
                    clear H
                    go_wp2
                    go_meet
                    case rel => exact ⟨_, ((a0 == 27)), (by first | rfl | (simp; done) | (simp [*]; done)), H', ⟨by have := HJ2.out; have := HJ5.out; have := HJ10.out; have := HJ14.out; have := HJ17.out; first | omega | exact Nat.le_refl _⟩, by repeat (first | exact Drawn0.refl _ | apply Drawn0.step)⟩
                  case rest =>
                   clear HC23
                   try clear c1
                   try clear c2
                   try clear c2b0
                   try clear c2b1
                   try clear p2
                   try clear c4
                   try clear c4b0
                   try clear c5
                   try clear c6
                   try clear c7
                   try clear c7b0
                   try clear c7b1
                   try clear c8
                   try clear c8b0
                   try clear c8b1
                   try clear c9
                   try clear c9b0
                   try clear c9b1
                   try clear c10
                   try clear c12
                   try clear c12b0
                   try clear c12b1
                   try clear c13
                   try clear c13b0
                   try clear c13b1
                   try clear c14
                   try clear c16
                   try clear c16b0
                   try clear c16b1
                   try clear c17
                   try clear c19
                   try clear c19b0
                   try clear c19b1
                   try clear c20
                   try clear c20b0
                   try clear c20b1
                   try clear c21
                   try clear c22
                   try clear c22b0
                   try clear c22b1
                   try clear c24
                   try clear c24b0
                   try clear c24b1
                   try clear p2
                   obtain ⟨kq, x60_22, rfl, HA, HJ22, ⟨mc22, rfl⟩⟩ := hcut
                   cases kq with
                   | zero => exact absurd HA.out (by simp [cotterref03_form.j5])
                   | succ kj22 =>
                    have H := HA.out
                    clear HA
                    simp only [cotterref03_form.j5] at H
                    by_cases c25 : x60_22 = true
                    ·subst c25
                     have H1 : (some 8) = some r := by rw [if_pos rfl] at H; exact H
                     clear H
                     have H := H1
                     clear H1
                     obtain rfl := Option.some.inj H
                     go_wp2
                     go_ret
                     exact ⟨by first | rfl | (simp; done) | (simp [*]; done), by repeat (first | exact Drawn0.refl _ | apply Drawn0.step)⟩
                    ·replace c25 := Bool.eq_false_iff.mpr c25
                     subst c25
                     have H1 : (if a0 = 31 then (some 9) else (if a0 = 33 then (some 10) else (some 0))) = some r := by rw [if_neg (show ¬ (false = true) by decide)] at H; exact H
                     clear H
                     have H := H1
                     clear H1
                     by_cases c26 : a0 = 31
                     ·rw [if_pos c26] at H
                      have c26b0 : (a0 == 31) = true := z5 c26
                      have c26b1 : (a0 != 31) = false := z6 c26
                      clear c26
                      obtain rfl := Option.some.inj H
                      go_wp2
                      go_ret
                      exact ⟨by first | rfl | (simp; done) | (simp [*]; done), by repeat (first | exact Drawn0.refl _ | apply Drawn0.step)⟩
                     ·rw [if_neg c26] at H
                      have c26b0 : (a0 == 31) = false := z7 c26
                      have c26b1 : (a0 != 31) = true := bne_iff_ne.mpr c26
                      by_cases c27 : a0 = 33
                      ·rw [if_pos c27] at H
                       have c27b0 : (a0 == 33) = true := z5 c27
                       have c27b1 : (a0 != 33) = false := z6 c27
                       clear c27
                       obtain rfl := Option.some.inj H
                       go_wp2
                       go_ret
                       exact ⟨by first | rfl | (simp; done) | (simp [*]; done), by repeat (first | exact Drawn0.refl _ | apply Drawn0.step)⟩
                      ·rw [if_neg c27] at H
                       have c27b0 : (a0 == 33) = false := z7 c27
                       have c27b1 : (a0 != 33) = true := bne_iff_ne.mpr c27
                       obtain rfl := Option.some.inj H
                       go_wp2
                       go_ret
                       exact ⟨by first | rfl | (simp; done) | (simp [*]; done), by repeat (first | exact Drawn0.refl _ | apply Drawn0.step)⟩
end Go.Proofs.YtimhcpmfhebbhaaDoor.M
namespace Go.Proofs.YtimhcpmfhebbhaaDoor.M
open Go.RowKit Go.Proofs.YtimhcpmfhebbhaaDoorW.PrintWords Go.Proofs.YtimhcpmfhebbhaaDoorW.PrintLast
set_option linter.unusedVariables false
set_option linter.unusedSimpArgs false
def cotterref03_parts.j0 : Nat → Int → Bool → Option (Bool × Bool × Int)
 | 0, _, _ => none
 | k + 1, x5, x16 => if x16 = true then (some (false, false, 1)) else (if x5 = 8 then (some (true, false, 1)) else (if x5 = 9 then (some (true, false, 0)) else (some (false, false, 0))))
def cotterref03_parts.f (k : Nat) (a0 : Int) : Option (Bool × Bool × Int) := if a0 = 1 then (some (true, false, 8)) else (if a0 = 2 then (some (true, true, 0)) else (if a0 = 3 then (some (true, true, 4)) else (if a0 = 4 then (some (true, false, 4)) else (if a0 = 5 then (some (false, false, 4)) else (if a0 = 7 then (cotterref03_parts.j0 k a0 (a0 == 7)) else (cotterref03_parts.j0 k a0 (a0 == 10)))))))
set_option maxHeartbeats 8000000 in
set_option maxRecDepth 100000 in
theorem cotterref03_parts.calls (k : Nat) (a0 : Int) (r1 : Bool) (r2 : Bool) (r3 : Int) (w : World) (h : cotterref03_parts.f k a0 = some (r1, r2, r3)) :
 Calls Tryd.prog 67 #[.int .i64 a0] w fun e w' => e = .returned (.tuple #[.bool r1, .bool r2, .int .i64 r3]) ∧ Drawn0 w w' := by
 have H : (if a0 = 1 then (some (true, false, 8)) else (if a0 = 2 then (some (true, true, 0)) else (if a0 = 3 then (some (true, true, 4)) else (if a0 = 4 then (some (true, false, 4)) else (if a0 = 5 then (some (false, false, 4)) else (if a0 = 7 then (cotterref03_parts.j0 k a0 (a0 == 7)) else (cotterref03_parts.j0 k a0 (a0 == 10)))))))) = some (r1, r2, r3) := h
 clear h
 by_cases c2 : a0 = 1
 ·rw [if_pos c2] at H
  have c2b0 : (a0 == 1) = true := z5 c2
  have c2b1 : (a0 != 1) = false := z6 c2
  clear c2
  simp only [Option.some.injEq, Prod.mk.injEq] at H
  obtain ⟨rfl, rfl, rfl⟩ := H
  go_enter Tryd.func67, Tryd.ntmps67
  go_wp2
  go_ret3
  exact ⟨by first | rfl | (simp; done) | (simp [*]; done), by repeat (first | exact Drawn0.refl _ | apply Drawn0.step)⟩
 ·rw [if_neg c2] at H
  have c2b0 : (a0 == 1) = false := z7 c2
  have c2b1 : (a0 != 1) = true := bne_iff_ne.mpr c2
  by_cases c3 : a0 = 2
  ·rw [if_pos c3] at H
   have c3b0 : (a0 == 2) = true := z5 c3
   have c3b1 : (a0 != 2) = false := z6 c3
   clear c3
   simp only [Option.some.injEq, Prod.mk.injEq] at H
   obtain ⟨rfl, rfl, rfl⟩ := H
   go_enter Tryd.func67, Tryd.ntmps67
   go_wp2
   go_ret3
   exact ⟨by first | rfl | (simp; done) | (simp [*]; done), by repeat (first | exact Drawn0.refl _ | apply Drawn0.step)⟩
  ·rw [if_neg c3] at H
   have c3b0 : (a0 == 2) = false := z7 c3
   have c3b1 : (a0 != 2) = true := bne_iff_ne.mpr c3
   by_cases c4 : a0 = 3
   ·rw [if_pos c4] at H
    have c4b0 : (a0 == 3) = true := z5 c4
    have c4b1 : (a0 != 3) = false := z6 c4
    clear c4
    simp only [Option.some.injEq, Prod.mk.injEq] at H
    obtain ⟨rfl, rfl, rfl⟩ := H
    go_enter Tryd.func67, Tryd.ntmps67
    go_wp2
    go_ret3
    exact ⟨by first | rfl | (simp; done) | (simp [*]; done), by repeat (first | exact Drawn0.refl _ | apply Drawn0.step)⟩
   ·rw [if_neg c4] at H
    have c4b0 : (a0 == 3) = false := z7 c4
    have c4b1 : (a0 != 3) = true := bne_iff_ne.mpr c4
    by_cases c5 : a0 = 4
    ·rw [if_pos c5] at H
     have c5b0 : (a0 == 4) = true := z5 c5
     have c5b1 : (a0 != 4) = false := z6 c5
     clear c5
     simp only [Option.some.injEq, Prod.mk.injEq] at H
     obtain ⟨rfl, rfl, rfl⟩ := H
     go_enter Tryd.func67, Tryd.ntmps67
     go_wp2
     go_ret3
     exact ⟨by first | rfl | (simp; done) | (simp [*]; done), by repeat (first | exact Drawn0.refl _ | apply Drawn0.step)⟩
    ·rw [if_neg c5] at H
     have c5b0 : (a0 == 4) = false := z7 c5
     have c5b1 : (a0 != 4) = true := bne_iff_ne.mpr c5
     by_cases c6 : a0 = 5
     ·rw [if_pos c6] at H
      have c6b0 : (a0 == 5) = true := z5 c6
      have c6b1 : (a0 != 5) = false := z6 c6
      clear c6
      simp only [Option.some.injEq, Prod.mk.injEq] at H
      obtain ⟨rfl, rfl, rfl⟩ := H
      go_enter Tryd.func67, Tryd.ntmps67
      go_wp2
      go_ret3
      exact ⟨by first | rfl | (simp; done) | (simp [*]; done), by repeat (first | exact Drawn0.refl _ | apply Drawn0.step)⟩
     ·rw [if_neg c6] at H
      have c6b0 : (a0 == 5) = false := z7 c6
      have c6b1 : (a0 != 5) = true := bne_iff_ne.mpr c6
      have HC7 := z4 H
      clear H
      go_enter Tryd.func67, Tryd.ntmps67
      go_upto_if 16 with (fail)
      go_cut [16] (fun v16 wc => ∃ (kq : Nat) (x16_6 : Bool), v16 = .bool x16_6 ∧ Aside0 (cotterref03_parts.j0 kq a0 x16_6 = some (r1, r2, r3)) ∧ Aside0 (kq ≤ k) ∧ Drawn0 w wc)
      case first =>
       have H := HC7.out
       clear HC7
       by_cases c8 : a0 = 7
       ·rw [if_pos c8] at H
        have c8b0 : (a0 == 7) = true := z5 c8
        have c8b1 : (a0 != 7) = false := z6 c8
        clear c8
        (first | rw [c8b0] | (simp only [i64_w, i32_w]; rw [c8b0]) | skip)
        have H' := z4 H
        clear H
        go_wp2
        go_meet
        case rel => exact ⟨_, ((a0 == 7)), (by first | rfl | (simp; done) | (simp [*]; done)), H', ⟨by first | omega | exact Nat.le_refl _⟩, by repeat (first | exact Drawn0.refl _ | apply Drawn0.step)⟩
       ·rw [if_neg c8] at H
        have c8b0 : (a0 == 7) = false := z7 c8
        have c8b1 : (a0 != 7) = true := bne_iff_ne.mpr c8
        (first | rw [c8b0] | (simp only [i64_w, i32_w]; rw [c8b0]) | skip)
        have H' := z4 H
        clear H
        go_wp2
        go_meet
        case rel => exact ⟨_, ((a0 == 10)), (by first | rfl | (simp; done) | (simp [*]; done)), H', ⟨by first | omega | exact Nat.le_refl _⟩, by repeat (first | exact Drawn0.refl _ | apply Drawn0.step)⟩
      case rest =>
       clear HC7
       try clear c2
       try clear c2b0
       try clear c2b1
       try clear p2
       try clear c3
       try clear c3b0
       try clear c3b1
       try clear c4
       try clear c4b0
       try clear c4b1
       try clear c5
       try clear c5b0
       try clear c5b1
       try clear c6
       try clear c6b0
       try clear c6b1
       try clear c8
       try clear c8b0
       try clear c8b1
       obtain ⟨kq, x16_6, rfl, HA, HJ6, ⟨mc6, rfl⟩⟩ := hcut
       cases kq with
       | zero => exact absurd HA.out (by simp [cotterref03_parts.j0])
       | succ kj6 =>
        have H := HA.out
        clear HA
        simp only [cotterref03_parts.j0] at H
        by_cases c9 : x16_6 = true
        ·subst c9
         have H1 : (some (false, false, 1)) = some (r1, r2, r3) := by rw [if_pos rfl] at H; exact H
         clear H
         have H := H1
         clear H1
         simp only [Option.some.injEq, Prod.mk.injEq] at H
         obtain ⟨rfl, rfl, rfl⟩ := H
         go_wp2
         go_ret3
         exact ⟨by first | rfl | (simp; done) | (simp [*]; done), by repeat (first | exact Drawn0.refl _ | apply Drawn0.step)⟩
        ·replace c9 := Bool.eq_false_iff.mpr c9
         subst c9
         have H1 : (if a0 = 8 then (some (true, false, 1)) else (if a0 = 9 then (some (true, false, 0)) else (some (false, false, 0)))) = some (r1, r2, r3) := by rw [if_neg (show ¬ (false = true) by decide)] at H; exact H
         clear H
         have H := H1
         clear H1
         by_cases c10 : a0 = 8
         ·rw [if_pos c10] at H
          have c10b0 : (a0 == 8) = true := z5 c10
          have c10b1 : (a0 != 8) = false := z6 c10
          clear c10
          simp only [Option.some.injEq, Prod.mk.injEq] at H
          obtain ⟨rfl, rfl, rfl⟩ := H
          go_wp2
          go_ret3
          exact ⟨by first | rfl | (simp; done) | (simp [*]; done), by repeat (first | exact Drawn0.refl _ | apply Drawn0.step)⟩
         ·rw [if_neg c10] at H
          have c10b0 : (a0 == 8) = false := z7 c10
          have c10b1 : (a0 != 8) = true := bne_iff_ne.mpr c10
          by_cases c11 : a0 = 9
          ·rw [if_pos c11] at H
           have c11b0 : (a0 == 9) = true := z5 c11
           have c11b1 : (a0 != 9) = false := z6 c11
           clear c11
           simp only [Option.some.injEq, Prod.mk.injEq] at H
           obtain ⟨rfl, rfl, rfl⟩ := H
           go_wp2
           go_ret3
           exact ⟨by first | rfl | (simp; done) | (simp [*]; done), by repeat (first | exact Drawn0.refl _ | apply Drawn0.step)⟩
          ·rw [if_neg c11] at H
           have c11b0 : (a0 == 9) = false := z7 c11
           have c11b1 : (a0 != 9) = true := bne_iff_ne.mpr c11
           simp only [Option.some.injEq, Prod.mk.injEq] at H
           obtain ⟨rfl, rfl, rfl⟩ := H
           go_wp2
           go_ret3
           exact ⟨by first | rfl | (simp; done) | (simp [*]; done), by repeat (first | exact Drawn0.refl _ | apply Drawn0.step)⟩
def cotterref03_Size.f (k : Nat) (a0 : Int) : Option (Int) := (cotterref03_form.f k a0).bind fun t127 => (if t127 = 0 then (some 0) else ((cotterref03_parts.f k t127).bind fun bt128 => (if bt128.1 = true then (some (wrap64 (1 + (wrap64 (bt128.2.2 + 1))))) else (some (wrap64 (1 + bt128.2.2))))))
set_option maxHeartbeats 8000000 in
set_option maxRecDepth 100000 in
theorem cotterref03_Size.calls (k : Nat) (a0 : Int) (r : Int) (w : World) (h : cotterref03_Size.f k a0 = some r) :
 Calls Tryd.prog 39 #[.int .i64 a0] w fun e w' => e = .returned (.int .i64 r) ∧ Drawn0 w w' := by
 have H : ((cotterref03_form.f k a0).bind fun t127 => (if t127 = 0 then (some 0) else ((cotterref03_parts.f k t127).bind fun bt128 => (if bt128.1 = true then (some (wrap64 (1 + (wrap64 (bt128.2.2 + 1))))) else (some (wrap64 (1 + bt128.2.2))))))) = some r := h
 clear h
 replace H := z8 H
 obtain ⟨t127, A20, H⟩ := H
 replace H : (if t127 = 0 then (some 0) else ((cotterref03_parts.f k t127).bind fun bt128 => (if bt128.1 = true then (some (wrap64 (1 + (wrap64 (bt128.2.2 + 1))))) else (some (wrap64 (1 + bt128.2.2)))))) = some r := H
 have A2 := z4 A20
 clear A20
 by_cases c3 : t127 = 0
 ·rw [if_pos c3] at H
  have c3b0 : (t127 == 0) = true := z5 c3
  have c3b1 : (t127 != 0) = false := z6 c3
  clear c3
  obtain rfl := Option.some.inj H
  go_enter Tryd.func39, Tryd.ntmps39
  go_wp2_with (first | ((with_reducible refine gate_callee (f := 66) rfl ?_); refine goesL_ (some 8) rfl rfl Tryd.func66 (by kernel_rfl) rfl #[.int .i64 a0] rfl (by (try simp only [z9, List.map_cons, List.map_nil]); first | done | rfl | (simp only [z9a, z9b]; rfl)) ?_; (with_reducible refine (cotterref03_form.calls k a0 t127 _ A2.out).mono ?_); rintro e w' ⟨rfl, ⟨nd, rfl⟩⟩; refine ⟨_, rfl, ?_⟩))
  go_ret
  exact ⟨by first | rfl | (simp; done) | (simp [*]; done), by repeat (first | exact Drawn0.refl _ | apply Drawn0.step)⟩
 ·rw [if_neg c3] at H
  have c3b0 : (t127 == 0) = false := z7 c3
  have c3b1 : (t127 != 0) = true := bne_iff_ne.mpr c3
  replace H := z8 H
  obtain ⟨⟨t128, t129, t130⟩, A40, H⟩ := H
  replace H : (if t128 = true then (some (wrap64 (1 + (wrap64 (t130 + 1))))) else (some (wrap64 (1 + t130)))) = some r := H
  have A4 := z4 A40
  clear A40
  by_cases c5 : t128 = true
  ·subst c5
   have H1 : (some (wrap64 (1 + (wrap64 (t130 + 1))))) = some r := by rw [if_pos rfl] at H; exact H
   clear H
   have H := H1
   clear H1
   obtain rfl := Option.some.inj H
   go_enter Tryd.func39, Tryd.ntmps39
   go_wp2_with (first | ((with_reducible refine gate_callee (f := 66) rfl ?_); refine goesL_ (some 8) rfl rfl Tryd.func66 (by kernel_rfl) rfl #[.int .i64 a0] rfl (by (try simp only [z9, List.map_cons, List.map_nil]); first | done | rfl | (simp only [z9a, z9b]; rfl)) ?_; (with_reducible refine (cotterref03_form.calls k a0 t127 _ A2.out).mono ?_); rintro e w' ⟨rfl, ⟨nd, rfl⟩⟩; refine ⟨_, rfl, ?_⟩) | ((with_reducible refine gate_callee (f := 67) rfl ?_); refine goesL_ (some 13) rfl rfl Tryd.func67 (by kernel_rfl) rfl #[.int .i64 t127] rfl (by (try simp only [z9, List.map_cons, List.map_nil]); first | done | rfl | (simp only [z9a, z9b]; rfl)) ?_; (with_reducible refine (cotterref03_parts.calls k t127 true t129 t130 _ A4.out).mono ?_); rintro e w' ⟨rfl, ⟨nd, rfl⟩⟩; refine ⟨_, rfl, ?_⟩))
   go_ret
   exact ⟨by first | rfl | (simp; done) | (simp [*]; done), by repeat (first | exact Drawn0.refl _ | apply Drawn0.step)⟩
  ·replace c5 := Bool.eq_false_iff.mpr c5
   subst c5
   have H1 : (some (wrap64 (1 + t130))) = some r := by rw [if_neg (show ¬ (false = true) by decide)] at H; exact H
   clear H
   have H := H1
   clear H1
   obtain rfl := Option.some.inj H
   go_enter Tryd.func39, Tryd.ntmps39
   go_wp2_with (first | ((with_reducible refine gate_callee (f := 66) rfl ?_); refine goesL_ (some 8) rfl rfl Tryd.func66 (by kernel_rfl) rfl #[.int .i64 a0] rfl (by (try simp only [z9, List.map_cons, List.map_nil]); first | done | rfl | (simp only [z9a, z9b]; rfl)) ?_; (with_reducible refine (cotterref03_form.calls k a0 t127 _ A2.out).mono ?_); rintro e w' ⟨rfl, ⟨nd, rfl⟩⟩; refine ⟨_, rfl, ?_⟩) | ((with_reducible refine gate_callee (f := 67) rfl ?_); refine goesL_ (some 13) rfl rfl Tryd.func67 (by kernel_rfl) rfl #[.int .i64 t127] rfl (by (try simp only [z9, List.map_cons, List.map_nil]); first | done | rfl | (simp only [z9a, z9b]; rfl)) ?_; (with_reducible refine (cotterref03_parts.calls k t127 false t129 t130 _ A4.out).mono ?_); rintro e w' ⟨rfl, ⟨nd, rfl⟩⟩; refine ⟨_, rfl, ?_⟩))
   go_ret
   exact ⟨by first | rfl | (simp; done) | (simp [*]; done), by repeat (first | exact Drawn0.refl _ | apply Drawn0.step)⟩
def cotterref01_sized.f (a0 : Int) : Option (Bool) := if a0 = 1 then (some true) else (if a0 = 4 then (some true) else (some (a0 == 8)))
set_option maxHeartbeats 8000000 in
set_option maxRecDepth 100000 in
theorem cotterref01_sized.calls (a0 : Int) (r : Bool) (w : World) (h : cotterref01_sized.f a0 = some r) :
 Calls Tryd.prog 90 #[.int .i64 a0] w fun e w' => e = .returned (.bool r) ∧ Drawn0 w w' := by
 have H : (if a0 = 1 then (some true) else (if a0 = 4 then (some true) else (some (a0 == 8)))) = some r := h
 clear h
 by_cases c2 : a0 = 1
 ·rw [if_pos c2] at H
  have c2b0 : (a0 == 1) = true := z5 c2
  have c2b1 : (a0 != 1) = false := z6 c2
  clear c2
  obtain rfl := Option.some.inj H
  go_enter Tryd.func90, Tryd.ntmps90
  go_wp2
  go_ret
  exact ⟨by first | rfl | (simp; done) | (simp [*]; done), by repeat (first | exact Drawn0.refl _ | apply Drawn0.step)⟩
 ·rw [if_neg c2] at H
  have c2b0 : (a0 == 1) = false := z7 c2
  have c2b1 : (a0 != 1) = true := bne_iff_ne.mpr c2
  by_cases c3 : a0 = 4
  ·rw [if_pos c3] at H
   have c3b0 : (a0 == 4) = true := z5 c3
   have c3b1 : (a0 != 4) = false := z6 c3
   clear c3
   obtain rfl := Option.some.inj H
   go_enter Tryd.func90, Tryd.ntmps90
   go_wp2
   go_ret
   exact ⟨by first | rfl | (simp; done) | (simp [*]; done), by repeat (first | exact Drawn0.refl _ | apply Drawn0.step)⟩
  ·rw [if_neg c3] at H
   have c3b0 : (a0 == 4) = false := z7 c3
   have c3b1 : (a0 != 4) = true := bne_iff_ne.mpr c3
   obtain rfl := Option.some.inj H
   go_enter Tryd.func90, Tryd.ntmps90
   go_wp2
   go_ret
   exact ⟨by first | rfl | (simp; done) | (simp [*]; done), by repeat (first | exact Drawn0.refl _ | apply Drawn0.step)⟩
end Go.Proofs.YtimhcpmfhebbhaaDoor.M
namespace Go.Proofs.YtimhcpmfhebbhaaDoor.M
open Go.RowKit Go.Proofs.YtimhcpmfhebbhaaDoorW.PrintWords Go.Proofs.YtimhcpmfhebbhaaDoorW.PrintLast
set_option linter.unusedVariables false
set_option linter.unusedSimpArgs false
def cotterref01_Number.l0 : Nat → ByteArray → Int → Int → Option (Int × Int)
 | 0, _, _, _ => none
 | k + 1, x0, x4, x5 => if x5 ≥ 0 then (if 0 ≤ x5 then (if x5 < (x0.size : Int) then (cotterref01_Number.l0 k x0 (IntKind.u64.wrap ((IntKind.u64.wrap (x4 * 256)) + (IntKind.u64.wrap (bt x0 x5)))) (wrap64 (x5 - 1))) else (none)) else (none)) else (if (x0.size : Int) < 8 then (if 0 ≤ (wrap64 ((x0.size : Int) - 1)) then (if (wrap64 ((x0.size : Int) - 1)) < (x0.size : Int) then (if (bt x0 (wrap64 ((x0.size : Int) - 1))) ≥ 128 then (if 0 ≤ (IntKind.u64.wrap (wrap64 (8 * (x0.size : Int)))) then (some (wrap64 (IntKind.u64.wrap (x4 - (shl .u64 1 (IntKind.u64.wrap (wrap64 (8 * (x0.size : Int))))))), 0)) else (none)) else (some (wrap64 (x4), 0))) else (none)) else (none)) else (some (wrap64 (x4), 0)))
def cotterref01_Number.f (k : Nat) (a0 : ByteArray) : Option (Int × Int) := (cotterref01_sized.f (a0.size : Int)).bind fun t131 => (if t131 = true then (cotterref01_Number.l0 k a0 0 (wrap64 ((a0.size : Int) - 1))) else (some (0, 1)))
set_option maxHeartbeats 8000000 in
set_option maxRecDepth 100000 in
theorem cotterref01_Number.calls (k : Nat) (a0 : ByteArray) (r1 : Int) (r2 : Int) (w : World) (h : cotterref01_Number.f k a0 = some (r1, r2)) :
 Calls Tryd.prog 81 #[.string a0] w fun e w' => e = .returned (.tuple #[.int .i64 r1, .int .i64 r2]) ∧ Drawn0 w w' := by
 have H : ((cotterref01_sized.f (a0.size : Int)).bind fun t131 => (if t131 = true then (cotterref01_Number.l0 k a0 0 (wrap64 ((a0.size : Int) - 1))) else (some (0, 1)))) = some (r1, r2) := h
 clear h
 replace H := z8 H
 obtain ⟨t131, A20, H⟩ := H
 replace H : (if t131 = true then (cotterref01_Number.l0 k a0 0 (wrap64 ((a0.size : Int) - 1))) else (some (0, 1))) = some (r1, r2) := H
 have A2 := z4 A20
 clear A20
 by_cases c3 : t131 = true
 ·subst c3
  have H1 : (cotterref01_Number.l0 k a0 0 (wrap64 ((a0.size : Int) - 1))) = some (r1, r2) := by rw [if_pos rfl] at H; exact H
  clear H
  have H := H1
  clear H1
  have H' := z4 H
  clear H
  go_enter Tryd.func81, Tryd.ntmps81
  go_wp2_with (first | ((with_reducible refine gate_callee (f := 90) rfl ?_); refine goesL_ (some 8) rfl rfl Tryd.func90 (by kernel_rfl) rfl #[.int .i64 (a0.size : Int)] rfl (by (try simp only [z9, List.map_cons, List.map_nil]); first | done | rfl | (simp only [z9a, z9b]; rfl)) ?_; (with_reducible refine (cotterref01_sized.calls (a0.size : Int) true _ A2.out).mono ?_); rintro e w' ⟨rfl, ⟨nd, rfl⟩⟩; refine ⟨_, rfl, ?_⟩))
  go_loopg [4, 5] k (fun kq v4 v5 w' => ∃ (x4_1 : Int) (x5_1 : Int), v4 = .int .u64 x4_1 ∧ v5 = .int .i64 x5_1 ∧ Aside0 (cotterref01_Number.l0 kq a0 x4_1 x5_1 = some (r1, r2)) ∧ Aside0 (kq ≤ k) ∧ Drawn0 w w')
  case atStart => exact ⟨(0), (wrap64 ((a0.size : Int) - 1)), (by first | rfl | (simp; done) | (simp [*]; done)), (by first | rfl | (simp; done) | (simp [*]; done)), H', ⟨Nat.le_refl _⟩, by repeat (first | exact Drawn0.refl _ | apply Drawn0.step)⟩
  case round =>
   clear H'
   try clear p2
   try clear c3
   obtain ⟨x4_1, x5_1, rfl, rfl, HA, HK1, ⟨m1, rfl⟩⟩ := hrel
   cases gk with
   | zero => exact absurd HA.out (by simp [cotterref01_Number.l0])
   | succ k1 =>
    have H := HA.out
    clear HA
    simp only [cotterref01_Number.l0] at H
    by_cases c4 : x5_1 ≥ 0
    ·rw [if_pos c4] at H
     have c4b0 : decide (0 ≤ x5_1) = true := decide_eq_true c4
     clear c4
     by_cases c5 : 0 ≤ x5_1
     ·rw [if_pos c5] at H
      have c5b0 : decide (0 ≤ x5_1) = true := decide_eq_true c5
      clear c5
      by_cases c6 : x5_1 < (a0.size : Int)
      ·rw [if_pos c6] at H
       have c6b0 : decide (x5_1 < (a0.size : Int)) = true := decide_eq_true c6
       clear c6
       have H' := z4 H
       clear H
       have p7 : 0 ≤ (x5_1 : Int) := of_decide_eq_true (by first | (with_reducible assumption) | assumption)
       have q7 : x5_1 < (a0.size : Int) := of_decide_eq_true (by first | (with_reducible assumption) | assumption)
       have hx7 := bt_at a0 x5_1
       replace p7 := eq_true p7
       replace q7 := eq_true q7
       go_wp2
       go_roundg k1
       case measure => have := HK1.out; omega
       case rel => exact ⟨(IntKind.u64.wrap ((IntKind.u64.wrap (x4_1 * 256)) + (IntKind.u64.wrap (bt a0 x5_1)))), (wrap64 (x5_1 - 1)), (by first | rfl | (simp; done) | (simp [*]; done)), (by first | rfl | (simp; done) | (simp [*]; done)), H', ⟨by have := HK1.out; omega⟩, by repeat (first | exact Drawn0.refl _ | apply Drawn0.step)⟩
      ·rw [if_neg c6] at H
       exact absurd H (by simp)
     ·rw [if_neg c5] at H
      exact absurd H (by simp)
    ·rw [if_neg c4] at H
     have c4b0 : decide (0 ≤ x5_1) = false := decide_eq_false c4
     clear c4
     by_cases c8 : (a0.size : Int) < 8
     ·rw [if_pos c8] at H
      have c8b0 : decide ((a0.size : Int) < 8) = true := decide_eq_true c8
      have c8b1 : decide (a0.size < 8) = true := decide_eq_true (by omega)
      clear c8
      obtain ⟨ji9, hji9⟩ : ∃ j_ : Int, (wrap64 ((a0.size : Int) - 1)) = j_ := ⟨_, rfl⟩
      replace H : (if 0 ≤ (ji9) then (if (ji9) < (a0.size : Int) then (if (bt a0 (ji9)) ≥ 128 then (if 0 ≤ (IntKind.u64.wrap (wrap64 (8 * (a0.size : Int)))) then (some (wrap64 (IntKind.u64.wrap (x4_1 - (shl .u64 1 (IntKind.u64.wrap (wrap64 (8 * (a0.size : Int))))))), 0)) else (none)) else (some (wrap64 (x4_1), 0))) else (none)) else (none)) = some (r1, r2) := by first | (rw [hji9] at H; exact H) | (simp only [hji9] at H ⊢; exact H)
      have hji9w : (IntKind.i64.wrap ((a0.size : Int) - 1)) = ji9 := (i64_w _).trans hji9
      by_cases c10 : 0 ≤ (ji9)
      ·rw [if_pos c10] at H
       have c10b0 : decide (0 ≤ (ji9)) = true := decide_eq_true c10
       clear c10
       by_cases c11 : (ji9) < (a0.size : Int)
       ·rw [if_pos c11] at H
        have c11b0 : decide ((ji9) < (a0.size : Int)) = true := decide_eq_true c11
        clear c11
        by_cases c13 : (bt a0 (ji9)) ≥ 128
        ·rw [if_pos c13] at H
         have c13b0 : decide (128 ≤ (bt a0 (ji9))) = true := decide_eq_true c13
         clear c13
         obtain ⟨ji14, hji14⟩ : ∃ j_ : Int, (IntKind.u64.wrap (wrap64 (8 * (a0.size : Int)))) = j_ := ⟨_, rfl⟩
         replace H : (if 0 ≤ (ji14) then (some (wrap64 (IntKind.u64.wrap (x4_1 - (shl .u64 1 (ji14)))), 0)) else (none)) = some (r1, r2) := by first | (rw [hji14] at H; exact H) | (simp only [hji14] at H ⊢; exact H)
         by_cases c15 : 0 ≤ (ji14)
         ·rw [if_pos c15] at H
          have c15b0 := eq_true c15
          have c15b1 : decide (0 ≤ (ji14)) = true := decide_eq_true c15
          clear c15
          obtain ⟨ji16, hji16⟩ : ∃ j_ : Int, (shl .u64 1 (ji14)) = j_ := ⟨_, rfl⟩
          replace H : (some (wrap64 (IntKind.u64.wrap (x4_1 - (ji16))), 0)) = some (r1, r2) := by first | (rw [hji16] at H; exact H) | (simp only [hji16] at H ⊢; exact H)
          have hji16_ : (IntKind.u64.wrap (1 * 2 ^ min (ji14).toNat 64)) = ji16 := hji16
          have hji16z : (ji14) ≤ 64 → (IntKind.u64.wrap (1 * 2 ^ (ji14).toNat)) = ji16 := shl_small hji16
          have hji16u : (IntKind.u64.wrap (2 ^ min (ji14).toNat 64)) = ji16 := by have h_ := hji16_; rw [Int.one_mul] at h_; exact h_
          have hji16v : (ji14) ≤ 64 → (IntKind.u64.wrap (2 ^ (ji14).toNat)) = ji16 := fun hle_ => by have h_ := hji16z hle_; rw [Int.one_mul] at h_; exact h_
          simp only [Option.some.injEq, Prod.mk.injEq] at H
          obtain ⟨rfl, rfl⟩ := H
          have p12 : 0 ≤ ((ji9) : Int) := of_decide_eq_true (by first | (with_reducible assumption) | assumption)
          have q12 : (ji9) < (a0.size : Int) := of_decide_eq_true (by first | (with_reducible assumption) | assumption)
          have hx12 := bt_at a0 (ji9)
          replace p12 := eq_true p12
          replace q12 := eq_true q12
          go_wp2
          go_ret2
          exact ⟨by first | rfl | (simp; done) | (simp only [← hji9, ← hji14, ← hji16] <;> (first | rfl | simp)) | (simp [*]; done), by repeat (first | exact Drawn0.refl _ | apply Drawn0.step)⟩
         ·rw [if_neg c15] at H
          exact absurd H (by simp)
        ·rw [if_neg c13] at H
         have c13b0 : decide (128 ≤ (bt a0 (ji9))) = false := decide_eq_false c13
         clear c13
         simp only [Option.some.injEq, Prod.mk.injEq] at H
         obtain ⟨rfl, rfl⟩ := H
         have p12 : 0 ≤ ((ji9) : Int) := of_decide_eq_true (by first | (with_reducible assumption) | assumption)
         have q12 : (ji9) < (a0.size : Int) := of_decide_eq_true (by first | (with_reducible assumption) | assumption)
         have hx12 := bt_at a0 (ji9)
         replace p12 := eq_true p12
         replace q12 := eq_true q12
         go_wp2
         go_ret2
         exact ⟨by first | rfl | (simp; done) | (simp only [← hji9] <;> (first | rfl | simp)) | (simp [*]; done), by repeat (first | exact Drawn0.refl _ | apply Drawn0.step)⟩
       ·rw [if_neg c11] at H
        exact absurd H (by simp)
      ·rw [if_neg c10] at H
       exact absurd H (by simp)
     ·rw [if_neg c8] at H
      have c8b0 : decide ((a0.size : Int) < 8) = false := decide_eq_false c8
      have c8b1 : decide (a0.size < 8) = false := decide_eq_false (by omega)
      clear c8
      simp only [Option.some.injEq, Prod.mk.injEq] at H
      obtain ⟨rfl, rfl⟩ := H
      go_wp2
      go_ret2
      exact ⟨by first | rfl | (simp; done) | (simp [*]; done), by repeat (first | exact Drawn0.refl _ | apply Drawn0.step)⟩
 ·replace c3 := Bool.eq_false_iff.mpr c3
  subst c3
  have H1 : (some (0, 1)) = some (r1, r2) := by rw [if_neg (show ¬ (false = true) by decide)] at H; exact H
  clear H
  have H := H1
  clear H1
  simp only [Option.some.injEq, Prod.mk.injEq] at H
  obtain ⟨rfl, rfl⟩ := H
  go_enter Tryd.func81, Tryd.ntmps81
  go_wp2_with (first | ((with_reducible refine gate_callee (f := 90) rfl ?_); refine goesL_ (some 8) rfl rfl Tryd.func90 (by kernel_rfl) rfl #[.int .i64 (a0.size : Int)] rfl (by (try simp only [z9, List.map_cons, List.map_nil]); first | done | rfl | (simp only [z9a, z9b]; rfl)) ?_; (with_reducible refine (cotterref01_sized.calls (a0.size : Int) false _ A2.out).mono ?_); rintro e w' ⟨rfl, ⟨nd, rfl⟩⟩; refine ⟨_, rfl, ?_⟩))
  go_ret2
  exact ⟨by first | rfl | (simp; done) | (simp [*]; done), by repeat (first | exact Drawn0.refl _ | apply Drawn0.step)⟩
mutual
def cotterref01_Bytes.j0 : Nat → Int → Int → Option (ByteArray × Int)
 | 0, _, _ => none
 | k + 1, x0, x1 => cotterref01_Bytes.l0 k x1 ([] : List Int) (IntKind.u64.wrap (x0)) 0
def cotterref01_Bytes.l0 : Nat → Int → List Int → Int → Int → Option (ByteArray × Int)
 | 0, _, _, _, _ => none
 | k + 1, x1, x7, x8, x9 => if x9 < x1 then (if x7.length < 140737488355328 then (cotterref01_Bytes.l0 k x1 (x7 ++ [(Int.tmod x8 256) % 256]) (IntKind.u64.wrap (Int.tdiv x8 256)) (wrap64 (x9 + 1))) else (none)) else (some (strOfNums x7, 0))
end
def cotterref01_Bytes.f (k : Nat) (a0 : Int) (a1 : Int) : Option (ByteArray × Int) := (cotterref01_sized.f a1).bind fun t132 => (if t132 = true then (if a1 < 8 then (if 0 ≤ (IntKind.u64.wrap (wrap64 ((wrap64 (8 * a1)) - 1))) then (if a0 < (wrap64 (-(shl .i64 1 (IntKind.u64.wrap (wrap64 ((wrap64 (8 * a1)) - 1)))))) then (some ((⟨#[]⟩ : ByteArray), 7)) else (if a0 ≥ (shl .i64 1 (IntKind.u64.wrap (wrap64 ((wrap64 (8 * a1)) - 1)))) then (some ((⟨#[]⟩ : ByteArray), 7)) else (cotterref01_Bytes.j0 k a0 a1))) else (none)) else (cotterref01_Bytes.j0 k a0 a1)) else (some ((⟨#[]⟩ : ByteArray), 1)))
set_option maxHeartbeats 8000000 in
set_option maxRecDepth 100000 in
theorem cotterref01_Bytes.calls (k : Nat) (a0 : Int) (a1 : Int) (r1 : ByteArray) (r2 : Int) (w : World) (h : cotterref01_Bytes.f k a0 a1 = some (r1, r2)) :
 Calls Tryd.prog 73 #[.int .i64 a0, .int .i64 a1] w fun e w' => e = .returned (.tuple #[.string r1, .int .i64 r2]) ∧ Below w.heap.size w w' := by
 have HB := z4 (Below.refl w.heap.size w)
 have H : ((cotterref01_sized.f a1).bind fun t132 => (if t132 = true then (if a1 < 8 then (if 0 ≤ (IntKind.u64.wrap (wrap64 ((wrap64 (8 * a1)) - 1))) then (if a0 < (wrap64 (-(shl .i64 1 (IntKind.u64.wrap (wrap64 ((wrap64 (8 * a1)) - 1)))))) then (some ((⟨#[]⟩ : ByteArray), 7)) else (if a0 ≥ (shl .i64 1 (IntKind.u64.wrap (wrap64 ((wrap64 (8 * a1)) - 1)))) then (some ((⟨#[]⟩ : ByteArray), 7)) else (cotterref01_Bytes.j0 k a0 a1))) else (none)) else (cotterref01_Bytes.j0 k a0 a1)) else (some ((⟨#[]⟩ : ByteArray), 1)))) = some (r1, r2) := h
 clear h
 replace H := z8 H
 obtain ⟨t132, A30, H⟩ := H
 replace H : (if t132 = true then (if a1 < 8 then (if 0 ≤ (IntKind.u64.wrap (wrap64 ((wrap64 (8 * a1)) - 1))) then (if a0 < (wrap64 (-(shl .i64 1 (IntKind.u64.wrap (wrap64 ((wrap64 (8 * a1)) - 1)))))) then (some ((⟨#[]⟩ : ByteArray), 7)) else (if a0 ≥ (shl .i64 1 (IntKind.u64.wrap (wrap64 ((wrap64 (8 * a1)) - 1)))) then (some ((⟨#[]⟩ : ByteArray), 7)) else (cotterref01_Bytes.j0 k a0 a1))) else (none)) else (cotterref01_Bytes.j0 k a0 a1)) else (some ((⟨#[]⟩ : ByteArray), 1))) = some (r1, r2) := H
 have A3 := z4 A30
 clear A30
 by_cases c4 : t132 = true
 ·subst c4
  have H1 : (if a1 < 8 then (if 0 ≤ (IntKind.u64.wrap (wrap64 ((wrap64 (8 * a1)) - 1))) then (if a0 < (wrap64 (-(shl .i64 1 (IntKind.u64.wrap (wrap64 ((wrap64 (8 * a1)) - 1)))))) then (some ((⟨#[]⟩ : ByteArray), 7)) else (if a0 ≥ (shl .i64 1 (IntKind.u64.wrap (wrap64 ((wrap64 (8 * a1)) - 1)))) then (some ((⟨#[]⟩ : ByteArray), 7)) else (cotterref01_Bytes.j0 k a0 a1))) else (none)) else (cotterref01_Bytes.j0 k a0 a1)) = some (r1, r2) := by rw [if_pos rfl] at H; exact H
  clear H
  have H := H1
  clear H1
  have HC5 := z4 H
  clear H
  go_enter Tryd.func73, Tryd.ntmps73
  go_upto_if 14 with (first | ((with_reducible refine gate_callee (f := 90) rfl ?_); refine goesL_ (some 11) rfl rfl Tryd.func90 (by kernel_rfl) rfl #[.int .i64 a1] rfl (by (try simp only [z9, List.map_cons, List.map_nil]); first | done | rfl | (simp only [z9a, z9b]; rfl)) ?_; (with_reducible refine (cotterref01_sized.calls a1 true _ A3.out).mono ?_); rintro e w' ⟨rfl, ⟨nd, rfl⟩⟩; refine ⟨_, rfl, ?_⟩))
  (try simp only [Act.put, z1, z2, z3])
  go_cut [] (fun wc => ∃ (kq : Nat), Aside0 (cotterref01_Bytes.j0 kq a0 a1 = some (r1, r2)) ∧ Aside0 (kq ≤ k) ∧ Aside0 (Below w.heap.size w wc))
  case first =>
   have H := HC5.out
   clear HC5
   by_cases c6 : a1 < 8
   ·rw [if_pos c6] at H
    have c6b0 : decide (a1 < 8) = true := decide_eq_true c6
    clear c6
    (first | rw [c6b0] | (simp only [i64_w, i32_w]; rw [c6b0]) | skip)
    obtain ⟨ji7, hji7⟩ : ∃ j_ : Int, (IntKind.u64.wrap (wrap64 ((wrap64 (8 * a1)) - 1))) = j_ := ⟨_, rfl⟩
    replace H : (if 0 ≤ (ji7) then (if a0 < (wrap64 (-(shl .i64 1 (ji7)))) then (some ((⟨#[]⟩ : ByteArray), 7)) else (if a0 ≥ (shl .i64 1 (ji7)) then (some ((⟨#[]⟩ : ByteArray), 7)) else (cotterref01_Bytes.j0 k a0 a1))) else (none)) = some (r1, r2) := by first | (rw [hji7] at H; exact H) | (simp only [hji7] at H ⊢; exact H)
    by_cases c8 : 0 ≤ (ji7)
    ·rw [if_pos c8] at H
     have c8b0 := eq_true c8
     have c8b1 : decide (0 ≤ (ji7)) = true := decide_eq_true c8
     clear c8
     obtain ⟨ji9, hji9⟩ : ∃ j_ : Int, (shl .i64 1 (ji7)) = j_ := ⟨_, rfl⟩
     replace H : (if a0 < (wrap64 (-(ji9))) then (some ((⟨#[]⟩ : ByteArray), 7)) else (if a0 ≥ (ji9) then (some ((⟨#[]⟩ : ByteArray), 7)) else (cotterref01_Bytes.j0 k a0 a1))) = some (r1, r2) := by first | (rw [hji9] at H; exact H) | (simp only [hji9] at H ⊢; exact H)
     have hji9_ : (IntKind.i64.wrap (1 * 2 ^ min (ji7).toNat 64)) = ji9 := hji9
     have hji9z : (ji7) ≤ 64 → (IntKind.i64.wrap (1 * 2 ^ (ji7).toNat)) = ji9 := shl_small hji9
     have hji9u : (IntKind.i64.wrap (2 ^ min (ji7).toNat 64)) = ji9 := by have h_ := hji9_; rw [Int.one_mul] at h_; exact h_
     have hji9v : (ji7) ≤ 64 → (IntKind.i64.wrap (2 ^ (ji7).toNat)) = ji9 := fun hle_ => by have h_ := hji9z hle_; rw [Int.one_mul] at h_; exact h_
     have hji9y : (wrap64 (1 * 2 ^ min (ji7).toNat 64)) = ji9 := (i64_w _).symm.trans hji9_
     have hji9x : (ji7) ≤ 64 → (wrap64 (1 * 2 ^ (ji7).toNat)) = ji9 := fun h_ => (i64_w _).symm.trans (hji9z h_)
     by_cases c10 : a0 < (wrap64 (-(ji9)))
     ·rw [if_pos c10] at H
      have c10b0 : decide (a0 < (wrap64 (-(ji9)))) = true := decide_eq_true c10
      clear c10
      simp only [Option.some.injEq, Prod.mk.injEq] at H
      obtain ⟨rfl, rfl⟩ := H
      go_wp2
      go_ret2
      exact ⟨by first | rfl | (simp [errW_none, errW_some] <;> rfl) | (simp only [← hji7, ← hji9]; first | rfl | (simp [errW_none, errW_some] <;> rfl)) | (simp [*, errW_none, errW_some] <;> rfl), by repeat (first | exact HB.out | apply zA | apply zB | apply zD)⟩
     ·rw [if_neg c10] at H
      have c10b0 : decide (a0 < (wrap64 (-(ji9)))) = false := decide_eq_false c10
      clear c10
      by_cases c11 : a0 ≥ (ji9)
      ·rw [if_pos c11] at H
       have c11b0 : decide ((ji9) ≤ a0) = true := decide_eq_true c11
       clear c11
       simp only [Option.some.injEq, Prod.mk.injEq] at H
       obtain ⟨rfl, rfl⟩ := H
       go_wp2
       go_ret2
       exact ⟨by first | rfl | (simp [errW_none, errW_some] <;> rfl) | (simp only [← hji7, ← hji9]; first | rfl | (simp [errW_none, errW_some] <;> rfl)) | (simp [*, errW_none, errW_some] <;> rfl), by repeat (first | exact HB.out | apply zA | apply zB | apply zD)⟩
      ·rw [if_neg c11] at H
       have c11b0 : decide ((ji9) ≤ a0) = false := decide_eq_false c11
       clear c11
       have H' := z4 H
       clear H
       go_wp2
       go_meet
       case rel => exact ⟨_, H', ⟨by first | omega | exact Nat.le_refl _⟩, ⟨by repeat (first | exact HB.out | apply zA | apply zB | apply zD)⟩⟩
    ·rw [if_neg c8] at H
     exact absurd H (by simp)
   ·rw [if_neg c6] at H
    have c6b0 : decide (a1 < 8) = false := decide_eq_false c6
    clear c6
    (first | rw [c6b0] | (simp only [i64_w, i32_w]; rw [c6b0]) | skip)
    have H' := z4 H
    clear H
    go_wp2
    go_meet
    case rel => exact ⟨_, H', ⟨by first | omega | exact Nat.le_refl _⟩, ⟨by repeat (first | exact HB.out | apply zA | apply zB | apply zD)⟩⟩
  case rest =>
   clear HC5
   try clear c1
   try clear p2
   try clear c4
   try clear c6
   try clear c6b0
   try clear p6
   try clear c7
   try clear c8
   try clear c8b0
   try clear c8b1
   try clear c9
   try clear c10
   try clear c10b0
   try clear c11
   try clear c11b0
   obtain ⟨kq, HA, HJ4, HB⟩ := hcut
   cases kq with
   | zero => exact absurd HA.out (by simp [cotterref01_Bytes.j0])
   | succ kj4 =>
    have H := HA.out
    clear HA
    simp only [cotterref01_Bytes.j0] at H
    have H' := z4 H
    clear H
    go_wp2
    go_loopg [7, 8, 9] kj4 (fun kq v7 v8 v9 w' => ∃ (x7_2 : List Int) (x8_2 : Int) (x9_2 : Int), v8 = .int .u64 x8_2 ∧ v9 = .int .i64 x9_2 ∧ Aside0 (cotterref01_Bytes.l0 kq a1 x7_2 x8_2 x9_2 = some (r1, r2)) ∧ Aside0 (kq ≤ kj4) ∧ Aside0 (Kd.R (Kd.int .u8) 5 w' w.heap.size (fun _ => True) v7 x7_2) ∧ Aside0 (Below w.heap.size w w'))
    case atStart => exact ⟨(([] : List Int)), (IntKind.u64.wrap (a0)), (0), (by first | rfl | (simp; done) | (simp [*]; done)), (by first | rfl | (simp; done) | (simp [*]; done)), H', ⟨Nat.le_refl _⟩, ⟨by first | exact Kd.R_nil _ _ _ _ _ | exact Kd.N_nil _ _ _ _ _ | exact Kd.V_nil _ _ _ _ _ | exact Kd.Q_nil _ _ _ _ _ | exact Kd.S_nil _ _ _ _ _⟩, ⟨by repeat (first | exact HB.out | apply zA | apply zB | apply zD)⟩⟩
    case round =>
     clear H'
     try clear c1
     try clear p2
     try clear c4
     try clear c6
     try clear c6b0
     try clear p6
     try clear c7
     try clear c8
     try clear c8b0
     try clear c8b1
     try clear c9
     try clear c10
     try clear c10b0
     try clear c11
     try clear c11b0
     try clear p2
     try clear p6
     obtain ⟨x7_2, x8_2, x9_2, rfl, rfl, HA, HK2, HO_7, HB⟩ := hrel
     cases gk with
     | zero => exact absurd HA.out (by simp [cotterref01_Bytes.l0])
     | succ k2 =>
      have H := HA.out
      clear HA
      simp only [cotterref01_Bytes.l0] at H
      by_cases c12 : x9_2 < a1
      ·rw [if_pos c12] at H
       have c12b0 : decide (x9_2 < a1) = true := decide_eq_true c12
       clear c12
       by_cases c13 : x7_2.length < 140737488355328
       ·rw [if_pos c13] at H
        have LMc13 := z4 c13
        clear c13
        obtain ⟨y133, hy133⟩ : ∃ y_ : List Int, y_ = (x7_2 ++ [(Int.tmod x8_2 256) % 256]) := ⟨_, rfl⟩
        replace H : (cotterref01_Bytes.l0 k2 a1 y133 (IntKind.u64.wrap (Int.tdiv x8_2 256)) (wrap64 (x9_2 + 1))) = some (r1, r2) := by first | (rw [hy133]; with_reducible exact H) | (have H2_ := (Option.bind_some _ _).symm.trans H; rw [hy133]; with_reducible exact H2_) | (have H2_ := (Option.bind_some _ _).symm.trans H; with_reducible exact H2_) | with_reducible exact H | (rw [hy133]; exact H) | exact H
        have Ny133 := z4 hy133
        clear hy133
        have H' := z4 H
        clear H
        go_wp2_with (first | ((with_reducible refine gate_builtin (b := .append) (xs := #[.tmp 36, .tmp 40]) rfl ?_); at_builtin; refine Kd.R_append (Kd.int .u8) (w0 := w) w.heap.size rfl (.tmp 36) (.tmp 40) 60 5 (.int .u8 0) 1 rfl Tryd.underlying60 info5 rfl (by decide) (by omega) u7 x7_2 ((Int.tmod x8_2 256) % 256) [.int .u8 ((Int.tmod x8_2 256) % 256)] (fun _ => True) (fun _ => False) rfl rfl ?aP (fun _ hk => hk.elim) ?aF ?aO ?aB ?aS ?aL ?_; (case aP => exact rfl); (case aB => exact (by repeat (first | exact HB.out | apply zA | apply zB | apply zD))); (case aF => exact (fun _ _ => trivial)); (case aO => exact (by (with_reducible repeat (first | apply zM | apply zN | apply zO)); exact HO_7.out)); (case aS => exact (zL (by repeat (first | exact HB.out | apply zA | apply zB | apply zD)))); (case aL => have := LMc13.out; omega); intro v134 w14 ho hb hg hat; rw [← Ny133.out] at ho; have n0_ := z4 (hb); have n1_ := z4 (ho); clear HB; clear HO_7; have HB := n0_; have HO135 := n1_; clear n0_ n1_; clear ho hb hg hat))
        go_roundg k2
        case measure => have := HJ4.out; have := HK2.out; omega
        case rel => exact ⟨(y133), (IntKind.u64.wrap (Int.tdiv x8_2 256)), (wrap64 (x9_2 + 1)), (by first | rfl | (simp; done) | (simp [*]; done)), (by first | rfl | (simp; done) | (simp [*]; done)), H', ⟨by have := HJ4.out; have := HK2.out; omega⟩, ⟨by (with_reducible repeat (first | apply zM | apply zN | apply zO)); exact HO135.out⟩, ⟨by repeat (first | exact HB.out | apply zA | apply zB | apply zD)⟩⟩
       ·rw [if_neg c13] at H
        exact absurd H (by simp)
      ·rw [if_neg c12] at H
       have c12b0 : decide (x9_2 < a1) = false := decide_eq_false c12
       clear c12
       simp only [Option.some.injEq, Prod.mk.injEq] at H
       obtain ⟨rfl, rfl⟩ := H
       have hcv15 := own_string (P := Tryd.prog) Tryd.underlying60 Tryd.underlying5 Tryd.underlying9 (Kd.own_of_R HO_7.out)
       go_wp2
       go_ret2
       exact ⟨by first | rfl | (simp [errW_none, errW_some] <;> rfl) | (simp [*, errW_none, errW_some] <;> rfl), by repeat (first | exact HB.out | apply zA | apply zB | apply zD)⟩
 ·replace c4 := Bool.eq_false_iff.mpr c4
  subst c4
  have H1 : (some ((⟨#[]⟩ : ByteArray), 1)) = some (r1, r2) := by rw [if_neg (show ¬ (false = true) by decide)] at H; exact H
  clear H
  have H := H1
  clear H1
  simp only [Option.some.injEq, Prod.mk.injEq] at H
  obtain ⟨rfl, rfl⟩ := H
  go_enter Tryd.func73, Tryd.ntmps73
  go_wp2_with (first | ((with_reducible refine gate_callee (f := 90) rfl ?_); refine goesL_ (some 11) rfl rfl Tryd.func90 (by kernel_rfl) rfl #[.int .i64 a1] rfl (by (try simp only [z9, List.map_cons, List.map_nil]); first | done | rfl | (simp only [z9a, z9b]; rfl)) ?_; (with_reducible refine (cotterref01_sized.calls a1 false _ A3.out).mono ?_); rintro e w' ⟨rfl, ⟨nd, rfl⟩⟩; refine ⟨_, rfl, ?_⟩))
  go_ret2
  exact ⟨by first | rfl | (simp [errW_none, errW_some] <;> rfl) | (simp [*, errW_none, errW_some] <;> rfl), by repeat (first | exact HB.out | apply zA | apply zB | apply zD)⟩
end Go.Proofs.YtimhcpmfhebbhaaDoor.M
namespace Go.Proofs.YtimhcpmfhebbhaaDoor.M
open Go.RowKit Go.Proofs.YtimhcpmfhebbhaaDoorW.PrintWords Go.Proofs.YtimhcpmfhebbhaaDoorW.PrintLast
set_option linter.unusedVariables false
set_option linter.unusedSimpArgs false
mutual
def cotterref03_Encode.j0 : Nat → Int → Bool → Bool → Int → Bool → Int → Int → Int → Int → Option (ByteArray × Int)
 | 0, _, _, _, _, _, _, _, _, _ => none
 | k + 1, x4, x5, x6, x7, x68, x137000, x137001, x137002, x137003 => if x68 = true then (some ((⟨#[]⟩ : ByteArray), 1)) else (if x4 = 10 then (if x137003 < 0 then (cotterref03_Encode.j1 k x5 x6 x7 true x137000 x137001 x137002 x137003) else (cotterref03_Encode.j1 k x5 x6 x7 (decide (x137003 > 127)) x137000 x137001 x137002 x137003)) else (cotterref03_Encode.j1 k x5 x6 x7 false x137000 x137001 x137002 x137003))
def cotterref03_Encode.j1 : Nat → Bool → Bool → Int → Bool → Int → Int → Int → Int → Option (ByteArray × Int)
 | 0, _, _, _, _, _, _, _, _ => none
 | k + 1, x5, x6, x7, x80, x137000, x137001, x137002, x137003 => if x80 = true then (some ((⟨#[]⟩ : ByteArray), 7)) else ((some (([(x137000) % 256] : List Int) : List Int)).bind fun y141 => (if x6 = true then ((some (([(wrap64 ((wrap64 (16 * x137001)) + x137002)) % 256] : List Int) : List Int)).bind fun y144 => (if (strOfNums y141).size + (strOfNums y144).size ≤ 9223372036854775807 then (cotterref03_Encode.j2 k x7 ((strOfNums y141) ++ (strOfNums y144)) x137000 x137001 x137002 x137003) else (none))) else (if x5 = true then ((some (([(x137001) % 256] : List Int) : List Int)).bind fun y147 => (if (strOfNums y141).size + (strOfNums y147).size ≤ 9223372036854775807 then (cotterref03_Encode.j2 k x7 ((strOfNums y141) ++ (strOfNums y147)) x137000 x137001 x137002 x137003) else (none))) else (cotterref03_Encode.j2 k x7 (strOfNums y141) x137000 x137001 x137002 x137003))))
def cotterref03_Encode.j2 : Nat → Int → ByteArray → Int → Int → Int → Int → Option (ByteArray × Int)
 | 0, _, _, _, _, _, _ => none
 | k + 1, x7, x8, x137000, x137001, x137002, x137003 => if x7 > 0 then ((cotterref01_Bytes.f k x137003 x7).bind fun bt150 => (if bt150.2 = 0 then (if x8.size + bt150.1.size ≤ 9223372036854775807 then (some (x8 ++ bt150.1, 0)) else (none)) else (some ((⟨#[]⟩ : ByteArray), bt150.2)))) else (some (x8, 0))
end
def cotterref03_Encode.f (k : Nat) (a0_0 : Int) (a0_1 : Int) (a0_2 : Int) (a0_3 : Int) : Option (ByteArray × Int) := (cotterref03_form.f k a0_0).bind fun t137 => ((cotterref03_parts.f k t137).bind fun bt138 => (if t137 = 0 then (cotterref03_Encode.j0 k t137 bt138.1 bt138.2.1 bt138.2.2 true a0_0 a0_1 a0_2 a0_3) else (if a0_1 < 0 then (cotterref03_Encode.j0 k t137 bt138.1 bt138.2.1 bt138.2.2 true a0_0 a0_1 a0_2 a0_3) else (if a0_1 > 7 then (cotterref03_Encode.j0 k t137 bt138.1 bt138.2.1 bt138.2.2 true a0_0 a0_1 a0_2 a0_3) else (if a0_2 < 0 then (cotterref03_Encode.j0 k t137 bt138.1 bt138.2.1 bt138.2.2 true a0_0 a0_1 a0_2 a0_3) else (if a0_2 > 7 then (cotterref03_Encode.j0 k t137 bt138.1 bt138.2.1 bt138.2.2 true a0_0 a0_1 a0_2 a0_3) else (if bt138.1 = true then (if bt138.2.1 = true then (if bt138.2.2 = 0 then (cotterref03_Encode.j0 k t137 bt138.1 bt138.2.1 bt138.2.2 (a0_3 != 0) a0_0 a0_1 a0_2 a0_3) else (cotterref03_Encode.j0 k t137 bt138.1 bt138.2.1 bt138.2.2 false a0_0 a0_1 a0_2 a0_3)) else (if a0_2 = 0 then (if bt138.2.2 = 0 then (cotterref03_Encode.j0 k t137 bt138.1 bt138.2.1 bt138.2.2 (a0_3 != 0) a0_0 a0_1 a0_2 a0_3) else (cotterref03_Encode.j0 k t137 bt138.1 bt138.2.1 bt138.2.2 false a0_0 a0_1 a0_2 a0_3)) else (cotterref03_Encode.j0 k t137 bt138.1 bt138.2.1 bt138.2.2 true a0_0 a0_1 a0_2 a0_3))) else (if a0_1 = 0 then (if bt138.2.1 = true then (if bt138.2.2 = 0 then (cotterref03_Encode.j0 k t137 bt138.1 bt138.2.1 bt138.2.2 (a0_3 != 0) a0_0 a0_1 a0_2 a0_3) else (cotterref03_Encode.j0 k t137 bt138.1 bt138.2.1 bt138.2.2 false a0_0 a0_1 a0_2 a0_3)) else (if a0_2 = 0 then (if bt138.2.2 = 0 then (cotterref03_Encode.j0 k t137 bt138.1 bt138.2.1 bt138.2.2 (a0_3 != 0) a0_0 a0_1 a0_2 a0_3) else (cotterref03_Encode.j0 k t137 bt138.1 bt138.2.1 bt138.2.2 false a0_0 a0_1 a0_2 a0_3)) else (cotterref03_Encode.j0 k t137 bt138.1 bt138.2.1 bt138.2.2 true a0_0 a0_1 a0_2 a0_3))) else (cotterref03_Encode.j0 k t137 bt138.1 bt138.2.1 bt138.2.2 true a0_0 a0_1 a0_2 a0_3)))))))))
set_option maxHeartbeats 8000000 in
set_option maxRecDepth 100000 in
theorem cotterref03_Encode.calls (k : Nat) (a0_0 : Int) (a0_1 : Int) (a0_2 : Int) (a0_3 : Int) (r1 : ByteArray) (r2 : Int) (w : World) (h : cotterref03_Encode.f k a0_0 a0_1 a0_2 a0_3 = some (r1, r2)) :
 Calls Tryd.prog 82 #[.agg #[.int .i64 a0_0, .int .i64 a0_1, .int .i64 a0_2, .int .i64 a0_3]] w fun e w' => e = .returned (.tuple #[.string r1, .int .i64 r2]) ∧ Below w.heap.size w w' := by
 have hu79 := Tryd.underlying79
 have HB := z4 (Below.refl w.heap.size w)
 have H : ((cotterref03_form.f k a0_0).bind fun t137 => ((cotterref03_parts.f k t137).bind fun bt138 => (if t137 = 0 then (cotterref03_Encode.j0 k t137 bt138.1 bt138.2.1 bt138.2.2 true a0_0 a0_1 a0_2 a0_3) else (if a0_1 < 0 then (cotterref03_Encode.j0 k t137 bt138.1 bt138.2.1 bt138.2.2 true a0_0 a0_1 a0_2 a0_3) else (if a0_1 > 7 then (cotterref03_Encode.j0 k t137 bt138.1 bt138.2.1 bt138.2.2 true a0_0 a0_1 a0_2 a0_3) else (if a0_2 < 0 then (cotterref03_Encode.j0 k t137 bt138.1 bt138.2.1 bt138.2.2 true a0_0 a0_1 a0_2 a0_3) else (if a0_2 > 7 then (cotterref03_Encode.j0 k t137 bt138.1 bt138.2.1 bt138.2.2 true a0_0 a0_1 a0_2 a0_3) else (if bt138.1 = true then (if bt138.2.1 = true then (if bt138.2.2 = 0 then (cotterref03_Encode.j0 k t137 bt138.1 bt138.2.1 bt138.2.2 (a0_3 != 0) a0_0 a0_1 a0_2 a0_3) else (cotterref03_Encode.j0 k t137 bt138.1 bt138.2.1 bt138.2.2 false a0_0 a0_1 a0_2 a0_3)) else (if a0_2 = 0 then (if bt138.2.2 = 0 then (cotterref03_Encode.j0 k t137 bt138.1 bt138.2.1 bt138.2.2 (a0_3 != 0) a0_0 a0_1 a0_2 a0_3) else (cotterref03_Encode.j0 k t137 bt138.1 bt138.2.1 bt138.2.2 false a0_0 a0_1 a0_2 a0_3)) else (cotterref03_Encode.j0 k t137 bt138.1 bt138.2.1 bt138.2.2 true a0_0 a0_1 a0_2 a0_3))) else (if a0_1 = 0 then (if bt138.2.1 = true then (if bt138.2.2 = 0 then (cotterref03_Encode.j0 k t137 bt138.1 bt138.2.1 bt138.2.2 (a0_3 != 0) a0_0 a0_1 a0_2 a0_3) else (cotterref03_Encode.j0 k t137 bt138.1 bt138.2.1 bt138.2.2 false a0_0 a0_1 a0_2 a0_3)) else (if a0_2 = 0 then (if bt138.2.2 = 0 then (cotterref03_Encode.j0 k t137 bt138.1 bt138.2.1 bt138.2.2 (a0_3 != 0) a0_0 a0_1 a0_2 a0_3) else (cotterref03_Encode.j0 k t137 bt138.1 bt138.2.1 bt138.2.2 false a0_0 a0_1 a0_2 a0_3)) else (cotterref03_Encode.j0 k t137 bt138.1 bt138.2.1 bt138.2.2 true a0_0 a0_1 a0_2 a0_3))) else (cotterref03_Encode.j0 k t137 bt138.1 bt138.2.1 bt138.2.2 true a0_0 a0_1 a0_2 a0_3)))))))))) = some (r1, r2) := h
 clear h
 replace H := z8 H
 obtain ⟨t137, A20, H⟩ := H
 replace H : ((cotterref03_parts.f k t137).bind fun bt138 => (if t137 = 0 then (cotterref03_Encode.j0 k t137 bt138.1 bt138.2.1 bt138.2.2 true a0_0 a0_1 a0_2 a0_3) else (if a0_1 < 0 then (cotterref03_Encode.j0 k t137 bt138.1 bt138.2.1 bt138.2.2 true a0_0 a0_1 a0_2 a0_3) else (if a0_1 > 7 then (cotterref03_Encode.j0 k t137 bt138.1 bt138.2.1 bt138.2.2 true a0_0 a0_1 a0_2 a0_3) else (if a0_2 < 0 then (cotterref03_Encode.j0 k t137 bt138.1 bt138.2.1 bt138.2.2 true a0_0 a0_1 a0_2 a0_3) else (if a0_2 > 7 then (cotterref03_Encode.j0 k t137 bt138.1 bt138.2.1 bt138.2.2 true a0_0 a0_1 a0_2 a0_3) else (if bt138.1 = true then (if bt138.2.1 = true then (if bt138.2.2 = 0 then (cotterref03_Encode.j0 k t137 bt138.1 bt138.2.1 bt138.2.2 (a0_3 != 0) a0_0 a0_1 a0_2 a0_3) else (cotterref03_Encode.j0 k t137 bt138.1 bt138.2.1 bt138.2.2 false a0_0 a0_1 a0_2 a0_3)) else (if a0_2 = 0 then (if bt138.2.2 = 0 then (cotterref03_Encode.j0 k t137 bt138.1 bt138.2.1 bt138.2.2 (a0_3 != 0) a0_0 a0_1 a0_2 a0_3) else (cotterref03_Encode.j0 k t137 bt138.1 bt138.2.1 bt138.2.2 false a0_0 a0_1 a0_2 a0_3)) else (cotterref03_Encode.j0 k t137 bt138.1 bt138.2.1 bt138.2.2 true a0_0 a0_1 a0_2 a0_3))) else (if a0_1 = 0 then (if bt138.2.1 = true then (if bt138.2.2 = 0 then (cotterref03_Encode.j0 k t137 bt138.1 bt138.2.1 bt138.2.2 (a0_3 != 0) a0_0 a0_1 a0_2 a0_3) else (cotterref03_Encode.j0 k t137 bt138.1 bt138.2.1 bt138.2.2 false a0_0 a0_1 a0_2 a0_3)) else (if a0_2 = 0 then (if bt138.2.2 = 0 then (cotterref03_Encode.j0 k t137 bt138.1 bt138.2.1 bt138.2.2 (a0_3 != 0) a0_0 a0_1 a0_2 a0_3) else (cotterref03_Encode.j0 k t137 bt138.1 bt138.2.1 bt138.2.2 false a0_0 a0_1 a0_2 a0_3)) else (cotterref03_Encode.j0 k t137 bt138.1 bt138.2.1 bt138.2.2 true a0_0 a0_1 a0_2 a0_3))) else (cotterref03_Encode.j0 k t137 bt138.1 bt138.2.1 bt138.2.2 true a0_0 a0_1 a0_2 a0_3))))))))) = some (r1, r2) := H
 have A2 := z4 A20
 clear A20
 replace H := z8 H
 obtain ⟨⟨t138, t139, t140⟩, A30, H⟩ := H
 replace H : (if t137 = 0 then (cotterref03_Encode.j0 k t137 t138 t139 t140 true a0_0 a0_1 a0_2 a0_3) else (if a0_1 < 0 then (cotterref03_Encode.j0 k t137 t138 t139 t140 true a0_0 a0_1 a0_2 a0_3) else (if a0_1 > 7 then (cotterref03_Encode.j0 k t137 t138 t139 t140 true a0_0 a0_1 a0_2 a0_3) else (if a0_2 < 0 then (cotterref03_Encode.j0 k t137 t138 t139 t140 true a0_0 a0_1 a0_2 a0_3) else (if a0_2 > 7 then (cotterref03_Encode.j0 k t137 t138 t139 t140 true a0_0 a0_1 a0_2 a0_3) else (if t138 = true then (if t139 = true then (if t140 = 0 then (cotterref03_Encode.j0 k t137 t138 t139 t140 (a0_3 != 0) a0_0 a0_1 a0_2 a0_3) else (cotterref03_Encode.j0 k t137 t138 t139 t140 false a0_0 a0_1 a0_2 a0_3)) else (if a0_2 = 0 then (if t140 = 0 then (cotterref03_Encode.j0 k t137 t138 t139 t140 (a0_3 != 0) a0_0 a0_1 a0_2 a0_3) else (cotterref03_Encode.j0 k t137 t138 t139 t140 false a0_0 a0_1 a0_2 a0_3)) else (cotterref03_Encode.j0 k t137 t138 t139 t140 true a0_0 a0_1 a0_2 a0_3))) else (if a0_1 = 0 then (if t139 = true then (if t140 = 0 then (cotterref03_Encode.j0 k t137 t138 t139 t140 (a0_3 != 0) a0_0 a0_1 a0_2 a0_3) else (cotterref03_Encode.j0 k t137 t138 t139 t140 false a0_0 a0_1 a0_2 a0_3)) else (if a0_2 = 0 then (if t140 = 0 then (cotterref03_Encode.j0 k t137 t138 t139 t140 (a0_3 != 0) a0_0 a0_1 a0_2 a0_3) else (cotterref03_Encode.j0 k t137 t138 t139 t140 false a0_0 a0_1 a0_2 a0_3)) else (cotterref03_Encode.j0 k t137 t138 t139 t140 true a0_0 a0_1 a0_2 a0_3))) else (cotterref03_Encode.j0 k t137 t138 t139 t140 true a0_0 a0_1 a0_2 a0_3)))))))) = some (r1, r2) := H
 have A3 := z4 A30
 clear A30
 have HC4 := z4 H
 clear H
 go_enter Tryd.func82, Tryd.ntmps82
 go_upto_region 3 with (first | ((with_reducible refine gate_dst (N := 1) rfl ?_); refine box_event ?hg (N := 1) ?hd (cs := #[.int .i64 a0_0, .int .i64 a0_1, .int .i64 a0_2, .int .i64 a0_3]) (t := 79) ?hr ?_; (case hd => rfl); (case hg => rfl); (case hr => first | (go_simp; done) | (go_simp; rfl)); intro gb136 hg w5 hbox hb; have n0_ := z4 (zK (by repeat (first | exact HB.out | apply zA | apply zB | apply zD)) hb); have n1_ := z4 (hbox); have n2_ := z4 ((by rw [hg]; exact (zL (by repeat (first | exact HB.out | apply zA | apply zB | apply zD))) : w.heap.size ≤ gb136)); have n3_ := z4 ((by rw [hg]; exact (zL (by repeat (first | exact HB.out | apply zA | apply zB | apply zD))) : w.heap.size ≤ gb136)); clear HB; have HB := n0_; have BK136 := n1_; have GW136 := n2_; have GE136 := n3_; clear n0_ n1_ n2_ n3_; clear hb hbox hg; have hcz6_0 : w5.cell? ⟨gb136, 0, none⟩ = some (.int .i64 a0_0) := (zC BK136.out 0).trans rfl; have hcz6_1 : w5.cell? ⟨gb136, 1, none⟩ = some (.int .i64 a0_1) := (zC BK136.out 1).trans rfl; have hcz6_2 : w5.cell? ⟨gb136, 2, none⟩ = some (.int .i64 a0_2) := (zC BK136.out 2).trans rfl; have hcz6_3 : w5.cell? ⟨gb136, 3, none⟩ = some (.int .i64 a0_3) := (zC BK136.out 3).trans rfl; have hfz6_0 := zF BK136.out 0; have hfz6_1 := zF BK136.out 1; have hfz6_2 := zF BK136.out 2; have hfz6_3 := zF BK136.out 3) | ((with_reducible refine gate_callee (f := 66) rfl ?_); refine goesL_ (some 13) rfl rfl Tryd.func66 (by kernel_rfl) rfl #[.int .i64 a0_0] rfl (by (try simp only [z9, List.map_cons, List.map_nil]); first | done | rfl | (simp only [z9a, z9b]; rfl)) ?_; (with_reducible refine (cotterref03_form.calls k a0_0 t137 _ A2.out).mono ?_); rintro e w' ⟨rfl, ⟨nd, rfl⟩⟩; refine ⟨_, rfl, ?_⟩) | ((with_reducible refine gate_callee (f := 67) rfl ?_); refine goesL_ (some 16) rfl rfl Tryd.func67 (by kernel_rfl) rfl #[.int .i64 t137] rfl (by (try simp only [z9, List.map_cons, List.map_nil]); first | done | rfl | (simp only [z9a, z9b]; rfl)) ?_; (with_reducible refine (cotterref03_parts.calls k t137 t138 t139 t140 _ A3.out).mono ?_); rintro e w' ⟨rfl, ⟨nd, rfl⟩⟩; refine ⟨_, rfl, ?_⟩))
 (try simp only [Act.put, z1, z2, z3])
 go_cut [68] (fun v68 wc => ∃ (kq : Nat) (x68_3 : Bool), v68 = .bool x68_3 ∧ Aside0 (cotterref03_Encode.j0 kq t137 t138 t139 t140 x68_3 a0_0 a0_1 a0_2 a0_3 = some (r1, r2)) ∧ Aside0 (kq ≤ k) ∧ Aside0 (wc.heap[gb136]? = some (.cells #[.int .i64 a0_0, .int .i64 a0_1, .int .i64 a0_2, .int .i64 a0_3] 79 (0, 0))) ∧ Aside0 (Below w.heap.size w wc))
 case first =>
  have H := HC4.out
  clear HC4
  by_cases c7 : t137 = 0
  ·rw [if_pos c7] at H
   have c7b0 : (t137 == 0) = true := z5 c7
   have c7b1 : (t137 != 0) = false := z6 c7
   clear c7
   (first | rw [c7b0] | (simp only [i64_w, i32_w]; rw [c7b0]) | skip)
   have H' := z4 H
   clear H
   go_wp2
   go_meet
   case rel => exact ⟨_, (true), (by first | rfl | (simp; done) | (simp [*]; done)), H', ⟨by first | omega | exact Nat.le_refl _⟩, ⟨by (with_reducible repeat (first | refine zH ?_ _ | refine zI ?_ | refine zG ?_ _)); exact BK136.out⟩, ⟨by repeat (first | exact HB.out | apply zA | apply zB | apply zD | refine zJ ?_ GE136.out)⟩⟩
  ·rw [if_neg c7] at H
   have c7b0 : (t137 == 0) = false := z7 c7
   have c7b1 : (t137 != 0) = true := bne_iff_ne.mpr c7
   (first | rw [c7b0] | (simp only [i64_w, i32_w]; rw [c7b0]) | skip)
   by_cases c8 : a0_1 < 0
   ·rw [if_pos c8] at H
    have c8b0 : decide (a0_1 < 0) = true := decide_eq_true c8
    clear c8
    have H' := z4 H
    clear H
    have hcz9_0 : w5.cell? ⟨gb136, 0, none⟩ = some (.int .i64 a0_0) := (zC BK136.out 0).trans rfl
    have hcz9_1 : w5.cell? ⟨gb136, 1, none⟩ = some (.int .i64 a0_1) := (zC BK136.out 1).trans rfl
    have hcz9_2 : w5.cell? ⟨gb136, 2, none⟩ = some (.int .i64 a0_2) := (zC BK136.out 2).trans rfl
    have hcz9_3 : w5.cell? ⟨gb136, 3, none⟩ = some (.int .i64 a0_3) := (zC BK136.out 3).trans rfl
    have hfz9_0 := zF BK136.out 0
    have hfz9_1 := zF BK136.out 1
    have hfz9_2 := zF BK136.out 2
    have hfz9_3 := zF BK136.out 3
    go_wp2
    go_meet
    case rel => exact ⟨_, (true), (by first | rfl | (simp; done) | (simp [*]; done)), H', ⟨by first | omega | exact Nat.le_refl _⟩, ⟨by (with_reducible repeat (first | refine zH ?_ _ | refine zI ?_ | refine zG ?_ _)); exact BK136.out⟩, ⟨by repeat (first | exact HB.out | apply zA | apply zB | apply zD | refine zJ ?_ GE136.out)⟩⟩
   ·rw [if_neg c8] at H
    have c8b0 : decide (a0_1 < 0) = false := decide_eq_false c8
    clear c8
    by_cases c10 : a0_1 > 7
    ·rw [if_pos c10] at H
     have c10b0 : decide (7 < a0_1) = true := decide_eq_true c10
     clear c10
     have H' := z4 H
     clear H
     have hcz11_0 : w5.cell? ⟨gb136, 0, none⟩ = some (.int .i64 a0_0) := (zC BK136.out 0).trans rfl
     have hcz11_1 : w5.cell? ⟨gb136, 1, none⟩ = some (.int .i64 a0_1) := (zC BK136.out 1).trans rfl
     have hcz11_2 : w5.cell? ⟨gb136, 2, none⟩ = some (.int .i64 a0_2) := (zC BK136.out 2).trans rfl
     have hcz11_3 : w5.cell? ⟨gb136, 3, none⟩ = some (.int .i64 a0_3) := (zC BK136.out 3).trans rfl
     have hfz11_0 := zF BK136.out 0
     have hfz11_1 := zF BK136.out 1
     have hfz11_2 := zF BK136.out 2
     have hfz11_3 := zF BK136.out 3
     go_wp2
     go_meet
     case rel => exact ⟨_, (true), (by first | rfl | (simp; done) | (simp [*]; done)), H', ⟨by first | omega | exact Nat.le_refl _⟩, ⟨by (with_reducible repeat (first | refine zH ?_ _ | refine zI ?_ | refine zG ?_ _)); exact BK136.out⟩, ⟨by repeat (first | exact HB.out | apply zA | apply zB | apply zD | refine zJ ?_ GE136.out)⟩⟩
    ·rw [if_neg c10] at H
     have c10b0 : decide (7 < a0_1) = false := decide_eq_false c10
     clear c10
     by_cases c12 : a0_2 < 0
     ·rw [if_pos c12] at H
      have c12b0 : decide (a0_2 < 0) = true := decide_eq_true c12
      clear c12
      have H' := z4 H
      clear H
      have hcz13_0 : w5.cell? ⟨gb136, 0, none⟩ = some (.int .i64 a0_0) := (zC BK136.out 0).trans rfl
      have hcz13_1 : w5.cell? ⟨gb136, 1, none⟩ = some (.int .i64 a0_1) := (zC BK136.out 1).trans rfl
      have hcz13_2 : w5.cell? ⟨gb136, 2, none⟩ = some (.int .i64 a0_2) := (zC BK136.out 2).trans rfl
      have hcz13_3 : w5.cell? ⟨gb136, 3, none⟩ = some (.int .i64 a0_3) := (zC BK136.out 3).trans rfl
      have hfz13_0 := zF BK136.out 0
      have hfz13_1 := zF BK136.out 1
      have hfz13_2 := zF BK136.out 2
      have hfz13_3 := zF BK136.out 3
      go_wp2
      go_meet
      case rel => exact ⟨_, (true), (by first | rfl | (simp; done) | (simp [*]; done)), H', ⟨by first | omega | exact Nat.le_refl _⟩, ⟨by (with_reducible repeat (first | refine zH ?_ _ | refine zI ?_ | refine zG ?_ _)); exact BK136.out⟩, ⟨by repeat (first | exact HB.out | apply zA | apply zB | apply zD | refine zJ ?_ GE136.out)⟩⟩
     ·rw [if_neg c12] at H
      have c12b0 : decide (a0_2 < 0) = false := decide_eq_false c12
      clear c12
      by_cases c14 : a0_2 > 7
      ·rw [if_pos c14] at H
       have c14b0 : decide (7 < a0_2) = true := decide_eq_true c14
       clear c14
       have H' := z4 H
       clear H
       have hcz15_0 : w5.cell? ⟨gb136, 0, none⟩ = some (.int .i64 a0_0) := (zC BK136.out 0).trans rfl
       have hcz15_1 : w5.cell? ⟨gb136, 1, none⟩ = some (.int .i64 a0_1) := (zC BK136.out 1).trans rfl
       have hcz15_2 : w5.cell? ⟨gb136, 2, none⟩ = some (.int .i64 a0_2) := (zC BK136.out 2).trans rfl
       have hcz15_3 : w5.cell? ⟨gb136, 3, none⟩ = some (.int .i64 a0_3) := (zC BK136.out 3).trans rfl
       have hfz15_0 := zF BK136.out 0
       have hfz15_1 := zF BK136.out 1
       have hfz15_2 := zF BK136.out 2
       have hfz15_3 := zF BK136.out 3
       go_wp2
       go_meet
       case rel => exact ⟨_, (true), (by first | rfl | (simp; done) | (simp [*]; done)), H', ⟨by first | omega | exact Nat.le_refl _⟩, ⟨by (with_reducible repeat (first | refine zH ?_ _ | refine zI ?_ | refine zG ?_ _)); exact BK136.out⟩, ⟨by repeat (first | exact HB.out | apply zA | apply zB | apply zD | refine zJ ?_ GE136.out)⟩⟩
      ·rw [if_neg c14] at H
       have c14b0 : decide (7 < a0_2) = false := decide_eq_false c14
       clear c14
       by_cases c16 : t138 = true
       ·subst c16
        have H1 : (if t139 = true then (if t140 = 0 then (cotterref03_Encode.j0 k t137 true t139 t140 (a0_3 != 0) a0_0 a0_1 a0_2 a0_3) else (cotterref03_Encode.j0 k t137 true t139 t140 false a0_0 a0_1 a0_2 a0_3)) else (if a0_2 = 0 then (if t140 = 0 then (cotterref03_Encode.j0 k t137 true t139 t140 (a0_3 != 0) a0_0 a0_1 a0_2 a0_3) else (cotterref03_Encode.j0 k t137 true t139 t140 false a0_0 a0_1 a0_2 a0_3)) else (cotterref03_Encode.j0 k t137 true t139 t140 true a0_0 a0_1 a0_2 a0_3))) = some (r1, r2) := by rw [if_pos rfl] at H; exact H
        clear H
        have H := H1
        clear H1
        by_cases c17 : t139 = true
        ·subst c17
         have H1 : (if t140 = 0 then (cotterref03_Encode.j0 k t137 true true t140 (a0_3 != 0) a0_0 a0_1 a0_2 a0_3) else (cotterref03_Encode.j0 k t137 true true t140 false a0_0 a0_1 a0_2 a0_3)) = some (r1, r2) := by rw [if_pos rfl] at H; exact H
         clear H
         have H := H1
         clear H1
         by_cases c18 : t140 = 0
         ·rw [if_pos c18] at H
          have c18b0 : (t140 == 0) = true := z5 c18
          have c18b1 : (t140 != 0) = false := z6 c18
          clear c18
          have H' := z4 H
          clear H
          have hcz19_0 : w5.cell? ⟨gb136, 0, none⟩ = some (.int .i64 a0_0) := (zC BK136.out 0).trans rfl
          have hcz19_1 : w5.cell? ⟨gb136, 1, none⟩ = some (.int .i64 a0_1) := (zC BK136.out 1).trans rfl
          have hcz19_2 : w5.cell? ⟨gb136, 2, none⟩ = some (.int .i64 a0_2) := (zC BK136.out 2).trans rfl
          have hcz19_3 : w5.cell? ⟨gb136, 3, none⟩ = some (.int .i64 a0_3) := (zC BK136.out 3).trans rfl
          have hfz19_0 := zF BK136.out 0
          have hfz19_1 := zF BK136.out 1
          have hfz19_2 := zF BK136.out 2
          have hfz19_3 := zF BK136.out 3
          go_wp2
          go_meet
          case rel => exact ⟨_, ((a0_3 != 0)), (by first | rfl | (simp; done) | (simp [*]; done)), H', ⟨by first | omega | exact Nat.le_refl _⟩, ⟨by (with_reducible repeat (first | refine zH ?_ _ | refine zI ?_ | refine zG ?_ _)); exact BK136.out⟩, ⟨by repeat (first | exact HB.out | apply zA | apply zB | apply zD | refine zJ ?_ GE136.out)⟩⟩
         ·rw [if_neg c18] at H
          have c18b0 : (t140 == 0) = false := z7 c18
          have c18b1 : (t140 != 0) = true := bne_iff_ne.mpr c18
          have H' := z4 H
          clear H
          have hcz20_0 : w5.cell? ⟨gb136, 0, none⟩ = some (.int .i64 a0_0) := (zC BK136.out 0).trans rfl
          have hcz20_1 : w5.cell? ⟨gb136, 1, none⟩ = some (.int .i64 a0_1) := (zC BK136.out 1).trans rfl
          have hcz20_2 : w5.cell? ⟨gb136, 2, none⟩ = some (.int .i64 a0_2) := (zC BK136.out 2).trans rfl
          have hcz20_3 : w5.cell? ⟨gb136, 3, none⟩ = some (.int .i64 a0_3) := (zC BK136.out 3).trans rfl
          have hfz20_0 := zF BK136.out 0
          have hfz20_1 := zF BK136.out 1
          have hfz20_2 := zF BK136.out 2
          have hfz20_3 := zF BK136.out 3
          go_wp2
          go_meet
          case rel => exact ⟨_, (false), (by first | rfl | (simp; done) | (simp [*]; done)), H', ⟨by first | omega | exact Nat.le_refl _⟩, ⟨by (with_reducible repeat (first | refine zH ?_ _ | refine zI ?_ | refine zG ?_ _)); exact BK136.out⟩, ⟨by repeat (first | exact HB.out | apply zA | apply zB | apply zD | refine zJ ?_ GE136.out)⟩⟩
        ·replace c17 := Bool.eq_false_iff.mpr c17
         subst c17
         have H1 : (if a0_2 = 0 then (if t140 = 0 then (cotterref03_Encode.j0 k t137 true false t140 (a0_3 != 0) a0_0 a0_1 a0_2 a0_3) else (cotterref03_Encode.j0 k t137 true false t140 false a0_0 a0_1 a0_2 a0_3)) else (cotterref03_Encode.j0 k t137 true false t140 true a0_0 a0_1 a0_2 a0_3)) = some (r1, r2) := by rw [if_neg (show ¬ (false = true) by decide)] at H; exact H
         clear H
         have H := H1
         clear H1
         by_cases c21 : a0_2 = 0
         ·rw [if_pos c21] at H
          have c21b0 : (a0_2 == 0) = true := z5 c21
          have c21b1 : (a0_2 != 0) = false := z6 c21
          clear c21
          by_cases c22 : t140 = 0
          ·rw [if_pos c22] at H
           have c22b0 : (t140 == 0) = true := z5 c22
           have c22b1 : (t140 != 0) = false := z6 c22
           clear c22
           have H' := z4 H
           clear H
           have hcz23_0 : w5.cell? ⟨gb136, 0, none⟩ = some (.int .i64 a0_0) := (zC BK136.out 0).trans rfl
           have hcz23_1 : w5.cell? ⟨gb136, 1, none⟩ = some (.int .i64 a0_1) := (zC BK136.out 1).trans rfl
           have hcz23_2 : w5.cell? ⟨gb136, 2, none⟩ = some (.int .i64 a0_2) := (zC BK136.out 2).trans rfl
           have hcz23_3 : w5.cell? ⟨gb136, 3, none⟩ = some (.int .i64 a0_3) := (zC BK136.out 3).trans rfl
           have hfz23_0 := zF BK136.out 0
           have hfz23_1 := zF BK136.out 1
           have hfz23_2 := zF BK136.out 2
           have hfz23_3 := zF BK136.out 3
           go_wp2
           go_meet
           case rel => exact ⟨_, ((a0_3 != 0)), (by first | rfl | (simp; done) | (simp [*]; done)), H', ⟨by first | omega | exact Nat.le_refl _⟩, ⟨by (with_reducible repeat (first | refine zH ?_ _ | refine zI ?_ | refine zG ?_ _)); exact BK136.out⟩, ⟨by repeat (first | exact HB.out | apply zA | apply zB | apply zD | refine zJ ?_ GE136.out)⟩⟩
          ·rw [if_neg c22] at H
           have c22b0 : (t140 == 0) = false := z7 c22
           have c22b1 : (t140 != 0) = true := bne_iff_ne.mpr c22
           have H' := z4 H
           clear H
           have hcz24_0 : w5.cell? ⟨gb136, 0, none⟩ = some (.int .i64 a0_0) := (zC BK136.out 0).trans rfl
           have hcz24_1 : w5.cell? ⟨gb136, 1, none⟩ = some (.int .i64 a0_1) := (zC BK136.out 1).trans rfl
           have hcz24_2 : w5.cell? ⟨gb136, 2, none⟩ = some (.int .i64 a0_2) := (zC BK136.out 2).trans rfl
           have hcz24_3 : w5.cell? ⟨gb136, 3, none⟩ = some (.int .i64 a0_3) := (zC BK136.out 3).trans rfl
           have hfz24_0 := zF BK136.out 0
           have hfz24_1 := zF BK136.out 1
           have hfz24_2 := zF BK136.out 2
           have hfz24_3 := zF BK136.out 3
           go_wp2
           go_meet
           case rel => exact ⟨_, (false), (by first | rfl | (simp; done) | (simp [*]; done)), H', ⟨by first | omega | exact Nat.le_refl _⟩, ⟨by (with_reducible repeat (first | refine zH ?_ _ | refine zI ?_ | refine zG ?_ _)); exact BK136.out⟩, ⟨by repeat (first | exact HB.out | apply zA | apply zB | apply zD | refine zJ ?_ GE136.out)⟩⟩
         ·rw [if_neg c21] at H
          have c21b0 : (a0_2 == 0) = false := z7 c21
          have c21b1 : (a0_2 != 0) = true := bne_iff_ne.mpr c21
          have H' := z4 H
          clear H
          have hcz25_0 : w5.cell? ⟨gb136, 0, none⟩ = some (.int .i64 a0_0) := (zC BK136.out 0).trans rfl
          have hcz25_1 : w5.cell? ⟨gb136, 1, none⟩ = some (.int .i64 a0_1) := (zC BK136.out 1).trans rfl
          have hcz25_2 : w5.cell? ⟨gb136, 2, none⟩ = some (.int .i64 a0_2) := (zC BK136.out 2).trans rfl
          have hcz25_3 : w5.cell? ⟨gb136, 3, none⟩ = some (.int .i64 a0_3) := (zC BK136.out 3).trans rfl
          have hfz25_0 := zF BK136.out 0
          have hfz25_1 := zF BK136.out 1
          have hfz25_2 := zF BK136.out 2
          have hfz25_3 := zF BK136.out 3
          go_wp2
          go_meet
          case rel => exact ⟨_, (true), (by first | rfl | (simp; done) | (simp [*]; done)), H', ⟨by first | omega | exact Nat.le_refl _⟩, ⟨by (with_reducible repeat (first | refine zH ?_ _ | refine zI ?_ | refine zG ?_ _)); exact BK136.out⟩, ⟨by repeat (first | exact HB.out | apply zA | apply zB | apply zD | refine zJ ?_ GE136.out)⟩⟩
       ·replace c16 := Bool.eq_false_iff.mpr c16
        subst c16
        have H1 : (if a0_1 = 0 then (if t139 = true then (if t140 = 0 then (cotterref03_Encode.j0 k t137 false t139 t140 (a0_3 != 0) a0_0 a0_1 a0_2 a0_3) else (cotterref03_Encode.j0 k t137 false t139 t140 false a0_0 a0_1 a0_2 a0_3)) else (if a0_2 = 0 then (if t140 = 0 then (cotterref03_Encode.j0 k t137 false t139 t140 (a0_3 != 0) a0_0 a0_1 a0_2 a0_3) else (cotterref03_Encode.j0 k t137 false t139 t140 false a0_0 a0_1 a0_2 a0_3)) else (cotterref03_Encode.j0 k t137 false t139 t140 true a0_0 a0_1 a0_2 a0_3))) else (cotterref03_Encode.j0 k t137 false t139 t140 true a0_0 a0_1 a0_2 a0_3)) = some (r1, r2) := by rw [if_neg (show ¬ (false = true) by decide)] at H; exact H
        clear H
        have H := H1
        clear H1
        by_cases c26 : a0_1 = 0
        ·rw [if_pos c26] at H
         have c26b0 : (a0_1 == 0) = true := z5 c26
         have c26b1 : (a0_1 != 0) = false := z6 c26
         clear c26
         by_cases c27 : t139 = true
         ·subst c27
          have H1 : (if t140 = 0 then (cotterref03_Encode.j0 k t137 false true t140 (a0_3 != 0) a0_0 a0_1 a0_2 a0_3) else (cotterref03_Encode.j0 k t137 false true t140 false a0_0 a0_1 a0_2 a0_3)) = some (r1, r2) := by rw [if_pos rfl] at H; exact H
          clear H
          have H := H1
          clear H1
          by_cases c28 : t140 = 0
          ·rw [if_pos c28] at H
           have c28b0 : (t140 == 0) = true := z5 c28
           have c28b1 : (t140 != 0) = false := z6 c28
           clear c28
           have H' := z4 H
           clear H
           have hcz29_0 : w5.cell? ⟨gb136, 0, none⟩ = some (.int .i64 a0_0) := (zC BK136.out 0).trans rfl
           have hcz29_1 : w5.cell? ⟨gb136, 1, none⟩ = some (.int .i64 a0_1) := (zC BK136.out 1).trans rfl
           have hcz29_2 : w5.cell? ⟨gb136, 2, none⟩ = some (.int .i64 a0_2) := (zC BK136.out 2).trans rfl
           have hcz29_3 : w5.cell? ⟨gb136, 3, none⟩ = some (.int .i64 a0_3) := (zC BK136.out 3).trans rfl
           have hfz29_0 := zF BK136.out 0
           have hfz29_1 := zF BK136.out 1
           have hfz29_2 := zF BK136.out 2
           have hfz29_3 := zF BK136.out 3
           go_wp2
           go_meet
           case rel => exact ⟨_, ((a0_3 != 0)), (by first | rfl | (simp; done) | (simp [*]; done)), H', ⟨by first | omega | exact Nat.le_refl _⟩, ⟨by (with_reducible repeat (first | refine zH ?_ _ | refine zI ?_ | refine zG ?_ _)); exact BK136.out⟩, ⟨by repeat (first | exact HB.out | apply zA | apply zB | apply zD | refine zJ ?_ GE136.out)⟩⟩
          ·rw [if_neg c28] at H
           have c28b0 : (t140 == 0) = false := z7 c28
           have c28b1 : (t140 != 0) = true := bne_iff_ne.mpr c28
           have H' := z4 H
           clear H
           have hcz30_0 : w5.cell? ⟨gb136, 0, none⟩ = some (.int .i64 a0_0) := (zC BK136.out 0).trans rfl
           have hcz30_1 : w5.cell? ⟨gb136, 1, none⟩ = some (.int .i64 a0_1) := (zC BK136.out 1).trans rfl
           have hcz30_2 : w5.cell? ⟨gb136, 2, none⟩ = some (.int .i64 a0_2) := (zC BK136.out 2).trans rfl
           have hcz30_3 : w5.cell? ⟨gb136, 3, none⟩ = some (.int .i64 a0_3) := (zC BK136.out 3).trans rfl
           have hfz30_0 := zF BK136.out 0
           have hfz30_1 := zF BK136.out 1
           have hfz30_2 := zF BK136.out 2
           have hfz30_3 := zF BK136.out 3
           go_wp2
           go_meet
           case rel => exact ⟨_, (false), (by first | rfl | (simp; done) | (simp [*]; done)), H', ⟨by first | omega | exact Nat.le_refl _⟩, ⟨by (with_reducible repeat (first | refine zH ?_ _ | refine zI ?_ | refine zG ?_ _)); exact BK136.out⟩, ⟨by repeat (first | exact HB.out | apply zA | apply zB | apply zD | refine zJ ?_ GE136.out)⟩⟩
         ·replace c27 := Bool.eq_false_iff.mpr c27
          subst c27
          have H1 : (if a0_2 = 0 then (if t140 = 0 then (cotterref03_Encode.j0 k t137 false false t140 (a0_3 != 0) a0_0 a0_1 a0_2 a0_3) else (cotterref03_Encode.j0 k t137 false false t140 false a0_0 a0_1 a0_2 a0_3)) else (cotterref03_Encode.j0 k t137 false false t140 true a0_0 a0_1 a0_2 a0_3)) = some (r1, r2) := by rw [if_neg (show ¬ (false = true) by decide)] at H; exact H
          clear H
          have H := H1
          clear H1
          by_cases c31 : a0_2 = 0
          ·rw [if_pos c31] at H
           have c31b0 : (a0_2 == 0) = true := z5 c31
           have c31b1 : (a0_2 != 0) = false := z6 c31
           clear c31
           by_cases c32 : t140 = 0
           ·rw [if_pos c32] at H
            have c32b0 : (t140 == 0) = true := z5 c32
            have c32b1 : (t140 != 0) = false := z6 c32
            clear c32
            have H' := z4 H
            clear H
            have hcz33_0 : w5.cell? ⟨gb136, 0, none⟩ = some (.int .i64 a0_0) := (zC BK136.out 0).trans rfl
            have hcz33_1 : w5.cell? ⟨gb136, 1, none⟩ = some (.int .i64 a0_1) := (zC BK136.out 1).trans rfl
            have hcz33_2 : w5.cell? ⟨gb136, 2, none⟩ = some (.int .i64 a0_2) := (zC BK136.out 2).trans rfl
            have hcz33_3 : w5.cell? ⟨gb136, 3, none⟩ = some (.int .i64 a0_3) := (zC BK136.out 3).trans rfl
            have hfz33_0 := zF BK136.out 0
            have hfz33_1 := zF BK136.out 1
            have hfz33_2 := zF BK136.out 2
            have hfz33_3 := zF BK136.out 3
            go_wp2
            go_meet
            case rel => exact ⟨_, ((a0_3 != 0)), (by first | rfl | (simp; done) | (simp [*]; done)), H', ⟨by first | omega | exact Nat.le_refl _⟩, ⟨by (with_reducible repeat (first | refine zH ?_ _ | refine zI ?_ | refine zG ?_ _)); exact BK136.out⟩, ⟨by repeat (first | exact HB.out | apply zA | apply zB | apply zD | refine zJ ?_ GE136.out)⟩⟩
           ·rw [if_neg c32] at H
            have c32b0 : (t140 == 0) = false := z7 c32
            have c32b1 : (t140 != 0) = true := bne_iff_ne.mpr c32
            have H' := z4 H
            clear H
            have hcz34_0 : w5.cell? ⟨gb136, 0, none⟩ = some (.int .i64 a0_0) := (zC BK136.out 0).trans rfl
            have hcz34_1 : w5.cell? ⟨gb136, 1, none⟩ = some (.int .i64 a0_1) := (zC BK136.out 1).trans rfl
            have hcz34_2 : w5.cell? ⟨gb136, 2, none⟩ = some (.int .i64 a0_2) := (zC BK136.out 2).trans rfl
            have hcz34_3 : w5.cell? ⟨gb136, 3, none⟩ = some (.int .i64 a0_3) := (zC BK136.out 3).trans rfl
            have hfz34_0 := zF BK136.out 0
            have hfz34_1 := zF BK136.out 1
            have hfz34_2 := zF BK136.out 2
            have hfz34_3 := zF BK136.out 3
            go_wp2
            go_meet
            case rel => exact ⟨_, (false), (by first | rfl | (simp; done) | (simp [*]; done)), H', ⟨by first | omega | exact Nat.le_refl _⟩, ⟨by (with_reducible repeat (first | refine zH ?_ _ | refine zI ?_ | refine zG ?_ _)); exact BK136.out⟩, ⟨by repeat (first | exact HB.out | apply zA | apply zB | apply zD | refine zJ ?_ GE136.out)⟩⟩
          ·rw [if_neg c31] at H
           have c31b0 : (a0_2 == 0) = false := z7 c31
           have c31b1 : (a0_2 != 0) = true := bne_iff_ne.mpr c31
           have H' := z4 H
           clear H
           have hcz35_0 : w5.cell? ⟨gb136, 0, none⟩ = some (.int .i64 a0_0) := (zC BK136.out 0).trans rfl
           have hcz35_1 : w5.cell? ⟨gb136, 1, none⟩ = some (.int .i64 a0_1) := (zC BK136.out 1).trans rfl
           have hcz35_2 : w5.cell? ⟨gb136, 2, none⟩ = some (.int .i64 a0_2) := (zC BK136.out 2).trans rfl
           have hcz35_3 : w5.cell? ⟨gb136, 3, none⟩ = some (.int .i64 a0_3) := (zC BK136.out 3).trans rfl
           have hfz35_0 := zF BK136.out 0
           have hfz35_1 := zF BK136.out 1
           have hfz35_2 := zF BK136.out 2
           have hfz35_3 := zF BK136.out 3
           go_wp2
           go_meet
           case rel => exact ⟨_, (true), (by first | rfl | (simp; done) | (simp [*]; done)), H', ⟨by first | omega | exact Nat.le_refl _⟩, ⟨by (with_reducible repeat (first | refine zH ?_ _ | refine zI ?_ | refine zG ?_ _)); exact BK136.out⟩, ⟨by repeat (first | exact HB.out | apply zA | apply zB | apply zD | refine zJ ?_ GE136.out)⟩⟩
        ·rw [if_neg c26] at H
         have c26b0 : (a0_1 == 0) = false := z7 c26
         have c26b1 : (a0_1 != 0) = true := bne_iff_ne.mpr c26
         have H' := z4 H
         clear H
         have hcz36_0 : w5.cell? ⟨gb136, 0, none⟩ = some (.int .i64 a0_0) := (zC BK136.out 0).trans rfl
         have hcz36_1 : w5.cell? ⟨gb136, 1, none⟩ = some (.int .i64 a0_1) := (zC BK136.out 1).trans rfl
         have hcz36_2 : w5.cell? ⟨gb136, 2, none⟩ = some (.int .i64 a0_2) := (zC BK136.out 2).trans rfl
         have hcz36_3 : w5.cell? ⟨gb136, 3, none⟩ = some (.int .i64 a0_3) := (zC BK136.out 3).trans rfl
         have hfz36_0 := zF BK136.out 0
         have hfz36_1 := zF BK136.out 1
         have hfz36_2 := zF BK136.out 2
         have hfz36_3 := zF BK136.out 3
         go_wp2
         go_meet
         case rel => exact ⟨_, (true), (by first | rfl | (simp; done) | (simp [*]; done)), H', ⟨by first | omega | exact Nat.le_refl _⟩, ⟨by (with_reducible repeat (first | refine zH ?_ _ | refine zI ?_ | refine zG ?_ _)); exact BK136.out⟩, ⟨by repeat (first | exact HB.out | apply zA | apply zB | apply zD | refine zJ ?_ GE136.out)⟩⟩
 case rest =>
  clear HC4
  try clear c1
  try clear c2
  try clear p2
  try clear c3
  try clear c6
  try clear c7
  try clear c7b0
  try clear c7b1
  try clear c8
  try clear c8b0
  try clear c10
  try clear c10b0
  try clear c12
  try clear c12b0
  try clear c14
  try clear c14b0
  try clear c16
  try clear c17
  try clear c18
  try clear c18b0
  try clear c18b1
  try clear c21
  try clear c21b0
  try clear c21b1
  try clear c22
  try clear c22b0
  try clear c22b1
  try clear c26
  try clear c26b0
  try clear c26b1
  try clear c27
  try clear c28
  try clear c28b0
  try clear c28b1
  try clear c31
  try clear c31b0
  try clear c31b1
  try clear c32
  try clear c32b0
  try clear c32b1
  try clear hcz11_0
  try clear hcz11_1
  try clear hcz11_2
  try clear hcz11_3
  try clear hcz13_0
  try clear hcz13_1
  try clear hcz13_2
  try clear hcz13_3
  try clear hcz15_0
  try clear hcz15_1
  try clear hcz15_2
  try clear hcz15_3
  try clear hcz19_0
  try clear hcz19_1
  try clear hcz19_2
  try clear hcz19_3
  try clear hcz20_0
  try clear hcz20_1
  try clear hcz20_2
  try clear hcz20_3
  try clear hcz23_0
  try clear hcz23_1
  try clear hcz23_2
  try clear hcz23_3
  try clear hcz24_0
  try clear hcz24_1
  try clear hcz24_2
  try clear hcz24_3
  try clear hcz25_0
  try clear hcz25_1
  try clear hcz25_2
  try clear hcz25_3
  try clear hcz29_0
  try clear hcz29_1
  try clear hcz29_2
  try clear hcz29_3
  try clear hcz30_0
  try clear hcz30_1
  try clear hcz30_2
  try clear hcz30_3
  try clear hcz33_0
  try clear hcz33_1
  try clear hcz33_2
  try clear hcz33_3
  try clear hcz34_0
  try clear hcz34_1
  try clear hcz34_2
  try clear hcz34_3
  try clear hcz35_0
  try clear hcz35_1
  try clear hcz35_2
  try clear hcz35_3
  try clear hcz36_0
  try clear hcz36_1
  try clear hcz36_2
  try clear hcz36_3
  try clear hcz6_0
  try clear hcz6_1
  try clear hcz6_2
  try clear hcz6_3
  try clear hcz9_0
  try clear hcz9_1
  try clear hcz9_2
  try clear hcz9_3
  try clear hfz11_0
  try clear hfz11_1
  try clear hfz11_2
  try clear hfz11_3
  try clear hfz13_0
  try clear hfz13_1
  try clear hfz13_2
  try clear hfz13_3
  try clear hfz15_0
  try clear hfz15_1
  try clear hfz15_2
  try clear hfz15_3
  try clear hfz19_0
  try clear hfz19_1
  try clear hfz19_2
  try clear hfz19_3
  try clear hfz20_0
  try clear hfz20_1
  try clear hfz20_2
  try clear hfz20_3
  try clear hfz23_0
  try clear hfz23_1
  try clear hfz23_2
  try clear hfz23_3
  try clear hfz24_0
  try clear hfz24_1
  try clear hfz24_2
  try clear hfz24_3
  try clear hfz25_0
  try clear hfz25_1
  try clear hfz25_2
  try clear hfz25_3
  try clear hfz29_0
  try clear hfz29_1
  try clear hfz29_2
  try clear hfz29_3
  try clear hfz30_0
  try clear hfz30_1
  try clear hfz30_2
  try clear hfz30_3
  try clear hfz33_0
  try clear hfz33_1
  try clear hfz33_2
  try clear hfz33_3
  try clear hfz34_0
  try clear hfz34_1
  try clear hfz34_2
  try clear hfz34_3
  try clear hfz35_0
  try clear hfz35_1
  try clear hfz35_2
  try clear hfz35_3
  try clear hfz36_0
  try clear hfz36_1
  try clear hfz36_2
  try clear hfz36_3
  try clear hfz6_0
  try clear hfz6_1
  try clear hfz6_2
  try clear hfz6_3
  try clear hfz9_0
  try clear hfz9_1
  try clear hfz9_2
  try clear hfz9_3
  obtain ⟨kq, x68_3, rfl, HA, HJ3, BK136, HB⟩ := hcut
  cases kq with
  | zero => exact absurd HA.out (by simp [cotterref03_Encode.j0])
  | succ kj3 =>
   have H := HA.out
   clear HA
   simp only [cotterref03_Encode.j0] at H
   by_cases c37 : x68_3 = true
   ·subst c37
    have H1 : (some ((⟨#[]⟩ : ByteArray), 1)) = some (r1, r2) := by rw [if_pos rfl] at H; exact H
    clear H
    have H := H1
    clear H1
    simp only [Option.some.injEq, Prod.mk.injEq] at H
    obtain ⟨rfl, rfl⟩ := H
    go_wp2
    go_ret2
    exact ⟨by first | rfl | (simp [errW_none, errW_some] <;> rfl) | (simp [*, errW_none, errW_some] <;> rfl), by repeat (first | exact HB.out | apply zA | apply zB | apply zD | refine zJ ?_ GE136.out)⟩
   ·replace c37 := Bool.eq_false_iff.mpr c37
    subst c37
    have H1 : (if t137 = 10 then (if a0_3 < 0 then (cotterref03_Encode.j1 kj3 t138 t139 t140 true a0_0 a0_1 a0_2 a0_3) else (cotterref03_Encode.j1 kj3 t138 t139 t140 (decide (a0_3 > 127)) a0_0 a0_1 a0_2 a0_3)) else (cotterref03_Encode.j1 kj3 t138 t139 t140 false a0_0 a0_1 a0_2 a0_3)) = some (r1, r2) := by rw [if_neg (show ¬ (false = true) by decide)] at H; exact H
    clear H
    have H := H1
    clear H1
    have HC38 := z4 H
    clear H
    go_upto_region 5 with (fail)
    go_cut [80] (fun v80 wc => ∃ (kq : Nat) (x80_37 : Bool), v80 = .bool x80_37 ∧ Aside0 (cotterref03_Encode.j1 kq t138 t139 t140 x80_37 a0_0 a0_1 a0_2 a0_3 = some (r1, r2)) ∧ Aside0 (kq ≤ kj3) ∧ Aside0 (wc.heap[gb136]? = some (.cells #[.int .i64 a0_0, .int .i64 a0_1, .int .i64 a0_2, .int .i64 a0_3] 79 (0, 0))) ∧ Aside0 (Below w.heap.size w wc))
    case first =>
     have H := HC38.out
     clear HC38
     by_cases c39 : t137 = 10
     ·rw [if_pos c39] at H
      have c39b0 : (t137 == 10) = true := z5 c39
      have c39b1 : (t137 != 10) = false := z6 c39
      clear c39
      (first | rw [c39b0] | (simp only [i64_w, i32_w]; rw [c39b0]) | skip)
      by_cases c40 : a0_3 < 0
      ·rw [if_pos c40] at H
       have c40b0 : decide (a0_3 < 0) = true := decide_eq_true c40
       clear c40
       have H' := z4 H
       clear H
       have hcz41_0 : wc.cell? ⟨gb136, 0, none⟩ = some (.int .i64 a0_0) := (zC BK136.out 0).trans rfl
       have hcz41_1 : wc.cell? ⟨gb136, 1, none⟩ = some (.int .i64 a0_1) := (zC BK136.out 1).trans rfl
       have hcz41_2 : wc.cell? ⟨gb136, 2, none⟩ = some (.int .i64 a0_2) := (zC BK136.out 2).trans rfl
       have hcz41_3 : wc.cell? ⟨gb136, 3, none⟩ = some (.int .i64 a0_3) := (zC BK136.out 3).trans rfl
       have hfz41_0 := zF BK136.out 0
       have hfz41_1 := zF BK136.out 1
       have hfz41_2 := zF BK136.out 2
       have hfz41_3 := zF BK136.out 3
       go_wp2
       go_meet
       case rel => exact ⟨_, (true), (by first | rfl | (simp; done) | (simp [*]; done)), H', ⟨by have := HJ3.out; first | omega | exact Nat.le_refl _⟩, ⟨by (with_reducible repeat (first | refine zH ?_ _ | refine zI ?_ | refine zG ?_ _)); exact BK136.out⟩, ⟨by repeat (first | exact HB.out | apply zA | apply zB | apply zD | refine zJ ?_ GE136.out)⟩⟩
      ·rw [if_neg c40] at H
       have c40b0 : decide (a0_3 < 0) = false := decide_eq_false c40
       clear c40
       have H' := z4 H
       clear H
       have hcz42_0 : wc.cell? ⟨gb136, 0, none⟩ = some (.int .i64 a0_0) := (zC BK136.out 0).trans rfl
       have hcz42_1 : wc.cell? ⟨gb136, 1, none⟩ = some (.int .i64 a0_1) := (zC BK136.out 1).trans rfl
       have hcz42_2 : wc.cell? ⟨gb136, 2, none⟩ = some (.int .i64 a0_2) := (zC BK136.out 2).trans rfl
       have hcz42_3 : wc.cell? ⟨gb136, 3, none⟩ = some (.int .i64 a0_3) := (zC BK136.out 3).trans rfl
       have hfz42_0 := zF BK136.out 0
       have hfz42_1 := zF BK136.out 1
       have hfz42_2 := zF BK136.out 2
       have hfz42_3 := zF BK136.out 3
       go_wp2
       go_meet
       case rel => exact ⟨_, (decide (a0_3 > 127)), (by first | rfl | (simp; done) | (simp [*]; done)), H', ⟨by have := HJ3.out; first | omega | exact Nat.le_refl _⟩, ⟨by (with_reducible repeat (first | refine zH ?_ _ | refine zI ?_ | refine zG ?_ _)); exact BK136.out⟩, ⟨by repeat (first | exact HB.out | apply zA | apply zB | apply zD | refine zJ ?_ GE136.out)⟩⟩
     ·rw [if_neg c39] at H
      have c39b0 : (t137 == 10) = false := z7 c39
      have c39b1 : (t137 != 10) = true := bne_iff_ne.mpr c39
      (first | rw [c39b0] | (simp only [i64_w, i32_w]; rw [c39b0]) | skip)
      have H' := z4 H
      clear H
      go_wp2
      go_meet
      case rel => exact ⟨_, (false), (by first | rfl | (simp; done) | (simp [*]; done)), H', ⟨by have := HJ3.out; first | omega | exact Nat.le_refl _⟩, ⟨by (with_reducible repeat (first | refine zH ?_ _ | refine zI ?_ | refine zG ?_ _)); exact BK136.out⟩, ⟨by repeat (first | exact HB.out | apply zA | apply zB | apply zD | refine zJ ?_ GE136.out)⟩⟩
    case rest =>
     clear HC38
     try clear c1
     try clear c2
     try clear p2
     try clear c3
     try clear c4
     try clear c6
     try clear c7
     try clear c7b0
     try clear c7b1
     try clear c8
     try clear c8b0
     try clear c10
     try clear c10b0
     try clear c12
     try clear c12b0
     try clear c14
     try clear c14b0
     try clear c16
     try clear c17
     try clear c18
     try clear c18b0
     try clear c18b1
     try clear c21
     try clear c21b0
     try clear c21b1
     try clear c22
     try clear c22b0
     try clear c22b1
     try clear c26
     try clear c26b0
     try clear c26b1
     try clear c27
     try clear c28
     try clear c28b0
     try clear c28b1
     try clear c31
     try clear c31b0
     try clear c31b1
     try clear c32
     try clear c32b0
     try clear c32b1
     try clear c37
     try clear c39
     try clear c39b0
     try clear c39b1
     try clear c40
     try clear c40b0
     try clear hcz11_0
     try clear hcz11_1
     try clear hcz11_2
     try clear hcz11_3
     try clear hcz13_0
     try clear hcz13_1
     try clear hcz13_2
     try clear hcz13_3
     try clear hcz15_0
     try clear hcz15_1
     try clear hcz15_2
     try clear hcz15_3
     try clear hcz19_0
     try clear hcz19_1
     try clear hcz19_2
     try clear hcz19_3
     try clear hcz20_0
     try clear hcz20_1
     try clear hcz20_2
     try clear hcz20_3
     try clear hcz23_0
     try clear hcz23_1
     try clear hcz23_2
     try clear hcz23_3
     try clear hcz24_0
     try clear hcz24_1
     try clear hcz24_2
     try clear hcz24_3
     try clear hcz25_0
     try clear hcz25_1
     try clear hcz25_2
     try clear hcz25_3
     try clear hcz29_0
     try clear hcz29_1
     try clear hcz29_2
     try clear hcz29_3
     try clear hcz30_0
     try clear hcz30_1
     try clear hcz30_2
     try clear hcz30_3
     try clear hcz33_0
     try clear hcz33_1
     try clear hcz33_2
     try clear hcz33_3
     try clear hcz34_0
     try clear hcz34_1
     try clear hcz34_2
     try clear hcz34_3
     try clear hcz35_0
     try clear hcz35_1
     try clear hcz35_2
     try clear hcz35_3
     try clear hcz36_0
     try clear hcz36_1
     try clear hcz36_2
     try clear hcz36_3
     try clear hcz41_0
     try clear hcz41_1
     try clear hcz41_2
     try clear hcz41_3
     try clear hcz42_0
     try clear hcz42_1
     try clear hcz42_2
     try clear hcz42_3
     try clear hcz6_0
     try clear hcz6_1
     try clear hcz6_2
     try clear hcz6_3
     try clear hcz9_0
     try clear hcz9_1
     try clear hcz9_2
     try clear hcz9_3
     try clear hfz11_0
     try clear hfz11_1
     try clear hfz11_2
     try clear hfz11_3
     try clear hfz13_0
     try clear hfz13_1
     try clear hfz13_2
     try clear hfz13_3
     try clear hfz15_0
     try clear hfz15_1
     try clear hfz15_2
     try clear hfz15_3
     try clear hfz19_0
     try clear hfz19_1
     try clear hfz19_2
     try clear hfz19_3
     try clear hfz20_0
     try clear hfz20_1
     try clear hfz20_2
     try clear hfz20_3
     try clear hfz23_0
     try clear hfz23_1
     try clear hfz23_2
     try clear hfz23_3
     try clear hfz24_0
     try clear hfz24_1
     try clear hfz24_2
     try clear hfz24_3
     try clear hfz25_0
     try clear hfz25_1
     try clear hfz25_2
     try clear hfz25_3
     try clear hfz29_0
     try clear hfz29_1
     try clear hfz29_2
     try clear hfz29_3
     try clear hfz30_0
     try clear hfz30_1
     try clear hfz30_2
     try clear hfz30_3
     try clear hfz33_0
     try clear hfz33_1
     try clear hfz33_2
     try clear hfz33_3
     try clear hfz34_0
     try clear hfz34_1
     try clear hfz34_2
     try clear hfz34_3
     try clear hfz35_0
     try clear hfz35_1
     try clear hfz35_2
     try clear hfz35_3
     try clear hfz36_0
     try clear hfz36_1
     try clear hfz36_2
     try clear hfz36_3
     try clear hfz41_0
     try clear hfz41_1
     try clear hfz41_2
     try clear hfz41_3
     try clear hfz42_0
     try clear hfz42_1
     try clear hfz42_2
     try clear hfz42_3
     try clear hfz6_0
     try clear hfz6_1
     try clear hfz6_2
     try clear hfz6_3
     try clear hfz9_0
     try clear hfz9_1
     try clear hfz9_2
     try clear hfz9_3
     try clear p2
     obtain ⟨kq, x80_37, rfl, HA, HJ37, BK136, HB⟩ := hcut
     cases kq with
     | zero => exact absurd HA.out (by simp [cotterref03_Encode.j1])
     | succ kj37 =>
      have H := HA.out
      clear HA
      simp only [cotterref03_Encode.j1] at H
      by_cases c43 : x80_37 = true
      ·subst c43
       have H1 : (some ((⟨#[]⟩ : ByteArray), 7)) = some (r1, r2) := by rw [if_pos rfl] at H; exact H
       clear H
       have H := H1
       clear H1
       simp only [Option.some.injEq, Prod.mk.injEq] at H
       obtain ⟨rfl, rfl⟩ := H
       go_wp2
       go_ret2
       exact ⟨by first | rfl | (simp [errW_none, errW_some] <;> rfl) | (simp [*, errW_none, errW_some] <;> rfl), by repeat (first | exact HB.out | apply zA | apply zB | apply zD | refine zJ ?_ GE136.out)⟩
      ·replace c43 := Bool.eq_false_iff.mpr c43
       subst c43
       have H1 : ((some (([(a0_0) % 256] : List Int) : List Int)).bind fun y141 => (if t139 = true then ((some (([(wrap64 ((wrap64 (16 * a0_1)) + a0_2)) % 256] : List Int) : List Int)).bind fun y144 => (if (strOfNums y141).size + (strOfNums y144).size ≤ 9223372036854775807 then (cotterref03_Encode.j2 kj37 t140 ((strOfNums y141) ++ (strOfNums y144)) a0_0 a0_1 a0_2 a0_3) else (none))) else (if t138 = true then ((some (([(a0_1) % 256] : List Int) : List Int)).bind fun y147 => (if (strOfNums y141).size + (strOfNums y147).size ≤ 9223372036854775807 then (cotterref03_Encode.j2 kj37 t140 ((strOfNums y141) ++ (strOfNums y147)) a0_0 a0_1 a0_2 a0_3) else (none))) else (cotterref03_Encode.j2 kj37 t140 (strOfNums y141) a0_0 a0_1 a0_2 a0_3)))) = some (r1, r2) := by rw [if_neg (show ¬ (false = true) by decide)] at H; exact H
       clear H
       have H := H1
       clear H1
       obtain ⟨y141, hy141⟩ : ∃ y_ : List Int, y_ = (([(a0_0) % 256] : List Int)) := ⟨_, rfl⟩
       replace H : (if t139 = true then ((some (([(wrap64 ((wrap64 (16 * a0_1)) + a0_2)) % 256] : List Int) : List Int)).bind fun y144 => (if (strOfNums y141).size + (strOfNums y144).size ≤ 9223372036854775807 then (cotterref03_Encode.j2 kj37 t140 ((strOfNums y141) ++ (strOfNums y144)) a0_0 a0_1 a0_2 a0_3) else (none))) else (if t138 = true then ((some (([(a0_1) % 256] : List Int) : List Int)).bind fun y147 => (if (strOfNums y141).size + (strOfNums y147).size ≤ 9223372036854775807 then (cotterref03_Encode.j2 kj37 t140 ((strOfNums y141) ++ (strOfNums y147)) a0_0 a0_1 a0_2 a0_3) else (none))) else (cotterref03_Encode.j2 kj37 t140 (strOfNums y141) a0_0 a0_1 a0_2 a0_3))) = some (r1, r2) := by first | (rw [hy141]; with_reducible exact H) | (have H2_ := (Option.bind_some _ _).symm.trans H; rw [hy141]; with_reducible exact H2_) | (have H2_ := (Option.bind_some _ _).symm.trans H; with_reducible exact H2_) | with_reducible exact H | (rw [hy141]; exact H) | exact H
       have Ny141 := z4 hy141
       clear hy141
       have HC44 := z4 H
       clear H
       have hcz45_0 : wc.cell? ⟨gb136, 0, none⟩ = some (.int .i64 a0_0) := (zC BK136.out 0).trans rfl
       have hcz45_1 : wc.cell? ⟨gb136, 1, none⟩ = some (.int .i64 a0_1) := (zC BK136.out 1).trans rfl
       have hcz45_2 : wc.cell? ⟨gb136, 2, none⟩ = some (.int .i64 a0_2) := (zC BK136.out 2).trans rfl
       have hcz45_3 : wc.cell? ⟨gb136, 3, none⟩ = some (.int .i64 a0_3) := (zC BK136.out 3).trans rfl
       have hfz45_0 := zF BK136.out 0
       have hfz45_1 := zF BK136.out 1
       have hfz45_2 := zF BK136.out 2
       have hfz45_3 := zF BK136.out 3
       go_upto_if 86 with (first | ((with_reducible refine gate_dst (N := 84) rfl ?_); refine Kd.R_lit (Kd.int .u8) _ 5 ?hg (N := 84) ?hd (xs := ([(a0_0) % 256] : List Int)) (inner := [.int .u8 ((a0_0) % 256)]) (ok := fun _ => True) (okp := fun _ => True) ?hr ?hp (fun _ hk => hk) trivial (Below.refl _ _) (Nat.le_refl _) (by simp) ?_; (case hd => rfl); (case hg => rfl); (case hr => first | (go_simp; done) | (go_simp; rfl)); (case hp => exact (Reps.one (show Kd.M (Kd.int .u8) _ _ _ ((a0_0) % 256) [.int .u8 ((a0_0) % 256)] from rfl) (Reps.none _ _))); intro v142 w46 ho47 hb hg_ hnew_; clear hg_ hnew_; (first | rw [← Ny141.out] at ho47 | (simp only [Int.reduceToNat] at ho47; rw [← Ny141.out] at ho47)); have n0_ := z4 (zU ho47 (zL (by repeat (first | exact HB.out | apply zA | apply zB | apply zD | refine zJ ?_ GE136.out)))); have n1_ := z4 (blk_below (g := gb136) (o := .cells #[.int .i64 a0_0, .int .i64 a0_1, .int .i64 a0_2, .int .i64 a0_3] 79 (0, 0)) (by (with_reducible repeat (first | refine zH ?_ _ | refine zI ?_ | refine zG ?_ _)); exact BK136.out) hb); have n2_ := z4 (zK (by repeat (first | exact HB.out | apply zA | apply zB | apply zD | refine zJ ?_ GE136.out)) hb); clear BK136; clear HB; have HO143 := n0_; have BK136 := n1_; have HB := n2_; clear n0_ n1_ n2_; clear hb ho47; have hcv48 := own_string (P := Tryd.prog) Tryd.underlying60 Tryd.underlying5 Tryd.underlying9 (Kd.own_of_R HO143.out)))
       (try simp only [Act.put, z1, z2, z3])
       go_cut [8] (fun v8 wc => ∃ (kq : Nat) (x8_43 : ByteArray), v8 = .string x8_43 ∧ Aside0 (cotterref03_Encode.j2 kq t140 x8_43 a0_0 a0_1 a0_2 a0_3 = some (r1, r2)) ∧ Aside0 (kq ≤ kj37) ∧ Aside0 (wc.heap[gb136]? = some (.cells #[.int .i64 a0_0, .int .i64 a0_1, .int .i64 a0_2, .int .i64 a0_3] 79 (0, 0))) ∧ Aside0 (Below w.heap.size w wc))
       case first =>
        have H := HC44.out
        clear HC44
        by_cases c49 : t139 = true
        ·subst c49
         have H1 : ((some (([(wrap64 ((wrap64 (16 * a0_1)) + a0_2)) % 256] : List Int) : List Int)).bind fun y144 => (if (strOfNums y141).size + (strOfNums y144).size ≤ 9223372036854775807 then (cotterref03_Encode.j2 kj37 t140 ((strOfNums y141) ++ (strOfNums y144)) a0_0 a0_1 a0_2 a0_3) else (none))) = some (r1, r2) := by rw [if_pos rfl] at H; exact H
         clear H
         have H := H1
         clear H1
         obtain ⟨y144, hy144⟩ : ∃ y_ : List Int, y_ = (([(wrap64 ((wrap64 (16 * a0_1)) + a0_2)) % 256] : List Int)) := ⟨_, rfl⟩
         replace H : (if (strOfNums y141).size + (strOfNums y144).size ≤ 9223372036854775807 then (cotterref03_Encode.j2 kj37 t140 ((strOfNums y141) ++ (strOfNums y144)) a0_0 a0_1 a0_2 a0_3) else (none)) = some (r1, r2) := by first | (rw [hy144]; with_reducible exact H) | (have H2_ := (Option.bind_some _ _).symm.trans H; rw [hy144]; with_reducible exact H2_) | (have H2_ := (Option.bind_some _ _).symm.trans H; with_reducible exact H2_) | with_reducible exact H | (rw [hy144]; exact H) | exact H
         have Ny144 := z4 hy144
         clear hy144
         by_cases c50 : (strOfNums y141).size + (strOfNums y144).size ≤ 9223372036854775807
         ·rw [if_pos c50] at H
          have c50b0 := eq_true c50
          have c50b1 : decide ((strOfNums y141).size + (strOfNums y144).size ≤ 9223372036854775807) = true := decide_eq_true c50
          try have c50b2 : (9223372036854775807 < (strOfNums y141).size + (strOfNums y144).size) = False := eq_false (Nat.not_lt.2 c50)
          have H' := z4 H
          clear H
          have hcz51_0 : w46.cell? ⟨gb136, 0, none⟩ = some (.int .i64 a0_0) := (zC BK136.out 0).trans rfl
          have hcz51_1 : w46.cell? ⟨gb136, 1, none⟩ = some (.int .i64 a0_1) := (zC BK136.out 1).trans rfl
          have hcz51_2 : w46.cell? ⟨gb136, 2, none⟩ = some (.int .i64 a0_2) := (zC BK136.out 2).trans rfl
          have hcz51_3 : w46.cell? ⟨gb136, 3, none⟩ = some (.int .i64 a0_3) := (zC BK136.out 3).trans rfl
          have hfz51_0 := zF BK136.out 0
          have hfz51_1 := zF BK136.out 1
          have hfz51_2 := zF BK136.out 2
          have hfz51_3 := zF BK136.out 3
          go_wp2_with (first | ((with_reducible refine gate_dst (N := 95) rfl ?_); refine Kd.R_lit (Kd.int .u8) _ 5 ?hg (N := 95) ?hd (xs := ([(wrap64 ((wrap64 (16 * a0_1)) + a0_2)) % 256] : List Int)) (inner := [.int .u8 ((wrap64 ((wrap64 (16 * a0_1)) + a0_2)) % 256)]) (ok := fun _ => True) (okp := fun _ => True) ?hr ?hp (fun _ hk => hk) trivial (Below.refl _ _) (Nat.le_refl _) (by simp) ?_; (case hd => rfl); (case hg => rfl); (case hr => first | (go_simp; done) | (go_simp; rfl)); (case hp => exact (Reps.one (show Kd.M (Kd.int .u8) _ _ _ ((wrap64 ((wrap64 (16 * a0_1)) + a0_2)) % 256) [.int .u8 ((wrap64 ((wrap64 (16 * a0_1)) + a0_2)) % 256)] from rfl) (Reps.none _ _))); intro v145 w52 ho53 hb hg_ hnew_; clear hg_ hnew_; (first | rw [← Ny144.out] at ho53 | (simp only [Int.reduceToNat] at ho53; rw [← Ny144.out] at ho53)); have n0_ := z4 (Kd.R_elder' (by (with_reducible repeat (first | apply zM | apply zN | apply zO)); exact HO143.out) (Kd.R_base ho53) hb); have n1_ := z4 (zU (Kd.R_new' ho53 (Kd.R_lt (by (with_reducible repeat (first | apply zM | apply zN | apply zO)); exact HO143.out))) (zL (by repeat (first | exact HB.out | apply zA | apply zB | apply zD | refine zJ ?_ GE136.out)))); have n2_ := z4 (blk_below (g := gb136) (o := .cells #[.int .i64 a0_0, .int .i64 a0_1, .int .i64 a0_2, .int .i64 a0_3] 79 (0, 0)) (by (with_reducible repeat (first | refine zH ?_ _ | refine zI ?_ | refine zG ?_ _)); exact BK136.out) hb); have n3_ := z4 (zK (by repeat (first | exact HB.out | apply zA | apply zB | apply zD | refine zJ ?_ GE136.out)) hb); clear HO143; clear BK136; clear HB; have HO143 := n0_; have HO146 := n1_; have BK136 := n2_; have HB := n3_; clear n0_ n1_ n2_ n3_; clear hb ho53; have hcv54 := own_string (P := Tryd.prog) Tryd.underlying60 Tryd.underlying5 Tryd.underlying9 (Kd.own_of_R HO146.out)))
          go_meet
          case rel => exact ⟨_, ((strOfNums y141) ++ (strOfNums y144)), (by first | rfl | (simp; done) | (simp [*]; done)), H', ⟨by have := HJ3.out; have := HJ37.out; first | omega | exact Nat.le_refl _⟩, ⟨by (with_reducible repeat (first | refine zH ?_ _ | refine zI ?_ | refine zG ?_ _)); exact BK136.out⟩, ⟨by repeat (first | exact HB.out | apply zA | apply zB | apply zD | refine zJ ?_ GE136.out)⟩⟩
         ·rw [if_neg c50] at H
          exact absurd H (by simp)
        ·replace c49 := Bool.eq_false_iff.mpr c49
         subst c49
         have H1 : (if t138 = true then ((some (([(a0_1) % 256] : List Int) : List Int)).bind fun y147 => (if (strOfNums y141).size + (strOfNums y147).size ≤ 9223372036854775807 then (cotterref03_Encode.j2 kj37 t140 ((strOfNums y141) ++ (strOfNums y147)) a0_0 a0_1 a0_2 a0_3) else (none))) else (cotterref03_Encode.j2 kj37 t140 (strOfNums y141) a0_0 a0_1 a0_2 a0_3)) = some (r1, r2) := by rw [if_neg (show ¬ (false = true) by decide)] at H; exact H
         clear H
         have H := H1
         clear H1
         by_cases c55 : t138 = true
         ·subst c55
          have H1 : ((some (([(a0_1) % 256] : List Int) : List Int)).bind fun y147 => (if (strOfNums y141).size + (strOfNums y147).size ≤ 9223372036854775807 then (cotterref03_Encode.j2 kj37 t140 ((strOfNums y141) ++ (strOfNums y147)) a0_0 a0_1 a0_2 a0_3) else (none))) = some (r1, r2) := by rw [if_pos rfl] at H; exact H
          clear H
          have H := H1
          clear H1
          obtain ⟨y147, hy147⟩ : ∃ y_ : List Int, y_ = (([(a0_1) % 256] : List Int)) := ⟨_, rfl⟩
          replace H : (if (strOfNums y141).size + (strOfNums y147).size ≤ 9223372036854775807 then (cotterref03_Encode.j2 kj37 t140 ((strOfNums y141) ++ (strOfNums y147)) a0_0 a0_1 a0_2 a0_3) else (none)) = some (r1, r2) := by first | (rw [hy147]; with_reducible exact H) | (have H2_ := (Option.bind_some _ _).symm.trans H; rw [hy147]; with_reducible exact H2_) | (have H2_ := (Option.bind_some _ _).symm.trans H; with_reducible exact H2_) | with_reducible exact H | (rw [hy147]; exact H) | exact H
          have Ny147 := z4 hy147
          clear hy147
          by_cases c56 : (strOfNums y141).size + (strOfNums y147).size ≤ 9223372036854775807
          ·rw [if_pos c56] at H
           have c56b0 := eq_true c56
           have c56b1 : decide ((strOfNums y141).size + (strOfNums y147).size ≤ 9223372036854775807) = true := decide_eq_true c56
           try have c56b2 : (9223372036854775807 < (strOfNums y141).size + (strOfNums y147).size) = False := eq_false (Nat.not_lt.2 c56)
           have H' := z4 H
           clear H
           have hcz57_0 : w46.cell? ⟨gb136, 0, none⟩ = some (.int .i64 a0_0) := (zC BK136.out 0).trans rfl
           have hcz57_1 : w46.cell? ⟨gb136, 1, none⟩ = some (.int .i64 a0_1) := (zC BK136.out 1).trans rfl
           have hcz57_2 : w46.cell? ⟨gb136, 2, none⟩ = some (.int .i64 a0_2) := (zC BK136.out 2).trans rfl
           have hcz57_3 : w46.cell? ⟨gb136, 3, none⟩ = some (.int .i64 a0_3) := (zC BK136.out 3).trans rfl
           have hfz57_0 := zF BK136.out 0
           have hfz57_1 := zF BK136.out 1
           have hfz57_2 := zF BK136.out 2
           have hfz57_3 := zF BK136.out 3
           go_wp2_with (first | ((with_reducible refine gate_dst (N := 103) rfl ?_); refine Kd.R_lit (Kd.int .u8) _ 5 ?hg (N := 103) ?hd (xs := ([(a0_1) % 256] : List Int)) (inner := [.int .u8 ((a0_1) % 256)]) (ok := fun _ => True) (okp := fun _ => True) ?hr ?hp (fun _ hk => hk) trivial (Below.refl _ _) (Nat.le_refl _) (by simp) ?_; (case hd => rfl); (case hg => rfl); (case hr => first | (go_simp; done) | (go_simp; rfl)); (case hp => exact (Reps.one (show Kd.M (Kd.int .u8) _ _ _ ((a0_1) % 256) [.int .u8 ((a0_1) % 256)] from rfl) (Reps.none _ _))); intro v148 w58 ho59 hb hg_ hnew_; clear hg_ hnew_; (first | rw [← Ny147.out] at ho59 | (simp only [Int.reduceToNat] at ho59; rw [← Ny147.out] at ho59)); have n0_ := z4 (Kd.R_elder' (by (with_reducible repeat (first | apply zM | apply zN | apply zO)); exact HO143.out) (Kd.R_base ho59) hb); have n1_ := z4 (zU (Kd.R_new' ho59 (Kd.R_lt (by (with_reducible repeat (first | apply zM | apply zN | apply zO)); exact HO143.out))) (zL (by repeat (first | exact HB.out | apply zA | apply zB | apply zD | refine zJ ?_ GE136.out)))); have n2_ := z4 (blk_below (g := gb136) (o := .cells #[.int .i64 a0_0, .int .i64 a0_1, .int .i64 a0_2, .int .i64 a0_3] 79 (0, 0)) (by (with_reducible repeat (first | refine zH ?_ _ | refine zI ?_ | refine zG ?_ _)); exact BK136.out) hb); have n3_ := z4 (zK (by repeat (first | exact HB.out | apply zA | apply zB | apply zD | refine zJ ?_ GE136.out)) hb); clear HO143; clear BK136; clear HB; have HO143 := n0_; have HO149 := n1_; have BK136 := n2_; have HB := n3_; clear n0_ n1_ n2_ n3_; clear hb ho59; have hcv60 := own_string (P := Tryd.prog) Tryd.underlying60 Tryd.underlying5 Tryd.underlying9 (Kd.own_of_R HO149.out)))
           go_meet
           case rel => exact ⟨_, ((strOfNums y141) ++ (strOfNums y147)), (by first | rfl | (simp; done) | (simp [*]; done)), H', ⟨by have := HJ3.out; have := HJ37.out; first | omega | exact Nat.le_refl _⟩, ⟨by (with_reducible repeat (first | refine zH ?_ _ | refine zI ?_ | refine zG ?_ _)); exact BK136.out⟩, ⟨by repeat (first | exact HB.out | apply zA | apply zB | apply zD | refine zJ ?_ GE136.out)⟩⟩
          ·rw [if_neg c56] at H
           exact absurd H (by simp)
         ·replace c55 := Bool.eq_false_iff.mpr c55
          subst c55
          have H1 : (cotterref03_Encode.j2 kj37 t140 (strOfNums y141) a0_0 a0_1 a0_2 a0_3) = some (r1, r2) := by rw [if_neg (show ¬ (false = true) by decide)] at H; exact H
          clear H
          have H := H1
          clear H1
          have H' := z4 H
          clear H
          go_wp2
          go_meet
          case rel => exact ⟨_, (strOfNums y141), (by first | rfl | (simp; done) | (simp [*]; done)), H', ⟨by have := HJ3.out; have := HJ37.out; first | omega | exact Nat.le_refl _⟩, ⟨by (with_reducible repeat (first | refine zH ?_ _ | refine zI ?_ | refine zG ?_ _)); exact BK136.out⟩, ⟨by repeat (first | exact HB.out | apply zA | apply zB | apply zD | refine zJ ?_ GE136.out)⟩⟩
       case rest =>
        clear HC44
        try clear c1
        try clear c2
        try clear p2
        try clear c3
        try clear c4
        try clear hcv4
        try clear c5
        try clear hcv5
        try clear c6
        try clear p6
        try clear hcv6
        try clear c7
        try clear c7b0
        try clear c7b1
        try clear c8
        try clear c8b0
        try clear c10
        try clear c10b0
        try clear c12
        try clear c12b0
        try clear c14
        try clear c14b0
        try clear c16
        try clear c17
        try clear c18
        try clear c18b0
        try clear c18b1
        try clear c21
        try clear c21b0
        try clear c21b1
        try clear c22
        try clear c22b0
        try clear c22b1
        try clear c26
        try clear c26b0
        try clear c26b1
        try clear c27
        try clear c28
        try clear c28b0
        try clear c28b1
        try clear c31
        try clear c31b0
        try clear c31b1
        try clear c32
        try clear c32b0
        try clear c32b1
        try clear c37
        try clear c39
        try clear c39b0
        try clear c39b1
        try clear c40
        try clear c40b0
        try clear c43
        try clear hcv48
        try clear c49
        try clear c50
        try clear c50b0
        try clear c50b1
        try clear c50b2
        try clear hcv54
        try clear c55
        try clear c56
        try clear c56b0
        try clear c56b1
        try clear c56b2
        try clear hcv60
        try clear hcz11_0
        try clear hcz11_1
        try clear hcz11_2
        try clear hcz11_3
        try clear hcz13_0
        try clear hcz13_1
        try clear hcz13_2
        try clear hcz13_3
        try clear hcz15_0
        try clear hcz15_1
        try clear hcz15_2
        try clear hcz15_3
        try clear hcz19_0
        try clear hcz19_1
        try clear hcz19_2
        try clear hcz19_3
        try clear hcz20_0
        try clear hcz20_1
        try clear hcz20_2
        try clear hcz20_3
        try clear hcz23_0
        try clear hcz23_1
        try clear hcz23_2
        try clear hcz23_3
        try clear hcz24_0
        try clear hcz24_1
        try clear hcz24_2
        try clear hcz24_3
        try clear hcz25_0
        try clear hcz25_1
        try clear hcz25_2
        try clear hcz25_3
        try clear hcz29_0
        try clear hcz29_1
        try clear hcz29_2
        try clear hcz29_3
        try clear hcz30_0
        try clear hcz30_1
        try clear hcz30_2
        try clear hcz30_3
        try clear hcz33_0
        try clear hcz33_1
        try clear hcz33_2
        try clear hcz33_3
        try clear hcz34_0
        try clear hcz34_1
        try clear hcz34_2
        try clear hcz34_3
        try clear hcz35_0
        try clear hcz35_1
        try clear hcz35_2
        try clear hcz35_3
        try clear hcz36_0
        try clear hcz36_1
        try clear hcz36_2
        try clear hcz36_3
        try clear hcz41_0
        try clear hcz41_1
        try clear hcz41_2
        try clear hcz41_3
        try clear hcz42_0
        try clear hcz42_1
        try clear hcz42_2
        try clear hcz42_3
        try clear hcz45_0
        try clear hcz45_1
        try clear hcz45_2
        try clear hcz45_3
        try clear hcz51_0
        try clear hcz51_1
        try clear hcz51_2
        try clear hcz51_3
        try clear hcz57_0
        try clear hcz57_1
        try clear hcz57_2
        try clear hcz57_3
        try clear hcz6_0
        try clear hcz6_1
        try clear hcz6_2
        try clear hcz6_3
        try clear hcz9_0
        try clear hcz9_1
        try clear hcz9_2
        try clear hcz9_3
        try clear hfz11_0
        try clear hfz11_1
        try clear hfz11_2
        try clear hfz11_3
        try clear hfz13_0
        try clear hfz13_1
        try clear hfz13_2
        try clear hfz13_3
        try clear hfz15_0
        try clear hfz15_1
        try clear hfz15_2
        try clear hfz15_3
        try clear hfz19_0
        try clear hfz19_1
        try clear hfz19_2
        try clear hfz19_3
        try clear hfz20_0
        try clear hfz20_1
        try clear hfz20_2
        try clear hfz20_3
        try clear hfz23_0
        try clear hfz23_1
        try clear hfz23_2
        try clear hfz23_3
        try clear hfz24_0
        try clear hfz24_1
        try clear hfz24_2
        try clear hfz24_3
        try clear hfz25_0
        try clear hfz25_1
        try clear hfz25_2
        try clear hfz25_3
        try clear hfz29_0
        try clear hfz29_1
        try clear hfz29_2
        try clear hfz29_3
        try clear hfz30_0
        try clear hfz30_1
        try clear hfz30_2
        try clear hfz30_3
        try clear hfz33_0
        try clear hfz33_1
        try clear hfz33_2
        try clear hfz33_3
        try clear hfz34_0
        try clear hfz34_1
        try clear hfz34_2
        try clear hfz34_3
        try clear hfz35_0
        try clear hfz35_1
        try clear hfz35_2
        try clear hfz35_3
        try clear hfz36_0
        try clear hfz36_1
        try clear hfz36_2
        try clear hfz36_3
        try clear hfz41_0
        try clear hfz41_1
        try clear hfz41_2
        try clear hfz41_3
        try clear hfz42_0
        try clear hfz42_1
        try clear hfz42_2
        try clear hfz42_3
        try clear hfz45_0
        try clear hfz45_1
        try clear hfz45_2
        try clear hfz45_3
        try clear hfz51_0
        try clear hfz51_1
        try clear hfz51_2
        try clear hfz51_3
        try clear hfz57_0
        try clear hfz57_1
        try clear hfz57_2
        try clear hfz57_3
        try clear hfz6_0
        try clear hfz6_1
        try clear hfz6_2
        try clear hfz6_3
        try clear hfz9_0
        try clear hfz9_1
        try clear hfz9_2
        try clear hfz9_3
        try clear p2
        obtain ⟨kq, x8_43, rfl, HA, HJ43, BK136, HB⟩ := hcut
        cases kq with
        | zero => exact absurd HA.out (by simp [cotterref03_Encode.j2])
        | succ kj43 =>
         have H := HA.out
         clear HA
         simp only [cotterref03_Encode.j2] at H
         by_cases c61 : t140 > 0
         ·rw [if_pos c61] at H
          have c61b0 : decide (0 < t140) = true := decide_eq_true c61
          clear c61
          replace H := z8 H
          obtain ⟨⟨t150, t151⟩, A620, H⟩ := H
          replace H : (if t151 = 0 then (if x8_43.size + t150.size ≤ 9223372036854775807 then (some (x8_43 ++ t150, 0)) else (none)) else (some ((⟨#[]⟩ : ByteArray), t151))) = some (r1, r2) := H
          have A62 := z4 A620
          clear A620
          by_cases c63 : t151 = 0
          ·rw [if_pos c63] at H
           have c63b0 : (t151 == 0) = true := z5 c63
           have c63b1 : (t151 != 0) = false := z6 c63
           clear c63
           by_cases c64 : x8_43.size + t150.size ≤ 9223372036854775807
           ·rw [if_pos c64] at H
            have c64b0 := eq_true c64
            have c64b1 : decide (x8_43.size + t150.size ≤ 9223372036854775807) = true := decide_eq_true c64
            try have c64b2 : (9223372036854775807 < x8_43.size + t150.size) = False := eq_false (Nat.not_lt.2 c64)
            simp only [Option.some.injEq, Prod.mk.injEq] at H
            obtain ⟨rfl, rfl⟩ := H
            have hcz65_0 : wc.cell? ⟨gb136, 0, none⟩ = some (.int .i64 a0_0) := (zC BK136.out 0).trans rfl
            have hcz65_1 : wc.cell? ⟨gb136, 1, none⟩ = some (.int .i64 a0_1) := (zC BK136.out 1).trans rfl
            have hcz65_2 : wc.cell? ⟨gb136, 2, none⟩ = some (.int .i64 a0_2) := (zC BK136.out 2).trans rfl
            have hcz65_3 : wc.cell? ⟨gb136, 3, none⟩ = some (.int .i64 a0_3) := (zC BK136.out 3).trans rfl
            have hfz65_0 := zF BK136.out 0
            have hfz65_1 := zF BK136.out 1
            have hfz65_2 := zF BK136.out 2
            have hfz65_3 := zF BK136.out 3
            go_wp2_with (first | ((with_reducible refine gate_callee (f := 73) rfl ?_); refine goesL_ (some 112) rfl rfl Tryd.func73 (by kernel_rfl) rfl #[.int .i64 a0_3, .int .i64 t140] rfl (by (try simp only [z9, List.map_cons, List.map_nil]); first | done | rfl | (simp only [z9a, z9b]; rfl)) ?_; (with_reducible refine (cotterref01_Bytes.calls kj43 a0_3 t140 t150 t151 _ A62.out).mono ?_); rintro e w66 ⟨rfl, hb⟩; refine ⟨_, rfl, ?_⟩; have n0_ := z4 (blk_below (g := gb136) (o := .cells #[.int .i64 a0_0, .int .i64 a0_1, .int .i64 a0_2, .int .i64 a0_3] 79 (0, 0)) (by (with_reducible repeat (first | refine zH ?_ _ | refine zI ?_ | refine zG ?_ _)); exact BK136.out) hb); have n1_ := z4 (zK (by repeat (first | exact HB.out | apply zA | apply zB | apply zD | refine zJ ?_ GE136.out)) hb); clear BK136; clear HB; have BK136 := n0_; have HB := n1_; clear n0_ n1_; (try clear hb); (try clear hb2); (try clear hk); (try clear hi)))
            go_ret2
            exact ⟨by first | rfl | (simp [errW_none, errW_some] <;> rfl) | (simp [*, errW_none, errW_some] <;> rfl), by repeat (first | exact HB.out | apply zA | apply zB | apply zD | refine zJ ?_ GE136.out)⟩
           ·rw [if_neg c64] at H
            exact absurd H (by simp)
          ·rw [if_neg c63] at H
           have c63b0 : (t151 == 0) = false := z7 c63
           have c63b1 : (t151 != 0) = true := bne_iff_ne.mpr c63
           simp only [Option.some.injEq, Prod.mk.injEq] at H
           obtain ⟨rfl, rfl⟩ := H
           have hcz67_0 : wc.cell? ⟨gb136, 0, none⟩ = some (.int .i64 a0_0) := (zC BK136.out 0).trans rfl
           have hcz67_1 : wc.cell? ⟨gb136, 1, none⟩ = some (.int .i64 a0_1) := (zC BK136.out 1).trans rfl
           have hcz67_2 : wc.cell? ⟨gb136, 2, none⟩ = some (.int .i64 a0_2) := (zC BK136.out 2).trans rfl
           have hcz67_3 : wc.cell? ⟨gb136, 3, none⟩ = some (.int .i64 a0_3) := (zC BK136.out 3).trans rfl
           have hfz67_0 := zF BK136.out 0
           have hfz67_1 := zF BK136.out 1
           have hfz67_2 := zF BK136.out 2
           have hfz67_3 := zF BK136.out 3
           go_wp2_with (first | ((with_reducible refine gate_callee (f := 73) rfl ?_); refine goesL_ (some 112) rfl rfl Tryd.func73 (by kernel_rfl) rfl #[.int .i64 a0_3, .int .i64 t140] rfl (by (try simp only [z9, List.map_cons, List.map_nil]); first | done | rfl | (simp only [z9a, z9b]; rfl)) ?_; (with_reducible refine (cotterref01_Bytes.calls kj43 a0_3 t140 t150 t151 _ A62.out).mono ?_); rintro e w68 ⟨rfl, hb⟩; refine ⟨_, rfl, ?_⟩; have n0_ := z4 (blk_below (g := gb136) (o := .cells #[.int .i64 a0_0, .int .i64 a0_1, .int .i64 a0_2, .int .i64 a0_3] 79 (0, 0)) (by (with_reducible repeat (first | refine zH ?_ _ | refine zI ?_ | refine zG ?_ _)); exact BK136.out) hb); have n1_ := z4 (zK (by repeat (first | exact HB.out | apply zA | apply zB | apply zD | refine zJ ?_ GE136.out)) hb); clear BK136; clear HB; have BK136 := n0_; have HB := n1_; clear n0_ n1_; (try clear hb); (try clear hb2); (try clear hk); (try clear hi)))
           go_ret2
           exact ⟨by first | rfl | (simp [errW_none, errW_some] <;> rfl) | (simp [*, errW_none, errW_some] <;> rfl), by repeat (first | exact HB.out | apply zA | apply zB | apply zD | refine zJ ?_ GE136.out)⟩
         ·rw [if_neg c61] at H
          have c61b0 : decide (0 < t140) = false := decide_eq_false c61
          clear c61
          simp only [Option.some.injEq, Prod.mk.injEq] at H
          obtain ⟨rfl, rfl⟩ := H
          go_wp2
          go_ret2
          exact ⟨by first | rfl | (simp [errW_none, errW_some] <;> rfl) | (simp [*, errW_none, errW_some] <;> rfl), by repeat (first | exact HB.out | apply zA | apply zB | apply zD | refine zJ ?_ GE136.out)⟩
end Go.Proofs.YtimhcpmfhebbhaaDoor.M
