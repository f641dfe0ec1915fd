/-
  Texts of the proofs of ImageReads, cut to what the proofs reach and packed by a program of this session (wip/packs.py). Each part begins with what it says; conditions: those told there.
-/
import Derived.Test.YtimhcpmfhebbhaaDoorPRA6
namespace Go.Proofs.YtimhcpmfhebbhaaDoor.M
open Go.RowKit Go.Proofs.YtimhcpmfhebbhaaDoorW.PrintWords Go.Proofs.YtimhcpmfhebbhaaDoorW.PrintLast
set_option linter.unusedVariables false
set_option linter.unusedSimpArgs false
mutual
def cotterref06_Reader_Front.j0 : Nat → ByteArray → Int → Bool → Option (ByteArray × List Int × (List (S68)) × ByteArray × Int × Bool)
 | 0, _, _, _ => none
 | k + 1, x1000, x1001, x1002 => (cotterref06_Reader_Number.f k x1000 x1001 x1002 65536).bind fun bt292 => ((cotterref06_Reader_Bytes.f bt292.2.1 bt292.2.2.1 bt292.2.2.2 bt292.1).bind fun bt296 => ((cotterref06_Reader_Number.f k bt296.2.1 bt296.2.2.1 bt296.2.2.2 4096).bind fun bt300 => (cotterref06_Reader_Front.l0 k bt296.1 bt300.1 ([] : List Int) 0 bt300.2.1 bt300.2.2.1 bt300.2.2.2)))
def cotterref06_Reader_Front.j2 : Nat → ByteArray → List Int → ByteArray → Int → Bool → Option (ByteArray × List Int × (List (S68)) × ByteArray × Int × Bool)
 | 0, _, _, _, _, _ => none
 | k + 1, x7, x9, x1000, x1001, x1002 => (cotterref06_Reader_Number.f k x1000 x1001 x1002 1000).bind fun bt311 => (cotterref06_Reader_Front.l1 k x7 bt311.1 x9 ([] : List (S68)) 0 bt311.2.1 bt311.2.2.1 bt311.2.2.2)
def cotterref06_Reader_Front.l1 : Nat → ByteArray → Int → List Int → List (S68) → Int → ByteArray → Int → Bool → Option (ByteArray × List Int × (List (S68)) × ByteArray × Int × Bool)
 | 0, _, _, _, _, _, _, _, _ => none
 | k + 1, x7, x8, x9, x11, x12, x1000, x1001, x1002 => if x12 < x8 then (cotterref06_Reader_Front.j4 k x7 x8 x9 x11 x12 (!x1002) x1000 x1001 x1002) else (cotterref06_Reader_Front.j4 k x7 x8 x9 x11 x12 false x1000 x1001 x1002)
def cotterref06_Reader_Front.j4 : Nat → ByteArray → Int → List Int → List (S68) → Int → Bool → ByteArray → Int → Bool → Option (ByteArray × List Int × (List (S68)) × ByteArray × Int × Bool)
 | 0, _, _, _, _, _, _, _, _, _ => none
 | k + 1, x7, x8, x9, x11, x12, x55, x1000, x1001, x1002 => if x55 = true then ((cotterref06_Reader_Number.f k x1000 x1001 x1002 28).bind fun bt315 => ((cotterref06_Reader_Bytes.f bt315.2.1 bt315.2.2.1 bt315.2.2.2 bt315.1).bind fun bt319 => ((cotterref06_Reader_One.f bt319.2.1 bt319.2.2.1 bt319.2.2.2).bind fun bt324 => ((cotterref06_Reader_Number.f k bt324.2.1 bt324.2.2.1 bt324.2.2.2 65536).bind fun bt328 => (if x11.length < 4398046511104 then (cotterref06_Reader_Front.l1 k x7 x8 x9 (x11 ++ [(⟨bt319.1, bt324.1, bt328.1⟩ : S68)]) (wrap64 (x12 + 1)) bt328.2.1 bt328.2.2.1 bt328.2.2.2) else (none)))))) else (some (x7, x9, x11, x1000, x1001, x1002))
def cotterref06_Reader_Front.l0 : Nat → ByteArray → Int → List Int → Int → ByteArray → Int → Bool → Option (ByteArray × List Int × (List (S68)) × ByteArray × Int × Bool)
 | 0, _, _, _, _, _, _, _ => none
 | k + 1, x7, x8, x9, x10, x1000, x1001, x1002 => if x10 < x8 then (if x1002 = true then (cotterref06_Reader_Front.j2 k x7 x9 x1000 x1001 x1002) else ((cotterref06_Reader_Wide.f k x1000 x1001 x1002).bind fun bt304 => (if x9.length < 17592186044416 then (cotterref06_Reader_Front.l0 k x7 x8 (x9 ++ [bt304.1]) (wrap64 (x10 + 1)) bt304.2.1 bt304.2.2.1 bt304.2.2.2) else (none)))) else (cotterref06_Reader_Front.j2 k x7 x9 x1000 x1001 x1002)
end
def cotterref06_Reader_Front.f (k : Nat) (s0_0 : ByteArray) (s0_1 : Int) (s0_2 : Bool) (a1 : ByteArray) : Option (ByteArray × List Int × (List (S68)) × ByteArray × Int × Bool) := (cotterref06_Reader_Bytes.f s0_0 s0_1 s0_2 4).bind fun bt288 => (if bt288.1.toList = a1.toList then (cotterref06_Reader_Front.j0 k bt288.2.1 bt288.2.2.1 bt288.2.2.2) else (cotterref06_Reader_Front.j0 k bt288.2.1 bt288.2.2.1 true))
set_option maxHeartbeats 8000000 in
set_option maxRecDepth 100000 in
theorem cotterref06_Reader_Front.calls (k : Nat) (g : Nat) (s0_0 : ByteArray) (s0_1 : Int) (s0_2 : Bool) (a1 : ByteArray) (r1 : ByteArray) (r2 : List Int) (r3 : List (S68)) (r4 : ByteArray) (r5 : Int) (r6 : Bool) (w0 w : World) (hI : IsS88 w0 w g s0_0 s0_1 s0_2) (hB : Below w0.heap.size w0 w) (h : cotterref06_Reader_Front.f k s0_0 s0_1 s0_2 a1 = some (r1, r2, r3, r4, r5, r6)) :
 Calls Tryd.prog 37 #[.pointer (some ⟨g, 0, none⟩), .string a1] w fun e w' => ∃ v1_ v2_ : Value, e = .returned (.tuple #[.string r1, v1_, v2_]) ∧ Kd.R (Kd.int .i64) 2 w' w.heap.size (fun _ => True) v1_ r2 ∧ Kd.R k68 68 w' w.heap.size (fun _ => True) v2_ r3 ∧ IsS88 w0 w' g r4 r5 r6 ∧ Below w0.heap.size w0 w' ∧ KeepBut w w' g none := by
 have hu68 := Tryd.underlying68
 have HI0 := z4 hI
 have HK := z4 (KeepBut.refl w g none)
 have HL := z4 hB.size
 clear hI
 have HW0 := z4 hB.size
 have HB := z4 hB
 clear hB
 have H : ((cotterref06_Reader_Bytes.f s0_0 s0_1 s0_2 4).bind fun bt288 => (if bt288.1.toList = a1.toList then (cotterref06_Reader_Front.j0 k bt288.2.1 bt288.2.2.1 bt288.2.2.2) else (cotterref06_Reader_Front.j0 k bt288.2.1 bt288.2.2.1 true))) = some (r1, r2, r3, r4, r5, r6) := h
 clear h
 replace H := z8 H
 obtain ⟨⟨t288, t289, t290, t291⟩, A30, H⟩ := H
 replace H : (if t288.toList = a1.toList then (cotterref06_Reader_Front.j0 k t289 t290 t291) else (cotterref06_Reader_Front.j0 k t289 t290 true)) = some (r1, r2, r3, r4, r5, r6) := H
 have A3 := z4 A30
 clear A30
 have HC4 := z4 H
 clear H
 go_enter Tryd.func37, Tryd.ntmps37
 go_upto_if 17 with (first | ((with_reducible refine gate_callee (f := 61) rfl ?_); refine goesL_ (some 15) rfl rfl Tryd.func61 (by kernel_rfl) rfl #[.pointer (some ⟨g, 0, none⟩), .int .i64 4] rfl (by (try simp only [z9, List.map_cons, List.map_nil]); first | done | rfl | (simp only [z9a, z9b]; rfl)) ?_; (with_reducible refine (cotterref06_Reader_Bytes.calls g s0_0 s0_1 s0_2 4 t288 t289 t290 t291 w0 _ ?side1 ?side2 A3.out).mono ?_); (case side1 => repeat (first | exact HI0.out | apply IsS88.alloc | apply IsS88.drewN | apply IsS88.drew | apply IsS88.set_0 | apply IsS88.set_1 | apply IsS88.set_2)); (case side2 => repeat (first | (with_reducible first | exact HB.out | apply zA | apply zB | apply zD | refine zJ ?_ (IsS88.ge HI0.out)) | exact HB.out)); rintro e w5 ⟨rfl, hi, hb, hk⟩; refine ⟨_, rfl, ?_⟩; have n0_ := z4 (KeepBut.trans (by repeat (first | exact HK.out | apply KeepBut.set_ | apply keep_drewN | apply keep_drew | apply keep_alloc)) hk (.inl rfl)); have n1_ := z4 (hb); have n2_ := z4 (hi); clear HK; clear HB; clear HI0; have HK := n0_; have HB := n1_; have HI0 := n2_; clear n0_ n1_ n2_; (try clear hb); (try clear hb2); (try clear hk); (try clear hi)))
 (try simp only [Act.put, z1, z2, z3])
 go_cut [] (fun wc => ∃ (kq : Nat) (x1002_3 : Bool), Aside0 (cotterref06_Reader_Front.j0 kq t289 t290 x1002_3 = some (r1, r2, r3, r4, r5, r6)) ∧ Aside0 (kq ≤ k) ∧ Aside0 (IsS88 w0 wc g t289 t290 x1002_3) ∧ Aside0 (KeepBut w wc g none) ∧ Aside0 (Below w0.heap.size w0 wc))
 case first =>
  have H := HC4.out
  clear HC4
  by_cases c6 : t288.toList = a1.toList
  ·rw [if_pos c6] at H
   have c6b0 : (t288.toList == a1.toList) = true := z5 c6
   have c6b1 : (t288.toList != a1.toList) = false := z6 c6
   clear c6
   (first | rw [c6b0] | (simp only [i64_w, i32_w]; rw [c6b0]) | skip)
   have H' := z4 H
   clear H
   go_wp2
   go_meet
   case rel => exact ⟨_, (t291), H', ⟨by first | omega | exact Nat.le_refl _⟩, ⟨by repeat (first | exact HI0.out | apply IsS88.alloc | apply IsS88.drewN | apply IsS88.drew | apply IsS88.set_0 | apply IsS88.set_1 | apply IsS88.set_2)⟩, ⟨by repeat (first | exact HK.out | apply KeepBut.set_ | apply keep_drewN | apply keep_drew | apply keep_alloc)⟩, ⟨by repeat (first | (with_reducible first | exact HB.out | apply zA | apply zB | apply zD | refine zJ ?_ (IsS88.ge HI0.out)) | exact HB.out)⟩⟩
  ·rw [if_neg c6] at H
   have c6b0 : (t288.toList == a1.toList) = false := z7 c6
   have c6b1 : (t288.toList != a1.toList) = true := bne_iff_ne.mpr c6
   (first | rw [c6b0] | (simp only [i64_w, i32_w]; rw [c6b0]) | skip)
   have H' := z4 H
   clear H
   obtain ⟨HGz7, hgz7⟩ := HI0.out
   have hcz7_0 := cellS88_0 HGz7
   have hcz7_1 := cellS88_1 HGz7
   have hcz7_2 := cellS88_2 HGz7
   have hfz7_0 := zF HGz7 0
   have hfz7_1 := zF HGz7 1
   have hfz7_2 := zF HGz7 2
   clear HGz7 hgz7
   go_wp2
   go_meet
   case rel => exact ⟨_, (true), H', ⟨by first | omega | exact Nat.le_refl _⟩, ⟨by repeat (first | exact HI0.out | apply IsS88.alloc | apply IsS88.drewN | apply IsS88.drew | apply IsS88.set_0 | apply IsS88.set_1 | apply IsS88.set_2)⟩, ⟨by repeat (first | exact HK.out | apply KeepBut.set_ | apply keep_drewN | apply keep_drew | apply keep_alloc)⟩, ⟨by repeat (first | (with_reducible first | exact HB.out | apply zA | apply zB | apply zD | refine zJ ?_ (IsS88.ge HI0.out)) | exact HB.out)⟩⟩
 case rest =>
  clear HC4
  try clear p2
  try clear c3
  try clear c6
  try clear c6b0
  try clear c6b1
  try clear hcz7_0
  try clear hcz7_1
  try clear hcz7_2
  try clear hfz7_0
  try clear hfz7_1
  try clear hfz7_2
  obtain ⟨kq, x1002_3, HA, HJ3, HI0, HK, HB⟩ := hcut
  cases kq with
  | zero => exact absurd HA.out (by simp [cotterref06_Reader_Front.j0])
  | succ kj3 =>
   have H := HA.out
   clear HA
   simp only [cotterref06_Reader_Front.j0] at H
   replace H := z8 H
   obtain ⟨⟨t292, t293, t294, t295⟩, A80, H⟩ := H
   replace H : ((cotterref06_Reader_Bytes.f t293 t294 t295 t292).bind fun bt296 => ((cotterref06_Reader_Number.f kj3 bt296.2.1 bt296.2.2.1 bt296.2.2.2 4096).bind fun bt300 => (cotterref06_Reader_Front.l0 kj3 bt296.1 bt300.1 ([] : List Int) 0 bt300.2.1 bt300.2.2.1 bt300.2.2.2))) = some (r1, r2, r3, r4, r5, r6) := H
   have A8 := z4 A80
   clear A80
   replace H := z8 H
   obtain ⟨⟨t296, t297, t298, t299⟩, A90, H⟩ := H
   replace H : ((cotterref06_Reader_Number.f kj3 t297 t298 t299 4096).bind fun bt300 => (cotterref06_Reader_Front.l0 kj3 t296 bt300.1 ([] : List Int) 0 bt300.2.1 bt300.2.2.1 bt300.2.2.2)) = some (r1, r2, r3, r4, r5, r6) := H
   have A9 := z4 A90
   clear A90
   replace H := z8 H
   obtain ⟨⟨t300, t301, t302, t303⟩, A100, H⟩ := H
   replace H : (cotterref06_Reader_Front.l0 kj3 t296 t300 ([] : List Int) 0 t301 t302 t303) = some (r1, r2, r3, r4, r5, r6) := H
   have A10 := z4 A100
   clear A100
   have HC11 := z4 H
   clear H
   go_upto_block 0 with (first | ((with_reducible refine gate_callee (f := 62) rfl ?_); refine goesL_ (some 23) rfl rfl Tryd.func62 (by kernel_rfl) rfl #[.pointer (some ⟨g, 0, none⟩), .int .i64 65536] rfl (by (try simp only [z9, List.map_cons, List.map_nil]); first | done | rfl | (simp only [z9a, z9b]; rfl)) ?_; (with_reducible refine (cotterref06_Reader_Number.calls kj3 g t289 t290 x1002_3 65536 t292 t293 t294 t295 w0 _ ?side1 ?side2 A8.out).mono ?_); (case side1 => repeat (first | exact HI0.out | apply IsS88.alloc | apply IsS88.drewN | apply IsS88.drew | apply IsS88.set_0 | apply IsS88.set_1 | apply IsS88.set_2)); (case side2 => repeat (first | (with_reducible first | exact HB.out | apply zA | apply zB | apply zD | refine zJ ?_ (IsS88.ge HI0.out)) | exact HB.out)); rintro e w12 ⟨rfl, hi, hb, hk⟩; refine ⟨_, rfl, ?_⟩; have n0_ := z4 (KeepBut.trans (by repeat (first | exact HK.out | apply KeepBut.set_ | apply keep_drewN | apply keep_drew | apply keep_alloc)) hk (.inl rfl)); have n1_ := z4 (hb); have n2_ := z4 (hi); clear HK; clear HB; clear HI0; have HK := n0_; have HB := n1_; have HI0 := n2_; clear n0_ n1_ n2_; (try clear hb); (try clear hb2); (try clear hk); (try clear hi)) | ((with_reducible refine gate_callee (f := 61) rfl ?_); refine goesL_ (some 24) rfl rfl Tryd.func61 (by kernel_rfl) rfl #[.pointer (some ⟨g, 0, none⟩), .int .i64 t292] rfl (by (try simp only [z9, List.map_cons, List.map_nil]); first | done | rfl | (simp only [z9a, z9b]; rfl)) ?_; (with_reducible refine (cotterref06_Reader_Bytes.calls g t293 t294 t295 t292 t296 t297 t298 t299 w0 _ ?side1 ?side2 A9.out).mono ?_); (case side1 => repeat (first | exact HI0.out | apply IsS88.alloc | apply IsS88.drewN | apply IsS88.drew | apply IsS88.set_0 | apply IsS88.set_1 | apply IsS88.set_2)); (case side2 => repeat (first | (with_reducible first | exact HB.out | apply zA | apply zB | apply zD | refine zJ ?_ (IsS88.ge HI0.out)) | exact HB.out)); rintro e w13 ⟨rfl, hi, hb, hk⟩; refine ⟨_, rfl, ?_⟩; have n0_ := z4 (KeepBut.trans (by repeat (first | exact HK.out | apply KeepBut.set_ | apply keep_drewN | apply keep_drew | apply keep_alloc)) hk (.inl rfl)); have n1_ := z4 (hb); have n2_ := z4 (hi); clear HK; clear HB; clear HI0; have HK := n0_; have HB := n1_; have HI0 := n2_; clear n0_ n1_ n2_; (try clear hb); (try clear hb2); (try clear hk); (try clear hi)) | ((with_reducible refine gate_callee (f := 62) rfl ?_); refine goesL_ (some 26) rfl rfl Tryd.func62 (by kernel_rfl) rfl #[.pointer (some ⟨g, 0, none⟩), .int .i64 4096] rfl (by (try simp only [z9, List.map_cons, List.map_nil]); first | done | rfl | (simp only [z9a, z9b]; rfl)) ?_; (with_reducible refine (cotterref06_Reader_Number.calls kj3 g t297 t298 t299 4096 t300 t301 t302 t303 w0 _ ?side1 ?side2 A10.out).mono ?_); (case side1 => repeat (first | exact HI0.out | apply IsS88.alloc | apply IsS88.drewN | apply IsS88.drew | apply IsS88.set_0 | apply IsS88.set_1 | apply IsS88.set_2)); (case side2 => repeat (first | (with_reducible first | exact HB.out | apply zA | apply zB | apply zD | refine zJ ?_ (IsS88.ge HI0.out)) | exact HB.out)); rintro e w14 ⟨rfl, hi, hb, hk⟩; refine ⟨_, rfl, ?_⟩; have n0_ := z4 (KeepBut.trans (by repeat (first | exact HK.out | apply KeepBut.set_ | apply keep_drewN | apply keep_drew | apply keep_alloc)) hk (.inl rfl)); have n1_ := z4 (hb); have n2_ := z4 (hi); clear HK; clear HB; clear HI0; have HK := n0_; have HB := n1_; have HI0 := n2_; clear n0_ n1_ n2_; (try clear hb); (try clear hb2); (try clear hk); (try clear hi)))
   (try simp only [Act.put, z1, z2, z3])
   go_cut [9] (fun v9 wc => ∃ (kq : Nat) (x9_10 : List Int) (x1000_10 : ByteArray) (x1001_10 : Int) (x1002_10 : Bool), Aside0 (cotterref06_Reader_Front.j2 kq t296 x9_10 x1000_10 x1001_10 x1002_10 = some (r1, r2, r3, r4, r5, r6)) ∧ Aside0 (kq ≤ kj3) ∧ Aside0 (Kd.R (Kd.int .i64) 2 wc w.heap.size (fun _ => True) v9 x9_10) ∧ Aside0 (IsS88 w0 wc g x1000_10 x1001_10 x1002_10) ∧ Aside0 (KeepBut w wc g none) ∧ Aside0 (Below w0.heap.size w0 wc))
   case first =>
    have H := HC11.out
    clear HC11
    have H' := z4 H
    clear H
    go_wp2
    go_loopg [9, 10] kj3 (fun kq v9 v10 w' => ∃ (x9_2 : List Int) (x10_2 : Int) (x1000_2 : ByteArray) (x1001_2 : Int) (x1002_2 : Bool), v10 = .int .i64 x10_2 ∧ Aside0 (cotterref06_Reader_Front.l0 kq t296 t300 x9_2 x10_2 x1000_2 x1001_2 x1002_2 = some (r1, r2, r3, r4, r5, r6)) ∧ Aside0 (kq ≤ kj3) ∧ Aside0 (Kd.R (Kd.int .i64) 2 w' w.heap.size (fun _ => True) v9 x9_2) ∧ Aside0 (IsS88 w0 w' g x1000_2 x1001_2 x1002_2) ∧ Aside0 (KeepBut w w' g none) ∧ Aside0 (Below w0.heap.size w0 w'))
    case atStart => exact ⟨(([] : List Int)), (0), (t301), (t302), (t303), (by first | rfl | (simp; done) | (simp [*]; done)), H', ⟨Nat.le_refl _⟩, ⟨by first | exact Kd.R_nil _ _ _ _ _ | exact Kd.N_nil _ _ _ _ _ | exact Kd.V_nil _ _ _ _ _ | exact Kd.Q_nil _ _ _ _ _ | exact Kd.S_nil _ _ _ _ _⟩, ⟨by repeat (first | exact HI0.out | apply IsS88.alloc | apply IsS88.drewN | apply IsS88.drew | apply IsS88.set_0 | apply IsS88.set_1 | apply IsS88.set_2)⟩, ⟨by repeat (first | exact HK.out | apply KeepBut.set_ | apply keep_drewN | apply keep_drew | apply keep_alloc)⟩, ⟨by repeat (first | (with_reducible first | exact HB.out | apply zA | apply zB | apply zD | refine zJ ?_ (IsS88.ge HI0.out)) | exact HB.out)⟩⟩
    case round =>
     clear H'
     try clear p2
     try clear c3
     try clear c6
     try clear c6b0
     try clear c6b1
     try clear hcz7_0
     try clear hcz7_1
     try clear hcz7_2
     try clear hfz7_0
     try clear hfz7_1
     try clear hfz7_2
     try clear p2
     obtain ⟨x9_2, x10_2, x1000_2, x1001_2, x1002_2, rfl, HA, HK2, HO_9, HI0, HK, HB⟩ := hrel
     cases gk with
     | zero => exact absurd HA.out (by simp [cotterref06_Reader_Front.l0])
     | succ k2 =>
      have H := HA.out
      clear HA
      simp only [cotterref06_Reader_Front.l0] at H
      by_cases c15 : x10_2 < t300
      ·rw [if_pos c15] at H
       have c15b0 : decide (x10_2 < t300) = true := decide_eq_true c15
       clear c15
       (first | rw [c15b0] | (simp only [i64_w, i32_w]; rw [c15b0]) | skip)
       by_cases c16 : x1002_2 = true
       ·subst c16
        have H1 : (cotterref06_Reader_Front.j2 k2 t296 x9_2 x1000_2 x1001_2 true) = some (r1, r2, r3, r4, r5, r6) := by rw [if_pos rfl] at H; exact H
        clear H
        have H := H1
        clear H1
        have H' := z4 H
        clear H
        obtain ⟨HGz17, hgz17⟩ := HI0.out
        have hcz17_0 := cellS88_0 HGz17
        have hcz17_1 := cellS88_1 HGz17
        have hcz17_2 := cellS88_2 HGz17
        have hfz17_0 := zF HGz17 0
        have hfz17_1 := zF HGz17 1
        have hfz17_2 := zF HGz17 2
        clear HGz17 hgz17
        go_wp2
        go_meet
        case rel => exact ⟨_, (x9_2), (x1000_2), (x1001_2), (true), H', ⟨by have := HJ3.out; have := HK2.out; first | omega | exact Nat.le_refl _⟩, ⟨by (with_reducible repeat (first | apply zM | apply zN | apply zO)); exact HO_9.out⟩, ⟨by repeat (first | exact HI0.out | apply IsS88.alloc | apply IsS88.drewN | apply IsS88.drew | apply IsS88.set_0 | apply IsS88.set_1 | apply IsS88.set_2)⟩, ⟨by repeat (first | exact HK.out | apply KeepBut.set_ | apply keep_drewN | apply keep_drew | apply keep_alloc)⟩, ⟨by repeat (first | (with_reducible first | exact HB.out | apply zA | apply zB | apply zD | refine zJ ?_ (IsS88.ge HI0.out)) | exact HB.out)⟩⟩
       ·replace c16 := Bool.eq_false_iff.mpr c16
        subst c16
        have H1 : ((cotterref06_Reader_Wide.f k2 x1000_2 x1001_2 false).bind fun bt304 => (if x9_2.length < 17592186044416 then (cotterref06_Reader_Front.l0 k2 t296 t300 (x9_2 ++ [bt304.1]) (wrap64 (x10_2 + 1)) bt304.2.1 bt304.2.2.1 bt304.2.2.2) else (none))) = some (r1, r2, r3, r4, r5, r6) := by rw [if_neg (show ¬ (false = true) by decide)] at H; exact H
        clear H
        have H := H1
        clear H1
        replace H := z8 H
        obtain ⟨⟨t304, t305, t306, t307⟩, A180, H⟩ := H
        replace H : (if x9_2.length < 17592186044416 then (cotterref06_Reader_Front.l0 k2 t296 t300 (x9_2 ++ [t304]) (wrap64 (x10_2 + 1)) t305 t306 t307) else (none)) = some (r1, r2, r3, r4, r5, r6) := H
        have A18 := z4 A180
        clear A180
        by_cases c19 : x9_2.length < 17592186044416
        ·rw [if_pos c19] at H
         have LMc19 := z4 c19
         clear c19
         obtain ⟨y308, hy308⟩ : ∃ y_ : List Int, y_ = (x9_2 ++ [t304]) := ⟨_, rfl⟩
         replace H : (cotterref06_Reader_Front.l0 k2 t296 t300 y308 (wrap64 (x10_2 + 1)) t305 t306 t307) = some (r1, r2, r3, r4, r5, r6) := by first | (rw [hy308]; with_reducible exact H) | (have H2_ := (Option.bind_some _ _).symm.trans H; rw [hy308]; with_reducible exact H2_) | (have H2_ := (Option.bind_some _ _).symm.trans H; with_reducible exact H2_) | with_reducible exact H | (rw [hy308]; exact H) | exact H
         have Ny308 := z4 hy308
         clear hy308
         have H' := z4 H
         clear H
         obtain ⟨HGz20, hgz20⟩ := HI0.out
         have hcz20_0 := cellS88_0 HGz20
         have hcz20_1 := cellS88_1 HGz20
         have hcz20_2 := cellS88_2 HGz20
         have hfz20_0 := zF HGz20 0
         have hfz20_1 := zF HGz20 1
         have hfz20_2 := zF HGz20 2
         clear HGz20 hgz20
         go_wp2_with (first | ((with_reducible refine gate_callee (f := 63) rfl ?_); refine goesL_ (some 41) rfl rfl Tryd.func63 (by kernel_rfl) rfl #[.pointer (some ⟨g, 0, none⟩)] rfl (by (try simp only [z9, List.map_cons, List.map_nil]); first | done | rfl | (simp only [z9a, z9b]; rfl)) ?_; (with_reducible refine (cotterref06_Reader_Wide.calls k2 g x1000_2 x1001_2 false t304 t305 t306 t307 w0 _ ?side1 ?side2 A18.out).mono ?_); (case side1 => repeat (first | exact HI0.out | apply IsS88.alloc | apply IsS88.drewN | apply IsS88.drew | apply IsS88.set_0 | apply IsS88.set_1 | apply IsS88.set_2)); (case side2 => repeat (first | (with_reducible first | exact HB.out | apply zA | apply zB | apply zD | refine zJ ?_ (IsS88.ge HI0.out)) | exact HB.out)); rintro e w21 ⟨rfl, hi, hb, hk⟩; refine ⟨_, rfl, ?_⟩; have n0_ := z4 (Kd.R_mono (Kd.R_keep (IsS88.apart (show IsS88 w0 _ g x1000_2 x1001_2 false from by repeat (first | exact HI0.out | apply IsS88.alloc | apply IsS88.drewN | apply IsS88.drew | apply IsS88.set_0 | apply IsS88.set_1 | apply IsS88.set_2)) (by (with_reducible repeat (first | apply zM | apply zN | apply zO)); exact HO_9.out) (by decide)) hk (fun _ h => h.2)) (fun _ h => h.1)); have n1_ := z4 (KeepBut.trans (by repeat (first | exact HK.out | apply KeepBut.set_ | apply keep_drewN | apply keep_drew | apply keep_alloc)) hk (.inl rfl)); have n2_ := z4 (hb); have n3_ := z4 (hi); clear HO_9; clear HK; clear HB; clear HI0; have HO_9 := n0_; have HK := n1_; have HB := n2_; have HI0 := n3_; clear n0_ n1_ n2_ n3_; (try clear hb); (try clear hb2); (try clear hk); (try clear hi)) | ((with_reducible refine gate_builtin (b := .append) (xs := #[.tmp 39, .tmp 42]) rfl ?_); at_builtin; refine Kd.R_append (Kd.int .i64) w.heap.size rfl (.tmp 39) (.tmp 42) 22 2 (.int .i64 0) 8 rfl Tryd.underlying22 info2 rfl (by decide) (by omega) u9 x9_2 t304 [.int .i64 t304] (fun _ => True) (fun _ => False) rfl rfl ?aP (fun _ hk => hk.elim) ?aF ?aO (Below.refl _ _) ?aS ?aL ?_; (case aP => exact rfl); (case aF => exact (fun _ _ => trivial)); (case aO => exact (by (with_reducible repeat (first | apply zM | apply zN | apply zO)); exact HO_9.out)); (case aS => exact (keep_size (w := w) (g := g) (row := none) (by repeat (first | exact HK.out | apply KeepBut.set_ | apply keep_drewN | apply keep_drew | apply keep_alloc)))); (case aL => have := LMc19.out; omega); intro v309 w22 ho hb hg hat; rw [← Ny308.out] at ho; have n0_ := z4 (IsS88.grown (IsS88.like HI0.out (by repeat (first | exact HI0.out | apply IsS88.alloc | apply IsS88.drewN | apply IsS88.drew | apply IsS88.set_0 | apply IsS88.set_1 | apply IsS88.set_2))) hg (IsS88.own_ne HI0.out HO_9.out (by decide))); have n1_ := z4 (below_weaken (by repeat (first | (with_reducible first | exact HB.out | apply zA | apply zB | apply zD | refine zJ ?_ (IsS88.ge HI0.out)) | exact HB.out)) HL.out hb); have n2_ := z4 (KeepBut.trans (by repeat (first | exact HK.out | apply KeepBut.set_ | apply keep_drewN | apply keep_drew | apply keep_alloc)) (KeepBut.of_grown hg g) (Kd.R_base2 HO_9.out)); have n3_ := z4 (ho); clear HI0; clear HB; clear HK; clear HO_9; have HI0 := n0_; have HB := n1_; have HK := n2_; have HO310 := n3_; clear n0_ n1_ n2_ n3_; clear ho hb hg hat))
         go_roundg k2
         case measure => have := HJ3.out; have := HK2.out; omega
         case rel => exact ⟨(y308), (wrap64 (x10_2 + 1)), (t305), (t306), (t307), (by first | rfl | (simp; done) | (simp [*]; done)), H', ⟨by have := HJ3.out; have := HK2.out; omega⟩, ⟨by (with_reducible repeat (first | apply zM | apply zN | apply zO)); exact HO310.out⟩, ⟨by repeat (first | exact HI0.out | apply IsS88.alloc | apply IsS88.drewN | apply IsS88.drew | apply IsS88.set_0 | apply IsS88.set_1 | apply IsS88.set_2)⟩, ⟨by repeat (first | exact HK.out | apply KeepBut.set_ | apply keep_drewN | apply keep_drew | apply keep_alloc)⟩, ⟨by repeat (first | (with_reducible first | exact HB.out | apply zA | apply zB | apply zD | refine zJ ?_ (IsS88.ge HI0.out)) | exact HB.out)⟩⟩
        ·rw [if_neg c19] at H
         exact absurd H (by simp)
      ·rw [if_neg c15] at H
       have c15b0 : decide (x10_2 < t300) = false := decide_eq_false c15
       clear c15
       (first | rw [c15b0] | (simp only [i64_w, i32_w]; rw [c15b0]) | skip)
       have H' := z4 H
       clear H
       go_wp2
       go_meet
       case rel => exact ⟨_, (x9_2), (x1000_2), (x1001_2), (x1002_2), H', ⟨by have := HJ3.out; have := HK2.out; first | omega | exact Nat.le_refl _⟩, ⟨by (with_reducible repeat (first | apply zM | apply zN | apply zO)); exact HO_9.out⟩, ⟨by repeat (first | exact HI0.out | apply IsS88.alloc | apply IsS88.drewN | apply IsS88.drew | apply IsS88.set_0 | apply IsS88.set_1 | apply IsS88.set_2)⟩, ⟨by repeat (first | exact HK.out | apply KeepBut.set_ | apply keep_drewN | apply keep_drew | apply keep_alloc)⟩, ⟨by repeat (first | (with_reducible first | exact HB.out | apply zA | apply zB | apply zD | refine zJ ?_ (IsS88.ge HI0.out)) | exact HB.out)⟩⟩
   case rest =>
    clear HC11
    try clear c1
    try clear p2
    try clear c3
    try clear c6
    try clear c6b0
    try clear c6b1
    try clear p6
    try clear c15
    try clear c15b0
    try clear c16
    try clear c19
    try clear hcz17_0
    try clear hcz17_1
    try clear hcz17_2
    try clear hcz20_0
    try clear hcz20_1
    try clear hcz20_2
    try clear hcz7_0
    try clear hcz7_1
    try clear hcz7_2
    try clear hfz17_0
    try clear hfz17_1
    try clear hfz17_2
    try clear hfz20_0
    try clear hfz20_1
    try clear hfz20_2
    try clear hfz7_0
    try clear hfz7_1
    try clear hfz7_2
    try clear p2
    obtain ⟨kq, x9_10, x1000_10, x1001_10, x1002_10, HA, HJ10, HO_9, HI0, HK, HB⟩ := hcut
    cases kq with
    | zero => exact absurd HA.out (by simp [cotterref06_Reader_Front.j2])
    | succ kj10 =>
     have H := HA.out
     clear HA
     simp only [cotterref06_Reader_Front.j2] at H
     replace H := z8 H
     obtain ⟨⟨t311, t312, t313, t314⟩, A230, H⟩ := H
     replace H : (cotterref06_Reader_Front.l1 kj10 t296 t311 x9_10 ([] : List (S68)) 0 t312 t313 t314) = some (r1, r2, r3, r4, r5, r6) := H
     have A23 := z4 A230
     clear A230
     have H' := z4 H
     clear H
     go_wp2_with (first | ((with_reducible refine gate_callee (f := 62) rfl ?_); refine goesL_ (some 45) rfl rfl Tryd.func62 (by kernel_rfl) rfl #[.pointer (some ⟨g, 0, none⟩), .int .i64 1000] rfl (by (try simp only [z9, List.map_cons, List.map_nil]); first | done | rfl | (simp only [z9a, z9b]; rfl)) ?_; (with_reducible refine (cotterref06_Reader_Number.calls kj10 g x1000_10 x1001_10 x1002_10 1000 t311 t312 t313 t314 w0 _ ?side1 ?side2 A23.out).mono ?_); (case side1 => repeat (first | exact HI0.out | apply IsS88.alloc | apply IsS88.drewN | apply IsS88.drew | apply IsS88.set_0 | apply IsS88.set_1 | apply IsS88.set_2)); (case side2 => repeat (first | (with_reducible first | exact HB.out | apply zA | apply zB | apply zD | refine zJ ?_ (IsS88.ge HI0.out)) | exact HB.out)); rintro e w24 ⟨rfl, hi, hb, hk⟩; refine ⟨_, rfl, ?_⟩; have n0_ := z4 (Kd.R_mono (Kd.R_keep (IsS88.apart (show IsS88 w0 _ g x1000_10 x1001_10 x1002_10 from by repeat (first | exact HI0.out | apply IsS88.alloc | apply IsS88.drewN | apply IsS88.drew | apply IsS88.set_0 | apply IsS88.set_1 | apply IsS88.set_2)) (by (with_reducible repeat (first | apply zM | apply zN | apply zO)); exact HO_9.out) (by decide)) hk (fun _ h => h.2)) (fun _ h => h.1)); have n1_ := z4 (KeepBut.trans (by repeat (first | exact HK.out | apply KeepBut.set_ | apply keep_drewN | apply keep_drew | apply keep_alloc)) hk (.inl rfl)); have n2_ := z4 (hb); have n3_ := z4 (hi); clear HO_9; clear HK; clear HB; clear HI0; have HO_9 := n0_; have HK := n1_; have HB := n2_; have HI0 := n3_; clear n0_ n1_ n2_ n3_; (try clear hb); (try clear hb2); (try clear hk); (try clear hi)))
     go_loopg [11, 12] kj10 (fun kq v11 v12 w' => ∃ (x11_3 : List (S68)) (x12_3 : Int) (x1000_3 : ByteArray) (x1001_3 : Int) (x1002_3 : Bool), v12 = .int .i64 x12_3 ∧ Aside0 (cotterref06_Reader_Front.l1 kq t296 t311 x9_10 x11_3 x12_3 x1000_3 x1001_3 x1002_3 = some (r1, r2, r3, r4, r5, r6)) ∧ Aside0 (kq ≤ kj10) ∧ Aside0 (Kd.R (Kd.int .i64) 2 w' w.heap.size (fun _ => True) u9 x9_10) ∧ Aside0 (Kd.R k68 68 w' w.heap.size (fun _ => True) v11 x11_3) ∧ Aside0 (IsS88 w0 w' g x1000_3 x1001_3 x1002_3) ∧ Aside0 (KeepBut w w' g none) ∧ Aside0 (Below w0.heap.size w0 w'))
     case atStart => exact ⟨(([] : List (S68))), (0), (t312), (t313), (t314), (by first | rfl | (simp; done) | (simp [*]; done)), H', ⟨Nat.le_refl _⟩, ⟨by (with_reducible repeat (first | apply zM | apply zN | apply zO)); exact HO_9.out⟩, ⟨by first | exact Kd.R_nil _ _ _ _ _ | exact Kd.N_nil _ _ _ _ _ | exact Kd.V_nil _ _ _ _ _ | exact Kd.Q_nil _ _ _ _ _ | exact Kd.S_nil _ _ _ _ _⟩, ⟨by repeat (first | exact HI0.out | apply IsS88.alloc | apply IsS88.drewN | apply IsS88.drew | apply IsS88.set_0 | apply IsS88.set_1 | apply IsS88.set_2)⟩, ⟨by repeat (first | exact HK.out | apply KeepBut.set_ | apply keep_drewN | apply keep_drew | apply keep_alloc)⟩, ⟨by repeat (first | (with_reducible first | exact HB.out | apply zA | apply zB | apply zD | refine zJ ?_ (IsS88.ge HI0.out)) | exact HB.out)⟩⟩
     case round =>
      clear H'
      try clear c1
      try clear p2
      try clear c3
      try clear c6
      try clear c6b0
      try clear c6b1
      try clear p6
      try clear c15
      try clear c15b0
      try clear c16
      try clear c19
      try clear hcz17_0
      try clear hcz17_1
      try clear hcz17_2
      try clear hcz20_0
      try clear hcz20_1
      try clear hcz20_2
      try clear hcz7_0
      try clear hcz7_1
      try clear hcz7_2
      try clear hfz17_0
      try clear hfz17_1
      try clear hfz17_2
      try clear hfz20_0
      try clear hfz20_1
      try clear hfz20_2
      try clear hfz7_0
      try clear hfz7_1
      try clear hfz7_2
      try clear p2
      try clear p6
      obtain ⟨x11_3, x12_3, x1000_3, x1001_3, x1002_3, rfl, HA, HK3, HO_9, HO_11, HI0, HK, HB⟩ := hrel
      cases gk with
      | zero => exact absurd HA.out (by simp [cotterref06_Reader_Front.l1])
      | succ k3 =>
       have H := HA.out
       clear HA
       simp only [cotterref06_Reader_Front.l1] at H
       have HC25 := z4 H
       clear H
       go_upto_region 13 with (fail)
       go_cut [55] (fun v55 wc => ∃ (kq : Nat) (x55_24 : Bool), v55 = .bool x55_24 ∧ Aside0 (cotterref06_Reader_Front.j4 kq t296 t311 x9_10 x11_3 x12_3 x55_24 x1000_3 x1001_3 x1002_3 = some (r1, r2, r3, r4, r5, r6)) ∧ Aside0 (kq ≤ k3) ∧ Aside0 (Kd.R (Kd.int .i64) 2 wc w.heap.size (fun _ => True) u9 x9_10) ∧ Aside0 (Kd.R k68 68 wc w.heap.size (fun _ => True) u11 x11_3) ∧ Aside0 (IsS88 w0 wc g x1000_3 x1001_3 x1002_3) ∧ Aside0 (KeepBut w wc g none) ∧ Aside0 (Below w0.heap.size w0 wc))
       case first =>
        have H := HC25.out
        clear HC25
        by_cases c26 : x12_3 < t311
        ·rw [if_pos c26] at H
         have c26b0 : decide (x12_3 < t311) = true := decide_eq_true c26
         clear c26
         (first | rw [c26b0] | (simp only [i64_w, i32_w]; rw [c26b0]) | skip)
         have H' := z4 H
         clear H
         obtain ⟨HGz27, hgz27⟩ := HI0.out
         have hcz27_0 := cellS88_0 HGz27
         have hcz27_1 := cellS88_1 HGz27
         have hcz27_2 := cellS88_2 HGz27
         have hfz27_0 := zF HGz27 0
         have hfz27_1 := zF HGz27 1
         have hfz27_2 := zF HGz27 2
         clear HGz27 hgz27
         go_wp2
         go_meet
         case rel => exact ⟨_, (!x1002_3), (by first | rfl | (simp; done) | (simp [*]; done)), H', ⟨by have := HJ3.out; have := HJ10.out; have := HK3.out; first | omega | exact Nat.le_refl _⟩, ⟨by (with_reducible repeat (first | apply zM | apply zN | apply zO)); exact HO_9.out⟩, ⟨by (with_reducible repeat (first | apply zM | apply zN | apply zO)); exact HO_11.out⟩, ⟨by repeat (first | exact HI0.out | apply IsS88.alloc | apply IsS88.drewN | apply IsS88.drew | apply IsS88.set_0 | apply IsS88.set_1 | apply IsS88.set_2)⟩, ⟨by repeat (first | exact HK.out | apply KeepBut.set_ | apply keep_drewN | apply keep_drew | apply keep_alloc)⟩, ⟨by repeat (first | (with_reducible first | exact HB.out | apply zA | apply zB | apply zD | refine zJ ?_ (IsS88.ge HI0.out)) | exact HB.out)⟩⟩
        ·rw [if_neg c26] at H
         have c26b0 : decide (x12_3 < t311) = false := decide_eq_false c26
         clear c26
         (first | rw [c26b0] | (simp only [i64_w, i32_w]; rw [c26b0]) | skip)
         have H' := z4 H
         clear H
         go_wp2
         go_meet
         case rel => exact ⟨_, (false), (by first | rfl | (simp; done) | (simp [*]; done)), H', ⟨by have := HJ3.out; have := HJ10.out; have := HK3.out; first | omega | exact Nat.le_refl _⟩, ⟨by (with_reducible repeat (first | apply zM | apply zN | apply zO)); exact HO_9.out⟩, ⟨by (with_reducible repeat (first | apply zM | apply zN | apply zO)); exact HO_11.out⟩, ⟨by repeat (first | exact HI0.out | apply IsS88.alloc | apply IsS88.drewN | apply IsS88.drew | apply IsS88.set_0 | apply IsS88.set_1 | apply IsS88.set_2)⟩, ⟨by repeat (first | exact HK.out | apply KeepBut.set_ | apply keep_drewN | apply keep_drew | apply keep_alloc)⟩, ⟨by repeat (first | (with_reducible first | exact HB.out | apply zA | apply zB | apply zD | refine zJ ?_ (IsS88.ge HI0.out)) | exact HB.out)⟩⟩
       case rest =>
        clear HC25
        try clear c1
        try clear c2
        try clear p2
        try clear c3
        try clear c6
        try clear c6b0
        try clear c6b1
        try clear p6
        try clear c15
        try clear c15b0
        try clear c16
        try clear c19
        try clear c26
        try clear c26b0
        try clear hcz17_0
        try clear hcz17_1
        try clear hcz17_2
        try clear hcz20_0
        try clear hcz20_1
        try clear hcz20_2
        try clear hcz27_0
        try clear hcz27_1
        try clear hcz27_2
        try clear hcz7_0
        try clear hcz7_1
        try clear hcz7_2
        try clear hfz17_0
        try clear hfz17_1
        try clear hfz17_2
        try clear hfz20_0
        try clear hfz20_1
        try clear hfz20_2
        try clear hfz27_0
        try clear hfz27_1
        try clear hfz27_2
        try clear hfz7_0
        try clear hfz7_1
        try clear hfz7_2
        try clear p2
        try clear p6
        obtain ⟨kq, x55_24, rfl, HA, HJ24, HO_9, HO_11, HI0, HK, HB⟩ := hcut
        cases kq with
        | zero => exact absurd HA.out (by simp [cotterref06_Reader_Front.j4])
        | succ kj24 =>
         have H := HA.out
         clear HA
         simp only [cotterref06_Reader_Front.j4] at H
         by_cases c28 : x55_24 = true
         ·subst c28
          have H1 : ((cotterref06_Reader_Number.f kj24 x1000_3 x1001_3 x1002_3 28).bind fun bt315 => ((cotterref06_Reader_Bytes.f bt315.2.1 bt315.2.2.1 bt315.2.2.2 bt315.1).bind fun bt319 => ((cotterref06_Reader_One.f bt319.2.1 bt319.2.2.1 bt319.2.2.2).bind fun bt324 => ((cotterref06_Reader_Number.f kj24 bt324.2.1 bt324.2.2.1 bt324.2.2.2 65536).bind fun bt328 => (if x11_3.length < 4398046511104 then (cotterref06_Reader_Front.l1 kj24 t296 t311 x9_10 (x11_3 ++ [(⟨bt319.1, bt324.1, bt328.1⟩ : S68)]) (wrap64 (x12_3 + 1)) bt328.2.1 bt328.2.2.1 bt328.2.2.2) else (none)))))) = some (r1, r2, r3, r4, r5, r6) := by rw [if_pos rfl] at H; exact H
          clear H
          have H := H1
          clear H1
          replace H := z8 H
          obtain ⟨⟨t315, t316, t317, t318⟩, A290, H⟩ := H
          replace H : ((cotterref06_Reader_Bytes.f t316 t317 t318 t315).bind fun bt319 => ((cotterref06_Reader_One.f bt319.2.1 bt319.2.2.1 bt319.2.2.2).bind fun bt324 => ((cotterref06_Reader_Number.f kj24 bt324.2.1 bt324.2.2.1 bt324.2.2.2 65536).bind fun bt328 => (if x11_3.length < 4398046511104 then (cotterref06_Reader_Front.l1 kj24 t296 t311 x9_10 (x11_3 ++ [(⟨bt319.1, bt324.1, bt328.1⟩ : S68)]) (wrap64 (x12_3 + 1)) bt328.2.1 bt328.2.2.1 bt328.2.2.2) else (none))))) = some (r1, r2, r3, r4, r5, r6) := H
          have A29 := z4 A290
          clear A290
          replace H := z8 H
          obtain ⟨⟨t319, t320, t321, t322⟩, A300, H⟩ := H
          replace H : ((cotterref06_Reader_One.f t320 t321 t322).bind fun bt324 => ((cotterref06_Reader_Number.f kj24 bt324.2.1 bt324.2.2.1 bt324.2.2.2 65536).bind fun bt328 => (if x11_3.length < 4398046511104 then (cotterref06_Reader_Front.l1 kj24 t296 t311 x9_10 (x11_3 ++ [(⟨t319, bt324.1, bt328.1⟩ : S68)]) (wrap64 (x12_3 + 1)) bt328.2.1 bt328.2.2.1 bt328.2.2.2) else (none)))) = some (r1, r2, r3, r4, r5, r6) := H
          have A30 := z4 A300
          clear A300
          replace H := z8 H
          obtain ⟨⟨t324, t325, t326, t327⟩, A310, H⟩ := H
          replace H : ((cotterref06_Reader_Number.f kj24 t325 t326 t327 65536).bind fun bt328 => (if x11_3.length < 4398046511104 then (cotterref06_Reader_Front.l1 kj24 t296 t311 x9_10 (x11_3 ++ [(⟨t319, t324, bt328.1⟩ : S68)]) (wrap64 (x12_3 + 1)) bt328.2.1 bt328.2.2.1 bt328.2.2.2) else (none))) = some (r1, r2, r3, r4, r5, r6) := H
          have A31 := z4 A310
          clear A310
          replace H := z8 H
          obtain ⟨⟨t328, t329, t330, t331⟩, A320, H⟩ := H
          replace H : (if x11_3.length < 4398046511104 then (cotterref06_Reader_Front.l1 kj24 t296 t311 x9_10 (x11_3 ++ [(⟨t319, t324, t328⟩ : S68)]) (wrap64 (x12_3 + 1)) t329 t330 t331) else (none)) = some (r1, r2, r3, r4, r5, r6) := H
          have A32 := z4 A320
          clear A320
          by_cases c33 : x11_3.length < 4398046511104
          ·rw [if_pos c33] at H
           have LMc33 := z4 c33
           clear c33
           obtain ⟨y332, hy332⟩ : ∃ y_ : List (S68), y_ = (x11_3 ++ [(⟨t319, t324, t328⟩ : S68)]) := ⟨_, rfl⟩
           replace H : (cotterref06_Reader_Front.l1 kj24 t296 t311 x9_10 y332 (wrap64 (x12_3 + 1)) t329 t330 t331) = some (r1, r2, r3, r4, r5, r6) := by first | (rw [hy332]; with_reducible exact H) | (have H2_ := (Option.bind_some _ _).symm.trans H; rw [hy332]; with_reducible exact H2_) | (have H2_ := (Option.bind_some _ _).symm.trans H; with_reducible exact H2_) | with_reducible exact H | (rw [hy332]; exact H) | exact H
           have Ny332 := z4 hy332
           clear hy332
           have H' := z4 H
           clear H
           go_wp2_with (first | ((with_reducible refine gate_callee (f := 62) rfl ?_); refine goesL_ (some 60) rfl rfl Tryd.func62 (by kernel_rfl) rfl #[.pointer (some ⟨g, 0, none⟩), .int .i64 28] rfl (by (try simp only [z9, List.map_cons, List.map_nil]); first | done | rfl | (simp only [z9a, z9b]; rfl)) ?_; (with_reducible refine (cotterref06_Reader_Number.calls kj24 g x1000_3 x1001_3 x1002_3 28 t315 t316 t317 t318 w0 _ ?side1 ?side2 A29.out).mono ?_); (case side1 => repeat (first | exact HI0.out | apply IsS88.alloc | apply IsS88.drewN | apply IsS88.drew | apply IsS88.set_0 | apply IsS88.set_1 | apply IsS88.set_2)); (case side2 => repeat (first | (with_reducible first | exact HB.out | apply zA | apply zB | apply zD | refine zJ ?_ (IsS88.ge HI0.out)) | exact HB.out)); rintro e w34 ⟨rfl, hi, hb, hk⟩; refine ⟨_, rfl, ?_⟩; have n0_ := z4 (Kd.R_mono (Kd.R_keep (IsS88.apart (show IsS88 w0 _ g x1000_3 x1001_3 x1002_3 from by repeat (first | exact HI0.out | apply IsS88.alloc | apply IsS88.drewN | apply IsS88.drew | apply IsS88.set_0 | apply IsS88.set_1 | apply IsS88.set_2)) (by (with_reducible repeat (first | apply zM | apply zN | apply zO)); exact HO_9.out) (by decide)) hk (fun _ h => h.2)) (fun _ h => h.1)); have n1_ := z4 (Kd.R_mono (Kd.R_keep (IsS88.apart (show IsS88 w0 _ g x1000_3 x1001_3 x1002_3 from by repeat (first | exact HI0.out | apply IsS88.alloc | apply IsS88.drewN | apply IsS88.drew | apply IsS88.set_0 | apply IsS88.set_1 | apply IsS88.set_2)) (by (with_reducible repeat (first | apply zM | apply zN | apply zO)); exact HO_11.out) (by decide)) hk (fun _ h => h.2)) (fun _ h => h.1)); have n2_ := z4 (KeepBut.trans (by repeat (first | exact HK.out | apply KeepBut.set_ | apply keep_drewN | apply keep_drew | apply keep_alloc)) hk (.inl rfl)); have n3_ := z4 (hb); have n4_ := z4 (hi); clear HO_9; clear HO_11; clear HK; clear HB; clear HI0; have HO_9 := n0_; have HO_11 := n1_; have HK := n2_; have HB := n3_; have HI0 := n4_; clear n0_ n1_ n2_ n3_ n4_; (try clear hb); (try clear hb2); (try clear hk); (try clear hi)) | ((with_reducible refine gate_callee (f := 61) rfl ?_); refine goesL_ (some 61) rfl rfl Tryd.func61 (by kernel_rfl) rfl #[.pointer (some ⟨g, 0, none⟩), .int .i64 t315] rfl (by (try simp only [z9, List.map_cons, List.map_nil]); first | done | rfl | (simp only [z9a, z9b]; rfl)) ?_; (with_reducible refine (cotterref06_Reader_Bytes.calls g t316 t317 t318 t315 t319 t320 t321 t322 w0 _ ?side1 ?side2 A30.out).mono ?_); (case side1 => repeat (first | exact HI0.out | apply IsS88.alloc | apply IsS88.drewN | apply IsS88.drew | apply IsS88.set_0 | apply IsS88.set_1 | apply IsS88.set_2)); (case side2 => repeat (first | (with_reducible first | exact HB.out | apply zA | apply zB | apply zD | refine zJ ?_ (IsS88.ge HI0.out)) | exact HB.out)); rintro e w35 ⟨rfl, hi, hb, hk⟩; refine ⟨_, rfl, ?_⟩; have n0_ := z4 (Kd.R_mono (Kd.R_keep (IsS88.apart (show IsS88 w0 _ g t316 t317 t318 from by repeat (first | exact HI0.out | apply IsS88.alloc | apply IsS88.drewN | apply IsS88.drew | apply IsS88.set_0 | apply IsS88.set_1 | apply IsS88.set_2)) (by (with_reducible repeat (first | apply zM | apply zN | apply zO)); exact HO_9.out) (by decide)) hk (fun _ h => h.2)) (fun _ h => h.1)); have n1_ := z4 (Kd.R_mono (Kd.R_keep (IsS88.apart (show IsS88 w0 _ g t316 t317 t318 from by repeat (first | exact HI0.out | apply IsS88.alloc | apply IsS88.drewN | apply IsS88.drew | apply IsS88.set_0 | apply IsS88.set_1 | apply IsS88.set_2)) (by (with_reducible repeat (first | apply zM | apply zN | apply zO)); exact HO_11.out) (by decide)) hk (fun _ h => h.2)) (fun _ h => h.1)); have n2_ := z4 (KeepBut.trans (by repeat (first | exact HK.out | apply KeepBut.set_ | apply keep_drewN | apply keep_drew | apply keep_alloc)) hk (.inl rfl)); have n3_ := z4 (hb); have n4_ := z4 (hi); clear HO_9; clear HO_11; clear HK; clear HB; clear HI0; have HO_9 := n0_; have HO_11 := n1_; have HK := n2_; have HB := n3_; have HI0 := n4_; clear n0_ n1_ n2_ n3_ n4_; (try clear hb); (try clear hb2); (try clear hk); (try clear hi)) | ((with_reducible refine gate_dst (N := 13) rfl ?_); refine box_event ?hg (N := 13) ?hd (cs := #[.string (⟨#[]⟩ : ByteArray), .int .i64 0, .int .i64 0]) (t := 68) ?hr ?_; (case hd => rfl); (case hg => rfl); (case hr => first | (go_simp; done) | (go_simp; rfl)); intro gb323 hg w36 hbox hb; have n0_ := z4 (zV (by (with_reducible repeat (first | apply zM | apply zN | apply zO)); exact HO_9.out) hb); have n1_ := z4 (zV (Kd.R_elderB (by (with_reducible repeat (first | apply zM | apply zN | apply zO)); exact HO_11.out) gb323 (Nat.le_of_eq hg.symm)) hb); have n2_ := z4 (IsS88.below (by repeat (first | exact HI0.out | apply IsS88.alloc | apply IsS88.drewN | apply IsS88.drew | apply IsS88.set_0 | apply IsS88.set_1 | apply IsS88.set_2)) hb); have n3_ := z4 (KeepBut.trans (by repeat (first | exact HK.out | apply KeepBut.set_ | apply keep_drewN | apply keep_drew | apply keep_alloc)) (KeepBut.of_below hb g none) (.inl rfl)); have n4_ := z4 (zK (by repeat (first | (with_reducible first | exact HB.out | apply zA | apply zB | apply zD | refine zJ ?_ (IsS88.ge HI0.out)) | exact HB.out)) hb); have n5_ := z4 (hbox); have n6_ := z4 ((by rw [hg]; exact (keep_size (w := w) (g := g) (row := none) (by repeat (first | exact HK.out | apply KeepBut.set_ | apply keep_drewN | apply keep_drew | apply keep_alloc))) : w.heap.size ≤ gb323)); have n7_ := z4 ((Nat.le_trans HW0.out (by rw [hg]; exact (keep_size (w := w) (g := g) (row := none) (by repeat (first | exact HK.out | apply KeepBut.set_ | apply keep_drewN | apply keep_drew | apply keep_alloc))) : w.heap.size ≤ gb323) : w0.heap.size ≤ gb323)); have n8_ := z4 ((by rw [hg]; exact Nat.ne_of_lt (IsS88.lt (show IsS88 w0 _ g t320 t321 t322 from by repeat (first | exact HI0.out | apply IsS88.alloc | apply IsS88.drewN | apply IsS88.drew | apply IsS88.set_0 | apply IsS88.set_1 | apply IsS88.set_2))) : g ≠ gb323)); have n9_ := z4 ((by rw [hg]; exact Nat.ne_of_gt (IsS88.lt (show IsS88 w0 _ g t320 t321 t322 from by repeat (first | exact HI0.out | apply IsS88.alloc | apply IsS88.drewN | apply IsS88.drew | apply IsS88.set_0 | apply IsS88.set_1 | apply IsS88.set_2))) : gb323 ≠ g)); clear HO_9; clear HO_11; clear HI0; clear HK; clear HB; have HO_9 := n0_; have HO_11 := n1_; have HI0 := n2_; have HK := n3_; have HB := n4_; have BK323 := n5_; have GW323 := n6_; have GE323 := n7_; have NB0_323 := n8_; have NB323_0 := n9_; clear n0_ n1_ n2_ n3_ n4_ n5_ n6_ n7_ n8_ n9_; clear hb hbox hg; have hnb37 := NB323_0.out; have hnc37 := NB0_323.out; have hcz38_0 : w36.cell? ⟨gb323, 0, none⟩ = some (.string (⟨#[]⟩ : ByteArray)) := (zC BK323.out 0).trans rfl; have hcz38_1 : w36.cell? ⟨gb323, 1, none⟩ = some (.int .i64 0) := (zC BK323.out 1).trans rfl; have hcz38_2 : w36.cell? ⟨gb323, 2, none⟩ = some (.int .i64 0) := (zC BK323.out 2).trans rfl; have hfz38_0 := zF BK323.out 0; have hfz38_1 := zF BK323.out 1; have hfz38_2 := zF BK323.out 2) | ((with_reducible refine gate_callee (f := 64) rfl ?_); refine goesL_ (some 64) rfl rfl Tryd.func64 (by kernel_rfl) rfl #[.pointer (some ⟨g, 0, none⟩)] rfl (by (try simp only [z9, List.map_cons, List.map_nil]); first | done | rfl | (simp only [z9a, z9b]; rfl)) ?_; (with_reducible refine (cotterref06_Reader_One.calls g t320 t321 t322 t324 t325 t326 t327 w0 _ ?side1 ?side2 A31.out).mono ?_); (case side1 => repeat (first | exact HI0.out | apply IsS88.alloc | apply IsS88.drewN | apply IsS88.drew | apply IsS88.set_0 | apply IsS88.set_1 | apply IsS88.set_2 | refine IsS88.far ?_ NB0_323.out _)); (case side2 => repeat (first | (with_reducible first | exact HB.out | apply zA | apply zB | apply zD | refine zJ ?_ (IsS88.ge HI0.out) | refine zJ ?_ GE323.out) | exact HB.out)); rintro e w39 ⟨rfl, hi, hb, hk⟩; refine ⟨_, rfl, ?_⟩; have n0_ := z4 (Kd.R_mono (Kd.R_keep (IsS88.apart (show IsS88 w0 _ g t320 t321 t322 from by repeat (first | exact HI0.out | apply IsS88.alloc | apply IsS88.drewN | apply IsS88.drew | apply IsS88.set_0 | apply IsS88.set_1 | apply IsS88.set_2 | refine IsS88.far ?_ NB0_323.out _)) (by (with_reducible repeat (first | apply zM | apply zN | apply zO)); exact (Kd.R_mono (Kd.R_far (p := ⟨gb323, 2, none⟩) (Kd.R_far (p := ⟨gb323, 1, none⟩) (Kd.R_far (p := ⟨gb323, 0, none⟩) (Kd.R_types HO_9.out BK323.out (by decide)) (fun _ hk => hk.2) (.string t319)) (fun _ hk => hk.2) (.int .i64 0)) (fun _ hk => hk.2) (.int .i64 0)) (fun _ h_ => h_.1))) (by decide)) hk (fun _ h => h.2)) (fun _ h => h.1)); have n1_ := z4 (Kd.R_mono (Kd.R_keep (IsS88.apart (show IsS88 w0 _ g t320 t321 t322 from by repeat (first | exact HI0.out | apply IsS88.alloc | apply IsS88.drewN | apply IsS88.drew | apply IsS88.set_0 | apply IsS88.set_1 | apply IsS88.set_2 | refine IsS88.far ?_ NB0_323.out _)) (by (with_reducible repeat (first | apply zM | apply zN | apply zO)); exact (Kd.R_mono (Kd.R_far (p := ⟨gb323, 2, none⟩) (Kd.R_far (p := ⟨gb323, 1, none⟩) (Kd.R_far (p := ⟨gb323, 0, none⟩) (Kd.R_mono HO_11.out (fun k_ hk => (⟨hk, hk.2⟩ : _ ∧ k_ ≠ gb323))) (fun _ hk => hk.2) (.string t319)) (fun _ hk => hk.2) (.int .i64 0)) (fun _ hk => hk.2) (.int .i64 0)) (fun _ h_ => h_.1))) (by decide)) hk (fun _ h => h.2)) (fun _ h => h.1)); have n2_ := z4 (KeepBut.blk hk (g' := gb323) (o := .cells #[.string t319, .int .i64 0, .int .i64 0] 68 (0, 0)) (by (with_reducible repeat (first | refine zH ?_ _ | refine zI ?_ | refine zG ?_ _)); refine blk_put (cs := #[.string t319, .int .i64 0, .int .i64 0]) ?_ 2 _ rfl; (with_reducible repeat (first | refine zH ?_ _ | refine zI ?_ | refine zG ?_ _)); refine blk_put (cs := #[.string t319, .int .i64 0, .int .i64 0]) ?_ 1 _ rfl; (with_reducible repeat (first | refine zH ?_ _ | refine zI ?_ | refine zG ?_ _)); refine blk_put (cs := #[.string (⟨#[]⟩ : ByteArray), .int .i64 0, .int .i64 0]) ?_ 0 _ rfl; (with_reducible repeat (first | refine zH ?_ _ | refine zI ?_ | refine zG ?_ _)); exact BK323.out) NB323_0.out (by simp)); have n3_ := z4 (KeepBut.trans (by repeat (first | exact HK.out | apply KeepBut.set_ | apply keep_drewN | apply keep_drew | apply keep_alloc | refine keep_far ?_ GW323.out _)) hk (.inl rfl)); have n4_ := z4 (hb); have n5_ := z4 (hi); clear HO_9; clear HO_11; clear BK323; clear HK; clear HB; clear HI0; have HO_9 := n0_; have HO_11 := n1_; have BK323 := n2_; have HK := n3_; have HB := n4_; have HI0 := n5_; clear n0_ n1_ n2_ n3_ n4_ n5_; (try clear hb); (try clear hb2); (try clear hk); (try clear hi); have hcz40_0 : w39.cell? ⟨gb323, 0, none⟩ = some (.string t319) := (zC BK323.out 0).trans rfl; have hcz40_1 : w39.cell? ⟨gb323, 1, none⟩ = some (.int .i64 0) := (zC BK323.out 1).trans rfl; have hcz40_2 : w39.cell? ⟨gb323, 2, none⟩ = some (.int .i64 0) := (zC BK323.out 2).trans rfl; have hfz40_0 := zF BK323.out 0; have hfz40_1 := zF BK323.out 1; have hfz40_2 := zF BK323.out 2) | ((with_reducible refine gate_callee (f := 62) rfl ?_); refine goesL_ (some 67) rfl rfl Tryd.func62 (by kernel_rfl) rfl #[.pointer (some ⟨g, 0, none⟩), .int .i64 65536] rfl (by (try simp only [z9, List.map_cons, List.map_nil]); first | done | rfl | (simp only [z9a, z9b]; rfl)) ?_; (with_reducible refine (cotterref06_Reader_Number.calls kj24 g t325 t326 t327 65536 t328 t329 t330 t331 w0 _ ?side1 ?side2 A32.out).mono ?_); (case side1 => repeat (first | exact HI0.out | apply IsS88.alloc | apply IsS88.drewN | apply IsS88.drew | apply IsS88.set_0 | apply IsS88.set_1 | apply IsS88.set_2 | refine IsS88.far ?_ NB0_323.out _)); (case side2 => repeat (first | (with_reducible first | exact HB.out | apply zA | apply zB | apply zD | refine zJ ?_ (IsS88.ge HI0.out) | refine zJ ?_ GE323.out) | exact HB.out)); rintro e w41 ⟨rfl, hi, hb, hk⟩; refine ⟨_, rfl, ?_⟩; have n0_ := z4 (Kd.R_mono (Kd.R_keep (IsS88.apart (show IsS88 w0 _ g t325 t326 t327 from by repeat (first | exact HI0.out | apply IsS88.alloc | apply IsS88.drewN | apply IsS88.drew | apply IsS88.set_0 | apply IsS88.set_1 | apply IsS88.set_2 | refine IsS88.far ?_ NB0_323.out _)) (by (with_reducible repeat (first | apply zM | apply zN | apply zO)); exact (Kd.R_mono (Kd.R_far (p := ⟨gb323, 1, none⟩) (Kd.R_types HO_9.out BK323.out (by decide)) (fun _ hk => hk.2) (.int .i64 t324)) (fun _ h_ => h_.1))) (by decide)) hk (fun _ h => h.2)) (fun _ h => h.1)); have n1_ := z4 (Kd.R_mono (Kd.R_keep (IsS88.apart (show IsS88 w0 _ g t325 t326 t327 from by repeat (first | exact HI0.out | apply IsS88.alloc | apply IsS88.drewN | apply IsS88.drew | apply IsS88.set_0 | apply IsS88.set_1 | apply IsS88.set_2 | refine IsS88.far ?_ NB0_323.out _)) (by (with_reducible repeat (first | apply zM | apply zN | apply zO)); exact (Kd.R_mono (Kd.R_far (p := ⟨gb323, 1, none⟩) (Kd.R_mono HO_11.out (fun k_ hk => (⟨hk, hk.2⟩ : _ ∧ k_ ≠ gb323))) (fun _ hk => hk.2) (.int .i64 t324)) (fun _ h_ => h_.1))) (by decide)) hk (fun _ h => h.2)) (fun _ h => h.1)); have n2_ := z4 (KeepBut.blk hk (g' := gb323) (o := .cells #[.string t319, .int .i64 t324, .int .i64 0] 68 (0, 0)) (by (with_reducible repeat (first | refine zH ?_ _ | refine zI ?_ | refine zG ?_ _)); refine blk_put (cs := #[.string t319, .int .i64 0, .int .i64 0]) ?_ 1 _ rfl; (with_reducible repeat (first | refine zH ?_ _ | refine zI ?_ | refine zG ?_ _)); exact BK323.out) NB323_0.out (by simp)); have n3_ := z4 (KeepBut.trans (by repeat (first | exact HK.out | apply KeepBut.set_ | apply keep_drewN | apply keep_drew | apply keep_alloc | refine keep_far ?_ GW323.out _)) hk (.inl rfl)); have n4_ := z4 (hb); have n5_ := z4 (hi); clear HO_9; clear HO_11; clear BK323; clear HK; clear HB; clear HI0; have HO_9 := n0_; have HO_11 := n1_; have BK323 := n2_; have HK := n3_; have HB := n4_; have HI0 := n5_; clear n0_ n1_ n2_ n3_ n4_ n5_; (try clear hb); (try clear hb2); (try clear hk); (try clear hi); have hcz42_0 : w41.cell? ⟨gb323, 0, none⟩ = some (.string t319) := (zC BK323.out 0).trans rfl; have hcz42_1 : w41.cell? ⟨gb323, 1, none⟩ = some (.int .i64 t324) := (zC BK323.out 1).trans rfl; have hcz42_2 : w41.cell? ⟨gb323, 2, none⟩ = some (.int .i64 0) := (zC BK323.out 2).trans rfl; have hfz42_0 := zF BK323.out 0; have hfz42_1 := zF BK323.out 1; have hfz42_2 := zF BK323.out 2) | ((with_reducible refine gate_builtin (b := .append) (xs := #[.tmp 69, .tmp 71]) rfl ?_); at_builtin; refine Kd.R_append k68 w.heap.size rfl (.tmp 69) (.tmp 71) 23 68 (.agg #[(.string ⟨#[]⟩), (.int .i64 0), (.int .i64 0)]) 32 rfl Tryd.underlying23 info68 rfl (by decide) (by omega) u11 x11_3 (⟨t319, t324, t328⟩ : S68) [.string t319, .int .i64 t324, .int .i64 t328] (fun k_ => k_ ≠ gb323) (fun _ => False) rfl (by first | (go_simp; done) | (go_simp; rfl)) ?aP (fun _ hk => hk.elim) ?aF ?aO (Below.refl _ _) ?aS ?aL ?_; (case aP => exact k68_mkM _ _ _ (⟨t319, t324, t328⟩ : S68)); (case aF => exact (fun k_ hk => Kd.freshB (g := gb323) (o := .cells #[.string t319, .int .i64 t324, .int .i64 t328] 68 (0, 0)) (by (with_reducible repeat (first | refine zH ?_ _ | refine zI ?_ | refine zG ?_ _)); refine blk_put (cs := #[.string t319, .int .i64 t324, .int .i64 0]) ?_ 2 _ rfl; (with_reducible repeat (first | refine zH ?_ _ | refine zI ?_ | refine zG ?_ _)); exact BK323.out) k_ hk)); (case aO => exact (by (with_reducible repeat (first | apply zM | apply zN | apply zO)); exact Kd.R_mono (Kd.R_far (p := ⟨gb323, 2, none⟩) (Kd.R_mono HO_11.out (fun k_ hk => (⟨hk, hk.2⟩ : _ ∧ k_ ≠ gb323))) (fun _ hk => hk.2) (.int .i64 t328)) (fun _ hk => hk.1.2))); (case aS => exact (keep_size (w := w) (g := g) (row := none) (by repeat (first | exact HK.out | apply KeepBut.set_ | apply keep_drewN | apply keep_drew | apply keep_alloc | refine keep_far ?_ GW323.out _)))); (case aL => have := LMc33.out; omega); intro v333 w43 ho hb hg hat; rw [← Ny332.out] at ho; have n0_ := z4 (Kd.R_over' (by (with_reducible repeat (first | apply zM | apply zN | apply zO)); exact (Kd.R_mono (Kd.R_far (p := ⟨gb323, 2, none⟩) (Kd.R_types HO_9.out BK323.out (by decide)) (fun _ hk => hk.2) (.int .i64 t328)) (fun _ h_ => h_.1))) (Kd.R_typed (by (with_reducible repeat (first | apply zM | apply zN | apply zO)); exact (Kd.R_mono (Kd.R_far (p := ⟨gb323, 2, none⟩) (Kd.R_mono HO_11.out (fun k_ hk => (⟨hk, hk.2⟩ : _ ∧ k_ ≠ gb323))) (fun _ hk => hk.2) (.int .i64 t328)) (fun _ h_ => h_.1)))) (by decide) hg); have n1_ := z4 (IsS88.grown (IsS88.like HI0.out (by repeat (first | exact HI0.out | apply IsS88.alloc | apply IsS88.drewN | apply IsS88.drew | apply IsS88.set_0 | apply IsS88.set_1 | apply IsS88.set_2 | refine IsS88.far ?_ NB0_323.out _))) hg (IsS88.own_ne HI0.out HO_11.out (by decide))); have n2_ := z4 (blk_grown (g := gb323) (o := .cells #[.string t319, .int .i64 t324, .int .i64 t328] 68 (0, 0)) (by (with_reducible repeat (first | refine zH ?_ _ | refine zI ?_ | refine zG ?_ _)); refine blk_put (cs := #[.string t319, .int .i64 t324, .int .i64 0]) ?_ 2 _ rfl; (with_reducible repeat (first | refine zH ?_ _ | refine zI ?_ | refine zG ?_ _)); exact BK323.out) hg (Kd.R_away HO_11.out (fun _ hk => hk.2))); have n3_ := z4 (below_weaken (by repeat (first | (with_reducible first | exact HB.out | apply zA | apply zB | apply zD | refine zJ ?_ (IsS88.ge HI0.out) | refine zJ ?_ GE323.out) | exact HB.out)) HL.out hb); have n4_ := z4 (KeepBut.trans (by repeat (first | exact HK.out | apply KeepBut.set_ | apply keep_drewN | apply keep_drew | apply keep_alloc | refine keep_far ?_ GW323.out _)) (KeepBut.of_grown hg g) (Kd.R_base2 HO_11.out)); have n5_ := z4 (ho); clear HO_9; clear HI0; clear BK323; clear HB; clear HK; clear HO_11; have HO_9 := n0_; have HI0 := n1_; have BK323 := n2_; have HB := n3_; have HK := n4_; have HO334 := n5_; clear n0_ n1_ n2_ n3_ n4_ n5_; clear ho hb hg hat))
           go_roundg kj24
           case measure => have := HJ3.out; have := HJ10.out; have := HK3.out; have := HJ24.out; omega
           case rel => exact ⟨(y332), (wrap64 (x12_3 + 1)), (t329), (t330), (t331), (by first | rfl | (simp; done) | (simp [*]; done)), H', ⟨by have := HJ3.out; have := HJ10.out; have := HK3.out; have := HJ24.out; omega⟩, ⟨by (with_reducible repeat (first | apply zM | apply zN | apply zO)); exact HO_9.out⟩, ⟨by (with_reducible repeat (first | apply zM | apply zN | apply zO)); exact Kd.R_mono HO334.out (fun _ hk => trivial)⟩, ⟨by repeat (first | exact HI0.out | apply IsS88.alloc | apply IsS88.drewN | apply IsS88.drew | apply IsS88.set_0 | apply IsS88.set_1 | apply IsS88.set_2 | refine IsS88.far ?_ NB0_323.out _)⟩, ⟨by repeat (first | exact HK.out | apply KeepBut.set_ | apply keep_drewN | apply keep_drew | apply keep_alloc | refine keep_far ?_ GW323.out _)⟩, ⟨by repeat (first | (with_reducible first | exact HB.out | apply zA | apply zB | apply zD | refine zJ ?_ (IsS88.ge HI0.out) | refine zJ ?_ GE323.out) | exact HB.out)⟩⟩
          ·rw [if_neg c33] at H
           exact absurd H (by simp)
         ·replace c28 := Bool.eq_false_iff.mpr c28
          subst c28
          have H1 : (some (t296, x9_10, x11_3, x1000_3, x1001_3, x1002_3)) = some (r1, r2, r3, r4, r5, r6) := by rw [if_neg (show ¬ (false = true) by decide)] at H; exact H
          clear H
          have H := H1
          clear H1
          simp only [Option.some.injEq, Prod.mk.injEq] at H
          obtain ⟨rfl, rfl, rfl, rfl, rfl, rfl⟩ := H
          go_wp2
          go_ret3
          exact ⟨_, _, by first | rfl | (simp [errW_none, errW_some] <;> rfl) | (simp [*, errW_none, errW_some] <;> rfl), by (with_reducible repeat (first | apply zM | apply zN | apply zO)); exact HO_9.out, by (with_reducible repeat (first | apply zM | apply zN | apply zO)); exact HO_11.out, by repeat (first | exact HI0.out | apply IsS88.alloc | apply IsS88.drewN | apply IsS88.drew | apply IsS88.set_0 | apply IsS88.set_1 | apply IsS88.set_2), by repeat (first | (with_reducible first | exact HB.out | apply zA | apply zB | apply zD | refine zJ ?_ (IsS88.ge HI0.out)) | exact HB.out), by repeat (first | exact HK.out | apply KeepBut.set_ | apply keep_drewN | apply keep_drew | apply keep_alloc)⟩
end Go.Proofs.YtimhcpmfhebbhaaDoor.M
namespace Go.Proofs.YtimhcpmfhebbhaaDoor.M
set_option maxRecDepth 100000
open Go.RowKit Go.Proofs.YtimhcpmfhebbhaaDoorW.PrintWords Go.Proofs.YtimhcpmfhebbhaaDoor.Num Go.Proofs.YtimhcpmfhebbhaaDoor.Seven Go.Proofs.YtimhcpmfhebbhaaDoor.Word1 Go.Proofs.YtimhcpmfhebbhaaDoor.Obj
set_option linter.unusedVariables false
set_option linter.unusedSimpArgs false
theorem takeR_ok {s : ByteArray} {p : Nat} (h : (takeR s p).2.2 = 0) (hp : p ≤ s.size) : ∃ q : Nat, (takeR s p).2.1 = (q : Int) ∧ p < q ∧ q ≤ s.size ∧ 0 ≤ (takeR s p).1 ∧ (takeR s p).1 < 18446744073709551616 ∧ (bytesOf s).drop p = putL (takeR s p).1.toNat ++ (bytesOf s).drop q := by
 unfold takeR at *
 rw [if_neg (by omega)] at *
 simp only [Int.toNat_natCast] at *
 cases e : takeL ((bytesOf s).drop p) 0 with
 | none => rw [e] at h; simp at h
 | some t =>
  rw [e] at h
  obtain ⟨v, n⟩ := t
  obtain ⟨h1, h2, h3, h4, h5⟩ := takeL_some _ _ _ ((bytesOf_Bs s).drop p) e
  rw [List.length_drop, bytesOf_length] at h2
  dsimp only at *
  refine ⟨p + n, by omega, by omega, by omega, h3, by simpa using h4, ?_⟩
  have := List.take_append_drop n ((bytesOf s).drop p)
  rw [h5, List.drop_drop] at this
  exact this.symm
def numA (s : ByteArray) (most : Int) (p : Nat) : Option (Int × Nat) := if (takeR s p).2.2 = 0 ∧ (takeR s p).1 ≤ most then some ((takeR s p).1, (takeR s p).2.1.toNat) else none
def bytesA (s : ByteArray) (n p : Nat) : Option (ByteArray × Nat) := if p + n ≤ s.size then some (s.extract p (p + n), p + n) else none
def oneA (s : ByteArray) (p : Nat) : Option (Int × Nat) := if p < s.size then some (bt s p, p + 1) else none
def wideA (s : ByteArray) (p : Nat) : Option (Int × Nat) := (bytesA s 8 p).map fun x => ((numR x.1).1, x.2)
def textA (s : ByteArray) (most : Int) (p : Nat) : Option (ByteArray × Nat) := (numA s most p).bind fun a => bytesA s a.1.toNat a.2
def manyA {α : Type} (q : Nat → Option (α × Nat)) : Nat → Nat → Option (List α × Nat)
 | 0, p => some ([], p)
 | n + 1, p => (q p).bind fun x => (manyA q n x.2).map fun y => (x.1 :: y.1, y.2)
def listA {α : Type} (s : ByteArray) (most : Int) (q : Nat → Option (α × Nat)) (p : Nat) : Option (List α × Nat) := (numA s most p).bind fun a => manyA q a.1.toNat a.2
def symA (s : ByteArray) (p : Nat) : Option (S68 × Nat) := (textA s 28 p).bind fun a => (oneA s a.2).bind fun b => (numA s 65536 b.2).bind fun c => some (⟨a.1, b.1, c.1⟩, c.2)
def frontA (s mark : ByteArray) (p : Nat) : Option (ByteArray × List Int × List S68 × Nat) := (bytesA s 4 p).bind fun m => if m.1 = mark then (textA s 65536 m.2).bind fun c => (listA s 4096 (wideA s) c.2).bind fun d => (listA s 1000 (symA s) d.2).bind fun y => some (c.1, d.1, y.1, y.2) else none
theorem numA_ok {s : ByteArray} {most : Int} {p : Nat} {n : Int} {q : Nat} (h : numA s most p = some (n, q)) (hp : p ≤ s.size) : p < q ∧ q ≤ s.size ∧ 0 ≤ n ∧ n ≤ most ∧ n < 18446744073709551616 ∧ (bytesOf s).drop p = putL n.toNat ++ (bytesOf s).drop q ∧ takeR s p = (n, (q : Int), 0) := by
 unfold numA at h
 split at h
 ·next c =>
  obtain ⟨q', e, h1, h2, h3, h4, h5⟩ := takeR_ok c.1 hp
  obtain ⟨rfl, rfl⟩ := Prod.mk.inj (Option.some.inj h)
  rw [e, Int.toNat_natCast]
  exact ⟨h1, h2, h3, c.2, h4, h5, by rw [← e, ← c.1]⟩
 ·cases h
theorem bytesA_ok {s : ByteArray} {n p : Nat} {x : ByteArray} {q : Nat} (h : bytesA s n p = some (x, q)) : q = p + n ∧ q ≤ s.size ∧ x = s.extract p (p + n) ∧ x.size = n := by
 unfold bytesA at h
 split at h
 ·next c =>
  obtain ⟨rfl, rfl⟩ := Prod.mk.inj (Option.some.inj h)
  exact ⟨rfl, c, rfl, by simp [ByteArray.size_extract]; omega⟩
 ·cases h
/-- A step of the document's Reader: what lacks is told by a mark that stays. -/
def rr {α : Type} (d : α) (o : Option (α × Nat)) (p : Nat) (bad : Bool) : α × Nat × Bool := if bad then (d, p, true) else match o with | some (n, q) => (n, q, false) | none => (d, p, true)
@[simp] theorem rr_true {α : Type} (d : α) (o : Option (α × Nat)) (p : Nat) : rr d o p true = (d, p, true) := rfl
@[simp] theorem rr_none {α : Type} (d : α) (p : Nat) : rr d none p false = (d, p, true) := rfl
@[simp] theorem rr_some {α : Type} (d : α) (x : α × Nat) (p : Nat) : rr d (some x) p false = (x.1, x.2, false) := rfl
def rNum (s : ByteArray) (most : Int) (p : Nat) (bad : Bool) : Int × Nat × Bool := rr 0 (numA s most p) p bad
def rBytes (s : ByteArray) (n p : Nat) (bad : Bool) : ByteArray × Nat × Bool := rr ⟨#[]⟩ (bytesA s n p) p bad
def rOne (s : ByteArray) (p : Nat) (bad : Bool) : Int × Nat × Bool := rr 0 (oneA s p) p bad
def rWide (s : ByteArray) (p : Nat) (bad : Bool) : Int × Nat × Bool := rr 0 (wideA s p) p bad
theorem rNum_ok {s : ByteArray} {most : Int} {p : Nat} {bad : Bool} (hm : 0 ≤ most) (hp : p ≤ s.size) : (rNum s most p bad).2.1 ≤ s.size ∧ 0 ≤ (rNum s most p bad).1 ∧ (rNum s most p bad).1 ≤ most := by
 unfold rNum
 cases bad
 ·cases e : numA s most p with
  | none => exact ⟨hp, by simp, by simpa using hm⟩
  | some x => have := numA_ok (n := x.1) (q := x.2) (by rw [e]) hp; exact ⟨this.2.1, this.2.2.1, this.2.2.2.1⟩
 ·exact ⟨hp, by simp, by simpa using hm⟩
theorem rBytes_ok {s : ByteArray} {n p : Nat} {bad : Bool} (hp : p ≤ s.size) : (rBytes s n p bad).2.1 ≤ s.size ∧ (rBytes s n p bad).1.size ≤ n := by
 unfold rBytes
 cases bad
 ·cases e : bytesA s n p with
  | none => exact ⟨hp, Nat.zero_le _⟩
  | some x => have := bytesA_ok (x := x.1) (q := x.2) (by rw [e]); exact ⟨this.2.1, by simp; omega⟩
 ·exact ⟨hp, Nat.zero_le _⟩
theorem oneA_ok {s : ByteArray} {p : Nat} {n : Int} {q : Nat} (h : oneA s p = some (n, q)) : q = p + 1 ∧ q ≤ s.size ∧ n = bt s p ∧ 0 ≤ n ∧ n < 256 := by
 unfold oneA at h
 split at h
 ·next c =>
  obtain ⟨rfl, rfl⟩ := Prod.mk.inj (Option.some.inj h)
  have := bytesOf_Bs s (bt s p) (by have := bt_drop s p c; exact List.mem_of_mem_drop (by rw [this]; simp))
  exact ⟨rfl, by omega, rfl, this.1, this.2⟩
 ·cases h
theorem rOne_ok {s : ByteArray} {p : Nat} {bad : Bool} (hp : p ≤ s.size) : (rOne s p bad).2.1 ≤ s.size := by
 unfold rOne
 cases bad
 ·cases e : oneA s p with
  | none => exact hp
  | some x => exact (oneA_ok (n := x.1) (q := x.2) (by rw [e])).2.1
 ·exact hp
theorem wideA_ok {s : ByteArray} {p : Nat} {n : Int} {q : Nat} (h : wideA s p = some (n, q)) : q = p + 8 ∧ q ≤ s.size ∧ n = (numR (s.extract p (p + 8))).1 ∧ (s.extract p (p + 8)).size = 8 := by
 unfold wideA at h
 obtain ⟨x, hx, e⟩ := Option.map_eq_some_iff.1 h
 obtain ⟨h1, h2, h3, h4⟩ := bytesA_ok (x := x.1) (q := x.2) (by rw [hx])
 obtain ⟨rfl, rfl⟩ := Prod.mk.inj e
 rw [← h3]
 exact ⟨h1, h2, rfl, h4⟩
theorem rWide_ok {s : ByteArray} {p : Nat} {bad : Bool} (hp : p ≤ s.size) : (rWide s p bad).2.1 ≤ s.size := by
 unfold rWide
 cases bad
 ·cases e : wideA s p with
  | none => exact hp
  | some x => exact (wideA_ok (n := x.1) (q := x.2) (by rw [e])).2.1
 ·exact hp
theorem rnumber_rr (s : ByteArray) (hs : s.size ≤ 281474976710656) (most : Int) (hm : 0 ≤ most) (hm2 : most < 9223372036854775808) (p : Nat) (hp : p ≤ s.size) (bad : Bool) (k : Nat) (hk : 36 < k) :
 cotterref06_Reader_Number.f k s p bad most = some ((rNum s most p bad).1, s, ((rNum s most p bad).2.1 : Int), (rNum s most p bad).2.2) := by
 unfold cotterref06_Reader_Number.f rNum
 rw [rtake_f s p hs k hk, Option.bind_some, wrap_u64_id hm (by omega)]
 cases bad
 ·simp only [Bool.false_eq_true, if_false]
  by_cases h0 : (takeR s p).2.2 = 0
  ·rw [if_pos h0]
   obtain ⟨q, e, h1, h2, h3, h4, h5⟩ := takeR_ok h0 hp
   unfold numA
   by_cases hc : (takeR s p).1 ≤ most
   ·rw [if_neg (by omega), if_pos ⟨h0, hc⟩, wrap64_id (by omega) (by omega), e]
    simp
   ·rw [if_pos (by omega), if_neg (by omega)]
    simp
  ·rw [if_neg h0]
   unfold numA
   rw [if_neg (by omega)]
   simp
 ·simp
theorem rbytes_rr (s : ByteArray) (hs : s.size ≤ 281474976710656) (n : Int) (hn : 0 ≤ n) (hn2 : n ≤ 281474976710656) (p : Nat) (hp : p ≤ s.size) (bad : Bool) :
 cotterref06_Reader_Bytes.f s p bad n = some ((rBytes s n.toNat p bad).1, s, ((rBytes s n.toNat p bad).2.1 : Int), (rBytes s n.toNat p bad).2.2) := by
 unfold cotterref06_Reader_Bytes.f rBytes bytesA
 cases bad
 ·simp only [Bool.false_eq_true, if_false]
  rw [wrap64_id (n := (s.size : Int) - p) (by omega) (by omega)]
  by_cases hc : p + n.toNat ≤ s.size
  ·rw [if_neg (by omega), if_pos hc, wrap64_id (n := (p : Int) + n) (by omega) (by omega), wrap64_id (n := (p : Int) + n - n) (by omega) (by omega), if_pos (by omega), if_pos (by omega), if_pos (by omega)]
   simp only [rr_some]
   rw [show ((p : Int) + n - n).toNat = p by omega, show ((p : Int) + n).toNat = p + n.toNat by omega, show ((p + n.toNat : Nat) : Int) = (p : Int) + n by omega]
  ·rw [if_pos (by omega), if_neg hc]
   simp
 ·simp
theorem toList_nil : (⟨#[]⟩ : ByteArray).toList = ([] : List UInt8) := by rw [ByteArray.toList_eq]
theorem extract_one (s : ByteArray) (p : Nat) (h : p + 1 ≤ s.size) : bt (s.extract p (p + 1)) 0 = bt s p := by
 have h1 := bt_drop s p h
 have h2 := bt_drop (s.extract p (p + 1)) 0 (by simp [ByteArray.size_extract]; omega)
 have h3 : bytesOf (s.extract p (p + 1)) = ((bytesOf s).drop p).take 1 := by
  simp [bytesOf, ByteArray.data_extract, List.map_take, List.map_drop]
 rw [h3, h1] at h2
 simpa using h2.symm
theorem rone_rr (s : ByteArray) (hs : s.size ≤ 281474976710656) (p : Nat) (hp : p ≤ s.size) (bad : Bool) :
 cotterref06_Reader_One.f s p bad = some ((rOne s p bad).1, s, ((rOne s p bad).2.1 : Int), (rOne s p bad).2.2) := by
 unfold cotterref06_Reader_One.f
 rw [rbytes_rr s hs 1 (by omega) (by omega) p hp bad, Option.bind_some, show (1 : Int).toNat = 1 from rfl]
 have lacks : ∀ b, rBytes s 1 p b = (⟨#[]⟩, p, true) → rOne s p b = (0, p, true) → (if (rBytes s 1 p b).1.toList = ([] : List UInt8) then some ((0 : Int), s, ((rBytes s 1 p b).2.1 : Int), (rBytes s 1 p b).2.2) else if 0 < ((rBytes s 1 p b).1.size : Int) then some (wrap64 (bt (rBytes s 1 p b).1 0), s, ((rBytes s 1 p b).2.1 : Int), (rBytes s 1 p b).2.2) else none) = some ((rOne s p b).1, s, ((rOne s p b).2.1 : Int), (rOne s p b).2.2) := by
  intro b e1 e2
  rw [e1, e2]
  dsimp only
  rw [if_pos toList_nil]
 cases bad
 ·by_cases hc : p + 1 ≤ s.size
  ·have hz : (s.extract p (p + 1)).size = 1 := by simp [ByteArray.size_extract]; omega
   have hne : ¬ (s.extract p (p + 1)).toList = ([] : List UInt8) := by
    intro e
    have h0 : (s.extract p (p + 1)).data.toList.length = 1 := by rw [data_length, hz]
    rw [← ByteArray.toList_eq, e] at h0
    cases h0
   have hr := oneA_ok (s := s) (p := p) (n := bt s p) (q := p + 1) (by unfold oneA; rw [if_pos (show p < s.size from hc)])
   have e1 : rBytes s 1 p false = (s.extract p (p + 1), p + 1, false) := by unfold rBytes bytesA; rw [if_pos hc]; rfl
   have e2 : rOne s p false = (bt s p, p + 1, false) := by unfold rOne oneA; rw [if_pos (show p < s.size from hc)]; rfl
   rw [e1, e2]
   dsimp only
   rw [if_neg hne, if_pos (by omega), extract_one s p hc, wrap64_id (by omega) (by omega)]
  ·refine lacks false ?_ ?_
   ·unfold rBytes bytesA; rw [if_neg hc]; rfl
   ·unfold rOne oneA; rw [if_neg (show ¬ p < s.size from hc)]; rfl
 ·exact lacks true rfl rfl
theorem numR_nil : (numR ⟨#[]⟩).1 = 0 := rfl
theorem rwide_rr (s : ByteArray) (hs : s.size ≤ 281474976710656) (p : Nat) (hp : p ≤ s.size) (bad : Bool) (k : Nat) (hk : 9 < k) :
 cotterref06_Reader_Wide.f k s p bad = some ((rWide s p bad).1, s, ((rWide s p bad).2.1 : Int), (rWide s p bad).2.2) := by
 unfold cotterref06_Reader_Wide.f rWide
 rw [rbytes_rr s hs 8 (by omega) (by omega) p hp bad, Option.bind_some]
 have hz := rBytes_ok (s := s) (n := 8) (p := p) (bad := bad) hp
 rw [show (8 : Int).toNat = 8 from rfl, rnumber_f _ (Nat.le_trans hz.2 (by omega)) k hk, Option.bind_some]
 unfold rBytes wideA
 cases bad
 ·cases e : bytesA s 8 p with
  | none => simp [numR_nil]
  | some x => simp
 ·simp [numR_nil]
def rSym (s : ByteArray) (p : Nat) : S68 × Nat × Bool :=
 let a := rNum s 28 p false; let b := rBytes s a.1.toNat a.2.1 a.2.2; let c := rOne s b.2.1 b.2.2; let d := rNum s 65536 c.2.1 c.2.2; (⟨b.1, c.1, d.1⟩, d.2.1, d.2.2)
theorem symA_r (s : ByteArray) (p : Nat) : symA s p = bif (rSym s p).2.2 then none else some ((rSym s p).1, (rSym s p).2.1) := by
 unfold symA rSym textA rNum rBytes rOne
 cases e1 : numA s 28 p with
 | none => simp
 | some a =>
  simp only [Option.bind_some, rr_some]
  cases e2 : bytesA s a.1.toNat a.2 with
  | none => simp
  | some b =>
   simp only [Option.bind_some, rr_some]
   cases e3 : oneA s b.2 with
   | none => simp
   | some c =>
    simp only [Option.bind_some, rr_some]
    cases e4 : numA s 65536 c.2 with
    | none => simp
    | some d => simp
theorem rSym_ok {s : ByteArray} {p : Nat} (hp : p ≤ s.size) : (rSym s p).2.1 ≤ s.size := by
 unfold rSym
 exact (rNum_ok (by omega) (rOne_ok (rBytes_ok (rNum_ok (by omega) hp).1).1)).1
/-- A round of a reading loop. -/
theorem many_step {α : Type} {q : Nat → Option (α × Nat)} {p p' : Nat} {x : α} {bad : Bool} (h : q p = bif bad then none else some (x, p')) (m : Nat) (acc : List α) :
 ((manyA q (m + 1) p).map fun y => (acc ++ y.1, y.2)) = bif bad then none else ((manyA q m p').map fun y => ((acc ++ [x]) ++ y.1, y.2)) := by
 rw [manyA, h]
 cases bad
 ·simp [Option.map_map, Function.comp_def]
 ·simp
theorem front_l1 (s : ByteArray) (hs : s.size ≤ 281474976710656) (code : ByteArray) (data : List Int) : ∀ (m k : Nat) (n i : Int) (acc : List S68) (p : Nat) (bad : Bool), n = i + m → 0 ≤ i → i + m ≤ 1000 → acc.length + m ≤ 1000 → p ≤ s.size → 2 * m + 40 < k →
 ∃ (acc' : List S68) (p' : Nat) (bad' : Bool), cotterref06_Reader_Front.l1 k code n data acc i s p bad = some (code, data, acc', s, (p' : Int), bad') ∧ p' ≤ s.size ∧ acc'.length ≤ acc.length + m ∧
  (bif bad then none else (manyA (symA s) m p).map fun y => (acc ++ y.1, y.2)) = (bif bad' then none else some (acc', p')) := by
 intro m
 induction m with
 | zero =>
  intro k n i acc p bad hn hi hb hl hp hk
  match k, hk with
  | k + 2, hk =>
   refine ⟨acc, p, bad, ?_, hp, by omega, ?_⟩
   ·unfold cotterref06_Reader_Front.l1 cotterref06_Reader_Front.j4
    rw [if_neg (by omega), if_neg (by simp)]
   ·simp [manyA]
 | succ m ih =>
  intro k n i acc p bad hn hi hb hl hp hk
  match k, hk with
  | k + 2, hk =>
   cases bad with
   | true =>
    refine ⟨acc, p, true, ?_, hp, by omega, by simp⟩
    unfold cotterref06_Reader_Front.l1 cotterref06_Reader_Front.j4
    rw [if_pos (by omega), if_neg (by simp)]
   | false =>
    have b1 := rNum_ok (s := s) (most := 28) (p := p) (bad := false) (by omega) hp
    have b2 := rBytes_ok (s := s) (n := (rNum s 28 p false).1.toNat) (bad := (rNum s 28 p false).2.2) b1.1
    have b3 := rOne_ok (s := s) (bad := (rBytes s (rNum s 28 p false).1.toNat (rNum s 28 p false).2.1 (rNum s 28 p false).2.2).2.2) b2.1
    have b4 := rSym_ok hp
    obtain ⟨acc', p', bad', e, h1, h2, h3⟩ := ih k n (i + 1) (acc ++ [(rSym s p).1]) (rSym s p).2.1 (rSym s p).2.2 (by omega) (by omega) (by omega) (by simp; omega) b4 (by omega)
    refine ⟨acc', p', bad', ?_, h1, by simp at h2; omega, ?_⟩
    ·unfold cotterref06_Reader_Front.l1 cotterref06_Reader_Front.j4
     rw [if_pos (by omega), if_pos (by simp), rnumber_rr s hs 28 (by omega) (by omega) p hp false k (by omega), Option.bind_some]
     dsimp only
     rw [rbytes_rr s hs _ b1.2.1 (by omega) _ b1.1, Option.bind_some]
     dsimp only
     rw [rone_rr s hs _ b2.1, Option.bind_some]
     dsimp only
     rw [rnumber_rr s hs 65536 (by omega) (by omega) _ b3 _ k (by omega), Option.bind_some]
     dsimp only
     rw [if_pos (by omega), wrap64_id (by omega) (by omega)]
     exact e
    ·rw [← h3, cond_false]
     exact many_step (symA_r s p) m acc
theorem front_l0 (s : ByteArray) (hs : s.size ≤ 281474976710656) (code : ByteArray) : ∀ (m k : Nat) (n i : Int) (acc : List Int) (p : Nat) (bad : Bool), n = i + m → 0 ≤ i → i + m ≤ 4096 → acc.length + m ≤ 4096 → p ≤ s.size → m + 2100 < k →
 ∃ (acc' : List Int) (p' : Nat) (bad' : Bool) (k' : Nat), cotterref06_Reader_Front.l0 k code n acc i s p bad = cotterref06_Reader_Front.j2 k' code acc' s (p' : Int) bad' ∧ 2090 < k' ∧ p' ≤ s.size ∧ acc'.length ≤ acc.length + m ∧
  (bif bad then none else (manyA (wideA s) m p).map fun y => (acc ++ y.1, y.2)) = (bif bad' then none else some (acc', p')) := by
 intro m
 induction m with
 | zero =>
  intro k n i acc p bad hn hi hb hl hp hk
  match k, hk with
  | k + 1, hk =>
   refine ⟨acc, p, bad, k, ?_, by omega, hp, by omega, by simp [manyA]⟩
   rw [cotterref06_Reader_Front.l0, if_neg (by omega)]
 | succ m ih =>
  intro k n i acc p bad hn hi hb hl hp hk
  match k, hk with
  | k + 1, hk =>
   cases bad with
   | true =>
    refine ⟨acc, p, true, k, ?_, by omega, hp, by omega, by simp⟩
    rw [cotterref06_Reader_Front.l0, if_pos (by omega), if_pos rfl]
   | false =>
    have b1 := rWide_ok (s := s) (bad := false) hp
    obtain ⟨acc', p', bad', k', e, h0, h1, h2, h3⟩ := ih k n (i + 1) (acc ++ [(rWide s p false).1]) (rWide s p false).2.1 (rWide s p false).2.2 (by omega) (by omega) (by omega) (by simp; omega) b1 (by omega)
    refine ⟨acc', p', bad', k', ?_, h0, h1, by simp at h2; omega, ?_⟩
    ·rw [cotterref06_Reader_Front.l0, if_pos (by omega), if_neg (by simp), rwide_rr s hs p hp false k (by omega), Option.bind_some]
     dsimp only
     rw [if_pos (by omega), wrap64_id (by omega) (by omega)]
     exact e
    ·rw [← h3, cond_false]
     refine many_step (x := (rWide s p false).1) (p' := (rWide s p false).2.1) ?_ m acc
     unfold rWide
     cases wideA s p <;> simp
theorem toList_inj {a b : ByteArray} (h : a.toList = b.toList) : a = b := by
 rw [ByteArray.toList_eq, ByteArray.toList_eq] at h
 exact ByteArray.ext (Array.toList_inj.mp h)
theorem front_f (s : ByteArray) (hs : s.size ≤ 281474976710656) (mark : ByteArray) (k : Nat) (hk : 7000 < k) : ∃ (code : ByteArray) (data : List Int) (syms : List S68) (p : Nat) (bad : Bool), cotterref06_Reader_Front.f k s 0 false mark = some (code, data, syms, s, (p : Int), bad) ∧ p ≤ s.size ∧ data.length ≤ 4096 ∧ syms.length ≤ 1000 ∧
 frontA s mark 0 = (bif bad then none else some (code, data, syms, p)) := by
 have main : ∀ (p : Nat) (bad : Bool), p ≤ s.size → ∃ (code : ByteArray) (data : List Int) (syms : List S68) (p' : Nat) (bad' : Bool), cotterref06_Reader_Front.j0 k s p bad = some (code, data, syms, s, (p' : Int), bad') ∧ p' ≤ s.size ∧ data.length ≤ 4096 ∧ syms.length ≤ 1000 ∧
  (bif bad then none else (textA s 65536 p).bind fun c => (listA s 4096 (wideA s) c.2).bind fun d => (listA s 1000 (symA s) d.2).bind fun y => some (c.1, d.1, y.1, y.2)) = (bif bad' then none else some (code, data, syms, p')) := by
  intro p bad hp
  match k, hk with
  | k + 1, hk =>
   rw [cotterref06_Reader_Front.j0, rnumber_rr s hs 65536 (by omega) (by omega) p hp bad k (by omega), Option.bind_some]
   dsimp only
   have b1 := rNum_ok (s := s) (most := 65536) (p := p) (bad := bad) (by omega) hp
   generalize hn1 : rNum s 65536 p bad = n1 at b1 ⊢
   rw [rbytes_rr s hs _ b1.2.1 (by omega) _ b1.1, Option.bind_some]
   dsimp only
   have b2 := rBytes_ok (s := s) (n := n1.1.toNat) (bad := n1.2.2) b1.1
   generalize hn2 : rBytes s n1.1.toNat n1.2.1 n1.2.2 = n2 at b2 ⊢
   rw [rnumber_rr s hs 4096 (by omega) (by omega) _ b2.1 _ k (by omega), Option.bind_some]
   dsimp only
   have b3 := rNum_ok (s := s) (most := 4096) (bad := n2.2.2) (by omega) b2.1
   generalize hn3 : rNum s 4096 n2.2.1 n2.2.2 = n3 at b3 ⊢
   obtain ⟨dl, p4, bad4, k4, e4, hk4, hp4, hl4, h4⟩ := front_l0 s hs n2.1 n3.1.toNat k n3.1 0 [] n3.2.1 n3.2.2 (by omega) (by omega) (by omega) (by simp; omega) b3.1 (by omega)
   rw [e4]
   match k4, hk4 with
   | k4 + 1, hk4 =>
    rw [cotterref06_Reader_Front.j2, rnumber_rr s hs 1000 (by omega) (by omega) _ hp4 _ k4 (by omega), Option.bind_some]
    dsimp only
    have b5 := rNum_ok (s := s) (most := 1000) (bad := bad4) (by omega) hp4
    generalize hn5 : rNum s 1000 p4 bad4 = n5 at b5 ⊢
    obtain ⟨sl, p6, bad6, e6, hp6, hl6, h6⟩ := front_l1 s hs n2.1 dl n5.1.toNat k4 n5.1 0 [] n5.2.1 n5.2.2 (by omega) (by omega) (by omega) (by simp; omega) b5.1 (by omega)
    refine ⟨n2.1, dl, sl, p6, bad6, e6, hp6, by simp at hl4; omega, by simp at hl6; omega, ?_⟩
    simp only [List.nil_append] at h4 h6
    cases bad with
    | true =>
     obtain rfl : n1 = (0, p, true) := by rw [← hn1]; rfl
     obtain rfl : n2 = (⟨#[]⟩, p, true) := by rw [← hn2]; rfl
     obtain rfl : n3 = (0, p, true) := by rw [← hn3]; rfl
     obtain rfl : bad4 = true := by cases bad4 <;> simp_all
     obtain rfl : n5 = (0, p4, true) := by rw [← hn5]; rfl
     obtain rfl : bad6 = true := by cases bad6 <;> simp_all
     simp
    | false =>
     rw [cond_false]
     unfold textA listA
     unfold rNum at hn1 hn3 hn5
     unfold rBytes at hn2
     cases e1 : numA s 65536 p with
     | none =>
      rw [e1] at hn1
      obtain rfl : n1 = (0, p, true) := by rw [← hn1]; rfl
      obtain rfl : n2 = (⟨#[]⟩, p, true) := by rw [← hn2]; rfl
      obtain rfl : n3 = (0, p, true) := by rw [← hn3]; rfl
      obtain rfl : bad4 = true := by cases bad4 <;> simp_all
      obtain rfl : n5 = (0, p4, true) := by rw [← hn5]; rfl
      obtain rfl : bad6 = true := by cases bad6 <;> simp_all
      simp
     | some a1 =>
      rw [e1] at hn1
      obtain rfl : n1 = (a1.1, a1.2, false) := by rw [← hn1]; rfl
      simp only [Option.bind_some]
      cases e2 : bytesA s a1.1.toNat a1.2 with
      | none =>
       rw [e2] at hn2
       obtain rfl : n2 = (⟨#[]⟩, a1.2, true) := by rw [← hn2]; rfl
       obtain rfl : n3 = (0, a1.2, true) := by rw [← hn3]; rfl
       obtain rfl : bad4 = true := by cases bad4 <;> simp_all
       obtain rfl : n5 = (0, p4, true) := by rw [← hn5]; rfl
       obtain rfl : bad6 = true := by cases bad6 <;> simp_all
       simp
      | some a2 =>
       rw [e2] at hn2
       obtain rfl : n2 = (a2.1, a2.2, false) := by rw [← hn2]; rfl
       simp only [Option.bind_some]
       cases e3 : numA s 4096 a2.2 with
       | none =>
        simp only [e3] at hn3
        obtain rfl : n3 = (0, a2.2, true) := by rw [← hn3]; rfl
        obtain rfl : bad4 = true := by cases bad4 <;> simp_all
        obtain rfl : n5 = (0, p4, true) := by rw [← hn5]; rfl
        obtain rfl : bad6 = true := by cases bad6 <;> simp_all
        simp
       | some a3 =>
        simp only [e3] at hn3
        obtain rfl : n3 = (a3.1, a3.2, false) := by rw [← hn3]; rfl
        simp only [Option.bind_some]
        have h4' : manyA (wideA s) a3.1.toNat a3.2 = bif bad4 then none else some (dl, p4) := by
         rw [← h4]; simp
        rw [h4']
        cases bad4 with
        | true =>
         obtain rfl : n5 = (0, p4, true) := by rw [← hn5]; rfl
         obtain rfl : bad6 = true := by cases bad6 <;> simp_all
         simp
        | false =>
         simp only [cond_false, Option.bind_some]
         cases e5 : numA s 1000 p4 with
         | none =>
          simp only [e5] at hn5
          obtain rfl : n5 = (0, p4, true) := by rw [← hn5]; rfl
          obtain rfl : bad6 = true := by cases bad6 <;> simp_all
          simp
         | some a5 =>
          simp only [e5] at hn5
          obtain rfl : n5 = (a5.1, a5.2, false) := by rw [← hn5]; rfl
          have h6' : manyA (symA s) a5.1.toNat a5.2 = bif bad6 then none else some (sl, p6) := by
           rw [← h6]; simp
          rw [Option.bind_some, h6']
          cases bad6 <;> simp
 unfold cotterref06_Reader_Front.f frontA
 rw [show (0 : Int) = ((0 : Nat) : Int) from rfl, rbytes_rr s hs 4 (by omega) (by omega) 0 (by omega) false, Option.bind_some]
 dsimp only
 have b0 := rBytes_ok (s := s) (n := 4) (p := 0) (bad := false) (by omega)
 rw [show (4 : Int).toNat = 4 from rfl]
 by_cases hm : (rBytes s 4 0 false).1.toList = mark.toList
 ·rw [if_pos hm]
  obtain ⟨code, data, syms, p, bad, e, h1, h2, h3, h4⟩ := main (rBytes s 4 0 false).2.1 (rBytes s 4 0 false).2.2 b0.1
  refine ⟨code, data, syms, p, bad, e, h1, h2, h3, ?_⟩
  rw [← h4]
  unfold rBytes at hm ⊢
  cases e0 : bytesA s 4 0 with
  | none => simp
  | some x =>
   rw [e0] at hm
   simp only [rr_some] at hm
   simp [toList_inj hm]
 ·rw [if_neg hm]
  obtain ⟨code, data, syms, p, bad, e, h1, h2, h3, h4⟩ := main (rBytes s 4 0 false).2.1 true b0.1
  refine ⟨code, data, syms, p, bad, e, h1, h2, h3, ?_⟩
  rw [← h4]
  unfold rBytes at hm
  cases e0 : bytesA s 4 0 with
  | none => simp
  | some x =>
   rw [e0] at hm
   simp only [rr_some] at hm
   rw [Option.bind_some, if_neg (fun h => hm (by rw [h]))]
   simp
end Go.Proofs.YtimhcpmfhebbhaaDoor.M
namespace Go.Proofs.YtimhcpmfhebbhaaDoor.M
set_option maxRecDepth 100000
open Go.RowKit Go.Proofs.YtimhcpmfhebbhaaDoorW.PrintWords Go.Proofs.YtimhcpmfhebbhaaDoor.Num Go.Proofs.YtimhcpmfhebbhaaDoor.Seven Go.Proofs.YtimhcpmfhebbhaaDoor.Word1 Go.Proofs.YtimhcpmfhebbhaaDoor.Obj
set_option linter.unusedVariables false
set_option linter.unusedSimpArgs false
def relA (s : ByteArray) (p : Nat) : Option (S116 × Nat) := (numA s 65536 p).bind fun a => (oneA s a.2).bind fun b => (textA s 28 b.2).bind fun c => (wideA s c.2).bind fun d => some (⟨a.1, b.1, c.1, d.1⟩, d.2)
abbrev COT1s : ByteArray := ⟨#[67, 79, 84, 49]⟩
/-- The object of a text's bytes. -/
def readA (s : ByteArray) : Option (ByteArray × List Int × List S68 × List S116) := (frontA s COT1s 0).bind fun a => (listA s 8000 (relA s) a.2.2.2).bind fun r =>
 if r.2 = s.size ∧ may a.1 a.2.1 a.2.2.1 r.1 = true then some (a.1, a.2.1, a.2.2.1, r.1) else none
def readF (s : ByteArray) : ByteArray × List Int × List S68 × List S116 × Int := match readA s with | some x => (x.1, x.2.1, x.2.2.1, x.2.2.2, 0) | none => (⟨#[]⟩, [], [], [], 9)
/-- The memory of a reading under way: the object's block h, one more block x, the object's rows; blocks from B on are none of them. -/
structure Held (w W : World) (B h x : Nat) (cs xs : Array Value) (xt : TypeId) (v1 : Value) (d : List Int) (v2 : Value) (y : List S68) (v3 : Value) (r : List S116) : Prop where
 below : Below w.heap.size w W
 obj : W.heap[h]? = some (.cells cs 74 (0, 0))
 more : W.heap[x]? = some (.cells xs xt (0, 0))
 r1 : Kd.R (Kd.int .i64) 2 W w.heap.size (fun k => k < B) v1 d
 r2 : Kd.R k68 68 W w.heap.size (fun k => k < B) v2 y
 r3 : Kd.R k116 116 W w.heap.size (fun k => k < B) v3 r
 lt : B ≤ W.heap.size
 hh : w.heap.size ≤ h ∧ h < B ∧ w.heap.size ≤ x ∧ x < B ∧ h ≠ x
 ht : xt ≠ 2 ∧ xt ≠ 68 ∧ xt ≠ 116
theorem mem_one {t q : Nat} {l : List Nat} (hl : l = []) (h : q ∈ t :: l) : q = t := by subst hl; simpa using h
section
variable {w W W' : World} {B h x : Nat} {cs xs : Array Value} {xt : TypeId} {v1 v2 v3 : Value} {d : List Int} {y : List S68} {r : List S116}
theorem Held.keep (H : Held w W B h x cs xs xt v1 d v2 y v3 r) {g gt : Nat} {gs : Array Value} (hk : KeepBut W W' g none) (hb : Below w.heap.size w W') (hgh : h ≠ g) (hgx : x ≠ g) (hg : W.heap[g]? = some (.cells gs gt (0, 0))) (hgt : gt ≠ 2 ∧ gt ≠ 68 ∧ gt ≠ 116) : Held w W' B h x cs xs xt v1 d v2 y v3 r where
 below := hb
 obj := hk.blk H.obj hgh (by simp)
 more := hk.blk H.more hgx (by simp)
 r1 := Kd.R_mono (Kd.R_keep (Kd.R_types H.r1 hg (fun q hq => by rw [mem_one rfl hq]; exact fun e => hgt.1 e.symm)) hk (fun _ h => h.2)) (fun _ h => h.1)
 r2 := Kd.R_mono (Kd.R_keep (Kd.R_types H.r2 hg (fun q hq => by rw [mem_one rfl hq]; exact fun e => hgt.2.1 e.symm)) hk (fun _ h => h.2)) (fun _ h => h.1)
 r3 := Kd.R_mono (Kd.R_keep (Kd.R_types H.r3 hg (fun q hq => by rw [mem_one rfl hq]; exact fun e => hgt.2.2 e.symm)) hk (fun _ h => h.2)) (fun _ h => h.1)
 lt := Nat.le_trans H.lt hk.1
 hh := H.hh
 ht := H.ht
theorem Held.next (H : Held w W B h x cs xs xt v1 d v2 y v3 r) (hb : Below W.heap.size W W') : Held w W' B h x cs xs xt v1 d v2 y v3 r where
 below := below_then H.below H.below.size hb
 obj := blk_below H.obj hb
 more := blk_below H.more hb
 r1 := Kd.R_below H.r1 hb
 r2 := Kd.R_below H.r2 hb
 r3 := Kd.R_below H.r3 hb
 lt := Nat.le_trans H.lt hb.size
 hh := H.hh
 ht := H.ht
theorem Held.far (H : Held w W B h x cs xs xt v1 d v2 y v3 r) {p : Addr} (hp : B ≤ p.block) (u : Value) : Held w (W.setCell p u) B h x cs xs xt v1 d v2 y v3 r where
 below := Below.setCell H.below (by have := H.hh; omega) u
 obj := blk_far H.obj (by have := H.hh; omega) u
 more := blk_far H.more (by have := H.hh; omega) u
 r1 := Kd.R_far H.r1 (fun k hk => by omega) u
 r2 := Kd.R_far H.r2 (fun k hk => by omega) u
 r3 := Kd.R_far H.r3 (fun k hk => by omega) u
 lt := by have := H.lt; simpa [World.setCell] using this
 hh := H.hh
 ht := H.ht
theorem Held.up (H : Held w W B h x cs xs xt v1 d v2 y v3 r) {B' : Nat} (hB : B ≤ B') (hB' : B' ≤ W.heap.size) : Held w W B' h x cs xs xt v1 d v2 y v3 r where
 below := H.below
 obj := H.obj
 more := H.more
 r1 := Kd.R_mono H.r1 (fun k hk => by omega)
 r2 := Kd.R_mono H.r2 (fun k hk => by omega)
 r3 := Kd.R_mono H.r3 (fun k hk => by omega)
 lt := hB'
 hh := by have := H.hh; omega
 ht := H.ht
theorem Held.put (H : Held w W B h x cs xs xt v1 d v2 y v3 r) {cs' : Array Value} (i : Nat) (u : Value) (e : cs.setIfInBounds i u = cs') : Held w (W.setCell ⟨h, i, none⟩ u) B h x cs' xs xt v1 d v2 y v3 r where
 below := Below.setCell H.below (by have := H.hh; simp; omega) u
 obj := blk_put H.obj i u e
 more := blk_far H.more (by have := H.hh; simp; omega) u
 r1 := Kd.R_mono (Kd.R_far (Kd.R_types H.r1 H.obj (fun q hq => by rw [mem_one rfl hq]; decide)) (fun _ h => h.2) u) (fun _ h => h.1)
 r2 := Kd.R_mono (Kd.R_far (Kd.R_types H.r2 H.obj (fun q hq => by rw [mem_one rfl hq]; decide)) (fun _ h => h.2) u) (fun _ h => h.1)
 r3 := Kd.R_mono (Kd.R_far (Kd.R_types H.r3 H.obj (fun q hq => by rw [mem_one rfl hq]; decide)) (fun _ h => h.2) u) (fun _ h => h.1)
 lt := by have := H.lt; simpa [World.setCell] using this
 hh := H.hh
 ht := H.ht
theorem Held.putX (H : Held w W B h x cs xs xt v1 d v2 y v3 r) {xs' : Array Value} (i : Nat) (u : Value) (e : xs.setIfInBounds i u = xs') : Held w (W.setCell ⟨x, i, none⟩ u) B h x cs xs' xt v1 d v2 y v3 r where
 below := Below.setCell H.below (by have := H.hh; simp; omega) u
 obj := blk_far H.obj (by have := H.hh; simp; omega) u
 more := blk_put H.more i u e
 r1 := Kd.R_mono (Kd.R_far (Kd.R_types H.r1 H.more (fun q hq => by rw [mem_one rfl hq]; exact fun e => H.ht.1 e.symm)) (fun _ h => h.2) u) (fun _ h => h.1)
 r2 := Kd.R_mono (Kd.R_far (Kd.R_types H.r2 H.more (fun q hq => by rw [mem_one rfl hq]; exact fun e => H.ht.2.1 e.symm)) (fun _ h => h.2) u) (fun _ h => h.1)
 r3 := Kd.R_mono (Kd.R_far (Kd.R_types H.r3 H.more (fun q hq => by rw [mem_one rfl hq]; exact fun e => H.ht.2.2 e.symm)) (fun _ h => h.2) u) (fun _ h => h.1)
 lt := by have := H.lt; simpa [World.setCell] using this
 hh := H.hh
 ht := H.ht
theorem R_all {α : Type} {k : Kd α} {e base : Nat} {ok : Nat → Prop} {v : Value} {l : List α} (h : k.R e W base ok v l) : k.R e W base (fun _ => True) v l := Kd.R_mono h (fun _ _ => trivial)
theorem R_in {α : Type} {k : Kd α} {e base : Nat} {ok : Nat → Prop} {v : Value} {l : List α} (h : k.R e W base ok v l) : k.R e W base (fun k => k < W.heap.size) v l := Kd.R_mono (Kd.R_bound h) (fun _ h => h.2.2.1)
/-- One more relocation. -/
theorem Held.more3 (H : Held w W B h x cs xs xt v1 d v2 y v3 r) {v3' : Value} {r' : List S116} {ok : Nat → Prop} (hR : Kd.R k116 116 W' w.heap.size ok v3' r') (hb : Below w.heap.size w W') (hg : W.grownBy W' v3.ownBlock) : Held w W' W'.heap.size h x cs xs xt v1 d v2 y v3' r' where
 below := hb
 obj := blk_grown H.obj hg (Kd.R_ne H.r3 H.obj (by decide))
 more := blk_grown H.more hg (Kd.R_ne H.r3 H.more (fun e => H.ht.2.2 e.symm))
 r1 := R_in (Kd.R_over' H.r1 (Kd.R_typed H.r3) (fun q hq => by rw [mem_one rfl hq]; decide) hg)
 r2 := R_in (Kd.R_over' H.r2 (Kd.R_typed H.r3) (fun q hq => by rw [mem_one rfl hq]; decide) hg)
 r3 := R_in hR
 lt := Nat.le_refl _
 hh := by have := H.hh; have := H.lt; have := hg.size; omega
 ht := H.ht
theorem Held.more2 (H : Held w W B h x cs xs xt v1 d v2 y v3 r) {v2' : Value} {y' : List S68} {ok : Nat → Prop} (hR : Kd.R k68 68 W' w.heap.size ok v2' y') (hb : Below w.heap.size w W') (hg : W.grownBy W' v2.ownBlock) : Held w W' W'.heap.size h x cs xs xt v1 d v2' y' v3 r where
 below := hb
 obj := blk_grown H.obj hg (Kd.R_ne H.r2 H.obj (by decide))
 more := blk_grown H.more hg (Kd.R_ne H.r2 H.more (fun e => H.ht.2.1 e.symm))
 r1 := R_in (Kd.R_over' H.r1 (Kd.R_typed H.r2) (fun q hq => by rw [mem_one rfl hq]; decide) hg)
 r2 := R_in hR
 r3 := R_in (Kd.R_over' H.r3 (Kd.R_typed H.r2) (fun q hq => by rw [mem_one rfl hq]; decide) hg)
 lt := Nat.le_refl _
 hh := by have := H.hh; have := H.lt; have := hg.size; omega
 ht := H.ht
theorem Held.more1 (H : Held w W B h x cs xs xt v1 d v2 y v3 r) {v1' : Value} {d' : List Int} {ok : Nat → Prop} (hR : Kd.R (Kd.int .i64) 2 W' w.heap.size ok v1' d') (hb : Below w.heap.size w W') (hg : W.grownBy W' v1.ownBlock) : Held w W' W'.heap.size h x cs xs xt v1' d' v2 y v3 r where
 below := hb
 obj := blk_grown H.obj hg (Kd.R_ne H.r1 H.obj (by decide))
 more := blk_grown H.more hg (Kd.R_ne H.r1 H.more (fun e => H.ht.1 e.symm))
 r1 := R_in hR
 r2 := R_in (Kd.R_over' H.r2 (Kd.R_typed H.r1) (fun q hq => by rw [mem_one rfl hq]; decide) hg)
 r3 := R_in (Kd.R_over' H.r3 (Kd.R_typed H.r1) (fun q hq => by rw [mem_one rfl hq]; decide) hg)
 lt := Nat.le_refl _
 hh := by have := H.hh; have := H.lt; have := hg.size; omega
 ht := H.ht
end
end Go.Proofs.YtimhcpmfhebbhaaDoor.M
namespace Go.Proofs.YtimhcpmfhebbhaaDoor.M
set_option maxRecDepth 100000
open Go.RowKit Go.Proofs.YtimhcpmfhebbhaaDoorW.PrintWords Go.Proofs.YtimhcpmfhebbhaaDoor.Num Go.Proofs.YtimhcpmfhebbhaaDoor.Seven Go.Proofs.YtimhcpmfhebbhaaDoor.Word1 Go.Proofs.YtimhcpmfhebbhaaDoor.Obj
theorem cot_bs : Bs COT1 := by
 intro b hb
 simp only [COT1, List.mem_cons, List.not_mem_nil, or_false] at hb
 omega
end Go.Proofs.YtimhcpmfhebbhaaDoor.M
namespace Go.Proofs.YtimhcpmfhebbhaaDoor.M
set_option maxRecDepth 100000
open Go.RowKit Go.Proofs.YtimhcpmfhebbhaaDoorW.PrintWords Go.Proofs.YtimhcpmfhebbhaaDoor.Num Go.Proofs.YtimhcpmfhebbhaaDoor.Seven Go.Proofs.YtimhcpmfhebbhaaDoor.Word1 Go.Proofs.YtimhcpmfhebbhaaDoor.Obj
set_option linter.unusedVariables false
set_option linter.unusedSimpArgs false
theorem drop_len {s : ByteArray} {p : Nat} {a r : List Int} (h : (bytesOf s).drop p = a ++ r) (ha : 0 < a.length) : p + a.length ≤ s.size ∧ (bytesOf s).drop (p + a.length) = r := by
 have h1 := congrArg List.length h
 rw [List.length_drop, bytesOf_length, List.length_append] at h1
 refine ⟨by omega, ?_⟩
 rw [← List.drop_drop, h, List.drop_left]
theorem drop_len' {s : ByteArray} {p : Nat} {a r : List Int} (hp : p ≤ s.size) (h : (bytesOf s).drop p = a ++ r) : p + a.length ≤ s.size ∧ (bytesOf s).drop (p + a.length) = r := by
 have h1 := congrArg List.length h
 rw [List.length_drop, bytesOf_length, List.length_append] at h1
 refine ⟨by omega, ?_⟩
 rw [← List.drop_drop, h, List.drop_left]
theorem numA_put {s : ByteArray} {most : Int} {p u : Nat} {r : List Int} (h : (bytesOf s).drop p = putL u ++ r) (hm : (u : Int) ≤ most) (hu : u < 18446744073709551616) : numA s most p = some ((u : Int), p + (putL u).length) := by
 have hp := (drop_len h (putL_pos u)).1
 have e : takeR s p = ((u : Int), (p : Int) + ((putL u).length : Nat), 0) := by
  unfold takeR
  rw [if_neg (by omega), Int.toNat_natCast, h, takeL_putL u u 0 r (Nat.le_refl _) (by simpa using hu) (Or.inl rfl)]
 unfold numA
 rw [e]
 dsimp only
 rw [if_pos ⟨rfl, hm⟩, show ((p : Int) + ((putL u).length : Nat)).toNat = p + (putL u).length by omega]
theorem bytesOf_extract (s : ByteArray) (p n : Nat) : bytesOf (s.extract p (p + n)) = ((bytesOf s).drop p).take n := by
 simp [bytesOf, ByteArray.data_extract, List.map_take, List.map_drop]
theorem bytesA_put {s x : ByteArray} {p : Nat} {r : List Int} (hp : p ≤ s.size) (h : (bytesOf s).drop p = bytesOf x ++ r) : bytesA s x.size p = some (x, p + x.size) := by
 have h1 := drop_len' hp h
 rw [bytesOf_length] at h1
 unfold bytesA
 rw [if_pos h1.1]
 have e : s.extract p (p + x.size) = x := by
  apply bytesOf_inj
  rw [bytesOf_extract, h, ← bytesOf_length x, List.take_left]
 rw [e]
theorem oneA_put {s : ByteArray} {p : Nat} {b : Int} {r : List Int} (h : (bytesOf s).drop p = b :: r) : oneA s p = some (b, p + 1) := by
 have h1 := (drop_len (a := [b]) (r := r) h (by simp)).1
 simp only [List.length_singleton] at h1
 have h2 := bt_drop s p (by omega)
 rw [h] at h2
 unfold oneA
 rw [if_pos (by omega), ← (List.cons.inj h2).1]
theorem wideA_put {s : ByteArray} {p : Nat} {n : Int} {r : List Int} (h : (bytesOf s).drop p = leL n 8 ++ r) (h0 : -9223372036854775808 ≤ n) (h1 : n < 9223372036854775808) : wideA s p = some (n, p + 8) := by
 have hl := (drop_len h (by rw [leL_len]; omega)).1
 rw [leL_len] at hl
 have hb : bytesA s 8 p = some (strOfNums (leL n 8), p + 8) := by
  have hz : (strOfNums (leL n 8)).size = 8 := by rw [str_size _ (leL_bs _ _), leL_len]
  have := bytesA_put (s := s) (x := strOfNums (leL n 8)) (p := p) (r := r) (by omega) (by rw [bytesOf_str (leL_bs _ _)]; exact h)
  rw [hz] at this
  exact this
 unfold wideA
 rw [hb]
 have hn := num_bytes n 8 h0 h1 (Or.inr (Or.inr rfl))
 have e : (bytesR n 8).1 = strOfNums (leL n 8) := by
  unfold bytesR
  rw [if_pos (Or.inr (Or.inr rfl))]
  rfl
 rw [e] at hn
 simp [hn]
theorem textA_put {s x : ByteArray} {most : Int} {p : Nat} {r : List Int} (h : (bytesOf s).drop p = textL x ++ r) (hm : (x.size : Int) ≤ most) (hx : x.size < 18446744073709551616) : textA s most p = some (x, p + (textL x).length) := by
 unfold textL at *
 rw [List.append_assoc] at h
 have h1 := drop_len h (putL_pos _)
 unfold textA
 rw [numA_put h hm hx, Option.bind_some]
 dsimp only
 rw [Int.toNat_natCast, bytesA_put h1.1 h1.2, List.length_append, bytesOf_length, Nat.add_assoc]
theorem textL_pos (x : ByteArray) : 0 < (textL x).length := by
 unfold textL
 rw [List.length_append]
 have := putL_pos x.size
 omega
theorem symA_put {s : ByteArray} {y : S68} {p : Nat} {r : List Int} (h : (bytesOf s).drop p = symL y ++ r) (hn : named y.f0) (h0 : 0 ≤ y.f2) (h1 : y.f2 < 65536) (hk : y.f1 = 1 ∨ y.f1 = 2 ∨ y.f1 = 3) : symA s p = some (y, p + (symL y).length) := by
 obtain ⟨y0, y1, y2⟩ := y
 dsimp only at *
 unfold symL at *
 dsimp only at *
 rw [List.append_assoc, List.append_assoc] at h
 have a1 := drop_len h (textL_pos _)
 have a2 := drop_len a1.2 (by simp)
 simp only [List.length_singleton] at *
 have hkk : y1 % 256 = y1 := by omega
 unfold symA
 rw [textA_put h (by have := hn.2; omega) (by have := hn.2; omega), Option.bind_some]
 dsimp only
 have a3 := a1.2
 rw [List.singleton_append] at a3
 rw [oneA_put a3, Option.bind_some]
 dsimp only
 rw [numA_put a2.2 (by omega) (by omega), Option.bind_some, hkk, Int.toNat_of_nonneg h0]
 simp [Nat.add_assoc]
 omega
theorem relA_put {s : ByteArray} {y : S116} {p : Nat} {r : List Int} (h : (bytesOf s).drop p = relL y ++ r) (hn : named y.f2) (h0 : 0 ≤ y.f0) (h1 : y.f0 < 65536) (hk : y.f1 = 1 ∨ y.f1 = 2) (h2 : -9223372036854775808 ≤ y.f3) (h3 : y.f3 < 9223372036854775808) : relA s p = some (y, p + (relL y).length) := by
 obtain ⟨y0, y1, y2, y3⟩ := y
 dsimp only at *
 unfold relL at *
 dsimp only at *
 rw [List.append_assoc, List.append_assoc, List.append_assoc] at h
 have a1 := drop_len h (putL_pos _)
 have a2 := drop_len a1.2 (by simp)
 have a3 := drop_len a2.2 (textL_pos _)
 simp only [List.length_singleton] at *
 have hkk : y1 % 256 = y1 := by omega
 unfold relA
 rw [numA_put h (by omega) (by omega), Option.bind_some]
 dsimp only
 have a4 := a1.2
 rw [List.singleton_append] at a4
 rw [oneA_put a4, Option.bind_some]
 dsimp only
 rw [textA_put a2.2 (by have := hn.2; omega) (by have := hn.2; omega), Option.bind_some]
 dsimp only
 rw [wideA_put a3.2 h2 h3, Option.bind_some, hkk, Int.toNat_of_nonneg h0]
 simp [Nat.add_assoc, leL_len]
 omega
theorem manyA_put {α : Type} {s : ByteArray} {q : Nat → Option (α × Nat)} {enc : α → List Int} {ok : α → Prop} (hq : ∀ x p r, ok x → p ≤ s.size → (bytesOf s).drop p = enc x ++ r → q p = some (x, p + (enc x).length)) : ∀ (l : List α) (p : Nat) (r : List Int), (∀ x ∈ l, ok x) → p ≤ s.size → (bytesOf s).drop p = l.flatMap enc ++ r → manyA q l.length p = some (l, p + (l.flatMap enc).length) := by
 intro l
 induction l with
 | nil => intro p r _ _ _; simp [manyA]
 | cons x l ih =>
  intro p r hok hp h
  rw [List.flatMap_cons, List.append_assoc] at h
  have h1 := drop_len' hp h
  rw [List.length_cons, manyA, hq x p _ (hok x (by simp)) hp h, Option.bind_some]
  dsimp only
  rw [ih _ r (fun y hy => hok y (by simp [hy])) h1.1 h1.2]
  simp [Nat.add_assoc]
theorem listA_put {α : Type} {s : ByteArray} {q : Nat → Option (α × Nat)} {enc : α → List Int} {ok : α → Prop} (hq : ∀ x p r, ok x → p ≤ s.size → (bytesOf s).drop p = enc x ++ r → q p = some (x, p + (enc x).length)) {most : Int} {p : Nat} {l : List α} {r : List Int} (h : (bytesOf s).drop p = putL l.length ++ (l.flatMap enc ++ r)) (hl : (l.length : Int) ≤ most) (hm : most < 18446744073709551616) (hok : ∀ x ∈ l, ok x) :
 listA s most q p = some (l, p + (putL l.length).length + (l.flatMap enc).length) := by
 have h1 := drop_len h (putL_pos _)
 unfold listA
 rw [numA_put h hl (by omega), Option.bind_some]
 dsimp only
 rw [Int.toNat_natCast, manyA_put hq l _ r hok h1.1 h1.2]
theorem parse_form {s code : ByteArray} {data : List Int} {syms : List S68} {rels : List S116} {rest : List Int} (h : bytesOf s = form COT1 code data syms rels ++ rest) (hm : may code data syms rels = true) (hw : wordsOk data) :
 frontA s COT1s 0 = some (code, data, syms, (front COT1 code data syms).length) ∧ listA s 8000 (relA s) (front COT1 code data syms).length = some (rels, (form COT1 code data syms rels).length) := by
 obtain ⟨m1, m2, m3, m4, m5, m6⟩ := may_parts hm
 have h0 : (bytesOf s).drop 0 = bytesOf COT1s ++ (textL code ++ (putL data.length ++ (dataL data ++ (putL syms.length ++ (symsL syms ++ (putL rels.length ++ (relsL rels ++ rest))))))) := by
  rw [List.drop_zero, h]
  unfold form front front1 front0
  rw [show bytesOf COT1s = COT1 from bytesOf_str cot_bs]
  simp only [List.append_assoc]
 have a0 := drop_len' (Nat.zero_le _) h0
 have b0 := bytesA_put (Nat.zero_le _) h0
 rw [bytesOf_length] at a0
 rw [show COT1s.size = 4 from rfl] at a0 b0
 have a1 := drop_len' a0.1 a0.2
 have b1 := textA_put (most := 65536) a0.2 (by omega) (by omega)
 have a2 := drop_len' a1.1 a1.2
 have b2 := listA_put (q := wideA s) (enc := fun n => leL n 8) (ok := fun n => -9223372036854775808 ≤ n ∧ n < 9223372036854775808) (fun x p r hx hp h => by rw [leL_len]; exact wideA_put h hx.1 hx.2) (most := 4096) a1.2 (by omega) (by omega) hw
 have a3 := drop_len' a2.1 a2.2
 have a4 := drop_len' a3.1 a3.2
 have b4 := listA_put (q := symA s) (enc := symL) (ok := fun y => named y.f0 ∧ 0 ≤ y.f2 ∧ y.f2 < 65536 ∧ (y.f1 = 1 ∨ y.f1 = 2 ∨ y.f1 = 3)) (fun x p r hx hp h => symA_put h hx.1 hx.2.1 hx.2.2.1 hx.2.2.2) (most := 1000) a3.2 (by omega) (by omega) m5
 have a5 := drop_len' a4.1 a4.2
 have b5 := listA_put (q := relA s) (enc := relL) (ok := fun y => named y.f2 ∧ 0 ≤ y.f0 ∧ y.f0 < 65536 ∧ (y.f1 = 1 ∨ y.f1 = 2) ∧ -9223372036854775808 ≤ y.f3 ∧ y.f3 < 9223372036854775808) (fun x p r hx hp h => relA_put h hx.1 hx.2.1 hx.2.2.1 hx.2.2.2.1 hx.2.2.2.2.1 hx.2.2.2.2.2) (most := 8000) a5.2 (by omega) (by omega) m6
 have e1 : (front COT1 code data syms).length = 0 + 4 + (textL code).length + (putL data.length).length + (dataL data).length + (putL syms.length).length + (symsL syms).length := by
  unfold front front1 front0
  simp only [List.length_append, show COT1.length = 4 from rfl]
  try omega
 have e2 : (form COT1 code data syms rels).length = (front COT1 code data syms).length + (putL rels.length).length + (relsL rels).length := by
  unfold form
  simp only [List.length_append]
 refine ⟨?_, ?_⟩
 ·unfold frontA
  rw [b0, Option.bind_some]
  dsimp only
  rw [if_pos rfl, b1, Option.bind_some]
  dsimp only
  rw [b2, Option.bind_some]
  dsimp only
  rw [show (data.flatMap fun n => leL n 8) = dataL data from rfl, b4, e1]
  rfl
 ·rw [e2, e1]
  exact b5
/-- A form, with anything behind it. -/
theorem read_form {s code : ByteArray} {data : List Int} {syms : List S68} {rels : List S116} {rest : List Int} (h : bytesOf s = form COT1 code data syms rels ++ rest) (hm : may code data syms rels = true) (hw : wordsOk data) :
 readA s = if rest = [] then some (code, data, syms, rels) else none := by
 obtain ⟨h1, h2⟩ := parse_form h hm hw
 have hl := congrArg List.length h
 rw [bytesOf_length, List.length_append] at hl
 unfold readA
 rw [h1, Option.bind_some]
 dsimp only
 rw [h2, Option.bind_some]
 dsimp only
 by_cases hr : rest = []
 ·subst hr
  rw [if_pos ⟨by simpa using hl.symm, hm⟩, if_pos rfl]
 ·have : 0 < rest.length := List.length_pos_iff.mpr hr
  rw [if_neg (by omega), if_neg hr]
theorem numA_back {s : ByteArray} {most : Int} {p : Nat} {n : Int} {q : Nat} (h : numA s most p = some (n, q)) (hp : p ≤ s.size) : q ≤ s.size ∧ 0 ≤ n ∧ n ≤ most ∧ (bytesOf s).drop p = putL n.toNat ++ (bytesOf s).drop q := by
 have := numA_ok h hp
 exact ⟨this.2.1, this.2.2.1, this.2.2.2.1, this.2.2.2.2.2.1⟩
theorem bytesA_back {s x : ByteArray} {n p q : Nat} (h : bytesA s n p = some (x, q)) : q ≤ s.size ∧ x.size = n ∧ (bytesOf s).drop p = bytesOf x ++ (bytesOf s).drop q := by
 obtain ⟨rfl, h2, rfl, h4⟩ := bytesA_ok h
 refine ⟨h2, h4, ?_⟩
 rw [bytesOf_extract, ← List.drop_drop, List.take_append_drop]
theorem oneA_back {s : ByteArray} {p : Nat} {n : Int} {q : Nat} (h : oneA s p = some (n, q)) : q ≤ s.size ∧ (bytesOf s).drop p = [n % 256] ++ (bytesOf s).drop q := by
 obtain ⟨rfl, h2, h3, h4, h5⟩ := oneA_ok h
 refine ⟨h2, ?_⟩
 rw [bt_drop s p (by omega), h3, show bt s p % 256 = bt s p by rw [← h3]; omega]
 rfl
theorem leL_wrap (u : Int) : leL (wrap64 u) 8 = leL u 8 := by
 have e : wrap64 u % 18446744073709551616 = u % 18446744073709551616 := by unfold wrap64; omega
 have h1 := leL_mod' (wrap64 u) 8 (by omega)
 have h2 := leL_mod' u 8 (by omega)
 rw [← h1, ← h2, e]
theorem wideA_back {s : ByteArray} {p : Nat} {n : Int} {q : Nat} (h : wideA s p = some (n, q)) : q ≤ s.size ∧ -9223372036854775808 ≤ n ∧ n < 9223372036854775808 ∧ (bytesOf s).drop p = leL n 8 ++ (bytesOf s).drop q := by
 obtain ⟨rfl, h2, h3, h4⟩ := wideA_ok h
 have hb := bytesA_back (s := s) (x := s.extract p (p + 8)) (n := 8) (p := p) (q := p + 8) (by unfold bytesA; rw [if_pos h2])
 have e : (numR (s.extract p (p + 8))).1 = wrap64 (unleL (bytesOf (s.extract p (p + 8)))) := by
  unfold numR
  rw [if_neg (by omega), if_neg (by omega), if_pos h4]
 rw [e] at h3
 subst h3
 have hl := leL_unleL _ (bytesOf_Bs (s.extract p (p + 8)))
 rw [bytesOf_length, h4] at hl
 have hr := wrap64_range (unleL (bytesOf (s.extract p (p + 8))))
 exact ⟨h2, hr.1, hr.2, by rw [leL_wrap, hl]; exact hb.2.2⟩
theorem textA_back {s x : ByteArray} {most : Int} {p q : Nat} (h : textA s most p = some (x, q)) (hp : p ≤ s.size) : q ≤ s.size ∧ (bytesOf s).drop p = textL x ++ (bytesOf s).drop q := by
 unfold textA at h
 obtain ⟨⟨n, r⟩, h1, h2⟩ := Option.bind_eq_some_iff.1 h
 have a := numA_back h1 hp
 have b := bytesA_back h2
 refine ⟨b.1, ?_⟩
 rw [a.2.2.2, b.2.2, ← b.2.1]
 unfold textL
 rw [List.append_assoc]
theorem symA_back {s : ByteArray} {p q : Nat} {y : S68} (h : symA s p = some (y, q)) (hp : p ≤ s.size) : q ≤ s.size ∧ (bytesOf s).drop p = symL y ++ (bytesOf s).drop q := by
 unfold symA at h
 obtain ⟨⟨x1, q1⟩, h1, h⟩ := Option.bind_eq_some_iff.1 h
 obtain ⟨⟨x2, q2⟩, h2, h⟩ := Option.bind_eq_some_iff.1 h
 obtain ⟨⟨x3, q3⟩, h3, h⟩ := Option.bind_eq_some_iff.1 h
 obtain ⟨rfl, rfl⟩ := Prod.mk.inj (Option.some.inj h)
 have a1 := textA_back h1 hp
 have a2 := oneA_back h2
 have a3 := numA_back h3 a2.1
 refine ⟨a3.1, ?_⟩
 rw [a1.2, a2.2, a3.2.2.2]
 simp only [symL, List.append_assoc]
theorem relA_back {s : ByteArray} {p q : Nat} {y : S116} (h : relA s p = some (y, q)) (hp : p ≤ s.size) : q ≤ s.size ∧ (bytesOf s).drop p = relL y ++ (bytesOf s).drop q := by
 unfold relA at h
 obtain ⟨⟨x1, q1⟩, h1, h⟩ := Option.bind_eq_some_iff.1 h
 obtain ⟨⟨x2, q2⟩, h2, h⟩ := Option.bind_eq_some_iff.1 h
 obtain ⟨⟨x3, q3⟩, h3, h⟩ := Option.bind_eq_some_iff.1 h
 obtain ⟨⟨x4, q4⟩, h4, h⟩ := Option.bind_eq_some_iff.1 h
 obtain ⟨rfl, rfl⟩ := Prod.mk.inj (Option.some.inj h)
 have a1 := numA_back h1 hp
 have a2 := oneA_back h2
 have a3 := textA_back h3 a2.1
 have a4 := wideA_back h4
 refine ⟨a4.1, ?_⟩
 rw [a1.2.2.2, a2.2, a3.2, a4.2.2.2]
 simp only [relL, List.append_assoc]
theorem manyA_back {α : Type} {s : ByteArray} {q : Nat → Option (α × Nat)} {enc : α → List Int} {ok : α → Prop} (hq : ∀ x p r, p ≤ s.size → q p = some (x, r) → r ≤ s.size ∧ (bytesOf s).drop p = enc x ++ (bytesOf s).drop r ∧ ok x) : ∀ (n : Nat) (l : List α) (p r : Nat), p ≤ s.size → manyA q n p = some (l, r) → l.length = n ∧ r ≤ s.size ∧ (bytesOf s).drop p = l.flatMap enc ++ (bytesOf s).drop r ∧ ∀ x ∈ l, ok x := by
 intro n
 induction n with
 | zero =>
  intro l p r hp h
  unfold manyA at h
  obtain ⟨rfl, rfl⟩ := Prod.mk.inj (Option.some.inj h)
  exact ⟨rfl, hp, rfl, fun x hx => by cases hx⟩
 | succ n ih =>
  intro l p r hp h
  rw [manyA] at h
  obtain ⟨⟨x, p1⟩, h1, h⟩ := Option.bind_eq_some_iff.1 h
  obtain ⟨⟨l1, p2⟩, h2, h⟩ := Option.map_eq_some_iff.1 h
  obtain ⟨rfl, rfl⟩ := Prod.mk.inj h
  have a := hq x p p1 hp h1
  have b := ih l1 p1 p2 a.1 h2
  refine ⟨by simp [b.1], b.2.1, ?_, ?_⟩
  ·rw [a.2.1, b.2.2.1, List.flatMap_cons, List.append_assoc]
  ·intro z hz
   rcases List.mem_cons.1 hz with rfl | hz
   ·exact a.2.2
   ·exact b.2.2.2 z hz
theorem listA_back {α : Type} {s : ByteArray} {q : Nat → Option (α × Nat)} {enc : α → List Int} {ok : α → Prop} (hq : ∀ x p r, p ≤ s.size → q p = some (x, r) → r ≤ s.size ∧ (bytesOf s).drop p = enc x ++ (bytesOf s).drop r ∧ ok x) {most : Int} {l : List α} {p r : Nat} (hp : p ≤ s.size) (h : listA s most q p = some (l, r)) : r ≤ s.size ∧ (bytesOf s).drop p = putL l.length ++ (l.flatMap enc ++ (bytesOf s).drop r) ∧ ∀ x ∈ l, ok x := by
 unfold listA at h
 obtain ⟨⟨n, p1⟩, h1, h2⟩ := Option.bind_eq_some_iff.1 h
 have a := numA_back h1 hp
 have b := manyA_back hq _ _ _ _ a.1 h2
 refine ⟨b.2.1, ?_, b.2.2.2⟩
 rw [a.2.2.2, b.2.2.1, b.1]
theorem read_back {s code : ByteArray} {data : List Int} {syms : List S68} {rels : List S116} (h : readA s = some (code, data, syms, rels)) : bytesOf s = form COT1 code data syms rels ∧ may code data syms rels = true ∧ wordsOk data := by
 unfold readA frontA at h
 obtain ⟨⟨c, d, y, p3⟩, h1, h⟩ := Option.bind_eq_some_iff.1 h
 obtain ⟨⟨r, p4⟩, h2, h⟩ := Option.bind_eq_some_iff.1 h
 obtain ⟨⟨mk, p0⟩, h0, h1⟩ := Option.bind_eq_some_iff.1 h1
 dsimp only at h h1 h2
 split at h
 case isFalse => cases h
 next hc =>
 simp only [Option.some.injEq, Prod.mk.injEq] at h
 obtain ⟨rfl, rfl, rfl, rfl⟩ := h
 split at h1
 case isFalse => cases h1
 next hmk =>
 obtain ⟨⟨c1, p1⟩, e1, h1⟩ := Option.bind_eq_some_iff.1 h1
 obtain ⟨⟨d1, p2⟩, e2, h1⟩ := Option.bind_eq_some_iff.1 h1
 obtain ⟨⟨y1, p3'⟩, e3, h1⟩ := Option.bind_eq_some_iff.1 h1
 simp only [Option.some.injEq, Prod.mk.injEq] at h1
 obtain ⟨rfl, rfl, rfl, rfl⟩ := h1
 subst hmk
 have a0 := bytesA_back h0
 have a1 := textA_back e1 a0.1
 have a2 := listA_back (enc := fun n => leL n 8) (ok := fun n => -9223372036854775808 ≤ n ∧ n < 9223372036854775808) (fun x p r hp h => ⟨(wideA_back h).1, (wideA_back h).2.2.2, (wideA_back h).2.1, (wideA_back h).2.2.1⟩) a1.1 e2
 have a3 := listA_back (enc := symL) (ok := fun _ => True) (fun x p r hp h => ⟨(symA_back h hp).1, (symA_back h hp).2, trivial⟩) a2.1 e3
 have a4 := listA_back (enc := relL) (ok := fun _ => True) (fun x p r hp h => ⟨(relA_back h hp).1, (relA_back h hp).2, trivial⟩) a3.1 h2
 refine ⟨?_, hc.2, a2.2.2⟩
 have hd : (bytesOf s).drop p4 = [] := List.drop_eq_nil_of_le (by rw [bytesOf_length, hc.1]; exact Nat.le_refl _)
 have e0 := a0.2.2
 rw [List.drop_zero] at e0
 rw [e0, a1.2, a2.2.1, a3.2.1, a4.2.1, hd, show bytesOf COT1s = COT1 from bytesOf_str cot_bs]
 unfold form front front1 front0 dataL symsL relsL
 simp only [List.append_assoc, List.append_nil]
end Go.Proofs.YtimhcpmfhebbhaaDoor.M
