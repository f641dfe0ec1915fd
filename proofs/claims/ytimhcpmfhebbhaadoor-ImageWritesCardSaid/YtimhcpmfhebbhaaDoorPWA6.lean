/-
  Texts of the proofs of ImageWrites, cut to what the proofs reach and packed by a program of this session (wip/packs.py). Each part begins with what it says; conditions: those told there.
-/
import Derived.Test.YtimhcpmfhebbhaaDoorPWA5
namespace Go.Proofs.YtimhcpmfhebbhaaDoor.M
open Go.RowKit Go.Proofs.YtimhcpmfhebbhaaDoorW.PrintWords Go.Proofs.YtimhcpmfhebbhaaDoorW.PrintLast
set_option linter.unusedVariables false
set_option linter.unusedSimpArgs false
def word_put.l0 : Nat → List Int → Int → Option (List Int)
 | 0, _, _ => none
 | k + 1, x0, x1 => if x1 ≥ 128 then (if x0.length < 140737488355328 then (word_put.l0 k (x0 ++ [Go.bits .or .u8 ((x1) % 256) 128]) (x1 / 128)) else (none)) else (if x0.length < 140737488355328 then (some (x0 ++ [(x1) % 256])) else (none))
def word_put.f (k : Nat) (l0 : List Int) (a1 : Int) : Option (List Int) := word_put.l0 k l0 a1
set_option maxHeartbeats 8000000 in
set_option maxRecDepth 100000 in
theorem word_put.calls (k : Nat) (P0_ : Nat → Prop) (u9000_ : Value) (l0 : List Int) (a1 : Int) (r : List Int) (w0 w : World) (hB : Below w0.heap.size w0 w) (ho0 : Kd.R (Kd.int .u8) 5 w w0.heap.size P0_ u9000_ l0) (h : word_put.f k l0 a1 = some r) :
 Calls Tryd.prog 43 #[u9000_, .int .u64 a1] w fun e w' => ∃ v0_ : Value, e = .returned (v0_) ∧ Kd.R (Kd.int .u8) 5 w' w0.heap.size (fun k_ => (P0_ k_ ∨ w.heap.size ≤ k_)) v0_ r ∧ Below w0.heap.size w0 w' ∧ Kept w w' (fun k_ => P0_ k_) := by
 have HO0 := z4 (show Kd.R (Kd.int .u8) 5 w w0.heap.size (fun k_ => (P0_ k_ ∨ w.heap.size ≤ k_)) u9000_ l0 from Kd.R_mono ho0 (fun k_ hk => (.inl hk)))
 have HK := z4 (Kept.refl w (fun k_ => P0_ k_))
 have HW0 := z4 hB.size
 have HB := z4 hB
 clear hB
 have H : (word_put.l0 k l0 a1) = some r := h
 clear h
 have H' := z4 H
 clear H
 go_enter Tryd.func43, Tryd.ntmps43
 go_wp2
 go_loopg [0, 1] k (fun kq v0 v1 w' => ∃ (x0_1 : List Int) (x1_1 : Int), v1 = .int .u64 x1_1 ∧ Aside0 (word_put.l0 kq x0_1 x1_1 = some r) ∧ Aside0 (kq ≤ k) ∧ Aside0 (Kd.R (Kd.int .u8) 5 w' w0.heap.size (fun k_ => (P0_ k_ ∨ w.heap.size ≤ k_)) v0 x0_1) ∧ Aside0 (Kept w w' (fun k_ => P0_ k_)) ∧ Aside0 (Below w0.heap.size w0 w'))
 case atStart => exact ⟨(l0), (a1), (by first | rfl | (simp; done) | (simp [*]; done)), H', ⟨Nat.le_refl _⟩, ⟨by (with_reducible repeat (first | apply zM | apply zN | apply zO)); exact HO0.out⟩, ⟨by repeat (first | exact HK.out | apply Kept.alloc | apply Kept.drewN | apply Kept.drew)⟩, ⟨by repeat (first | exact HB.out | apply zA | apply zB | apply zD)⟩⟩
 case round =>
  clear H'
  try clear p2
  obtain ⟨x0_1, x1_1, rfl, HA, HK1, HO_0, HK, HB⟩ := hrel
  cases gk with
  | zero => exact absurd HA.out (by simp [word_put.l0])
  | succ k1 =>
   have H := HA.out
   clear HA
   simp only [word_put.l0] at H
   by_cases c3 : x1_1 ≥ 128
   ·rw [if_pos c3] at H
    have c3b0 : decide (128 ≤ x1_1) = true := decide_eq_true c3
    clear c3
    by_cases c4 : x0_1.length < 140737488355328
    ·rw [if_pos c4] at H
     have LMc4 := z4 c4
     clear c4
     obtain ⟨y252, hy252⟩ : ∃ y_ : List Int, y_ = (x0_1 ++ [Go.bits .or .u8 ((x1_1) % 256) 128]) := ⟨_, rfl⟩
     replace H : (word_put.l0 k1 y252 (x1_1 / 128)) = some r := by first | (rw [hy252]; with_reducible exact H) | (have H2_ := (Option.bind_some _ _).symm.trans H; rw [hy252]; with_reducible exact H2_) | (have H2_ := (Option.bind_some _ _).symm.trans H; with_reducible exact H2_) | with_reducible exact H | (rw [hy252]; exact H) | exact H
     have Ny252 := z4 hy252
     clear hy252
     have H' := z4 H
     clear H
     go_wp2_with (first | ((with_reducible refine gate_builtin (b := .append) (xs := #[.tmp 9, .tmp 13]) rfl ?_); at_builtin; refine Kd.R_append (Kd.int .u8) (w0 := w0) w0.heap.size rfl (.tmp 9) (.tmp 13) 60 5 (.int .u8 0) 1 rfl Tryd.underlying60 info5 rfl (by decide) (by omega) u0 x0_1 (Go.bits .or .u8 ((x1_1) % 256) 128) [.int .u8 (Go.bits .or .u8 ((x1_1) % 256) 128)] (fun k_ => (P0_ k_ ∨ w.heap.size ≤ k_)) (fun _ => False) rfl rfl ?aP (fun _ hk => hk.elim) ?aF ?aO ?aB ?aS ?aL ?_; (case aP => exact rfl); (case aB => exact (by repeat (first | exact HB.out | apply zA | apply zB | apply zD))); (case aF => exact (fun k_ hk => (.inr (Nat.le_trans (by first | exact HK.out.1 | exact (show Kept w _ (fun k_ => P0_ k_) from by repeat (first | exact HK.out | apply Kept.alloc | apply Kept.drewN | apply Kept.drew)).1) hk)))); (case aO => exact (by (with_reducible repeat (first | apply zM | apply zN | apply zO)); exact HO_0.out)); (case aS => exact (zL (by repeat (first | exact HB.out | apply zA | apply zB | apply zD)))); (case aL => have := LMc4.out; omega); intro v253 w5 ho hb hg hat; rw [← Ny252.out] at ho; have n0_ := z4 (hb); have n1_ := z4 (Kept.of_grown (S := (fun k_ => P0_ k_)) hg (by repeat (first | exact HK.out | apply Kept.alloc | apply Kept.drewN | apply Kept.drew)) (fun k_ e_ => (HO_0.out.1 k_ e_))); have n2_ := z4 (ho); clear HB; clear HK; clear HO_0; have HB := n0_; have HK := n1_; have HO254 := n2_; clear n0_ n1_ n2_; clear ho hb hg hat))
     go_roundg k1
     case measure => have := HK1.out; omega
     case rel => exact ⟨(y252), (x1_1 / 128), (by first | rfl | (simp; done) | (simp [*]; done)), H', ⟨by have := HK1.out; omega⟩, ⟨by (with_reducible repeat (first | apply zM | apply zN | apply zO)); exact HO254.out⟩, ⟨by repeat (first | exact HK.out | apply Kept.alloc | apply Kept.drewN | apply Kept.drew)⟩, ⟨by repeat (first | exact HB.out | apply zA | apply zB | apply zD)⟩⟩
    ·rw [if_neg c4] at H
     exact absurd H (by simp)
   ·rw [if_neg c3] at H
    have c3b0 : decide (128 ≤ x1_1) = false := decide_eq_false c3
    clear c3
    by_cases c6 : x0_1.length < 140737488355328
    ·rw [if_pos c6] at H
     have LMc6 := z4 c6
     clear c6
     obtain ⟨y255, hy255⟩ : ∃ y_ : List Int, y_ = (x0_1 ++ [(x1_1) % 256]) := ⟨_, rfl⟩
     replace H : (some y255) = some r := by first | (rw [hy255]; with_reducible exact H) | (have H2_ := (Option.bind_some _ _).symm.trans H; rw [hy255]; with_reducible exact H2_) | (have H2_ := (Option.bind_some _ _).symm.trans H; with_reducible exact H2_) | with_reducible exact H | (rw [hy255]; exact H) | exact H
     have Ny255 := z4 hy255
     clear hy255
     obtain rfl := Option.some.inj H
     go_wp2_with (first | ((with_reducible refine gate_builtin (b := .append) (xs := #[.tmp 15, .tmp 18]) rfl ?_); at_builtin; refine Kd.R_append (Kd.int .u8) (w0 := w0) w0.heap.size rfl (.tmp 15) (.tmp 18) 60 5 (.int .u8 0) 1 rfl Tryd.underlying60 info5 rfl (by decide) (by omega) u0 x0_1 ((x1_1) % 256) [.int .u8 ((x1_1) % 256)] (fun k_ => (P0_ k_ ∨ w.heap.size ≤ k_)) (fun _ => False) rfl rfl ?aP (fun _ hk => hk.elim) ?aF ?aO ?aB ?aS ?aL ?_; (case aP => exact rfl); (case aB => exact (by repeat (first | exact HB.out | apply zA | apply zB | apply zD))); (case aF => exact (fun k_ hk => (.inr (Nat.le_trans (by first | exact HK.out.1 | exact (show Kept w _ (fun k_ => P0_ k_) from by repeat (first | exact HK.out | apply Kept.alloc | apply Kept.drewN | apply Kept.drew)).1) hk)))); (case aO => exact (by (with_reducible repeat (first | apply zM | apply zN | apply zO)); exact HO_0.out)); (case aS => exact (zL (by repeat (first | exact HB.out | apply zA | apply zB | apply zD)))); (case aL => have := LMc6.out; omega); intro v256 w7 ho hb hg hat; rw [← Ny255.out] at ho; have n0_ := z4 (hb); have n1_ := z4 (Kept.of_grown (S := (fun k_ => P0_ k_)) hg (by repeat (first | exact HK.out | apply Kept.alloc | apply Kept.drewN | apply Kept.drew)) (fun k_ e_ => (HO_0.out.1 k_ e_))); have n2_ := z4 (ho); clear HB; clear HK; clear HO_0; have HB := n0_; have HK := n1_; have HO257 := n2_; clear n0_ n1_ n2_; clear ho hb hg hat))
     go_ret
     exact ⟨_, by first | rfl | (simp [errW_none, errW_some] <;> rfl) | (simp [*, errW_none, errW_some] <;> rfl), by (with_reducible repeat (first | apply zM | apply zN | apply zO)); exact HO257.out, by repeat (first | exact HB.out | apply zA | apply zB | apply zD), by repeat (first | exact HK.out | apply Kept.alloc | apply Kept.drewN | apply Kept.drew)⟩
    ·rw [if_neg c6] at H
     exact absurd H (by simp)
def word_Put.f (k : Nat) (a0 : Int) : Option (ByteArray) := (word_put.f k ([] : List Int) a0).bind fun t258 => (some (strOfNums t258))
set_option maxHeartbeats 8000000 in
set_option maxRecDepth 100000 in
theorem word_Put.calls (k : Nat) (a0 : Int) (r : ByteArray) (w : World) (h : word_Put.f k a0 = some r) :
 Calls Tryd.prog 23 #[.int .u64 a0] w fun e w' => e = .returned (.string r) ∧ Below w.heap.size w w' := by
 have HB := z4 (Below.refl w.heap.size w)
 have H : ((word_put.f k ([] : List Int) a0).bind fun t258 => (some (strOfNums t258))) = some r := h
 clear h
 replace H := z8 H
 obtain ⟨t258, A20, H⟩ := H
 replace H : (some (strOfNums t258)) = some r := H
 have A2 := z4 A20
 clear A20
 obtain rfl := Option.some.inj H
 go_enter Tryd.func23, Tryd.ntmps23
 go_wp2_with (first | ((with_reducible refine gate_callee (f := 43) rfl ?_); refine goesL_ (some 4) rfl rfl Tryd.func43 (by kernel_rfl) rfl #[.slice none 0 0, .int .u64 a0] rfl (by (try simp only [z9, List.map_cons, List.map_nil]); first | done | rfl | (simp only [z9a, z9b]; rfl)) ?_; (refine (word_put.calls k (fun k_ => some k_ = (.slice none 0 0 : Value).ownBlock) (.slice none 0 0) ([] : List Int) a0 t258 w _ ?side1 ?side2 A2.out).mono ?_); (case side1 => repeat (first | exact HB.out | apply zA | apply zB | apply zD)); (case side2 => exact Kd.R_nil _ _ _ _ _); rintro e w3 ⟨v259, rfl, ho0, hb, hkp⟩; refine ⟨_, rfl, ?_⟩; have n0_ := z4 (Kd.R_mono (ok' := fun k_ => True) ho0 (fun k_ hk_ => trivial)); have n1_ := z4 (hb); clear HB; have HO260 := n0_; have HB := n1_; clear n0_ n1_; (try clear hb); (try clear hkp); (try clear ho0); have hcv4 := own_string (P := Tryd.prog) Tryd.underlying60 Tryd.underlying5 Tryd.underlying9 (Kd.own_of_R HO260.out)))
 go_ret
 exact ⟨by first | rfl | (simp [errW_none, errW_some] <;> rfl) | (simp [*, errW_none, errW_some] <;> rfl), by repeat (first | exact HB.out | apply zA | apply zB | apply zD)⟩
mutual
def word_Bytes.j0 : Nat → Int → Int → Option (ByteArray × Int)
 | 0, _, _ => none
 | k + 1, x0, x1 => if 0 ≤ x1 then (if (x1 : Int).toNat ≤ 281474976710656 then ((some (List.replicate (x1 : Int).toNat 0 : List Int)).bind fun y261 => (word_Bytes.l0 k x0 y261 (y261.length : Int) 0)) else (none)) else (none)
def word_Bytes.l0 : Nat → Int → List Int → Int → Int → Option (ByteArray × Int)
 | 0, _, _, _, _ => none
 | k + 1, x0, x6, x28, x29 => if x29 < x28 then (if 0 ≤ (wrap64 (8 * x29)) then (if 0 ≤ x29 then (if x29 < (x6.length : Int) then (word_Bytes.l0 k x0 (x6.set (x29 : Int).toNat ((shr .i64 x0 (wrap64 (8 * x29))) % 256)) x28 (wrap64 (x29 + 1))) else (none)) else (none)) else (none)) else (some (strOfNums x6, 0))
end
def word_Bytes.f (k : Nat) (a0 : Int) (a1 : Int) : Option (ByteArray × Int) := if a1 = 1 then (if a0 = (wrap64 (IntKind.i8.wrap (a0))) then (word_Bytes.j0 k a0 a1) else (some ((⟨#[]⟩ : ByteArray), 7))) else (if a1 = 4 then (if a0 = (wrap64 (wrap32 (a0))) then (word_Bytes.j0 k a0 a1) else (some ((⟨#[]⟩ : ByteArray), 7))) else (if a1 = 8 then (word_Bytes.j0 k a0 a1) else (some ((⟨#[]⟩ : ByteArray), 1))))
set_option maxHeartbeats 8000000 in
set_option maxRecDepth 100000 in
theorem word_Bytes.calls (k : Nat) (a0 : Int) (a1 : Int) (r1 : ByteArray) (r2 : Int) (w : World) (h : word_Bytes.f k a0 a1 = some (r1, r2)) :
 Calls Tryd.prog 26 #[.int .i64 a0, .int .i64 a1] w fun e w' => e = .returned (.tuple #[.string r1, .int .i64 r2]) ∧ Below w.heap.size w w' := by
 have HB := z4 (Below.refl w.heap.size w)
 have H : (if a1 = 1 then (if a0 = (wrap64 (IntKind.i8.wrap (a0))) then (word_Bytes.j0 k a0 a1) else (some ((⟨#[]⟩ : ByteArray), 7))) else (if a1 = 4 then (if a0 = (wrap64 (wrap32 (a0))) then (word_Bytes.j0 k a0 a1) else (some ((⟨#[]⟩ : ByteArray), 7))) else (if a1 = 8 then (word_Bytes.j0 k a0 a1) else (some ((⟨#[]⟩ : ByteArray), 1))))) = some (r1, r2) := h
 clear h
 have HC3 := z4 H
 clear H
 go_enter Tryd.func26, Tryd.ntmps26
 go_upto_block 0 with (fail)
 go_cut [] (fun wc => ∃ (kq : Nat), Aside0 (word_Bytes.j0 kq a0 a1 = some (r1, r2)) ∧ Aside0 (kq ≤ k) ∧ Aside0 (Below w.heap.size w wc))
 case first =>
  have H := HC3.out
  clear HC3
  by_cases c4 : a1 = 1
  ·rw [if_pos c4] at H
   have c4b0 : (a1 == 1) = true := z5 c4
   have c4b1 : (a1 != 1) = false := z6 c4
   clear c4
   (first | rw [c4b0] | (simp only [i64_w, i32_w]; rw [c4b0]) | skip)
   by_cases c5 : a0 = (wrap64 (IntKind.i8.wrap (a0)))
   ·rw [if_pos c5] at H
    have c5b0 : (a0 == (wrap64 (IntKind.i8.wrap (a0)))) = true := z5 c5
    have c5b1 : (a0 != (wrap64 (IntKind.i8.wrap (a0)))) = false := z6 c5
    clear c5
    have H' := z4 H
    clear H
    go_wp2
    go_meet
    case rel => exact ⟨_, H', ⟨by first | omega | exact Nat.le_refl _⟩, ⟨by repeat (first | exact HB.out | apply zA | apply zB | apply zD)⟩⟩
   ·rw [if_neg c5] at H
    have c5b0 : (a0 == (wrap64 (IntKind.i8.wrap (a0)))) = false := z7 c5
    have c5b1 : (a0 != (wrap64 (IntKind.i8.wrap (a0)))) = true := bne_iff_ne.mpr c5
    simp only [Option.some.injEq, Prod.mk.injEq] at H
    obtain ⟨rfl, rfl⟩ := H
    go_wp2
    go_ret2
    exact ⟨by first | rfl | (simp [errW_none, errW_some] <;> rfl) | (simp [*, errW_none, errW_some] <;> rfl), by repeat (first | exact HB.out | apply zA | apply zB | apply zD)⟩
  ·rw [if_neg c4] at H
   have c4b0 : (a1 == 1) = false := z7 c4
   have c4b1 : (a1 != 1) = true := bne_iff_ne.mpr c4
   (first | rw [c4b0] | (simp only [i64_w, i32_w]; rw [c4b0]) | skip)
   by_cases c6 : a1 = 4
   ·rw [if_pos c6] at H
    have c6b0 : (a1 == 4) = true := z5 c6
    have c6b1 : (a1 != 4) = false := z6 c6
    clear c6
    by_cases c7 : a0 = (wrap64 (wrap32 (a0)))
    ·rw [if_pos c7] at H
     have c7b0 : (a0 == (wrap64 (wrap32 (a0)))) = true := z5 c7
     have c7b1 : (a0 != (wrap64 (wrap32 (a0)))) = false := z6 c7
     clear c7
     have H' := z4 H
     clear H
     go_wp2
     go_meet
     case rel => exact ⟨_, H', ⟨by first | omega | exact Nat.le_refl _⟩, ⟨by repeat (first | exact HB.out | apply zA | apply zB | apply zD)⟩⟩
    ·rw [if_neg c7] at H
     have c7b0 : (a0 == (wrap64 (wrap32 (a0)))) = false := z7 c7
     have c7b1 : (a0 != (wrap64 (wrap32 (a0)))) = true := bne_iff_ne.mpr c7
     simp only [Option.some.injEq, Prod.mk.injEq] at H
     obtain ⟨rfl, rfl⟩ := H
     go_wp2
     go_ret2
     exact ⟨by first | rfl | (simp [errW_none, errW_some] <;> rfl) | (simp [*, errW_none, errW_some] <;> rfl), by repeat (first | exact HB.out | apply zA | apply zB | apply zD)⟩
   ·rw [if_neg c6] at H
    have c6b0 : (a1 == 4) = false := z7 c6
    have c6b1 : (a1 != 4) = true := bne_iff_ne.mpr c6
    by_cases c8 : a1 = 8
    ·rw [if_pos c8] at H
     have c8b0 : (a1 == 8) = true := z5 c8
     have c8b1 : (a1 != 8) = false := z6 c8
     clear c8
     have H' := z4 H
     clear H
     go_wp2
     go_meet
     case rel => exact ⟨_, H', ⟨by first | omega | exact Nat.le_refl _⟩, ⟨by repeat (first | exact HB.out | apply zA | apply zB | apply zD)⟩⟩
    ·rw [if_neg c8] at H
     have c8b0 : (a1 == 8) = false := z7 c8
     have c8b1 : (a1 != 8) = true := bne_iff_ne.mpr c8
     simp only [Option.some.injEq, Prod.mk.injEq] at H
     obtain ⟨rfl, rfl⟩ := H
     go_wp2
     go_ret2
     exact ⟨by first | rfl | (simp [errW_none, errW_some] <;> rfl) | (simp [*, errW_none, errW_some] <;> rfl), by repeat (first | exact HB.out | apply zA | apply zB | apply zD)⟩
 case rest =>
  clear HC3
  try clear c2
  try clear p2
  try clear p3
  try clear c4
  try clear c4b0
  try clear c4b1
  try clear c5
  try clear c5b0
  try clear c5b1
  try clear c6
  try clear c6b0
  try clear c6b1
  try clear p6
  try clear c7
  try clear c7b0
  try clear c7b1
  try clear c8
  try clear c8b0
  try clear c8b1
  obtain ⟨kq, HA, HJ2, HB⟩ := hcut
  cases kq with
  | zero => exact absurd HA.out (by simp [word_Bytes.j0])
  | succ kj2 =>
   have H := HA.out
   clear HA
   simp only [word_Bytes.j0] at H
   by_cases c9 : 0 ≤ a1
   ·rw [if_pos c9] at H
    have c9b0 := eq_true c9
    have c9b1 : decide (0 ≤ a1) = true := decide_eq_true c9
    clear c9
    by_cases c10 : (a1 : Int).toNat ≤ 281474976710656
    ·rw [if_pos c10] at H
     have c10b0 := eq_true c10
     have c10b1 : decide ((a1 : Int).toNat ≤ 281474976710656) = true := decide_eq_true c10
     clear c10
     obtain ⟨y261, hy261⟩ : ∃ y_ : List Int, y_ = (List.replicate (a1 : Int).toNat 0) := ⟨_, rfl⟩
     replace H : (word_Bytes.l0 kj2 a0 y261 (y261.length : Int) 0) = some (r1, r2) := by first | (rw [hy261]; with_reducible exact H) | (have H2_ := (Option.bind_some _ _).symm.trans H; rw [hy261]; with_reducible exact H2_) | (have H2_ := (Option.bind_some _ _).symm.trans H; with_reducible exact H2_) | with_reducible exact H | (rw [hy261]; exact H) | exact H
     have Ny261 := z4 hy261
     clear hy261
     have H' := z4 H
     clear H
     go_wp2_with (first | ((with_reducible refine gate_dst (N := 26) rfl ?_); refine Kd.R_make (Kd.int .u8) _ 5 rfl (N := 26) rfl 60 _ _ rfl a1 rfl rfl Tryd.underlying60 (.int .u8 0) 1 info5 rfl (by decide) (by omega) 0 (ok := fun _ => True) (okp := fun _ => True) rfl (fun _ hk => hk) trivial (of_decide_eq_true (by first | (with_reducible assumption) | assumption)) (Nat.le_trans (Nat.mul_le_mul_right _ (of_decide_eq_true (by first | (with_reducible assumption) | assumption) : a1.toNat ≤ 281474976710656)) (by omega)) (Below.refl _ _) (Nat.le_refl _) ?_; intro v262 w11 ho12 hb hg_ hnew_; clear hg_ hnew_; (first | rw [← Ny261.out] at ho12 | (simp only [Int.reduceToNat] at ho12; rw [← Ny261.out] at ho12)); have n0_ := z4 (zU ho12 (zL (by repeat (first | exact HB.out | apply zA | apply zB | apply zD)))); have n1_ := z4 (zK (by repeat (first | exact HB.out | apply zA | apply zB | apply zD)) hb); clear HB; have HO263 := n0_; have HB := n1_; clear n0_ n1_; clear hb ho12; obtain ⟨Ao13, co13, eo13⟩ := Kd.R_slice HO263.out; subst eo13))
     go_loopg [29] kj2 (fun kq v29 w' => ∃ (x6_2 : List Int) (x29_2 : Int), v29 = .int .i64 x29_2 ∧ Aside0 (word_Bytes.l0 kq a0 x6_2 (y261.length : Int) x29_2 = some (r1, r2)) ∧ Aside0 (kq ≤ kj2) ∧ Aside0 (Kd.R (Kd.int .u8) 5 w' w.heap.size (fun _ => True) (.slice Ao13 y261.length co13) x6_2) ∧ Aside0 (Below w.heap.size w w'))
     case atStart => exact ⟨(y261), (0), (by first | rfl | (simp; done) | (simp [*]; done)), H', ⟨Nat.le_refl _⟩, ⟨by (with_reducible repeat (first | apply zM | apply zN | apply zO)); exact HO263.out⟩, ⟨by repeat (first | exact HB.out | apply zA | apply zB | apply zD)⟩⟩
     case round =>
      clear H'
      try clear c1
      try clear c2
      try clear p2
      try clear p3
      try clear c4
      try clear c4b0
      try clear c4b1
      try clear c5
      try clear c5b0
      try clear c5b1
      try clear c6
      try clear c6b0
      try clear c6b1
      try clear p6
      try clear c7
      try clear c7b0
      try clear c7b1
      try clear c8
      try clear c8b0
      try clear c8b1
      try clear c9
      try clear c9b0
      try clear c9b1
      try clear c10
      try clear c10b0
      try clear c10b1
      try clear p2
      try clear p3
      try clear p6
      obtain ⟨x6_2, x29_2, rfl, HA, HK2, HO_6, HB⟩ := hrel
      have hl6_2 := (zT HO_6.out).1
      rw [hl6_2] at HO_6
      (try simp only [hl6_2])
      cases gk with
      | zero => exact absurd HA.out (by simp [word_Bytes.l0])
      | succ k2 =>
       have H := HA.out
       clear HA
       simp only [word_Bytes.l0] at H
       by_cases c14 : x29_2 < (y261.length : Int)
       ·rw [if_pos c14] at H
        have c14b0 : decide (x29_2 < (y261.length : Int)) = true := decide_eq_true c14
        (try simp only [hl6_2] at c14b0)
        clear c14
        obtain ⟨ji15, hji15⟩ : ∃ j_ : Int, (wrap64 (8 * x29_2)) = j_ := ⟨_, rfl⟩
        replace H : (if 0 ≤ (ji15) then (if 0 ≤ x29_2 then (if x29_2 < (x6_2.length : Int) then (word_Bytes.l0 k2 a0 (x6_2.set (x29_2 : Int).toNat ((shr .i64 a0 (ji15)) % 256)) (y261.length : Int) (wrap64 (x29_2 + 1))) else (none)) else (none)) else (none)) = some (r1, r2) := by first | (rw [hji15] at H; exact H) | (simp only [hji15] at H ⊢; exact H)
        have hji15w : (IntKind.i64.wrap (8 * x29_2)) = ji15 := (i64_w _).trans hji15
        by_cases c16 : 0 ≤ (ji15)
        ·rw [if_pos c16] at H
         have c16b0 := eq_true c16
         have c16b1 : decide (0 ≤ (ji15)) = true := decide_eq_true c16
         clear c16
         obtain ⟨ji17, hji17⟩ : ∃ j_ : Int, (shr .i64 a0 (ji15)) = j_ := ⟨_, rfl⟩
         replace H : (if 0 ≤ x29_2 then (if x29_2 < (x6_2.length : Int) then (word_Bytes.l0 k2 a0 (x6_2.set (x29_2 : Int).toNat ((ji17) % 256)) (y261.length : Int) (wrap64 (x29_2 + 1))) else (none)) else (none)) = some (r1, r2) := by first | (rw [hji17] at H; exact H) | (simp only [hji17] at H ⊢; exact H)
         have hji17_ : (a0 / 2 ^ min (ji15).toNat 64) = ji17 := hji17
         have hji17z : (ji15) ≤ 64 → (a0 / 2 ^ (ji15).toNat) = ji17 := shr_small hji17
         by_cases c18 : 0 ≤ x29_2
         ·rw [if_pos c18] at H
          have c18b0 : decide (0 ≤ x29_2) = true := decide_eq_true c18
          clear c18
          by_cases c19 : x29_2 < (x6_2.length : Int)
          ·rw [if_pos c19] at H
           have c19b0 : decide (x29_2 < (x6_2.length : Int)) = true := decide_eq_true c19
           (try simp only [hl6_2] at c19b0)
           clear c19
           obtain ⟨y264, hy264⟩ : ∃ y_ : List Int, y_ = (x6_2.set (x29_2 : Int).toNat ((ji17) % 256)) := ⟨_, rfl⟩
           replace H : (word_Bytes.l0 k2 a0 y264 (y261.length : Int) (wrap64 (x29_2 + 1))) = some (r1, r2) := by first | (rw [hy264]; with_reducible exact H) | (have H2_ := (Option.bind_some _ _).symm.trans H; rw [hy264]; with_reducible exact H2_) | (have H2_ := (Option.bind_some _ _).symm.trans H; with_reducible exact H2_) | with_reducible exact H | (rw [hy264]; exact H) | exact H
           have Ny264 := z4 hy264
           clear hy264
           have H' := z4 H
           clear H
           have p20 : 0 ≤ (x29_2 : Int) := of_decide_eq_true (by first | (with_reducible assumption) | assumption)
           have q20 : (x29_2 : Int) < ((x6_2.length : Int) : Int) := of_decide_eq_true (by first | (with_reducible assumption) | assumption)
           obtain ⟨go20, co20, eo20, gb20, gl20, cl20, HG20⟩ := Kd.R_form HO_6.out (by omega)
           (first | cases eo20 | (injection eo20 with ea_ en_ ec_; (first | subst ea_ | (injection ea_ with ea_; subst ea_)); subst ec_; clear en_))
           have GB20 := z4 gb20
           have GG20 := z4 HG20
           clear gb20 gl20 HG20
           obtain ⟨hx20_0, hf20_0⟩ := Kd.R_celln 0 HO_6.out (x29_2 : Int) p20 q20
           replace p20 := eq_true p20
           replace q20 := eq_true q20
           have HP21 := Kd.R_putg HO_6.out (x29_2 : Int) ((ji17) % 256)
           go_wp2_with (first | ((with_reducible refine gate_store (t := 5) (p := 39) rfl ?_); refine store_event (t := 5) (p := 39) (v := ?vo_w22) (w1 := (wr.setCell ⟨go20, (x29_2 : Int).toNat, none⟩ (.int .u8 ((ji17) % 256)))) ?hg ?ho ?hn ?hr ?_; (case ho => rfl); (case hg => rfl); (case hn => rfl); (case hr => first | (go_simp; done) | (go_simp; rfl)); intro w22 hw; have hg : wr.grownBy w22 (some go20) := (by rw [hw]; exact HP21.2); have hp_ : Kd.R (Kd.int .u8) 5 w22 w.heap.size (fun _ => True) (.slice (some ⟨go20, 0, none⟩) x6_2.length co13) y264 := (by rw [hw, Ny264.out]; exact HP21.1); clear HP21; have n0_ := z4 (hp_); have n1_ := z4 ((by rw [hw]; exact zJ (HB.out) GB20.out : Below w.heap.size w w22)); clear HO_6; clear HB; have HO_6 := n0_; have HB := n1_; clear n0_ n1_; clear hg hw hp_))
           (try simp only [← hl6_2])
           go_roundg k2
           case measure => have := HJ2.out; have := HK2.out; omega
           case rel => exact ⟨(y264), (wrap64 (x29_2 + 1)), (by first | rfl | (simp; done) | (simp [*]; done)), H', ⟨by have := HJ2.out; have := HK2.out; omega⟩, ⟨by (try simp only [hl6_2]); (with_reducible repeat (first | apply zM | apply zN | apply zO)); exact HO_6.out⟩, ⟨by repeat (first | exact HB.out | apply zA | apply zB | apply zD)⟩⟩
          ·rw [if_neg c19] at H
           exact absurd H (by simp)
         ·rw [if_neg c18] at H
          exact absurd H (by simp)
        ·rw [if_neg c16] at H
         exact absurd H (by simp)
       ·rw [if_neg c14] at H
        have c14b0 : decide (x29_2 < (y261.length : Int)) = false := decide_eq_false c14
        (try simp only [hl6_2] at c14b0)
        clear c14
        simp only [Option.some.injEq, Prod.mk.injEq] at H
        obtain ⟨rfl, rfl⟩ := H
        have hcv23 := own_string (P := Tryd.prog) Tryd.underlying60 Tryd.underlying5 Tryd.underlying9 (Kd.own_of_R HO_6.out)
        go_wp2
        go_ret2
        exact ⟨by first | rfl | (simp [errW_none, errW_some] <;> rfl) | (simp [*, errW_none, errW_some] <;> rfl), by repeat (first | exact HB.out | apply zA | apply zB | apply zD)⟩
    ·rw [if_neg c10] at H
     exact absurd H (by simp)
   ·rw [if_neg c9] at H
    exact absurd H (by simp)
end Go.Proofs.YtimhcpmfhebbhaaDoor.M
namespace Go.Proofs.YtimhcpmfhebbhaaDoor.M
open Go.RowKit Go.Proofs.YtimhcpmfhebbhaaDoorW.PrintWords Go.Proofs.YtimhcpmfhebbhaaDoorW.PrintLast
set_option linter.unusedVariables false
set_option linter.unusedSimpArgs false
mutual
def word_Take.j0 : Nat → ByteArray → Int → Bool → Option (Int × Int × Int)
 | 0, _, _, _ => none
 | k + 1, x0, x1, x17 => if x17 = true then (some (0, 0, 1)) else (word_Take.l0 k x0 x1 0 0)
def word_Take.l0 : Nat → ByteArray → Int → Int → Int → Option (Int × Int × Int)
 | 0, _, _, _, _ => none
 | k + 1, x0, x1, x7, x8 => if (wrap64 (x1 + x8)) < (x0.size : Int) then (if 0 ≤ (wrap64 (x1 + x8)) then (if x8 > 9 then (word_Take.j2 k x0 x1 x7 x8 (bt x0 (wrap64 (x1 + x8))) true) else (if x8 = 9 then (if (bt x0 (wrap64 (x1 + x8))) > 1 then (word_Take.j2 k x0 x1 x7 x8 (bt x0 (wrap64 (x1 + x8))) true) else (if x8 > 0 then (word_Take.j2 k x0 x1 x7 x8 (bt x0 (wrap64 (x1 + x8))) ((bt x0 (wrap64 (x1 + x8))) == 0)) else (word_Take.j2 k x0 x1 x7 x8 (bt x0 (wrap64 (x1 + x8))) false))) else (if x8 > 0 then (word_Take.j2 k x0 x1 x7 x8 (bt x0 (wrap64 (x1 + x8))) ((bt x0 (wrap64 (x1 + x8))) == 0)) else (word_Take.j2 k x0 x1 x7 x8 (bt x0 (wrap64 (x1 + x8))) false)))) else (none)) else (some (0, 0, 9))
def word_Take.j2 : Nat → ByteArray → Int → Int → Int → Int → Bool → Option (Int × Int × Int)
 | 0, _, _, _, _, _, _ => none
 | k + 1, x0, x1, x7, x8, x9, x48 => if x48 = true then (some (0, 0, 9)) else (if 0 ≤ (wrap64 (7 * x8)) then (if x9 < 128 then (some (Go.bits .or .u64 x7 (shl .u64 (IntKind.u64.wrap (Go.bits .and .u8 x9 127)) (wrap64 (7 * x8))), wrap64 ((wrap64 (x1 + x8)) + 1), 0)) else (word_Take.l0 k x0 x1 (Go.bits .or .u64 x7 (shl .u64 (IntKind.u64.wrap (Go.bits .and .u8 x9 127)) (wrap64 (7 * x8)))) (wrap64 (x8 + 1)))) else (none))
end
def word_Take.f (k : Nat) (a0 : ByteArray) (a1 : Int) : Option (Int × Int × Int) := if a1 < 0 then (word_Take.j0 k a0 a1 true) else (word_Take.j0 k a0 a1 (decide (a1 > (a0.size : Int))))
set_option maxHeartbeats 8000000 in
set_option maxRecDepth 100000 in
theorem word_Take.calls (k : Nat) (a0 : ByteArray) (a1 : Int) (r1 : Int) (r2 : Int) (r3 : Int) (w : World) (h : word_Take.f k a0 a1 = some (r1, r2, r3)) :
 Calls Tryd.prog 78 #[.string a0, .int .i64 a1] w fun e w' => e = .returned (.tuple #[.int .u64 r1, .int .i64 r2, .int .i64 r3]) ∧ Drawn0 w w' := by
 have H : (if a1 < 0 then (word_Take.j0 k a0 a1 true) else (word_Take.j0 k a0 a1 (decide (a1 > (a0.size : Int))))) = some (r1, r2, r3) := h
 clear h
 have HC3 := z4 H
 clear H
 go_enter Tryd.func78, Tryd.ntmps78
 go_upto_region 1 with (fail)
 go_cut [17] (fun v17 wc => ∃ (kq : Nat) (x17_2 : Bool), v17 = .bool x17_2 ∧ Aside0 (word_Take.j0 kq a0 a1 x17_2 = some (r1, r2, r3)) ∧ Aside0 (kq ≤ k) ∧ Drawn0 w wc)
 case first =>
  have H := HC3.out
  clear HC3
  by_cases c4 : a1 < 0
  ·rw [if_pos c4] at H
   have c4b0 : decide (a1 < 0) = true := decide_eq_true c4
   clear c4
   (first | rw [c4b0] | (simp only [i64_w, i32_w]; rw [c4b0]) | skip)
   have H' := z4 H
   clear H
   go_wp2
   go_meet
   case rel => exact ⟨_, (true), (by first | rfl | (simp; done) | (simp [*]; done)), H', ⟨by first | omega | exact Nat.le_refl _⟩, by repeat (first | exact Drawn0.refl _ | apply Drawn0.step)⟩
  ·rw [if_neg c4] at H
   have c4b0 : decide (a1 < 0) = false := decide_eq_false c4
   clear c4
   (first | rw [c4b0] | (simp only [i64_w, i32_w]; rw [c4b0]) | skip)
   have H' := z4 H
   clear H
   go_wp2
   go_meet
   case rel => exact ⟨_, (decide (a1 > (a0.size : Int))), (by first | rfl | (simp; done) | (simp [*]; done)), H', ⟨by first | omega | exact Nat.le_refl _⟩, by repeat (first | exact Drawn0.refl _ | apply Drawn0.step)⟩
 case rest =>
  clear HC3
  try clear p2
  try clear c4
  try clear c4b0
  obtain ⟨kq, x17_2, rfl, HA, HJ2, ⟨mc2, rfl⟩⟩ := hcut
  cases kq with
  | zero => exact absurd HA.out (by simp [word_Take.j0])
  | succ kj2 =>
   have H := HA.out
   clear HA
   simp only [word_Take.j0] at H
   by_cases c5 : x17_2 = true
   ·subst c5
    have H1 : (some (0, 0, 1)) = some (r1, r2, r3) := by rw [if_pos rfl] at H; exact H
    clear H
    have H := H1
    clear H1
    simp only [Option.some.injEq, Prod.mk.injEq] at H
    obtain ⟨rfl, rfl, rfl⟩ := H
    go_wp2
    go_ret3
    exact ⟨by first | rfl | (simp; done) | (simp [*]; done), by repeat (first | exact Drawn0.refl _ | apply Drawn0.step)⟩
   ·replace c5 := Bool.eq_false_iff.mpr c5
    subst c5
    have H1 : (word_Take.l0 kj2 a0 a1 0 0) = some (r1, r2, r3) := by rw [if_neg (show ¬ (false = true) by decide)] at H; exact H
    clear H
    have H := H1
    clear H1
    have H' := z4 H
    clear H
    go_wp2
    go_loopg [7, 8] kj2 (fun kq v7 v8 w' => ∃ (x7_2 : Int) (x8_2 : Int), v7 = .int .u64 x7_2 ∧ v8 = .int .i64 x8_2 ∧ Aside0 (word_Take.l0 kq a0 a1 x7_2 x8_2 = some (r1, r2, r3)) ∧ Aside0 (kq ≤ kj2) ∧ Drawn0 w w')
    case atStart => exact ⟨(0), (0), (by first | rfl | (simp; done) | (simp [*]; done)), (by first | rfl | (simp; done) | (simp [*]; done)), H', ⟨Nat.le_refl _⟩, by repeat (first | exact Drawn0.refl _ | apply Drawn0.step)⟩
    case round =>
     clear H'
     try clear c2
     try clear p2
     try clear c4
     try clear c4b0
     try clear c5
     try clear p2
     obtain ⟨x7_2, x8_2, rfl, rfl, HA, HK2, ⟨m2, rfl⟩⟩ := hrel
     cases gk with
     | zero => exact absurd HA.out (by simp [word_Take.l0])
     | succ k2 =>
      have H := HA.out
      clear HA
      simp only [word_Take.l0] at H
      by_cases c6 : (wrap64 (a1 + x8_2)) < (a0.size : Int)
      ·rw [if_pos c6] at H
       have c6b0 : decide ((wrap64 (a1 + x8_2)) < (a0.size : Int)) = true := decide_eq_true c6
       clear c6
       obtain ⟨ji7, hji7⟩ : ∃ j_ : Int, (wrap64 (a1 + x8_2)) = j_ := ⟨_, rfl⟩
       replace H : (if 0 ≤ (ji7) then (if x8_2 > 9 then (word_Take.j2 k2 a0 a1 x7_2 x8_2 (bt a0 (ji7)) true) else (if x8_2 = 9 then (if (bt a0 (ji7)) > 1 then (word_Take.j2 k2 a0 a1 x7_2 x8_2 (bt a0 (ji7)) true) else (if x8_2 > 0 then (word_Take.j2 k2 a0 a1 x7_2 x8_2 (bt a0 (ji7)) ((bt a0 (ji7)) == 0)) else (word_Take.j2 k2 a0 a1 x7_2 x8_2 (bt a0 (ji7)) false))) else (if x8_2 > 0 then (word_Take.j2 k2 a0 a1 x7_2 x8_2 (bt a0 (ji7)) ((bt a0 (ji7)) == 0)) else (word_Take.j2 k2 a0 a1 x7_2 x8_2 (bt a0 (ji7)) false)))) else (none)) = some (r1, r2, r3) := by first | (rw [hji7] at H; exact H) | (simp only [hji7] at H ⊢; exact H)
       (try rw [hji7] at c6b0)
       have hji7w : (IntKind.i64.wrap (a1 + x8_2)) = ji7 := (i64_w _).trans hji7
       by_cases c8 : 0 ≤ (ji7)
       ·rw [if_pos c8] at H
        have c8b0 : decide (0 ≤ (ji7)) = true := decide_eq_true c8
        clear c8
        have HC10 := z4 H
        clear H
        have p9 : 0 ≤ ((ji7) : Int) := of_decide_eq_true (by first | (with_reducible assumption) | assumption)
        have q9 : (ji7) < (a0.size : Int) := of_decide_eq_true (by first | (with_reducible assumption) | assumption)
        have hx9 := bt_at a0 (ji7)
        replace p9 := eq_true p9
        replace q9 := eq_true q9
        go_upto_region 8 with (fail)
        go_cut [48] (fun v48 wc => ∃ (kq : Nat) (x48_9 : Bool), v48 = .bool x48_9 ∧ Aside0 (word_Take.j2 kq a0 a1 x7_2 x8_2 (bt a0 (ji7)) x48_9 = some (r1, r2, r3)) ∧ Aside0 (kq ≤ k2) ∧ Drawn0 w wc)
        case first =>
         have H := HC10.out
         clear HC10
         by_cases c11 : x8_2 > 9
         ·rw [if_pos c11] at H
          have c11b0 : decide (9 < x8_2) = true := decide_eq_true c11
          clear c11
          (first | rw [c11b0] | (simp only [i64_w, i32_w]; rw [c11b0]) | skip)
          have H' := z4 H
          clear H
          go_wp2
          go_meet
          case rel => exact ⟨_, (true), (by first | rfl | (simp; done) | (simp [*]; done)), H', ⟨by have := HJ2.out; have := HK2.out; first | omega | exact Nat.le_refl _⟩, by repeat (first | exact Drawn0.refl _ | apply Drawn0.step)⟩
         ·rw [if_neg c11] at H
          have c11b0 : decide (9 < x8_2) = false := decide_eq_false c11
          clear c11
          (first | rw [c11b0] | (simp only [i64_w, i32_w]; rw [c11b0]) | skip)
          by_cases c12 : x8_2 = 9
          ·rw [if_pos c12] at H
           have c12b0 : (x8_2 == 9) = true := z5 c12
           have c12b1 : (x8_2 != 9) = false := z6 c12
           clear c12
           by_cases c13 : (bt a0 (ji7)) > 1
           ·rw [if_pos c13] at H
            have c13b0 : decide (1 < (bt a0 (ji7))) = true := decide_eq_true c13
            clear c13
            have H' := z4 H
            clear H
            go_wp2
            go_meet
            case rel => exact ⟨_, (true), (by first | rfl | (simp; done) | (simp [*]; done)), H', ⟨by have := HJ2.out; have := HK2.out; first | omega | exact Nat.le_refl _⟩, by repeat (first | exact Drawn0.refl _ | apply Drawn0.step)⟩
           ·rw [if_neg c13] at H
            have c13b0 : decide (1 < (bt a0 (ji7))) = false := decide_eq_false c13
            clear c13
            by_cases c14 : x8_2 > 0
            ·rw [if_pos c14] at H
             have c14b0 : decide (0 < x8_2) = true := decide_eq_true c14
             clear c14
             have H' := z4 H
             clear H
             go_wp2
             go_meet
             case rel => exact ⟨_, (((bt a0 (ji7)) == 0)), (by first | rfl | (simp; done) | (simp only [← hji7] <;> (first | rfl | simp)) | (simp [*]; done)), H', ⟨by have := HJ2.out; have := HK2.out; first | omega | exact Nat.le_refl _⟩, by repeat (first | exact Drawn0.refl _ | apply Drawn0.step)⟩
            ·rw [if_neg c14] at H
             have c14b0 : decide (0 < x8_2) = false := decide_eq_false c14
             clear c14
             have H' := z4 H
             clear H
             go_wp2
             go_meet
             case rel => exact ⟨_, (false), (by first | rfl | (simp; done) | (simp [*]; done)), H', ⟨by have := HJ2.out; have := HK2.out; first | omega | exact Nat.le_refl _⟩, by repeat (first | exact Drawn0.refl _ | apply Drawn0.step)⟩
          ·rw [if_neg c12] at H
           have c12b0 : (x8_2 == 9) = false := z7 c12
           have c12b1 : (x8_2 != 9) = true := bne_iff_ne.mpr c12
           by_cases c15 : x8_2 > 0
           ·rw [if_pos c15] at H
            have c15b0 : decide (0 < x8_2) = true := decide_eq_true c15
            clear c15
            have H' := z4 H
            clear H
            go_wp2
            go_meet
            case rel => exact ⟨_, (((bt a0 (ji7)) == 0)), (by first | rfl | (simp; done) | (simp only [← hji7] <;> (first | rfl | simp)) | (simp [*]; done)), H', ⟨by have := HJ2.out; have := HK2.out; first | omega | exact Nat.le_refl _⟩, by repeat (first | exact Drawn0.refl _ | apply Drawn0.step)⟩
           ·rw [if_neg c15] at H
            have c15b0 : decide (0 < x8_2) = false := decide_eq_false c15
            clear c15
            have H' := z4 H
            clear H
            go_wp2
            go_meet
            case rel => exact ⟨_, (false), (by first | rfl | (simp; done) | (simp [*]; done)), H', ⟨by have := HJ2.out; have := HK2.out; first | omega | exact Nat.le_refl _⟩, by repeat (first | exact Drawn0.refl _ | apply Drawn0.step)⟩
        case rest =>
         clear HC10
         try clear c1
         try clear c2
         try clear p2
         try clear c4
         try clear c4b0
         try clear c5
         try clear c6
         try clear c6b0
         try clear p6
         try clear c7
         try clear c8
         try clear c8b0
         try clear p9
         try clear q9
         try clear hx9
         try clear c11
         try clear c11b0
         try clear c12
         try clear c12b0
         try clear c12b1
         try clear c13
         try clear c13b0
         try clear c14
         try clear c14b0
         try clear c15
         try clear c15b0
         try clear p2
         try clear p9
         try clear q9
         obtain ⟨kq, x48_9, rfl, HA, HJ9, ⟨mc9, rfl⟩⟩ := hcut
         cases kq with
         | zero => exact absurd HA.out (by simp [word_Take.j2])
         | succ kj9 =>
          have H := HA.out
          clear HA
          simp only [word_Take.j2] at H
          by_cases c16 : x48_9 = true
          ·subst c16
           have H1 : (some (0, 0, 9)) = some (r1, r2, r3) := by rw [if_pos rfl] at H; exact H
           clear H
           have H := H1
           clear H1
           simp only [Option.some.injEq, Prod.mk.injEq] at H
           obtain ⟨rfl, rfl, rfl⟩ := H
           go_wp2
           go_ret3
           exact ⟨by first | rfl | (simp; done) | (simp only [← hji7] <;> (first | rfl | simp)) | (simp [*]; done), by repeat (first | exact Drawn0.refl _ | apply Drawn0.step)⟩
          ·replace c16 := Bool.eq_false_iff.mpr c16
           subst c16
           have H1 : (if 0 ≤ (wrap64 (7 * x8_2)) then (if (bt a0 (ji7)) < 128 then (some (Go.bits .or .u64 x7_2 (shl .u64 (IntKind.u64.wrap (Go.bits .and .u8 (bt a0 (ji7)) 127)) (wrap64 (7 * x8_2))), wrap64 ((wrap64 (a1 + x8_2)) + 1), 0)) else (word_Take.l0 kj9 a0 a1 (Go.bits .or .u64 x7_2 (shl .u64 (IntKind.u64.wrap (Go.bits .and .u8 (bt a0 (ji7)) 127)) (wrap64 (7 * x8_2)))) (wrap64 (x8_2 + 1)))) else (none)) = some (r1, r2, r3) := by rw [if_neg (show ¬ (false = true) by decide)] at H; exact H
           clear H
           have H := H1
           clear H1
           obtain ⟨ji17, hji17⟩ : ∃ j_ : Int, (wrap64 (7 * x8_2)) = j_ := ⟨_, rfl⟩
           replace H : (if 0 ≤ (ji17) then (if (bt a0 (ji7)) < 128 then (some (Go.bits .or .u64 x7_2 (shl .u64 (IntKind.u64.wrap (Go.bits .and .u8 (bt a0 (ji7)) 127)) (ji17)), wrap64 ((wrap64 (a1 + x8_2)) + 1), 0)) else (word_Take.l0 kj9 a0 a1 (Go.bits .or .u64 x7_2 (shl .u64 (IntKind.u64.wrap (Go.bits .and .u8 (bt a0 (ji7)) 127)) (ji17))) (wrap64 (x8_2 + 1)))) else (none)) = some (r1, r2, r3) := by first | (rw [hji17] at H; exact H) | (simp only [hji17] at H ⊢; exact H)
           have hji17w : (IntKind.i64.wrap (7 * x8_2)) = ji17 := (i64_w _).trans hji17
           by_cases c18 : 0 ≤ (ji17)
           ·rw [if_pos c18] at H
            have c18b0 := eq_true c18
            have c18b1 : decide (0 ≤ (ji17)) = true := decide_eq_true c18
            clear c18
            obtain ⟨ji19, hji19⟩ : ∃ j_ : Int, (shl .u64 (IntKind.u64.wrap (Go.bits .and .u8 (bt a0 (ji7)) 127)) (ji17)) = j_ := ⟨_, rfl⟩
            replace H : (if (bt a0 (ji7)) < 128 then (some (Go.bits .or .u64 x7_2 (ji19), wrap64 ((wrap64 (a1 + x8_2)) + 1), 0)) else (word_Take.l0 kj9 a0 a1 (Go.bits .or .u64 x7_2 (ji19)) (wrap64 (x8_2 + 1)))) = some (r1, r2, r3) := by first | (rw [hji19] at H; exact H) | (simp only [hji19] at H ⊢; exact H)
            have hji19_ : (IntKind.u64.wrap ((IntKind.u64.wrap (Go.bits .and .u8 (bt a0 (ji7)) 127)) * 2 ^ min (ji17).toNat 64)) = ji19 := hji19
            have hji19z : (ji17) ≤ 64 → (IntKind.u64.wrap ((IntKind.u64.wrap (Go.bits .and .u8 (bt a0 (ji7)) 127)) * 2 ^ (ji17).toNat)) = ji19 := shl_small hji19
            by_cases c20 : (bt a0 (ji7)) < 128
            ·rw [if_pos c20] at H
             have c20b0 : decide ((bt a0 (ji7)) < 128) = true := decide_eq_true c20
             clear c20
             simp only [Option.some.injEq, Prod.mk.injEq] at H
             obtain ⟨rfl, rfl, rfl⟩ := H
             go_wp2
             go_ret3
             exact ⟨by first | rfl | (simp; done) | (simp only [← hji7, ← hji17, ← hji19] <;> (first | rfl | simp)) | (simp [*]; done), by repeat (first | exact Drawn0.refl _ | apply Drawn0.step)⟩
            ·rw [if_neg c20] at H
             have c20b0 : decide ((bt a0 (ji7)) < 128) = false := decide_eq_false c20
             clear c20
             have H' := z4 H
             clear H
             go_wp2
             go_roundg kj9
             case measure => have := HJ2.out; have := HK2.out; have := HJ9.out; omega
             case rel => exact ⟨(Go.bits .or .u64 x7_2 (ji19)), (wrap64 (x8_2 + 1)), (by first | rfl | (simp; done) | (simp only [← hji19] <;> (first | rfl | simp)) | (simp [*]; done)), (by first | rfl | (simp; done) | (simp [*]; done)), H', ⟨by have := HJ2.out; have := HK2.out; have := HJ9.out; omega⟩, by repeat (first | exact Drawn0.refl _ | apply Drawn0.step)⟩
           ·rw [if_neg c18] at H
            exact absurd H (by simp)
       ·rw [if_neg c8] at H
        exact absurd H (by simp)
      ·rw [if_neg c6] at H
       have c6b0 : decide ((wrap64 (a1 + x8_2)) < (a0.size : Int)) = false := decide_eq_false c6
       clear c6
       simp only [Option.some.injEq, Prod.mk.injEq] at H
       obtain ⟨rfl, rfl, rfl⟩ := H
       go_wp2
       go_ret3
       exact ⟨by first | rfl | (simp; done) | (simp [*]; done), by repeat (first | exact Drawn0.refl _ | apply Drawn0.step)⟩
def cotterref06_wide.f (k : Nat) (a0 : Int) : Option (ByteArray) := (cotterref01_Bytes.f k a0 8).bind fun bt265 => (some bt265.1)
set_option maxHeartbeats 8000000 in
set_option maxRecDepth 100000 in
theorem cotterref06_wide.calls (k : Nat) (a0 : Int) (r : ByteArray) (w : World) (h : cotterref06_wide.f k a0 = some r) :
 Calls Tryd.prog 49 #[.int .i64 a0] w fun e w' => e = .returned (.string r) ∧ Below w.heap.size w w' := by
 have HB := z4 (Below.refl w.heap.size w)
 have H : ((cotterref01_Bytes.f k a0 8).bind fun bt265 => (some bt265.1)) = some r := h
 clear h
 replace H := z8 H
 obtain ⟨⟨t265, t266⟩, A20, H⟩ := H
 replace H : (some t265) = some r := H
 have A2 := z4 A20
 clear A20
 obtain rfl := Option.some.inj H
 go_enter Tryd.func49, Tryd.ntmps49
 go_wp2_with (first | ((with_reducible refine gate_callee (f := 73) rfl ?_); refine goesL_ (some 7) rfl rfl Tryd.func73 (by kernel_rfl) rfl #[.int .i64 a0, .int .i64 8] rfl (by (try simp only [z9, List.map_cons, List.map_nil]); first | done | rfl | (simp only [z9a, z9b]; rfl)) ?_; (with_reducible refine (cotterref01_Bytes.calls k a0 8 t265 t266 _ A2.out).mono ?_); rintro e w3 ⟨rfl, hb⟩; refine ⟨_, rfl, ?_⟩; have n0_ := z4 (zK (by repeat (first | exact HB.out | apply zA | apply zB | apply zD)) hb); clear HB; have HB := n0_; clear n0_; (try clear hb); (try clear hb2); (try clear hk); (try clear hi)))
 go_ret
 exact ⟨by first | rfl | (simp [errW_none, errW_some] <;> rfl) | (simp [*, errW_none, errW_some] <;> rfl), by repeat (first | exact HB.out | apply zA | apply zB | apply zD)⟩
def cotterref01_Put.l0 : Nat → Int → List Int → Option (ByteArray)
 | 0, _, _ => none
 | k + 1, x0, x3 => if x0 > 127 then (if x3.length < 140737488355328 then (cotterref01_Put.l0 k (IntKind.u64.wrap (Int.tdiv x0 128)) (x3 ++ [(IntKind.u64.wrap ((Int.tmod x0 128) + 128)) % 256])) else (none)) else (if x3.length < 140737488355328 then (some (strOfNums (x3 ++ [(x0) % 256]))) else (none))
def cotterref01_Put.f (k : Nat) (a0 : Int) : Option (ByteArray) := cotterref01_Put.l0 k a0 ([] : List Int)
set_option maxHeartbeats 8000000 in
set_option maxRecDepth 100000 in
theorem cotterref01_Put.calls (k : Nat) (a0 : Int) (r : ByteArray) (w : World) (h : cotterref01_Put.f k a0 = some r) :
 Calls Tryd.prog 72 #[.int .u64 a0] w fun e w' => e = .returned (.string r) ∧ Below w.heap.size w w' := by
 have HB := z4 (Below.refl w.heap.size w)
 have H : (cotterref01_Put.l0 k a0 ([] : List Int)) = some r := h
 clear h
 have H' := z4 H
 clear H
 go_enter Tryd.func72, Tryd.ntmps72
 go_wp2
 go_loopg [0, 3] k (fun kq v0 v3 w' => ∃ (x0_1 : Int) (x3_1 : List Int), v0 = .int .u64 x0_1 ∧ Aside0 (cotterref01_Put.l0 kq x0_1 x3_1 = some r) ∧ Aside0 (kq ≤ k) ∧ Aside0 (Kd.R (Kd.int .u8) 5 w' w.heap.size (fun _ => True) v3 x3_1) ∧ Aside0 (Below w.heap.size w w'))
 case atStart => exact ⟨(a0), (([] : List Int)), (by first | rfl | (simp; done) | (simp [*]; done)), H', ⟨Nat.le_refl _⟩, ⟨by first | exact Kd.R_nil _ _ _ _ _ | exact Kd.N_nil _ _ _ _ _ | exact Kd.V_nil _ _ _ _ _ | exact Kd.Q_nil _ _ _ _ _ | exact Kd.S_nil _ _ _ _ _⟩, ⟨by repeat (first | exact HB.out | apply zA | apply zB | apply zD)⟩⟩
 case round =>
  clear H'
  obtain ⟨x0_1, x3_1, rfl, HA, HK1, HO_3, HB⟩ := hrel
  cases gk with
  | zero => exact absurd HA.out (by simp [cotterref01_Put.l0])
  | succ k1 =>
   have H := HA.out
   clear HA
   simp only [cotterref01_Put.l0] at H
   by_cases c2 : x0_1 > 127
   ·rw [if_pos c2] at H
    have c2b0 : decide (127 < x0_1) = true := decide_eq_true c2
    clear c2
    by_cases c3 : x3_1.length < 140737488355328
    ·rw [if_pos c3] at H
     have LMc3 := z4 c3
     clear c3
     obtain ⟨y267, hy267⟩ : ∃ y_ : List Int, y_ = (x3_1 ++ [(IntKind.u64.wrap ((Int.tmod x0_1 128) + 128)) % 256]) := ⟨_, rfl⟩
     replace H : (cotterref01_Put.l0 k1 (IntKind.u64.wrap (Int.tdiv x0_1 128)) y267) = some r := by first | (rw [hy267]; with_reducible exact H) | (have H2_ := (Option.bind_some _ _).symm.trans H; rw [hy267]; with_reducible exact H2_) | (have H2_ := (Option.bind_some _ _).symm.trans H; with_reducible exact H2_) | with_reducible exact H | (rw [hy267]; exact H) | exact H
     have Ny267 := z4 hy267
     clear hy267
     have H' := z4 H
     clear H
     go_wp2_with (first | ((with_reducible refine gate_builtin (b := .append) (xs := #[.tmp 6, .tmp 11]) rfl ?_); at_builtin; refine Kd.R_append (Kd.int .u8) (w0 := w) w.heap.size rfl (.tmp 6) (.tmp 11) 60 5 (.int .u8 0) 1 rfl Tryd.underlying60 info5 rfl (by decide) (by omega) u3 x3_1 ((IntKind.u64.wrap ((Int.tmod x0_1 128) + 128)) % 256) [.int .u8 ((IntKind.u64.wrap ((Int.tmod x0_1 128) + 128)) % 256)] (fun _ => True) (fun _ => False) rfl rfl ?aP (fun _ hk => hk.elim) ?aF ?aO ?aB ?aS ?aL ?_; (case aP => exact rfl); (case aB => exact (by repeat (first | exact HB.out | apply zA | apply zB | apply zD))); (case aF => exact (fun _ _ => trivial)); (case aO => exact (by (with_reducible repeat (first | apply zM | apply zN | apply zO)); exact HO_3.out)); (case aS => exact (zL (by repeat (first | exact HB.out | apply zA | apply zB | apply zD)))); (case aL => have := LMc3.out; omega); intro v268 w4 ho hb hg hat; rw [← Ny267.out] at ho; have n0_ := z4 (hb); have n1_ := z4 (ho); clear HB; clear HO_3; have HB := n0_; have HO269 := n1_; clear n0_ n1_; clear ho hb hg hat))
     go_roundg k1
     case measure => have := HK1.out; omega
     case rel => exact ⟨(IntKind.u64.wrap (Int.tdiv x0_1 128)), (y267), (by first | rfl | (simp; done) | (simp [*]; done)), H', ⟨by have := HK1.out; omega⟩, ⟨by (with_reducible repeat (first | apply zM | apply zN | apply zO)); exact HO269.out⟩, ⟨by repeat (first | exact HB.out | apply zA | apply zB | apply zD)⟩⟩
    ·rw [if_neg c3] at H
     exact absurd H (by simp)
   ·rw [if_neg c2] at H
    have c2b0 : decide (127 < x0_1) = false := decide_eq_false c2
    clear c2
    by_cases c5 : x3_1.length < 140737488355328
    ·rw [if_pos c5] at H
     have LMc5 := z4 c5
     clear c5
     obtain ⟨y270, hy270⟩ : ∃ y_ : List Int, y_ = (x3_1 ++ [(x0_1) % 256]) := ⟨_, rfl⟩
     replace H : (some (strOfNums y270)) = some r := by first | (rw [hy270]; with_reducible exact H) | (have H2_ := (Option.bind_some _ _).symm.trans H; rw [hy270]; with_reducible exact H2_) | (have H2_ := (Option.bind_some _ _).symm.trans H; with_reducible exact H2_) | with_reducible exact H | (rw [hy270]; exact H) | exact H
     have Ny270 := z4 hy270
     clear hy270
     obtain rfl := Option.some.inj H
     go_wp2_with (first | ((with_reducible refine gate_builtin (b := .append) (xs := #[.tmp 15, .tmp 18]) rfl ?_); at_builtin; refine Kd.R_append (Kd.int .u8) (w0 := w) w.heap.size rfl (.tmp 15) (.tmp 18) 60 5 (.int .u8 0) 1 rfl Tryd.underlying60 info5 rfl (by decide) (by omega) u3 x3_1 ((x0_1) % 256) [.int .u8 ((x0_1) % 256)] (fun _ => True) (fun _ => False) rfl rfl ?aP (fun _ hk => hk.elim) ?aF ?aO ?aB ?aS ?aL ?_; (case aP => exact rfl); (case aB => exact (by repeat (first | exact HB.out | apply zA | apply zB | apply zD))); (case aF => exact (fun _ _ => trivial)); (case aO => exact (by (with_reducible repeat (first | apply zM | apply zN | apply zO)); exact HO_3.out)); (case aS => exact (zL (by repeat (first | exact HB.out | apply zA | apply zB | apply zD)))); (case aL => have := LMc5.out; omega); intro v271 w6 ho hb hg hat; rw [← Ny270.out] at ho; have n0_ := z4 (hb); have n1_ := z4 (ho); clear HB; clear HO_3; have HB := n0_; have HO272 := n1_; clear n0_ n1_; clear ho hb hg hat; have hcv7 := own_string (P := Tryd.prog) Tryd.underlying60 Tryd.underlying5 Tryd.underlying9 (Kd.own_of_R HO272.out)))
     go_ret
     exact ⟨by first | rfl | (simp [errW_none, errW_some] <;> rfl) | (simp [*, errW_none, errW_some] <;> rfl), by repeat (first | exact HB.out | apply zA | apply zB | apply zD)⟩
    ·rw [if_neg c5] at H
     exact absurd H (by simp)
end Go.Proofs.YtimhcpmfhebbhaaDoor.M
namespace Go.Proofs.YtimhcpmfhebbhaaDoor.Word1
open Go.RowKit Go.Proofs.YtimhcpmfhebbhaaDoor.M Go.Proofs.YtimhcpmfhebbhaaDoor.Num Go.Proofs.YtimhcpmfhebbhaaDoor.Seven Go.Proofs.YtimhcpmfhebbhaaDoorW.PrintWords Go.Proofs.YtimhcpmfhebbhaaDoorW.PrintLast
theorem or128 (v : Nat) : bits .or .u8 ((v : Int) % 256) 128 = ((v % 128 + 128 : Nat) : Int) := by
 have key : ∀ w : Fin 256, bits .or .u8 (w.val : Int) 128 = ((w.val % 128 + 128 : Nat) : Int) := by decide +kernel
 have h := key ⟨v % 256, Nat.mod_lt _ (by decide)⟩
 simp only at h
 have e : (((v % 256 : Nat)) : Int) = (v : Int) % 256 := by omega
 rw [e] at h
 rw [h]
 congr 1
 omega
theorem put_l0 : ∀ (n k u : Nat) (x : List Int), u < 128 ^ (n + 1) → x.length + n < 140737488355328 → n < k → word_put.l0 k x u = some (x ++ putL u) := by
 intro n
 induction n with
 | zero =>
  intro k u x hu hx hk
  obtain ⟨k, rfl⟩ : ∃ m, k = m + 1 := ⟨k - 1, by omega⟩
  simp only [word_put.l0]
  rw [if_neg (by omega), if_pos (by omega), putL_small (by omega)]
  congr 3
  omega
 | succ n ih =>
  intro k u x hu hx hk
  obtain ⟨k, rfl⟩ : ∃ m, k = m + 1 := ⟨k - 1, by omega⟩
  simp only [word_put.l0]
  by_cases h : u < 128
  ·rw [if_neg (by omega), if_pos (by omega), putL_small h]
   congr 3
   omega
  ·rw [if_pos (by omega), if_pos (by omega)]
   have h2 : u / 128 < 128 ^ (n + 1) := by rw [Nat.div_lt_iff_lt_mul (by decide)]; rw [Nat.pow_succ] at hu; exact hu
   have e : (u : Int) / 128 = ((u / 128 : Nat) : Int) := by omega
   rw [e, ih k (u / 128) _ h2 (by simp; omega) (by omega), putL_great h, or128]
   simp
theorem put_f {k u : Nat} {x : List Int} (hu : u < 18446744073709551616) (hx : x.length + 9 < 140737488355328) (hk : 9 < k) : word_put.f k x u = some (x ++ putL u) := by
 unfold word_put.f
 exact put_l0 9 k u x (by omega) hx hk
theorem Put_f {k u : Nat} (hu : u < 18446744073709551616) (hk : 9 < k) : word_Put.f k u = some (strOfNums (putL u)) := by
 unfold word_Put.f
 rw [put_f hu (by simp) hk]
 rfl
def Us (l : List Int) : Prop := ∀ x ∈ l, 0 ≤ x ∧ x < 18446744073709551616
theorem Us.drop {l : List Int} (h : Us l) (n : Nat) : Us (l.drop n) := fun x hx => h x (List.mem_of_mem_drop hx)
/-- What Take answers: by the bytes from the place on. -/
def takeR (s : ByteArray) (at_ : Int) : Int × Int × Int :=
 if at_ < 0 ∨ at_ > s.size then (0, 0, 1) else match takeL ((bytesOf s).drop at_.toNat) 0 with
 | none => (0, 0, 9)
 | some (v, n) => (v, at_ + n, 0)
theorem and127 (b : Int) (h0 : 0 ≤ b) (h1 : b < 256) : IntKind.u64.wrap (bits .and .u8 b 127) = b % 128 := by
 have h := bits_mask .u8 8 (by decide) wraps_u8 7 (by decide) b h0 (by omega)
 have e : (2 : Int) ^ 7 - 1 = 127 := by decide
 have e2 : (2 : Int) ^ 7 = 128 := by decide
 rw [e, e2] at h
 rw [h, wrap_u64]
 omega
theorem p2 (n : Nat) : (0 : Int) < 2 ^ n := by
 have h2 : ((2 ^ n : Nat) : Int) = (2 : Int) ^ n := by simp
 have h3 := Nat.two_pow_pos n
 omega
theorem e64 : (2 : Int) ^ 64 = 18446744073709551616 := by decide
theorem shl_u64_small (x y : Int) (i : Nat) (hy : y = 7 * i) (hi : i ≤ 9) (h0 : 0 ≤ x) (h1 : x * 2 ^ (7 * i) < 18446744073709551616) : shl .u64 x y = x * 2 ^ (7 * i) := by
 subst hy
 unfold shl
 have e : (7 * (i : Int)).toNat = 7 * i := by omega
 have hm : min (7 * i) IntKind.u64.bits = 7 * i := Nat.min_eq_left (by have : IntKind.u64.bits = 64 := rfl; omega)
 rw [e, hm, wrap_u64]
 have hp : (0 : Int) ≤ 2 ^ (7 * i) := Int.le_of_lt (p2 _)
 have := Int.mul_nonneg h0 hp
 omega
theorem or_u64 (u c : Int) (i : Nat) (hu : 0 ≤ u) (hu1 : u < 2 ^ (7 * i)) (hc : 0 ≤ c) (hc1 : c * 2 ^ (7 * i) < 18446744073709551616) (hs : u + c * 2 ^ (7 * i) < 18446744073709551616) :
 bits .or .u64 u (c * 2 ^ (7 * i)) = u + c * 2 ^ (7 * i) := by
 have hp : (0 : Int) ≤ 2 ^ (7 * i) := Int.le_of_lt (p2 _)
 have hm := Int.mul_nonneg hc hp
 rw [bits_or_comm]
 have h := bits_join .u64 64 (by decide) (fun n h0 h1 => wrap_u64_id h0 (by rw [e64] at h1; exact h1)) (7 * i) (c * 2 ^ (7 * i)) u hm (Int.mul_emod_left _ _) (by rw [e64]; exact hc1) hu hu1 (by rw [e64]; omega)
 rw [h]
 omega
theorem take_fits {b : Int} {i : Nat} {u : Int} (h0 : 0 ≤ b) (h1 : b < 256) (hi : i ≤ 9) (h9 : i = 9 → b ≤ 1) (hu : 0 ≤ u) (hu1 : u < 2 ^ (7 * i)) :
 b % 128 * 2 ^ (7 * i) < 18446744073709551616 ∧ u + b % 128 * 2 ^ (7 * i) < 18446744073709551616 ∧ (i ≤ 8 → u + b % 128 * 2 ^ (7 * i) < 2 ^ (7 * (i + 1))) ∧ 0 ≤ u + b % 128 * 2 ^ (7 * i) := by
 have hp : (0 : Int) < 2 ^ (7 * i) := by
  have h2 : ((2 ^ (7 * i) : Nat) : Int) = (2 : Int) ^ (7 * i) := by simp
  have h3 := Nat.two_pow_pos (7 * i)
  omega
 have e : (2 : Int) ^ (7 * (i + 1)) = 128 * 2 ^ (7 * i) := by rw [Nat.mul_add, Int.pow_add]; omega
 have hm := Int.mul_nonneg (show 0 ≤ b % 128 by omega) (Int.le_of_lt hp)
 have g := Int.mul_le_mul_of_nonneg_right (show b % 128 ≤ 127 by omega) (Int.le_of_lt hp)
 by_cases hi9 : i = 9
 ·subst hi9
  have e63 : (2 : Int) ^ (7 * 9) = 9223372036854775808 := by decide
  have := h9 rfl
  rw [e63] at *
  refine ⟨by omega, by omega, fun h => by omega, by omega⟩
 ·have hp8 : (2 : Int) ^ (7 * i) ≤ 72057594037927936 := by
   have h1 : 2 ^ (7 * i) ≤ 2 ^ 56 := Nat.pow_le_pow_right (by decide) (by omega)
   have h2 : ((2 ^ (7 * i) : Nat) : Int) = (2 : Int) ^ (7 * i) := by simp
   have h3 : (2 : Nat) ^ 56 = 72057594037927936 := by decide
   rw [h3] at h1
   omega
  rw [e]
  generalize (2 : Int) ^ (7 * i) = P at *
  generalize b % 128 * P = m at *
  refine ⟨by omega, by omega, fun _ => by omega, by omega⟩
/-- What a loop over the groups comes to, from the group number i on, with u so far. -/
def restR (s : ByteArray) (at_ i : Nat) (u : Int) : Int × Int × Int :=
 match takeL ((bytesOf s).drop (at_ + i)) i with
 | none => (0, 0, 9)
 | some (v, n) => (u + v * 2 ^ (7 * i), ((at_ + i + n : Nat) : Int), 0)
theorem restR_end {s : ByteArray} {at_ i : Nat} {u : Int} (h : ¬ at_ + i < s.size) : restR s at_ i u = (0, 0, 9) := by
 unfold restR
 rw [List.drop_eq_nil_of_le (by rw [bytesOf_length]; omega)]
 rfl
theorem restR_bad {s : ByteArray} {at_ i : Nat} {u : Int} (hlt : at_ + i < s.size) (h : i > 9 ∨ (i = 9 ∧ bt s (at_ + i : Nat) > 1) ∨ (i > 0 ∧ bt s (at_ + i : Nat) = 0)) : restR s at_ i u = (0, 0, 9) := by
 unfold restR
 rw [bt_drop s _ hlt]
 simp only [takeL]
 rw [if_pos h]
theorem restR_last {s : ByteArray} {at_ i : Nat} {u : Int} (hlt : at_ + i < s.size) (h : ¬ (i > 9 ∨ (i = 9 ∧ bt s (at_ + i : Nat) > 1) ∨ (i > 0 ∧ bt s (at_ + i : Nat) = 0))) (hb : bt s (at_ + i : Nat) < 128) :
 restR s at_ i u = (u + bt s (at_ + i : Nat) * 2 ^ (7 * i), ((at_ + i + 1 : Nat) : Int), 0) := by
 unfold restR
 rw [bt_drop s _ hlt]
 simp only [takeL]
 rw [if_neg h, if_pos hb]
theorem restR_step {s : ByteArray} {at_ i : Nat} {u : Int} (hlt : at_ + i < s.size) (h : ¬ (i > 9 ∨ (i = 9 ∧ bt s (at_ + i : Nat) > 1) ∨ (i > 0 ∧ bt s (at_ + i : Nat) = 0))) (hb : ¬ bt s (at_ + i : Nat) < 128) :
 restR s at_ i u = restR s at_ (i + 1) (u + (bt s (at_ + i : Nat) - 128) * 2 ^ (7 * i)) := by
 unfold restR
 rw [bt_drop s _ hlt]
 simp only [takeL]
 rw [if_neg h, if_neg hb, show at_ + (i + 1) = at_ + i + 1 by omega]
 cases takeL ((bytesOf s).drop (at_ + i + 1)) (i + 1) with
 | none => rfl
 | some p =>
  simp only [Option.map_some]
  have e : (2 : Int) ^ (7 * (i + 1)) = 128 * 2 ^ (7 * i) := by rw [Nat.mul_add, Int.pow_add]; omega
  rw [e, Int.add_mul, Int.add_assoc, Int.mul_assoc 128, Int.mul_left_comm 128 p.1, show at_ + i + (p.2 + 1) = at_ + i + 1 + p.2 by omega]
theorem take_l0 (s : ByteArray) (at_ : Nat) (hs : s.size ≤ 281474976710656) (hat : at_ ≤ s.size) : ∀ (d k i : Nat) (u : Int), 10 - i = d → i ≤ 10 → 0 ≤ u → (i ≤ 9 → u < 2 ^ (7 * i)) → 2 * d + 2 < k →
 word_Take.l0 k s at_ u i = some (restR s at_ i u) := by
 intro d
 induction d with
 | zero =>
  intro k i u hd hi hu hu1 hk
  obtain ⟨k, rfl⟩ : ∃ m, k = m + 2 := ⟨k - 2, by omega⟩
  obtain rfl : i = 10 := by omega
  simp only [word_Take.l0]
  rw [wrap64_id (by omega) (by omega)]
  by_cases hlt : at_ + 10 < s.size
  ·rw [if_pos (by omega), if_pos (by omega), if_pos (by omega), restR_bad hlt (.inl (by omega))]
   simp [word_Take.j2]
  ·rw [if_neg (by omega), restR_end hlt]
 | succ d ih =>
  intro k i u hd hi hu hu1 hk
  obtain ⟨k, rfl⟩ : ∃ m, k = m + 2 := ⟨k - 2, by omega⟩
  simp only [word_Take.l0]
  have ew : wrap64 ((at_ : Int) + i) = ((at_ + i : Nat) : Int) := by rw [wrap64_id (by omega) (by omega)]; omega
  rw [ew]
  by_cases hlt : at_ + i < s.size
  ·rw [if_pos (by omega), if_pos (by omega), if_neg (by omega)]
   have hbr := bt_range s (at_ + i : Nat)
   have hb7 : wrap64 (7 * (i : Int)) = 7 * i := wrap64_id (by omega) (by omega)
   have hu9 := hu1 (by omega)
   -- the one form in which all ways meet
   have good : ∀ (c : Bool), (c = true ↔ (i = 9 ∧ bt s (at_ + i : Nat) > 1) ∨ (i > 0 ∧ bt s (at_ + i : Nat) = 0)) → word_Take.j2 (k + 1) s at_ u i (bt s (at_ + i : Nat)) c = some (restR s at_ i u) := by
    intro c hc
    simp only [word_Take.j2, hb7]
    by_cases hbad : c = true
    ·rw [if_pos hbad, restR_bad hlt (.inr (hc.1 hbad))]
    ·have hno : ¬ (i > 9 ∨ (i = 9 ∧ bt s (at_ + i : Nat) > 1) ∨ (i > 0 ∧ bt s (at_ + i : Nat) = 0)) := by
      intro h
      rcases h with h | h
      ·omega
      ·exact hbad (hc.2 h)
     obtain ⟨f1, f2, f3, f4⟩ := take_fits (b := bt s (at_ + i : Nat)) (i := i) (u := u) (by omega) (by omega) (by omega) (by intro h; omega) hu hu9
     rw [if_neg hbad, if_pos (by omega), and127 _ (by omega) (by omega), shl_u64_small _ _ i rfl (by omega) (by omega) f1, or_u64 u _ i hu hu9 (by omega) f1 f2, ew]
     by_cases hl : bt s (at_ + i : Nat) < 128
     ·rw [if_pos hl, restR_last hlt hno hl, wrap64_id (by omega) (by omega), show bt s (at_ + i : Nat) % 128 = bt s (at_ + i : Nat) by omega]
      congr 3
     ·rw [if_neg hl, restR_step hlt hno hl, wrap64_id (by omega) (by omega), show ((i : Int) + 1) = ((i + 1 : Nat) : Int) by omega, show bt s (at_ + i : Nat) % 128 = bt s (at_ + i : Nat) - 128 by omega]
      rw [show bt s (at_ + i : Nat) % 128 = bt s (at_ + i : Nat) - 128 by omega] at f3 f4
      exact ih k (i + 1) _ (by omega) (by omega) f4 (fun h => f3 (by omega)) (by omega)
   by_cases h9 : i = 9
   ·rw [if_pos (by omega)]
    by_cases hb1 : bt s (at_ + i : Nat) > 1
    ·rw [if_pos hb1]; exact good true (by simp only [true_iff]; omega)
    ·rw [if_neg hb1, if_pos (by omega)]; exact good _ (by simp only [beq_iff_eq]; omega)
   ·rw [if_neg (by omega)]
    by_cases h0 : i > 0
    ·rw [if_pos (by omega)]; exact good _ (by simp only [beq_iff_eq]; omega)
    ·rw [if_neg (by omega)]; exact good false (by simp only [Bool.false_eq_true, false_iff]; omega)
  ·rw [if_neg (by omega), restR_end hlt]
theorem restR_zero (s : ByteArray) (at_ : Nat) (h : at_ ≤ s.size) : restR s at_ 0 0 = takeR s at_ := by
 unfold restR takeR
 rw [if_neg (by omega), Nat.add_zero, Int.toNat_natCast]
 cases takeL ((bytesOf s).drop at_) 0 with
 | none => rfl
 | some p => simp
theorem take_f (s : ByteArray) (at_ : Int) (hs : s.size ≤ 281474976710656) (k : Nat) (hk : 24 < k) : word_Take.f k s at_ = some (takeR s at_) := by
 obtain ⟨k, rfl⟩ : ∃ m, k = m + 1 := ⟨k - 1, by omega⟩
 unfold word_Take.f
 by_cases h0 : at_ < 0
 ·rw [if_pos h0]
  simp [word_Take.j0, takeR, h0]
 ·rw [if_neg h0]
  by_cases h1 : at_ > (s.size : Int)
  ·have e : decide (at_ > (s.size : Int)) = true := decide_eq_true h1
   rw [e]
   unfold takeR
   rw [if_pos (.inr h1)]
   simp [word_Take.j0]
  ·have e : decide (at_ > (s.size : Int)) = false := decide_eq_false h1
   rw [e]
   simp only [word_Take.j0, Bool.false_eq_true, if_false]
   obtain ⟨a, rfl⟩ := Int.eq_ofNat_of_zero_le (show 0 ≤ at_ by omega)
   rw [← restR_zero s a (by omega)]
   exact take_l0 s a hs (by omega) 10 k 0 0 (by omega) (by omega) (by omega) (by simp) (by omega)
end Go.Proofs.YtimhcpmfhebbhaaDoor.Word1
namespace Go.Proofs.YtimhcpmfhebbhaaDoor.M
open Go.RowKit Go.Proofs.YtimhcpmfhebbhaaDoorW.PrintWords Go.Proofs.YtimhcpmfhebbhaaDoorW.PrintLast
set_option linter.unusedVariables false
set_option linter.unusedSimpArgs false
def word_Number.l0 : Nat → ByteArray → Int → Int → Int → Option (Int × Int)
 | 0, _, _, _, _ => none
 | k + 1, x0, x4, x7, x8 => if x8 < x7 then (if 0 ≤ x8 then (if x8 < (x0.size : Int) then (if 0 ≤ (wrap64 (8 * x8)) then (word_Number.l0 k x0 (Go.bits .or .i64 x4 (shl .i64 (wrap64 (bt x0 x8)) (wrap64 (8 * x8)))) x7 (wrap64 (x8 + 1))) else (none)) else (none)) else (none)) else (if (x0.size : Int) = 1 then (some (wrap64 (IntKind.i8.wrap (x4)), 0)) else (if (x0.size : Int) = 4 then (some (wrap64 (wrap32 (x4)), 0)) else (if (x0.size : Int) = 8 then (some (x4, 0)) else (some (0, 1)))))
def word_Number.f (k : Nat) (a0 : ByteArray) : Option (Int × Int) := word_Number.l0 k a0 0 (a0.size : Int) 0
set_option maxHeartbeats 8000000 in
set_option maxRecDepth 100000 in
theorem word_Number.calls (k : Nat) (a0 : ByteArray) (r1 : Int) (r2 : Int) (w : World) (h : word_Number.f k a0 = some (r1, r2)) :
 Calls Tryd.prog 79 #[.string a0] w fun e w' => e = .returned (.tuple #[.int .i64 r1, .int .i64 r2]) ∧ Drawn0 w w' := by
 have H : (word_Number.l0 k a0 0 (a0.size : Int) 0) = some (r1, r2) := h
 clear h
 have H' := z4 H
 clear H
 go_enter Tryd.func79, Tryd.ntmps79
 go_wp2
 go_loopg [4, 8] k (fun kq v4 v8 w' => ∃ (x4_1 : Int) (x8_1 : Int), v4 = .int .i64 x4_1 ∧ v8 = .int .i64 x8_1 ∧ Aside0 (word_Number.l0 kq a0 x4_1 (a0.size : Int) x8_1 = some (r1, r2)) ∧ Aside0 (kq ≤ k) ∧ Drawn0 w w')
 case atStart => exact ⟨(0), (0), (by first | rfl | (simp; done) | (simp [*]; done)), (by first | rfl | (simp; done) | (simp [*]; done)), H', ⟨Nat.le_refl _⟩, by repeat (first | exact Drawn0.refl _ | apply Drawn0.step)⟩
 case round =>
  clear H'
  obtain ⟨x4_1, x8_1, rfl, rfl, HA, HK1, ⟨m1, rfl⟩⟩ := hrel
  cases gk with
  | zero => exact absurd HA.out (by simp [word_Number.l0])
  | succ k1 =>
   have H := HA.out
   clear HA
   simp only [word_Number.l0] at H
   by_cases c2 : x8_1 < (a0.size : Int)
   ·rw [if_pos c2] at H
    have c2b0 : decide (x8_1 < (a0.size : Int)) = true := decide_eq_true c2
    clear c2
    by_cases c3 : 0 ≤ x8_1
    ·rw [if_pos c3] at H
     have c3b0 : decide (0 ≤ x8_1) = true := decide_eq_true c3
     clear c3
     by_cases c4 : x8_1 < (a0.size : Int)
     ·rw [if_pos c4] at H
      have c4b0 : decide (x8_1 < (a0.size : Int)) = true := decide_eq_true c4
      clear c4
      obtain ⟨ji6, hji6⟩ : ∃ j_ : Int, (wrap64 (8 * x8_1)) = j_ := ⟨_, rfl⟩
      replace H : (if 0 ≤ (ji6) then (word_Number.l0 k1 a0 (Go.bits .or .i64 x4_1 (shl .i64 (wrap64 (bt a0 x8_1)) (ji6))) (a0.size : Int) (wrap64 (x8_1 + 1))) else (none)) = some (r1, r2) := by first | (rw [hji6] at H; exact H) | (simp only [hji6] at H ⊢; exact H)
      have hji6w : (IntKind.i64.wrap (8 * x8_1)) = ji6 := (i64_w _).trans hji6
      by_cases c7 : 0 ≤ (ji6)
      ·rw [if_pos c7] at H
       have c7b0 := eq_true c7
       have c7b1 : decide (0 ≤ (ji6)) = true := decide_eq_true c7
       clear c7
       obtain ⟨ji8, hji8⟩ : ∃ j_ : Int, (shl .i64 (wrap64 (bt a0 x8_1)) (ji6)) = j_ := ⟨_, rfl⟩
       replace H : (word_Number.l0 k1 a0 (Go.bits .or .i64 x4_1 (ji8)) (a0.size : Int) (wrap64 (x8_1 + 1))) = some (r1, r2) := by first | (rw [hji8] at H; exact H) | (simp only [hji8] at H ⊢; exact H)
       have hji8_ : (IntKind.i64.wrap ((wrap64 (bt a0 x8_1)) * 2 ^ min (ji6).toNat 64)) = ji8 := hji8
       have hji8z : (ji6) ≤ 64 → (IntKind.i64.wrap ((wrap64 (bt a0 x8_1)) * 2 ^ (ji6).toNat)) = ji8 := shl_small hji8
       have hji8y : (wrap64 ((wrap64 (bt a0 x8_1)) * 2 ^ min (ji6).toNat 64)) = ji8 := (i64_w _).symm.trans hji8_
       have hji8x : (ji6) ≤ 64 → (wrap64 ((wrap64 (bt a0 x8_1)) * 2 ^ (ji6).toNat)) = ji8 := fun h_ => (i64_w _).symm.trans (hji8z h_)
       have H' := z4 H
       clear H
       have p5 : 0 ≤ (x8_1 : Int) := of_decide_eq_true (by first | (with_reducible assumption) | assumption)
       have q5 : x8_1 < (a0.size : Int) := of_decide_eq_true (by first | (with_reducible assumption) | assumption)
       have hx5 := bt_at a0 x8_1
       replace p5 := eq_true p5
       replace q5 := eq_true q5
       go_wp2
       go_roundg k1
       case measure => have := HK1.out; omega
       case rel => exact ⟨(Go.bits .or .i64 x4_1 (ji8)), (wrap64 (x8_1 + 1)), (by first | rfl | (simp; done) | (simp only [← hji8] <;> (first | rfl | simp)) | (simp [*]; done)), (by first | rfl | (simp; done) | (simp [*]; done)), H', ⟨by have := HK1.out; omega⟩, by repeat (first | exact Drawn0.refl _ | apply Drawn0.step)⟩
      ·rw [if_neg c7] at H
       exact absurd H (by simp)
     ·rw [if_neg c4] at H
      exact absurd H (by simp)
    ·rw [if_neg c3] at H
     exact absurd H (by simp)
   ·rw [if_neg c2] at H
    have c2b0 : decide (x8_1 < (a0.size : Int)) = false := decide_eq_false c2
    clear c2
    by_cases c9 : (a0.size : Int) = 1
    ·rw [if_pos c9] at H
     have c9b0 : ((a0.size : Int) == 1) = true := z5 c9
     have c9b1 : ((a0.size : Int) != 1) = false := z6 c9
     clear c9
     simp only [Option.some.injEq, Prod.mk.injEq] at H
     obtain ⟨rfl, rfl⟩ := H
     go_wp2
     go_ret2
     exact ⟨by first | rfl | (simp; done) | (simp [*]; done), by repeat (first | exact Drawn0.refl _ | apply Drawn0.step)⟩
    ·rw [if_neg c9] at H
     have c9b0 : ((a0.size : Int) == 1) = false := z7 c9
     have c9b1 : ((a0.size : Int) != 1) = true := bne_iff_ne.mpr c9
     by_cases c10 : (a0.size : Int) = 4
     ·rw [if_pos c10] at H
      have c10b0 : ((a0.size : Int) == 4) = true := z5 c10
      have c10b1 : ((a0.size : Int) != 4) = false := z6 c10
      clear c10
      simp only [Option.some.injEq, Prod.mk.injEq] at H
      obtain ⟨rfl, rfl⟩ := H
      go_wp2
      go_ret2
      exact ⟨by first | rfl | (simp; done) | (simp [*]; done), by repeat (first | exact Drawn0.refl _ | apply Drawn0.step)⟩
     ·rw [if_neg c10] at H
      have c10b0 : ((a0.size : Int) == 4) = false := z7 c10
      have c10b1 : ((a0.size : Int) != 4) = true := bne_iff_ne.mpr c10
      by_cases c11 : (a0.size : Int) = 8
      ·rw [if_pos c11] at H
       have c11b0 : ((a0.size : Int) == 8) = true := z5 c11
       have c11b1 : ((a0.size : Int) != 8) = false := z6 c11
       clear c11
       simp only [Option.some.injEq, Prod.mk.injEq] at H
       obtain ⟨rfl, rfl⟩ := H
       go_wp2
       go_ret2
       exact ⟨by first | rfl | (simp; done) | (simp [*]; done), by repeat (first | exact Drawn0.refl _ | apply Drawn0.step)⟩
      ·rw [if_neg c11] at H
       have c11b0 : ((a0.size : Int) == 8) = false := z7 c11
       have c11b1 : ((a0.size : Int) != 8) = true := bne_iff_ne.mpr c11
       simp only [Option.some.injEq, Prod.mk.injEq] at H
       obtain ⟨rfl, rfl⟩ := H
       go_wp2
       go_ret2
       exact ⟨by first | rfl | (simp; done) | (simp [*]; done), by repeat (first | exact Drawn0.refl _ | apply Drawn0.step)⟩
def ins_isRegister.f (a0 : Int) : Option (Bool) := if a0 ≥ 0 then (some (decide (a0 < 8))) else (some false)
set_option maxHeartbeats 8000000 in
set_option maxRecDepth 100000 in
theorem ins_isRegister.calls (a0 : Int) (r : Bool) (w : World) (h : ins_isRegister.f a0 = some r) :
 Calls Tryd.prog 93 #[.int .i64 a0] w fun e w' => e = .returned (.bool r) ∧ Drawn0 w w' := by
 have H : (if a0 ≥ 0 then (some (decide (a0 < 8))) else (some false)) = some r := h
 clear h
 by_cases c2 : a0 ≥ 0
 ·rw [if_pos c2] at H
  have c2b0 : decide (0 ≤ a0) = true := decide_eq_true c2
  clear c2
  obtain rfl := Option.some.inj H
  go_enter Tryd.func93, Tryd.ntmps93
  go_wp2
  go_ret
  exact ⟨by first | rfl | (simp; done) | (simp [*]; done), by repeat (first | exact Drawn0.refl _ | apply Drawn0.step)⟩
 ·rw [if_neg c2] at H
  have c2b0 : decide (0 ≤ a0) = false := decide_eq_false c2
  clear c2
  obtain rfl := Option.some.inj H
  go_enter Tryd.func93, Tryd.ntmps93
  go_wp2
  go_ret
  exact ⟨by first | rfl | (simp; done) | (simp [*]; done), by repeat (first | exact Drawn0.refl _ | apply Drawn0.step)⟩
end Go.Proofs.YtimhcpmfhebbhaaDoor.M
namespace Go.Proofs.YtimhcpmfhebbhaaDoor.Word1
open Go.RowKit Go.Proofs.YtimhcpmfhebbhaaDoor.M Go.Proofs.YtimhcpmfhebbhaaDoor.Num Go.Proofs.YtimhcpmfhebbhaaDoor.Seven Go.Proofs.YtimhcpmfhebbhaaDoorW.PrintWords Go.Proofs.YtimhcpmfhebbhaaDoorW.PrintLast
def Fits (n size : Int) : Prop := size = 1 ∧ -128 ≤ n ∧ n < 128 ∨ size = 4 ∧ -2147483648 ≤ n ∧ n < 2147483648 ∨ size = 8
instance (n size : Int) : Decidable (Fits n size) := by unfold Fits; exact inferInstance
/-- What Bytes answers. -/
def bytesR (n size : Int) : ByteArray × Int :=
 if size = 1 ∨ size = 4 ∨ size = 8 then if Fits n size then (strOfNums (leL n size.toNat), 0) else (⟨#[]⟩, 7) else (⟨#[]⟩, 1)
theorem shr_bytes (n : Int) (i : Nat) (h : i ≤ 8) : shr .i64 n (8 * (i : Int)) = n / 256 ^ i := by
 unfold shr
 have e : (8 * (i : Int)).toNat = 8 * i := by omega
 have hm : min (8 * i) IntKind.i64.bits = 8 * i := Nat.min_eq_left (by have : IntKind.i64.bits = 64 := rfl; omega)
 rw [e, hm, Int.pow_mul]
 rfl
theorem bytes_l0 (n : Int) (s : Nat) (hs : s ≤ 8) : ∀ (d k i : Nat), s - i = d → i ≤ s → d < k →
 word_Bytes.l0 k n (leL n i ++ List.replicate (s - i) 0) (s : Int) i = some (strOfNums (leL n s), 0) := by
 intro d
 induction d with
 | zero =>
  intro k i hd hi hk
  obtain ⟨k, rfl⟩ : ∃ m, k = m + 1 := ⟨k - 1, by omega⟩
  obtain rfl : i = s := by omega
  simp only [word_Bytes.l0]
  rw [if_neg (by omega), Nat.sub_self]
  simp
 | succ d ih =>
  intro k i hd hi hk
  obtain ⟨k, rfl⟩ : ∃ m, k = m + 1 := ⟨k - 1, by omega⟩
  simp only [word_Bytes.l0]
  have hw : wrap64 (8 * (i : Int)) = 8 * i := wrap64_id (by omega) (by omega)
  have hl : (leL n i ++ List.replicate (s - i) 0).length = s := by rw [List.length_append, leL_len, List.length_replicate]; omega
  rw [hw, hl, if_pos (by omega), if_pos (by omega), if_pos (by omega), if_pos (by omega), shr_bytes n i (by omega), wrap64_id (by omega) (by omega), show ((i : Int) + 1) = ((i + 1 : Nat) : Int) by omega]
  have e : (leL n i ++ List.replicate (s - i) 0).set (i : Int).toNat (n / 256 ^ i % 256) = leL n (i + 1) ++ List.replicate (s - (i + 1)) 0 := by
   rw [Int.toNat_natCast, List.set_append_right _ _ (by rw [leL_len]; exact Nat.le_refl _), leL_len, Nat.sub_self, show s - i = (s - (i + 1)) + 1 by omega, List.replicate_succ, z2, leL_snoc]
   simp
  rw [e]
  exact ih k (i + 1) (by omega) (by omega) (by omega)
theorem bytes_f (n size : Int) (h0 : -9223372036854775808 ≤ n) (h1 : n < 9223372036854775808) (k : Nat) (hk : 9 < k) : word_Bytes.f k n size = some (bytesR n size) := by
 obtain ⟨k, rfl⟩ : ∃ m, k = m + 1 := ⟨k - 1, by omega⟩
 have hj : ∀ s : Nat, s ≤ 8 → word_Bytes.j0 (k + 1) n s = some (strOfNums (leL n s), 0) := by
  intro s hs
  simp only [word_Bytes.j0]
  rw [if_pos (by omega), if_pos (by omega)]
  simp only [Option.bind_some, List.length_replicate, Int.toNat_natCast]
  have h := bytes_l0 n s hs s k 0 (by omega) (by omega) (by omega)
  simpa [leL] using h
 unfold word_Bytes.f bytesR
 by_cases e1 : size = 1
 ·subst e1
  have := hj 1 (by omega)
  by_cases hf : -128 ≤ n ∧ n < 128
  ·rw [if_pos rfl, if_pos (by rw [wrap_i8]; unfold wrap64; omega), if_pos (by omega), if_pos (by unfold Fits; omega)]
   exact this
  ·rw [if_pos rfl, if_neg (by rw [wrap_i8]; unfold wrap64; omega), if_pos (by omega), if_neg (by unfold Fits; omega)]
 ·rw [if_neg e1]
  by_cases e4 : size = 4
  ·subst e4
   have := hj 4 (by omega)
   by_cases hf : -2147483648 ≤ n ∧ n < 2147483648
   ·rw [if_pos rfl, if_pos (by unfold wrap64 wrap32; omega), if_pos (by omega), if_pos (by unfold Fits; omega)]
    exact this
   ·rw [if_pos rfl, if_neg (by unfold wrap64 wrap32; omega), if_pos (by omega), if_neg (by unfold Fits; omega)]
  ·rw [if_neg e4]
   by_cases e8 : size = 8
   ·subst e8
    rw [if_pos rfl, if_pos (by omega), if_pos (by unfold Fits; omega)]
    exact hj 8 (by omega)
   ·rw [if_neg e8, if_neg (by omega)]
/-- What Number answers. -/
def numR (s : ByteArray) : Int × Int :=
 if s.size = 1 then ((unleL (bytesOf s) + 128) % 256 - 128, 0)
 else if s.size = 4 then ((unleL (bytesOf s) + 2147483648) % 4294967296 - 2147483648, 0)
 else if s.size = 8 then (wrap64 (unleL (bytesOf s)), 0)
 else (0, 1)
theorem take_snoc_bytes (s : ByteArray) (i : Nat) (h : i < s.size) : (bytesOf s).take (i + 1) = (bytesOf s).take i ++ [bt s i] := by
 have hl : i < (bytesOf s).length := by rw [bytesOf_length]; exact h
 rw [List.take_succ_eq_append_getElem hl, ← rd_bytesOf]
 unfold rd
 rw [Int.toNat_natCast, List.getD_eq_getElem?_getD, List.getElem?_eq_getElem hl]
 rfl
theorem shl_bytes (b : Int) (i : Nat) (h0 : 0 ≤ b) (h1 : b < 256) (h : i ≤ 7) : shl .i64 (wrap64 b) (wrap64 (8 * (i : Int))) = wrap64 (b * 256 ^ i) := by
 unfold shl
 have hw : wrap64 (8 * (i : Int)) = 8 * i := wrap64_id (by omega) (by omega)
 have e : (8 * (i : Int)).toNat = 8 * i := by omega
 have hm : min (8 * i) IntKind.i64.bits = 8 * i := Nat.min_eq_left (by have : IntKind.i64.bits = 64 := rfl; omega)
 rw [hw, e, hm, Int.pow_mul, wrap_i64, wrap64_id (n := b) (by omega) (by omega)]
 rfl
theorem number_bad (s : ByteArray) (hs : s.size ≤ 140737488351232) (hb : ¬ (s.size = 1 ∨ s.size = 4 ∨ s.size = 8)) : ∀ (d k i : Nat) (x : Int), s.size - i = d → i ≤ s.size → d < k →
 word_Number.l0 k s x (s.size : Int) i = some (0, 1) := by
 intro d
 induction d with
 | zero =>
  intro k i x hd hi hk
  obtain ⟨k, rfl⟩ : ∃ m, k = m + 1 := ⟨k - 1, by omega⟩
  simp only [word_Number.l0]
  rw [if_neg (by omega), if_neg (by omega), if_neg (by omega), if_neg (by omega)]
 | succ d ih =>
  intro k i x hd hi hk
  obtain ⟨k, rfl⟩ : ∃ m, k = m + 1 := ⟨k - 1, by omega⟩
  simp only [word_Number.l0]
  have hw : wrap64 (8 * (i : Int)) = 8 * i := wrap64_id (by omega) (by omega)
  rw [if_pos (by omega), if_pos (by omega), if_pos (by omega), if_pos (by rw [hw]; omega), wrap64_id (n := (i : Int) + 1) (by omega) (by omega), show ((i : Int) + 1) = ((i + 1 : Nat) : Int) by omega]
  exact ih k (i + 1) _ (by omega) (by omega) (by omega)
theorem number_l0 (s : ByteArray) (hs : s.size ≤ 8) (hg : s.size = 1 ∨ s.size = 4 ∨ s.size = 8) : ∀ (d k i : Nat), s.size - i = d → i ≤ s.size → d < k →
 word_Number.l0 k s (wrap64 (unleL ((bytesOf s).take i))) (s.size : Int) i = some (numR s) := by
 intro d
 induction d with
 | zero =>
  intro k i hd hi hk
  obtain ⟨k, rfl⟩ : ∃ m, k = m + 1 := ⟨k - 1, by omega⟩
  obtain rfl : i = s.size := by omega
  have hr := unleL_range _ (bytesOf_Bs s)
  rw [bytesOf_length] at hr
  simp only [word_Number.l0]
  rw [if_neg (by omega), List.take_of_length_le (by rw [bytesOf_length]; exact Nat.le_refl _)]
  unfold numR
  rcases hg with h | h | h
  ·rw [if_pos (by omega), if_pos h, wrap_i8]
   rw [h] at hr
   unfold wrap64
   congr 2
   omega
  ·rw [if_neg (by omega), if_pos (by omega), if_neg (by omega), if_pos h]
   rw [h] at hr
   unfold wrap32 wrap64
   congr 2
   omega
  ·rw [if_neg (by omega), if_neg (by omega), if_pos (by omega), if_neg (by omega), if_neg (by omega), if_pos h]
 | succ d ih =>
  intro k i hd hi hk
  obtain ⟨k, rfl⟩ : ∃ m, k = m + 1 := ⟨k - 1, by omega⟩
  simp only [word_Number.l0]
  have hw : wrap64 (8 * (i : Int)) = 8 * i := wrap64_id (by omega) (by omega)
  have hbr := bt_range s i
  have hr := unleL_range _ ((bytesOf_Bs s).take i)
  have hl : ((bytesOf s).take i).length = i := by rw [z9b, bytesOf_length]; omega
  rw [hl] at hr
  rw [if_pos (by omega), if_pos (by omega), if_pos (by omega), if_pos (by rw [hw]; omega), wrap64_id (n := (i : Int) + 1) (by omega) (by omega), show ((i : Int) + 1) = ((i + 1 : Nat) : Int) by omega,
   shl_bytes _ i (by omega) (by omega) (by omega), or_join _ _ i (by omega) hr.1 hr.2 (by omega) (by omega)]
  have e := unleL_snoc ((bytesOf s).take i) (bt s i)
  rw [hl, ← take_snoc_bytes s i (by omega)] at e
  rw [← e]
  exact ih k (i + 1) (by omega) (by omega) (by omega)
theorem number_f (s : ByteArray) (hs : s.size ≤ 140737488351232) (k : Nat) (hk : s.size < k) : word_Number.f k s = some (numR s) := by
 unfold word_Number.f
 by_cases hg : s.size = 1 ∨ s.size = 4 ∨ s.size = 8
 ·have h := number_l0 s (by omega) hg s.size k 0 (by omega) (by omega) hk
  simpa [unleL, wrap64] using h
 ·have h := number_bad s hs hg s.size k 0 0 (by omega) (by omega) hk
  unfold numR
  rw [if_neg (by omega), if_neg (by omega), if_neg (by omega)]
  exact h
/-- Number turns Bytes back. -/
theorem num_bytes (n size : Int) (h0 : -9223372036854775808 ≤ n) (h1 : n < 9223372036854775808) (h : Fits n size) : numR (bytesR n size).1 = (n, 0) := by
 unfold bytesR
 have hz : size = 1 ∨ size = 4 ∨ size = 8 := by unfold Fits at h; omega
 rw [if_pos hz, if_pos h]
 simp only [numR, strOfNums_size, leL_len]
 rw [bytesOf_str (leL_bs _ _), unleL_leL]
 rcases h with ⟨rfl, h⟩ | ⟨rfl, h⟩ | rfl
 ·rw [if_pos (by omega)]
  have e : (1 : Int).toNat = 1 := rfl
  rw [e]
  congr 1
  omega
 ·rw [if_neg (by omega), if_pos (by omega)]
  have e : (4 : Int).toNat = 4 := rfl
  rw [e]
  congr 1
  omega
 ·rw [if_neg (by omega), if_neg (by omega), if_pos (by omega)]
  have e : (8 : Int).toNat = 8 := rfl
  rw [e]
  unfold wrap64
  congr 1
  omega
end Go.Proofs.YtimhcpmfhebbhaaDoor.Word1
namespace Go.Proofs.YtimhcpmfhebbhaaDoor.M
set_option maxRecDepth 100000
open Go.RowKit Go.Proofs.YtimhcpmfhebbhaaDoorW.PrintWords Go.Proofs.YtimhcpmfhebbhaaDoorW.PrintLast Go.Proofs.YtimhcpmfhebbhaaDoor.Num Go.Proofs.YtimhcpmfhebbhaaDoor.Seven Go.Proofs.YtimhcpmfhebbhaaDoor.Word1 Go.Proofs.YtimhcpmfhebbhaaDoor.Obj
set_option linter.unusedVariables false
set_option linter.unusedSimpArgs false
def wordsOk (l : List Int) : Prop := ∀ n ∈ l, -9223372036854775808 ≤ n ∧ n < 9223372036854775808
instance (l : List Int) : Decidable (wordsOk l) := by unfold wordsOk; exact inferInstance
def textL (s : ByteArray) : List Int := putL s.size ++ bytesOf s
def symL (s : S68) : List Int := textL s.f0 ++ [s.f1 % 256] ++ putL s.f2.toNat
def relL (r : S116) : List Int := putL r.f0.toNat ++ [r.f1 % 256] ++ textL r.f2 ++ leL r.f3 8
def dataL (l : List Int) : List Int := l.flatMap fun n => leL n 8
def symsL (l : List S68) : List Int := l.flatMap symL
def relsL (l : List S116) : List Int := l.flatMap relL
def front0 (mark : List Int) (code : ByteArray) (data : List Int) : List Int := mark ++ textL code ++ putL data.length
def front1 (mark : List Int) (code : ByteArray) (data : List Int) (syms : List S68) : List Int := front0 mark code data ++ dataL data ++ putL syms.length
def front (mark : List Int) (code : ByteArray) (data : List Int) (syms : List S68) : List Int := front1 mark code data syms ++ symsL syms
def form (mark : List Int) (code : ByteArray) (data : List Int) (syms : List S68) (rels : List S116) : List Int := front mark code data syms ++ putL rels.length ++ relsL rels
def COT1 : List Int := [67, 79, 84, 49]
theorem symGood_named {code data : Int} {s : S68} (h : symGood code data s = true) : named s.f0 ∧ 0 ≤ s.f2 ∧ s.f2 < (if s.f1 = 2 then data else code) ∧ (s.f1 = 1 ∨ s.f1 = 2 ∨ s.f1 = 3) := by
 unfold symGood at h
 simp only [Bool.and_eq_true, decide_eq_true_eq] at h
 exact ⟨h.1.1.2, h.1.2, h.2, h.1.1.1⟩
theorem put_small {n : Nat} (h : n < 18446744073709551616) : (putL n).length ≤ 10 := putL_ten h
theorem bytes8 (n : Int) (h : -9223372036854775808 ≤ n ∧ n < 9223372036854775808) : word_Bytes.f 10 n 8 = some (strOfNums (leL n 8), 0) := by
 rw [bytes_f n 8 h.1 h.2 10 (by omega)]
 unfold bytesR
 rw [if_pos (by omega), if_pos (by unfold Fits; omega)]
 rfl
theorem put8 (n : Nat) (h : n < 18446744073709551616) : word_Put.f 10 (IntKind.u64.wrap (n : Int)) = some (strOfNums (putL n)) := by
 rw [wrap_u64_id (by omega) (by omega)]
 exact Put_f h (by omega)
theorem put8' (n : Int) (h0 : 0 ≤ n) (h : n < 18446744073709551616) : word_Put.f 10 (IntKind.u64.wrap n) = some (strOfNums (putL n.toNat)) := by
 have := put8 n.toNat (by omega)
 rwa [Int.toNat_of_nonneg h0] at this
theorem of_strPut (n : Nat) : bytesOf (strOfNums (putL n)) = putL n := bytesOf_str (putL_bs n)
theorem of_strLe (n : Int) (s : Nat) : bytesOf (strOfNums (leL n s)) = leL n s := bytesOf_str (leL_bs n s)
theorem str_size (l : List Int) (h : Bs l) : (strOfNums l).size = l.length := by rw [← bytesOf_length, bytesOf_str h]
theorem flat_snoc {α : Type} (f : α → List Int) (l : List α) (k : Nat) (h : k < l.length) : (l.take (k + 1)).flatMap f = (l.take k).flatMap f ++ f l[k] := by
 rw [List.take_succ_eq_append_getElem h, List.flatMap_append, List.flatMap_cons, List.flatMap_nil, List.append_nil]
theorem dataL_snoc (l : List Int) (k : Nat) (h : k < l.length) : dataL (l.take (k + 1)) = dataL (l.take k) ++ leL l[k] 8 := flat_snoc _ l k h
theorem symsL_snoc (l : List S68) (k : Nat) (h : k < l.length) : symsL (l.take (k + 1)) = symsL (l.take k) ++ symL l[k] := flat_snoc _ l k h
theorem dataL_len (l : List Int) : (dataL l).length = 8 * l.length := by
 induction l with
 | nil => rfl
 | cons n l ih =>
  have e : dataL (n :: l) = leL n 8 ++ dataL l := rfl
  rw [e, List.length_append, ih, leL_len, List.length_cons]
  omega
theorem textL_len (s : ByteArray) (h : s.size < 18446744073709551616) : (textL s).length ≤ 10 + s.size := by
 unfold textL
 rw [List.length_append, bytesOf_length]
 have := put_small h
 omega
theorem symL_len (s : S68) (h : named s.f0) (h2 : s.f2 < 18446744073709551616) : (symL s).length ≤ 49 := by
 unfold symL
 rw [List.length_append, List.length_append]
 have h1 := textL_len s.f0 (by have := h.2; omega)
 have h3 := put_small (n := s.f2.toNat) (by omega)
 have := h.2
 simp only [List.length_cons, List.length_nil]
 omega
theorem symsL_len (l : List S68) (h : ∀ s ∈ l, named s.f0 ∧ s.f2 < 18446744073709551616) : (symsL l).length ≤ 49 * l.length := by
 induction l with
 | nil => exact Nat.le_refl _
 | cons s l ih =>
  have e : symsL (s :: l) = symL s ++ symsL l := rfl
  have h1 := symL_len s (h s (by simp)).1 (h s (by simp)).2
  have h2 := ih (fun t ht => h t (by simp [ht]))
  rw [e, List.length_append, List.length_cons]
  omega
/-- What relocations that may be are, one by one. -/
theorem relsOk_all : ∀ (l : List S116) (code free : Int), 0 ≤ free → relsOk code free l = true → ∀ r ∈ l, named r.f2 ∧ 0 ≤ r.f0 ∧ r.f0 ≤ code - 4 ∧ (r.f1 = 1 ∨ r.f1 = 2) ∧ -9223372036854775808 ≤ r.f3 ∧ r.f3 < 9223372036854775808 := by
 intro l
 induction l with
 | nil => intro _ _ _ _ r hr; cases hr
 | cons x l ih =>
  intro code free hf h r hr
  simp only [relsOk, Bool.and_eq_true, decide_eq_true_eq] at h
  obtain ⟨⟨h1, h2, h3, h4⟩, h5⟩ := h
  rcases List.mem_cons.1 hr with rfl | hr
  ·exact ⟨h1, by omega, h3, by omega, by omega, by omega⟩
  ·exact ih code (x.f0 + 4) (by omega) h5 r hr
theorem may_parts {code : ByteArray} {data : List Int} {syms : List S68} {rels : List S116} (h : may code data syms rels = true) :
 code.size ≤ 65536 ∧ data.length ≤ 4096 ∧ syms.length ≤ 1000 ∧ rels.length ≤ 8000 ∧
 (∀ s ∈ syms, named s.f0 ∧ 0 ≤ s.f2 ∧ s.f2 < 65536 ∧ (s.f1 = 1 ∨ s.f1 = 2 ∨ s.f1 = 3)) ∧
 (∀ r ∈ rels, named r.f2 ∧ 0 ≤ r.f0 ∧ r.f0 < 65536 ∧ (r.f1 = 1 ∨ r.f1 = 2) ∧ -9223372036854775808 ≤ r.f3 ∧ r.f3 < 9223372036854775808) := by
 unfold may symsOk at h
 simp only [Bool.and_eq_true, decide_eq_true_eq] at h
 obtain ⟨⟨⟨⟨h1, h2⟩, ⟨h3, h4⟩, h5⟩, h6⟩, h7⟩ := h
 refine ⟨h1, h2, h5, h7, fun s hs => ?_, fun r hr => ?_⟩
 ·have := symGood_named (List.all_eq_true.1 h3 s hs)
  refine ⟨this.1, this.2.1, ?_, this.2.2.2⟩
  have h8 := this.2.2.1
  split at h8 <;> omega
 ·have := relsOk_all rels _ 0 (by omega) h6 r hr
  exact ⟨this.1, this.2.1, by omega, this.2.2.2.1, this.2.2.2.2.1, this.2.2.2.2.2⟩
end Go.Proofs.YtimhcpmfhebbhaaDoor.M
namespace Go.Proofs.YtimhcpmfhebbhaaDoor.M
open Go.RowKit Go.Proofs.YtimhcpmfhebbhaaDoorW.PrintWords Go.Proofs.YtimhcpmfhebbhaaDoorW.PrintLast
set_option linter.unusedVariables false
set_option linter.unusedSimpArgs false
def cotterref06_number.f (k : Nat) (a0 : Int) : Option (ByteArray) := (cotterref01_Put.f k (IntKind.u64.wrap (a0))).bind fun t273 => (some t273)
set_option maxHeartbeats 8000000 in
set_option maxRecDepth 100000 in
theorem cotterref06_number.calls (k : Nat) (a0 : Int) (r : ByteArray) (w : World) (h : cotterref06_number.f k a0 = some r) :
 Calls Tryd.prog 48 #[.int .i64 a0] w fun e w' => e = .returned (.string r) ∧ Below w.heap.size w w' := by
 have HB := z4 (Below.refl w.heap.size w)
 have H : ((cotterref01_Put.f k (IntKind.u64.wrap (a0))).bind fun t273 => (some t273)) = some r := h
 clear h
 replace H := z8 H
 obtain ⟨t273, A20, H⟩ := H
 replace H : (some t273) = some r := H
 have A2 := z4 A20
 clear A20
 obtain rfl := Option.some.inj H
 go_enter Tryd.func48, Tryd.ntmps48
 go_wp2_with (first | ((with_reducible refine gate_callee (f := 72) rfl ?_); refine goesL_ (some 5) rfl rfl Tryd.func72 (by kernel_rfl) rfl #[.int .u64 (IntKind.u64.wrap (a0))] rfl (by (try simp only [z9, List.map_cons, List.map_nil]); first | done | rfl | (simp only [z9a, z9b]; rfl)) ?_; (with_reducible refine (cotterref01_Put.calls k (IntKind.u64.wrap (a0)) t273 _ A2.out).mono ?_); rintro e w3 ⟨rfl, hb⟩; refine ⟨_, rfl, ?_⟩; have n0_ := z4 (zK (by repeat (first | exact HB.out | apply zA | apply zB | apply zD)) hb); clear HB; have HB := n0_; clear n0_; (try clear hb); (try clear hb2); (try clear hk); (try clear hi)))
 go_ret
 exact ⟨by first | rfl | (simp [errW_none, errW_some] <;> rfl) | (simp [*, errW_none, errW_some] <;> rfl), by repeat (first | exact HB.out | apply zA | apply zB | apply zD)⟩
def cotterref06_text.f (k : Nat) (a0 : ByteArray) : Option (ByteArray) := (cotterref06_number.f k (a0.size : Int)).bind fun t274 => (if t274.size + a0.size ≤ 9223372036854775807 then (some (t274 ++ a0)) else (none))
set_option maxHeartbeats 8000000 in
set_option maxRecDepth 100000 in
theorem cotterref06_text.calls (k : Nat) (a0 : ByteArray) (r : ByteArray) (w : World) (h : cotterref06_text.f k a0 = some r) :
 Calls Tryd.prog 47 #[.string a0] w fun e w' => e = .returned (.string r) ∧ Below w.heap.size w w' := by
 have HB := z4 (Below.refl w.heap.size w)
 have H : ((cotterref06_number.f k (a0.size : Int)).bind fun t274 => (if t274.size + a0.size ≤ 9223372036854775807 then (some (t274 ++ a0)) else (none))) = some r := h
 clear h
 replace H := z8 H
 obtain ⟨t274, A20, H⟩ := H
 replace H : (if t274.size + a0.size ≤ 9223372036854775807 then (some (t274 ++ a0)) else (none)) = some r := H
 have A2 := z4 A20
 clear A20
 by_cases c3 : t274.size + a0.size ≤ 9223372036854775807
 ·rw [if_pos c3] at H
  have c3b0 := eq_true c3
  have c3b1 : decide (t274.size + a0.size ≤ 9223372036854775807) = true := decide_eq_true c3
  try have c3b2 : (9223372036854775807 < t274.size + a0.size) = False := eq_false (Nat.not_lt.2 c3)
  obtain rfl := Option.some.inj H
  go_enter Tryd.func47, Tryd.ntmps47
  go_wp2_with (first | ((with_reducible refine gate_callee (f := 48) rfl ?_); refine goesL_ (some 5) rfl rfl Tryd.func48 (by kernel_rfl) rfl #[.int .i64 (a0.size : Int)] rfl (by (try simp only [z9, List.map_cons, List.map_nil]); first | done | rfl | (simp only [z9a, z9b]; rfl)) ?_; (with_reducible refine (cotterref06_number.calls k (a0.size : Int) t274 _ A2.out).mono ?_); rintro e w4 ⟨rfl, hb⟩; refine ⟨_, rfl, ?_⟩; have n0_ := z4 (zK (by repeat (first | exact HB.out | apply zA | apply zB | apply zD)) hb); clear HB; have HB := n0_; clear n0_; (try clear hb); (try clear hb2); (try clear hk); (try clear hi)))
  go_ret
  exact ⟨by first | rfl | (simp [errW_none, errW_some] <;> rfl) | (simp [*, errW_none, errW_some] <;> rfl), by repeat (first | exact HB.out | apply zA | apply zB | apply zD)⟩
 ·rw [if_neg c3] at H
  exact absurd H (by simp)
end Go.Proofs.YtimhcpmfhebbhaaDoor.M
namespace Go.Proofs.YtimhcpmfhebbhaaDoor.Word1
open Go.RowKit Go.Proofs.YtimhcpmfhebbhaaDoor.M Go.Proofs.YtimhcpmfhebbhaaDoor.Num Go.Proofs.YtimhcpmfhebbhaaDoor.Seven Go.Proofs.YtimhcpmfhebbhaaDoorW.PrintWords Go.Proofs.YtimhcpmfhebbhaaDoorW.PrintLast
theorem rput_l0 : ∀ (n k u : Nat) (x : List Int), u < 18446744073709551616 → u < 128 ^ (n + 1) → x.length + n < 140737488355328 → n < k → cotterref01_Put.l0 k u x = some (strOfNums (x ++ putL u)) := by
 intro n
 induction n with
 | zero =>
  intro k u x h64 hu hx hk
  obtain ⟨k, rfl⟩ : ∃ m, k = m + 1 := ⟨k - 1, by omega⟩
  simp only [cotterref01_Put.l0]
  rw [if_neg (by omega), if_pos (by omega), putL_small (by omega)]
  congr 4
  omega
 | succ n ih =>
  intro k u x h64 hu hx hk
  obtain ⟨k, rfl⟩ : ∃ m, k = m + 1 := ⟨k - 1, by omega⟩
  simp only [cotterref01_Put.l0]
  by_cases h : u < 128
  ·rw [if_neg (by omega), if_pos (by omega), putL_small h]
   congr 4
   omega
  ·rw [if_pos (by omega), if_pos (by omega)]
   have h2 : u / 128 < 128 ^ (n + 1) := by rw [Nat.div_lt_iff_lt_mul (by decide)]; rw [Nat.pow_succ] at hu; exact hu
   have d0 : Int.tdiv (u : Int) 128 = ((u / 128 : Nat) : Int) := by rw [Int.tdiv_eq_ediv_of_nonneg (by omega)]; omega
   have m0 : Int.tmod (u : Int) 128 = ((u % 128 : Nat) : Int) := by rw [Int.tmod_eq_emod_of_nonneg (by omega)]; omega
   have e : IntKind.u64.wrap (Int.tdiv (u : Int) 128) = ((u / 128 : Nat) : Int) := by rw [d0, wrap_u64]; omega
   have e2 : IntKind.u64.wrap (Int.tmod (u : Int) 128 + 128) % 256 = ((u % 128 + 128 : Nat) : Int) := by rw [m0, wrap_u64]; omega
   rw [e, e2, ih k (u / 128) _ (by omega) h2 (by simp; omega) (by omega), putL_great h]
   simp
theorem rput_f {k u : Nat} (hu : u < 18446744073709551616) (hk : 9 < k) : cotterref01_Put.f k u = some (strOfNums (putL u)) := by
 unfold cotterref01_Put.f
 have h := rput_l0 9 k u [] hu (by omega) (by simp) hk
 simpa using h
theorem sized_f (n : Int) : cotterref01_sized.f n = some (decide (n = 1 ∨ n = 4 ∨ n = 8)) := by
 unfold cotterref01_sized.f
 by_cases e1 : n = 1
 ·simp [e1]
 ·by_cases e4 : n = 4
  ·simp [e4]
  ·by_cases e8 : n = 8
   ·simp [e8]
   ·simp [e1, e4, e8]
theorem rbytes_l0 (n : Int) (s : Nat) (hs : s ≤ 8) : ∀ (d k i : Nat), s - i = d → i ≤ s → d < k →
 cotterref01_Bytes.l0 k s (leL n i) (n % 18446744073709551616 / 256 ^ i) i = some (strOfNums (leL n s), 0) := by
 intro d
 induction d with
 | zero =>
  intro k i hd hi hk
  obtain ⟨k, rfl⟩ : ∃ m, k = m + 1 := ⟨k - 1, by omega⟩
  obtain rfl : i = s := by omega
  simp only [cotterref01_Bytes.l0]
  rw [if_neg (by omega)]
 | succ d ih =>
  intro k i hd hi hk
  obtain ⟨k, rfl⟩ : ∃ m, k = m + 1 := ⟨k - 1, by omega⟩
  simp only [cotterref01_Bytes.l0]
  have hp := pow256_pos i
  have hq : 0 ≤ n % 18446744073709551616 / 256 ^ i := Int.ediv_nonneg (by omega) (by omega)
  have hq1 : n % 18446744073709551616 / 256 ^ i ≤ n % 18446744073709551616 := Int.ediv_le_self _ (by omega)
  have hb : n % 18446744073709551616 / 256 ^ i % 256 = n / 256 ^ i % 256 := by
   have h := leL_mod n (i + 1) 8 (by omega)
   have e8 : (256 : Int) ^ 8 = 18446744073709551616 := by decide
   rw [e8, leL_snoc, leL_snoc, leL_mod' n i (by omega)] at h
   simpa using h
  have hm : Int.tmod (n % 18446744073709551616 / 256 ^ i) 256 = n / 256 ^ i % 256 := by rw [Int.tmod_eq_emod_of_nonneg hq, hb]
  have hd2 : IntKind.u64.wrap (Int.tdiv (n % 18446744073709551616 / 256 ^ i) 256) = n % 18446744073709551616 / 256 ^ (i + 1) := by
   rw [Int.tdiv_eq_ediv_of_nonneg hq, wrap_u64_id (by omega) (by omega), Int.ediv_ediv_of_nonneg (by omega), Int.pow_succ]
  rw [if_pos (by omega), if_pos (by rw [leL_len]; omega), hm, hd2, show n / 256 ^ i % 256 % 256 = n / 256 ^ i % 256 by omega, ← leL_snoc, wrap64_id (by omega) (by omega), show ((i : Int) + 1) = ((i + 1 : Nat) : Int) by omega]
  exact ih k (i + 1) (by omega) (by omega) (by omega)
theorem rbytes_f (n size : Int) (h0 : -9223372036854775808 ≤ n) (h1 : n < 9223372036854775808) (k : Nat) (hk : 10 < k) : cotterref01_Bytes.f k n size = some (bytesR n size) := by
 obtain ⟨k, rfl⟩ : ∃ m, k = m + 1 := ⟨k - 1, by omega⟩
 have hj : ∀ s : Nat, s ≤ 8 → cotterref01_Bytes.j0 (k + 1) n s = some (strOfNums (leL n s), 0) := by
  intro s hs
  simp only [cotterref01_Bytes.j0]
  rw [wrap_u64]
  have h := rbytes_l0 n s hs s k 0 (by omega) (by omega) (by omega)
  simpa [leL] using h
 unfold cotterref01_Bytes.f bytesR
 rw [sized_f]
 simp only [Option.bind_some, decide_eq_true_eq]
 by_cases hz : size = 1 ∨ size = 4 ∨ size = 8
 ·rw [if_pos hz, if_pos hz]
  rcases hz with rfl | rfl | rfl
  ·have e1 : IntKind.u64.wrap (wrap64 (wrap64 (8 * 1) - 1)) = 7 := by decide +kernel
   have e2 : shl .i64 1 7 = 128 := by decide +kernel
   have e3 : wrap64 (-128) = -128 := by decide +kernel
   rw [if_pos (by omega), e1, e2, e3, if_pos (by omega)]
   by_cases ha : n < -128
   ·rw [if_pos ha, if_neg (by unfold Fits; omega)]
   ·rw [if_neg ha]
    by_cases hb : n ≥ 128
    ·rw [if_pos hb, if_neg (by unfold Fits; omega)]
    ·rw [if_neg hb, if_pos (by unfold Fits; omega)]
     exact hj 1 (by omega)
  ·have e1 : IntKind.u64.wrap (wrap64 (wrap64 (8 * 4) - 1)) = 31 := by decide +kernel
   have e2 : shl .i64 1 31 = 2147483648 := by decide +kernel
   have e3 : wrap64 (-2147483648) = -2147483648 := by decide +kernel
   rw [if_pos (by omega), e1, e2, e3, if_pos (by omega)]
   by_cases ha : n < -2147483648
   ·rw [if_pos ha, if_neg (by unfold Fits; omega)]
   ·rw [if_neg ha]
    by_cases hb : n ≥ 2147483648
    ·rw [if_pos hb, if_neg (by unfold Fits; omega)]
    ·rw [if_neg hb, if_pos (by unfold Fits; omega)]
     exact hj 4 (by omega)
  ·rw [if_neg (by omega), if_pos (by unfold Fits; omega)]
   exact hj 8 (by omega)
 ·rw [if_neg hz, if_neg hz]
theorem rnumber_l0 (s : ByteArray) (hg : s.size = 1 ∨ s.size = 4 ∨ s.size = 8) : ∀ (d k : Nat), d ≤ s.size → d < k →
 cotterref01_Number.l0 k s (unleL ((bytesOf s).drop d)) ((d : Int) - 1) = some (numR s) := by
 intro d
 induction d with
 | zero =>
  intro k hi hk
  obtain ⟨k, rfl⟩ : ∃ m, k = m + 1 := ⟨k - 1, by omega⟩
  simp only [cotterref01_Number.l0]
  have hr := unleL_range _ (bytesOf_Bs s)
  rw [bytesOf_length] at hr
  have hlast : ∀ n : Nat, s.size = n + 1 → unleL (bytesOf s) = unleL ((bytesOf s).take n) + bt s n * 256 ^ n ∧ 0 ≤ unleL ((bytesOf s).take n) ∧ unleL ((bytesOf s).take n) < 256 ^ n := by
   intro n hn
   have hl : ((bytesOf s).take n).length = n := by rw [z9b, bytesOf_length]; omega
   have e := unleL_snoc ((bytesOf s).take n) (bt s n)
   rw [hl, ← take_snoc_bytes s n (by omega), List.take_of_length_le (by rw [bytesOf_length]; omega)] at e
   have hr2 := unleL_range _ ((bytesOf_Bs s).take n)
   rw [hl] at hr2
   exact ⟨e, hr2.1, hr2.2⟩
  rw [if_neg (by omega), List.drop_zero]
  unfold numR
  rcases hg with h | h | h
  ·obtain ⟨g1, g2, g3⟩ := hlast 0 h
   have hbr := bt_range s (0 : Nat)
   rw [h] at hr
   have ew : wrap64 ((s.size : Int) - 1) = ((0 : Nat) : Int) := by rw [h]; decide +kernel
   have es : shl .u64 1 (IntKind.u64.wrap (wrap64 (8 * (s.size : Int)))) = 256 := by rw [h]; decide +kernel
   rw [if_pos (by omega), ew, if_pos (by omega), if_pos (by omega), if_pos h, es]
   by_cases hb : bt s (0 : Nat) ≥ 128
   ·rw [if_pos hb, if_pos (by rw [wrap_u64]; omega), wrap_u64]
    unfold wrap64
    congr 2
    omega
   ·rw [if_neg hb]
    unfold wrap64
    congr 2
    omega
  ·obtain ⟨g1, g2, g3⟩ := hlast 3 h
   have hbr := bt_range s (3 : Nat)
   rw [h] at hr
   have ew : wrap64 ((s.size : Int) - 1) = ((3 : Nat) : Int) := by rw [h]; decide +kernel
   have es : shl .u64 1 (IntKind.u64.wrap (wrap64 (8 * (s.size : Int)))) = 4294967296 := by rw [h]; decide +kernel
   rw [if_pos (by omega), ew, if_pos (by omega), if_pos (by omega), if_neg (show ¬ s.size = 1 by omega), if_pos h, es]
   by_cases hb : bt s (3 : Nat) ≥ 128
   ·rw [if_pos hb, if_pos (by rw [wrap_u64]; omega), wrap_u64]
    unfold wrap64
    congr 2
    omega
   ·rw [if_neg hb]
    unfold wrap64
    congr 2
    omega
  ·rw [if_neg (by omega), if_neg (by omega), if_neg (by omega), if_pos h]
 | succ d ih =>
  intro k hi hk
  obtain ⟨k, rfl⟩ : ∃ m, k = m + 1 := ⟨k - 1, by omega⟩
  simp only [cotterref01_Number.l0]
  have e1 : ((d + 1 : Nat) : Int) - 1 = (d : Int) := by omega
  have hbr := bt_range s d
  have hr := unleL_range _ ((bytesOf_Bs s).drop (d + 1))
  have hl : ((bytesOf s).drop (d + 1)).length = s.size - (d + 1) := by rw [z9a, bytesOf_length]
  have h7 : (256 : Int) ^ (s.size - (d + 1)) ≤ 256 ^ 7 := by
   have h1 : 256 ^ (s.size - (d + 1)) ≤ 256 ^ 7 := Nat.pow_le_pow_right (by decide) (by omega)
   have h2 : ((256 ^ (s.size - (d + 1)) : Nat) : Int) = (256 : Int) ^ (s.size - (d + 1)) := by simp
   have h3 : ((256 ^ 7 : Nat) : Int) = (256 : Int) ^ 7 := by simp
   omega
  have e7 : (256 : Int) ^ 7 = 72057594037927936 := by decide
  rw [hl] at hr
  rw [e7] at h7
  rw [e1, if_pos (by omega), if_pos (by omega), if_pos (by omega), wrap64_id (by omega) (by omega)]
  have e2 : IntKind.u64.wrap (IntKind.u64.wrap (unleL ((bytesOf s).drop (d + 1)) * 256) + IntKind.u64.wrap (bt s d)) = unleL ((bytesOf s).drop d) := by
   rw [bt_drop s d (by omega), unleL, wrap_u64, wrap_u64, wrap_u64]
   omega
  rw [e2]
  exact ih k (by omega) (by omega)
theorem rnumber_f (s : ByteArray) (hs : s.size ≤ 281474976710656) (k : Nat) (hk : 9 < k) : cotterref01_Number.f k s = some (numR s) := by
 unfold cotterref01_Number.f
 rw [sized_f]
 simp only [Option.bind_some, decide_eq_true_eq]
 by_cases hg : s.size = 1 ∨ s.size = 4 ∨ s.size = 8
 ·rw [if_pos (by omega), wrap64_id (by omega) (by omega)]
  have h := rnumber_l0 s hg s.size k (by omega) (by omega)
  rw [List.drop_eq_nil_of_le (by rw [bytesOf_length]; exact Nat.le_refl _)] at h
  exact h
 ·rw [if_neg (by omega)]
  unfold numR
  rw [if_neg (by omega), if_neg (by omega), if_neg (by omega)]
end Go.Proofs.YtimhcpmfhebbhaaDoor.Word1
namespace Go.Proofs.YtimhcpmfhebbhaaDoorW.PrintWords
set_option maxRecDepth 100000
open Go.RowKit
set_option linter.unusedVariables false
set_option linter.unusedSimpArgs false
/-- A row of bytes of the call's own, whether it bears a mark behind its end or not. -/
def OwnB (w : World) (base e : Nat) (v : Value) (xs : List Int) : Prop :=
 (v = .slice none 0 0 ∧ xs = []) ∨ ∃ (g cap : Nat) (cur : Array Value) (fr : Nat × Nat), v = .slice (some ⟨g, 0, none⟩) xs.length cap ∧ base ≤ g ∧ w.heap[g]? = some (.cells cur e fr) ∧ (fr.2 ≤ fr.1 ∨ cur.size ≤ fr.1) ∧ xs.length ≤ cap ∧ cap ≤ maxLen ∧ cur.size = cap ∧ cur.toList.take xs.length = nums .u8 xs
theorem OwnB.slice {w : World} {base e : Nat} {v : Value} {xs : List Int} (h : OwnB w base e v xs) : ∃ A c, v = .slice A xs.length c := by
 rcases h with ⟨rfl, rfl⟩ | ⟨g, cap, cur, fr, rfl, _⟩
 ·exact ⟨none, 0, rfl⟩
 ·exact ⟨_, _, rfl⟩
theorem OwnB.kept {w w1 : World} {base e : Nat} {v : Value} {xs : List Int} (h : OwnB w base e v xs) (hk : ∀ k, v.ownBlock = some k → k < w.heap.size → w1.heap[k]? = w.heap[k]?) : OwnB w1 base e v xs := by
 rcases h with h | ⟨g, cap, cur, fr, rfl, hb, hg, r⟩
 ·exact .inl h
 ·exact .inr ⟨g, cap, cur, fr, rfl, hb, (hk g rfl (blk_lt hg)).trans hg, r⟩
theorem OwnB.below {w w1 : World} {base e : Nat} {v : Value} {xs : List Int} (h : OwnB w base e v xs) (hb : Below w.heap.size w w1) : OwnB w1 base e v xs := h.kept (fun k _ hk => hb.block k hk)
theorem OwnB.typed {w : World} {base e : Nat} {v : Value} {xs : List Int} (h : OwnB w base e v xs) (k : Nat) (hk : v.ownBlock = some k) : base ≤ k ∧ ∃ cells fr, w.heap[k]? = some (.cells cells e fr) := by
 rcases h with ⟨rfl, _⟩ | ⟨g, cap, cur, fr, rfl, hb, hg, r⟩
 ·simp [Value.ownBlock] at hk
 ·have : g = k := by simpa [Value.ownBlock] using hk
  subst this
  exact ⟨hb, cur, fr, hg⟩
theorem OwnB.cells {w : World} {base e : Nat} {v : Value} {xs : List Int} (h : OwnB w base e v xs) : (∃ c, v = .slice none 0 c ∧ xs = []) ∨ ∃ g cap, v = .slice (some ⟨g, 0, none⟩) xs.length cap ∧ ∀ j u, (nums .u8 xs)[j]? = some u → w.cell? ⟨g, j, none⟩ = some u := by
 rcases h with ⟨rfl, rfl⟩ | ⟨g, cap, cur, fr, rfl, hb, hg, hf, h1, h2, h3, h4⟩
 ·exact .inl ⟨0, rfl, rfl⟩
 ·refine .inr ⟨g, cap, rfl, fun j u hj => ?_⟩
  rw [cell_of_row w g j cur e fr hg]
  have hlt : j < xs.length := by rw [← nums_length .u8 xs]; exact (List.getElem?_eq_some_iff.1 hj).1
  rw [← h4, List.getElem?_take_of_lt hlt] at hj
  simpa using hj
theorem OwnB.string {P : Program} {w : World} {base e' : Nat} {src dst e : TypeId} {v : Value} {xs : List Int} (hs : P.underlying src = some (.slice e)) (he : P.underlying e = some (.int .u8)) (hd : P.underlying dst = some .string)
 (h : OwnB w base e' v xs) : (convert src dst v).run P w = .ok (.string (strOfNums xs)) w := by
 rcases h.cells with ⟨c, rfl, rfl⟩ | ⟨g, cap, rfl, hc⟩
 ·exact run_convert_bytes_nil w src e hs he 0 c dst hd
 ·refine run_convert_bytes_arg w src e hs he g 0 xs.length cap xs rfl (fun i hi => ?_) dst hd
  have := hc i (.int .u8 (xs.getD i 0)) (by simp [nums, List.getElem?_eq_getElem (show i < xs.length by omega), List.getD_eq_getElem?_getD])
  simpa using this
/-- '[]byte(s)': the new row. -/
theorem OwnB.new (w : World) (base e : Nat) (s : ByteArray) (hb : base ≤ w.heap.size) (hs : s.size ≤ maxLen) : OwnB (Lib.bytesWorld w e s) base e (.slice (some ⟨w.heap.size, 0, none⟩) s.size (grownCap w s.size 0 e)) (bytesOf s) := by
 have hge := grownCap_ge w s.size 0 e
 have hcm := grownCap_le_maxLen w s.size 0 e hs
 have hsz : (Lib.bytesCells w e s).size = grownCap w s.size 0 e := by
  simp only [Lib.bytesCells, Array.size_append, Array.size_map, Array.size_replicate]
  have : s.data.size = s.size := rfl
  omega
 have hl : (bytesOf s).length = s.size := bytesOf_length s
 refine .inr ⟨w.heap.size, _, _, _, by rw [hl], hb, Lib.bytesWorld_at_new w e s, .inr (Nat.le_refl _), by rw [hl]; exact hge, hcm, hsz, ?_⟩
 rw [hl]
 have e1 : (s.data.map fun b => Value.int .u8 b.toNat).toList = nums .u8 (bytesOf s) := by simp [nums, bytesOf]
 have e2 : (nums .u8 (bytesOf s)).length = s.size := by rw [nums_length, hl]
 simp only [Lib.bytesCells, Array.toList_append]
 rw [e1, ← e2]
 exact List.take_left
theorem bytesWorld_below (w : World) (e : TypeId) (s : ByteArray) : Below w.heap.size w (Lib.bytesWorld w e s) :=
 ⟨rfl, rfl, rfl, by rw [Lib.bytesWorld_size]; omega, fun i hi => Lib.bytesWorld_at_old w e s i hi⟩
theorem run_storeCells_mark {P : Program} (g o : Nat) (t : TypeId) (fr : Nat × Nat) : ∀ (vs : List Value) (i : Nat) (cur : Array Value) (w : World), w.heap[g]? = some (.cells cur t fr) → (fr.2 ≤ fr.1 ∨ cur.size ≤ fr.1) → o + i + vs.length ≤ cur.size → (∀ v ∈ vs, v.oneCell' = true) →
 (storeCells ⟨g, o, none⟩ vs i).run P w = .ok () (w.setRow g (cur.toList.take (o + i) ++ vs ++ cur.toList.drop (o + i + vs.length)).toArray)
 | [], i, cur, w, hg, _, _, _ => by
  simp only [storeCells, List.append_nil, List.length_nil, Nat.add_zero, List.take_append_drop, Array.toArray_toList]
  rw [setRow_self w g cur t fr hg]
  rfl
 | v :: rest, i, cur, w, hg, hf, hl, h1 => by
  have hi : o + i < cur.size := by simp at hl; omega
  have hadd : (⟨g, o, none⟩ : Addr).add i = ⟨g, o + i, none⟩ := by unfold Addr.add; split <;> simp_all
  have hcell : w.cell? ⟨g, o + i, none⟩ = some cur[o + i] := by simp [World.cell?, hg, hi]
  have hfro : w.frozen? ⟨g, o + i, none⟩ = false := by
   simp [World.frozen?, hg]
   omega
  have hst : (store ((⟨g, o, none⟩ : Addr).add i) v).run P w = .ok () (w.setRow g (cur.setIfInBounds (o + i) v)) := by
   rw [hadd, run_store P w _ v _ (h1 v (by simp)), hcell]
   simp [hfro, setCell_eq_setRow w g (o + i) cur t fr v hg]
  have ih := run_storeCells_mark (P := P) g o t fr rest (i + 1) (cur.setIfInBounds (o + i) v) (w.setRow g (cur.setIfInBounds (o + i) v)) (setRow_heap w g cur _ t _ hg) (by simpa using hf) (by simp at hl ⊢; omega) (fun x hx => h1 x (by simp [hx]))
  simp only [storeCells, Sem.run_bind, hst, Result.andThen_ok, ih, setRow_setRow]
  congr 3
  have e := list_seg_step cur.toList (o + i) v rest (by simp at hl ⊢; omega)
  simpa [Array.toList_setIfInBounds, Nat.add_assoc] using e
theorem run_append_mark {P : Program} (w : World) (base : Nat) (t u ty e : TypeId) (i : TypeInfo) (ht : P.underlying t = some (.slice e)) (hu : P.underlying u = some .string) (hi : P.info? e = some i) (hz : i.zero = some (.int .u8 0))
 (hsize : i.size = 1) (hby : i.bytes = 1) (v : Value) (xs : List Int) (h : OwnB w base e v xs) (s : ByteArray) (hl : xs.length + s.size ≤ 140737488355328) (hbase : base ≤ w.heap.size) :
 ∃ v' w', (Builtin.append_ #[t, u] ty #[v, .string s]).run P w = .ok v' w' ∧ OwnB w' base e v' (xs ++ bytesOf s) ∧ w.grownBy w' v.ownBlock := by
 have hl2 : (xs ++ bytesOf s).length = xs.length + s.size := by rw [List.length_append, bytesOf_length]
 have hc2 : nums .u8 (xs ++ bytesOf s) = nums .u8 xs ++ Lib.strCells s := by
  rw [nums_append]
  congr 1
  simp [nums, bytesOf, Lib.strCells]
 rcases h with ⟨rfl, rfl⟩ | ⟨g, cap, cur, fr, rfl, hbg, hg, hf, h1, h2, h3, h4⟩
 ·obtain ⟨v', w', hr, ho, hgr, _⟩ := Lib.run_append_own_string (P := P) w base t u ty e i ht hu hi hz hsize hby (.slice none 0 0) 0 [] (World.ownsRow_nil w base e 1) s (by simp only [maxLen]; omega) (by simpa using hl) hbase
  refine ⟨v', w', hr, ?_, hgr⟩
  simp only [List.nil_append]
  rcases ho.2 with ⟨rfl, h0⟩ | ⟨g, cap, cur, rfl, hb, hh, a1, a2, a3, a4⟩
  ·have : bytesOf s = [] := List.eq_nil_of_length_eq_zero (by rw [bytesOf_length]; omega)
   exact .inl ⟨rfl, this⟩
  ·have e1 : (bytesOf s).length = s.size := bytesOf_length s
   refine .inr ⟨g, cap, cur, (0, 0), by rw [e1]; simp, hb, hh, .inl (Nat.le_refl _), by rw [e1]; omega, a2, by simpa using a3, ?_⟩
   rw [e1]
   have : nums .u8 (bytesOf s) = Lib.strCells s := by simp [nums, bytesOf, Lib.strCells]
   rw [this]
   simpa using a4
 ·by_cases hroom : xs.length + s.size ≤ cap
  ·have hfc := Lib.run_firstCells_string (P := P) w 1 s
   have hst := run_storeCells_mark (P := P) g xs.length e fr (Lib.strCells s) 0 cur w hg hf (by rw [Lib.strCells_length, Nat.add_zero]; omega) (Lib.strCells_oneCell s)
   simp only [Nat.add_zero, Lib.strCells_length] at hst
   have hrun : (Builtin.append_ #[t, u] ty #[.slice (some ⟨g, 0, none⟩) xs.length cap, .string s]).run P w = .ok (.slice (some ⟨g, 0, none⟩) (xs.length + s.size) cap) (w.setRow g (cur.toList.take xs.length ++ Lib.strCells s ++ cur.toList.drop (xs.length + s.size)).toArray) := by
    simp [Builtin.append_, run_underlying ht, run_underlying hu, sizeOf, typeInfo, hi, hsize, Builtin.lenOf, hroom, hfc, Addr.add_lit, hst]
   refine ⟨.slice (some ⟨g, 0, none⟩) (xs.length + s.size) cap, _, hrun, .inr ⟨g, cap, _, fr, by rw [hl2], hbg, setRow_heap w g cur _ e _ hg, ?_, by rw [hl2]; exact hroom, h2, ?_, ?_⟩, ⟨rfl, rfl, rfl, by simp, fun k _ hk => setRow_other w g k _ (fun e => hk (by simp [Value.ownBlock, e]))⟩⟩
   ·simp only [List.size_toArray, List.length_append, List.length_take, List.length_drop, Array.length_toList, Lib.strCells_length]
    omega
   ·simp only [List.size_toArray, List.length_append, List.length_take, List.length_drop, Array.length_toList, Lib.strCells_length]
    omega
   ·rw [h4, hl2, hc2]
    have e2 : (nums .u8 xs ++ Lib.strCells s).length = xs.length + s.size := by rw [List.length_append, nums_length, Lib.strCells_length]
    rw [← e2]
    exact List.take_left
  ·have holds : ∀ j u, (nums .u8 xs)[j]? = some u → w.cell? ((⟨g, 0, none⟩ : Addr).add j) = some u := fun j u hj => by
    rw [add_plain, cell_of_row w g j cur e fr hg]
    have hlt : j < xs.length := by rw [← nums_length .u8 xs]; exact (List.getElem?_eq_some_iff.1 hj).1
    rw [← h4, List.getElem?_take_of_lt hlt] at hj
    simpa using hj
   have hr := Lib.run_append_grow_string (P := P) w t u ty e i (.int .u8 0) ht hu hi hz ⟨g, 0, none⟩ xs.length cap (nums .u8 xs) (by rw [hsize, nums_length]; simp) holds s (by omega) (by omega) (by rw [hby]; exact growslice_fits (by omega) (by omega))
   have hge := grownCap_ge w (xs.length + s.size) cap e
   have hcm : grownCap w (xs.length + s.size) cap e ≤ maxLen := grownCap_le_maxLen w (xs.length + s.size) cap e (by simp only [maxLen]; omega)
   refine ⟨_, _, hr, .inr ⟨w.heap.size, _, _, (0, 0), by rw [hl2], hbase, heap_alloc_new w.drew _, .inl (Nat.le_refl _), by rw [hl2]; exact hge, hcm, ?_, ?_⟩, ⟨rfl, rfl, rfl, by simp, fun k hk _ => Below.heap_alloc w.drew _ k hk⟩⟩
   ·have hz1 : (Value.int IntKind.u8 0).cells.size = 1 := rfl
    simp only [Array.size_append, List.size_toArray, size_zeroCells, hz1, nums_length, Lib.strCells_length]
    omega
   ·have e2 : (nums .u8 xs ++ Lib.strCells s).length = xs.length + s.size := by rw [List.length_append, nums_length, Lib.strCells_length]
    simp only [Array.toList_append, List.append_assoc]
    rw [hl2, hc2, ← List.append_assoc, ← e2]
    exact List.take_left
section
variable {P : Program} {ops : Array Oper} {rest : List Oper} {o : Oper} {a : Act} {Q : Exit → Act → World → Prop} {K : Act → World → Prop}
/-- append of a text's bytes, as one step of a region that draws. -/
theorem mark_step {W : World} (base : Nat) (hw : Region.wanted o (yielded ops a.tmps) = true) (s x : Operand) (t u e : TypeId)
 (ho : o.op = .call { callee := .builtin .append, args := #[s, x], argTypes := #[t, u] })
 (ht : P.underlying t = some (.slice e)) (hu : P.underlying u = some .string) (hinfo : (P.info? e).map (fun i => (i.zero, i.size, i.bytes)) = some (some (.int .u8 0), 1, 1))
 (v : Value) (xs ys : List Int) (y : ByteArray) (hy : ys = xs ++ bytesOf y) (hs : a.eval s = v) (hx : a.eval x = .string y)
 (HO : OwnB W base e v xs) (hbase : base ≤ W.heap.size) (hl : xs.length + y.size ≤ 140737488355328)
 (h : ∀ A n w1, OwnB w1 base e (.slice A ys.length n) ys → W.grownBy w1 v.ownBlock → K (a.put o.dst (.slice A ys.length n)) w1) :
 if Region.wanted o (yielded ops a.tmps) = true then Oper.wp P o a W K Q else K (a.put o.dst undef) W := by
 obtain ⟨i0, hi, hzz⟩ := Option.map_eq_some_iff.1 hinfo
 simp only [Prod.mk.injEq] at hzz
 obtain ⟨hz0, hz1, hz2⟩ := hzz
 rw [if_pos hw]
 obtain ⟨v1, w1, hr, hown, hg⟩ := run_append_mark (P := P) W base t u o.type e i0 ht hu hi hz0 hz1 hz2 v xs HO y hl hbase
 unfold Oper.wp execOp
 simp only [ho, resolve, invoke, builtin, Sem.run_bind, Sem.run_pure, Result.andThen_ok, List.map_toArray, List.map_cons, List.map_nil, hs, hx, hr]
 rw [← hy] at hown
 obtain ⟨A, n, rfl⟩ := hown.slice
 exact h A n w1 hown hg
/-- .. where no order is drawn. -/
theorem mark_append {W : World} (base : Nat) (hgd : o.guard = none) (s x : Operand) (t u e : TypeId)
 (ho : o.op = .call { callee := .builtin .append, args := #[s, x], argTypes := #[t, u] })
 (ht : P.underlying t = some (.slice e)) (hu : P.underlying u = some .string) (hinfo : (P.info? e).map (fun i => (i.zero, i.size, i.bytes)) = some (some (.int .u8 0), 1, 1))
 (v : Value) (xs ys : List Int) (y : ByteArray) (hy : ys = xs ++ bytesOf y) (hs : a.eval s = v) (hx : a.eval x = .string y)
 (HO : OwnB W base e v xs) (hbase : base ≤ W.heap.size) (hl : xs.length + y.size ≤ 140737488355328)
 (h : ∀ A n w1, OwnB w1 base e (.slice A ys.length n) ys → W.grownBy w1 v.ownBlock → wpList P ops Q rest (a.put o.dst (.slice A ys.length n)) w1) :
 wpList P ops Q (o :: rest) a W := by
 refine wpList_plain hgd fun K' hK' => ?_
 have := mark_step (P := P) (ops := ops) (o := o) (a := a) (Q := Q) (K := K') (W := W) base (by simp [Region.wanted, hgd]) s x t u e ho ht hu hinfo v xs ys y hy hs hx HO hbase hl (fun A n w1 h1 h2 => hK' _ _ (h A n w1 h1 h2))
 rw [if_pos (by simp [Region.wanted, hgd])] at this
 exact this
end
end Go.Proofs.YtimhcpmfhebbhaaDoorW.PrintWords
namespace Go.Proofs.YtimhcpmfhebbhaaDoor.M
set_option maxRecDepth 100000
open Go.RowKit Go.Proofs.YtimhcpmfhebbhaaDoorW.PrintWords Go.Proofs.YtimhcpmfhebbhaaDoorW.PrintLast Go.Proofs.YtimhcpmfhebbhaaDoor.Num Go.Proofs.YtimhcpmfhebbhaaDoor.Seven Go.Proofs.YtimhcpmfhebbhaaDoor.Word1 Go.Proofs.YtimhcpmfhebbhaaDoor.Obj
set_option linter.unusedVariables false
set_option linter.unusedSimpArgs false
theorem rnum_f (n : Int) (h0 : 0 ≤ n) (h : n < 18446744073709551616) : cotterref06_number.f 10 n = some (strOfNums (putL n.toNat)) := by
 unfold cotterref06_number.f
 rw [wrap_u64_id h0 h]
 have := rput_f (k := 10) (u := n.toNat) (by omega) (by omega)
 rw [Int.toNat_of_nonneg h0] at this
 rw [this]
 rfl
theorem rtext_f (s : ByteArray) (h : s.size ≤ 1000000) : cotterref06_text.f 10 s = some (strOfNums (textL s)) := by
 unfold cotterref06_text.f
 rw [rnum_f _ (by omega) (by omega)]
 have h1 := put_small (n := s.size) (by omega)
 have e : strOfNums (putL s.size) ++ s = strOfNums (textL s) := by
  have := str_append (putL s.size) (bytesOf s)
  rw [str_bytesOf] at this
  exact this
 simp only [Option.bind_some, Int.toNat_natCast]
 rw [if_pos (by rw [str_size _ (putL_bs _)]; omega), e]
theorem rwide_f (n : Int) (h : -9223372036854775808 ≤ n ∧ n < 9223372036854775808) : cotterref06_wide.f 11 n = some (strOfNums (leL n 8)) := by
 unfold cotterref06_wide.f
 rw [rbytes_f n 8 h.1 h.2 11 (by omega)]
 unfold bytesR
 rw [if_pos (by omega), if_pos (by unfold Fits; omega)]
 rfl
theorem of_str {l : List Int} (h : Bs l) : bytesOf (strOfNums l) = l := bytesOf_str h
theorem textL_bs (s : ByteArray) : Bs (textL s) := Bs.append (putL_bs _) (bytesOf_Bs s)
theorem one_bs (n : Int) : Bs [n % 256] := Bs.cons (by omega) (by omega) Bs.nil
theorem u8_wrap (n : Int) : IntKind.u8.wrap n = n % 256 := by simp [IntKind.wrap, IntKind.bits, IntKind.signed]
theorem conv1 (W : World) (b : Nat) (x : Int) (h : W.cell? ⟨b, 0, none⟩ = some (.int .u8 x)) : (convert 60 9 (.slice (some ⟨b, 0, none⟩) 1 1)).run Tryd.prog W = .ok (.string (strOfNums [x])) W := by
 refine run_convert_bytes_arg W 60 5 Tryd.underlying60 Tryd.underlying5 b 0 1 1 [x] rfl (fun i hi => ?_) 9 Tryd.underlying9
 obtain rfl : i = 0 := by omega
 simpa using h
theorem below_in {w W w1 : World} (h : Below w.heap.size w W) (k : Below W.heap.size W w1) : Below w.heap.size w w1 := below_then h h.size k
theorem ownB_grown {w W w1 : World} {v : Value} {xs : List Int} (h : Below w.heap.size w W) (ho : OwnB W w.heap.size 5 v xs) (hg : W.grownBy w1 v.ownBlock) : Below w.heap.size w w1 := h.grown hg h.size (fun k hk => (ho.typed k hk).1)
set_option maxHeartbeats 8000000 in
set_option maxRecDepth 100000 in
theorem front_c (mark code : ByteArray) (A1 : Option Addr) (c1 : Nat) (data : List Int) (A2 : Option Addr) (c2 : Nat) (syms : List S68) (w : World) (hr1 : Kd.C (Kd.int .i64) w A1 data.length data) (hc1 : data.length ≤ c1) (hr2 : Kd.C k68 w A2 syms.length syms) (hc2 : syms.length ≤ c2)
 (hm : mark.size ≤ 100) (hcs : code.size ≤ 65536) (hds : data.length ≤ 4096) (hss : syms.length ≤ 1000) (hw : wordsOk data) (hs : ∀ s ∈ syms, named s.f0 ∧ 0 ≤ s.f2 ∧ s.f2 < 65536) :
 Calls Tryd.prog 30 #[.string mark, .string code, .slice A1 data.length c1, .slice A2 syms.length c2] w fun e w' => e = .returned (.string (strOfNums (front (bytesOf mark) code data syms))) ∧ Below w.heap.size w w' := by
 have t0 := textL_len code (by omega)
 have p1 := put_small (n := data.length) (by omega)
 have p2 := put_small (n := syms.length) (by omega)
 have TC := z4 (rtext_f code (by omega))
 have N1 := z4 (rnum_f (data.length : Int) (by omega) (by omega))
 have N2 := z4 (rnum_f (syms.length : Int) (by omega) (by omega))
 have z1 : (strOfNums (textL code)).size ≤ 65546 := by rw [str_size _ (textL_bs _)]; omega
 have z2 : (strOfNums (putL (data.length : Int).toNat)).size ≤ 10 := by rw [str_size _ (putL_bs _)]; simpa using p1
 have L0 := z4 (show (front0 (bytesOf mark) code data).length ≤ 70000 by simp only [front0, List.length_append, bytesOf_length]; omega)
 have SD := z4 (fun k => (show (dataL (data.take k)).length ≤ 32768 by rw [dataL_len, z9b]; omega))
 have L1 := z4 (show (front1 (bytesOf mark) code data syms).length ≤ 110000 by simp only [front1, List.length_append]; have := SD.out data.length; rw [List.take_length] at this; have := L0.out; omega)
 have SY := z4 (fun k => (show (symsL (syms.take k)).length ≤ 49000 by
  have := symsL_len (syms.take k) (fun s h => ⟨(hs s (List.mem_of_mem_take h)).1, by have := (hs s (List.mem_of_mem_take h)).2.2; omega⟩)
  rw [z9b] at this; omega))
 have E0 := z4 (show bytesOf (mark ++ strOfNums (textL code) ++ strOfNums (putL (data.length : Int).toNat)) = front0 (bytesOf mark) code data by
  rw [bytesOf_append, bytesOf_append, of_str (textL_bs _), of_str (putL_bs _)]; rfl)
 have HR1 := z4 hr1
 have HR2 := z4 hr2
 have HD := z4 hw
 have HS := z4 hs
 have hl1 := hr1.2.1
 have hl2 := hr2.2.1
 have hcv := fun (W : World) (s : ByteArray) => Lib.run_convert_string_bytes (P := Tryd.prog) W 9 60 5 s Tryd.underlying9 Tryd.underlying60 Tryd.underlying5
 have P2 := z4 p2
 have a1 : (mark.size + (strOfNums (textL code)).size ≤ 9223372036854775807) = True := eq_true (by omega)
 have a2 : (mark.size + (strOfNums (textL code)).size + (strOfNums (putL (data.length : Int).toNat)).size ≤ 9223372036854775807) = True := eq_true (by omega)
 have b1 : (9223372036854775807 < mark.size + (strOfNums (textL code)).size) = False := eq_false (by omega)
 have b2 : (9223372036854775807 < mark.size + (strOfNums (textL code)).size + (strOfNums (putL (data.length : Int).toNat)).size) = False := eq_false (by omega)
 have SZ := z4 (show (mark ++ strOfNums (textL code) ++ strOfNums (putL (data.length : Int).toNat)).size ≤ maxLen by simp only [ByteArray.size_append, maxLen]; omega)
 clear hr1 hr2 hw hs hm hcs hds hss t0 p1 p2 z1 z2
 generalize hT : strOfNums (textL code) = tc at *
 generalize hN : strOfNums (putL (data.length : Int).toNat) = nd at *
 clear hT hN
 go_enter Tryd.func30, Tryd.ntmps30
 go_wp2_with (first | (go_at_call 47; (with_reducible refine (cotterref06_text.calls 10 code tc _ TC.out).mono ?_); rintro e w1 ⟨rfl, hb1⟩; have HB1 := z4 hb1; clear hb1) | (go_at_call 48; (with_reducible refine (cotterref06_number.calls 10 _ nd _ N1.out).mono ?_); rintro e w2 ⟨rfl, hb2⟩; have HB2 := z4 (below_in HB1.out hb2); clear hb2))
 have hbw := bytesWorld_below w2 5 (mark ++ tc ++ nd)
 have HOB := z4 (OwnB.new w2 w.heap.size 5 (mark ++ tc ++ nd) HB2.out.size SZ.out)
 have HBW := z4 (below_in HB2.out hbw)
 clear hbw hcv a1 a2 b1 b2
 rw [E0.out] at HOB
 simp only [ByteArray.size_append] at HOB
 generalize Lib.bytesWorld w2 5 (mark ++ tc ++ nd) = w3 at *
 generalize hV : Value.slice (some ⟨w2.heap.size, 0, none⟩) (mark.size + tc.size + nd.size) (grownCap w2 (mark.size + tc.size + nd.size) 0 5) = v3 at *
 clear hV
 go_loopw [9, 10] (fun v9 v10 wr => ∃ k : Nat, k ≤ data.length ∧ v10 = .int .i64 k ∧ Aside0 (OwnB wr w.heap.size 5 v9 (front0 (bytesOf mark) code data ++ dataL (data.take k))) ∧ Aside0 (Below w.heap.size w wr)) (fun _ v10 _ => data.length - (intOf v10).toNat)
 case atStart => exact ⟨0, Nat.zero_le _, rfl, ⟨by simpa [dataL] using HOB.out⟩, HBW⟩
 case round =>
  clear HOB HBW HB1 HB2 TC N1 E0 SZ
  obtain ⟨k, hk, rfl, HO, HB⟩ := hrel
  by_cases hlt : k < data.length
  case pos =>
   obtain ⟨ad, he, hx0⟩ := Kd.at_int HR1.out (k : Int) (by omega) (by omega)
   cases he
   have hrd : rd data (k : Int) = data[k] := by simp [rd, List.getD_eq_getElem?_getD, List.getElem?_eq_getElem hlt]
   rw [hrd] at hx0
   simp only [Int.toNat_natCast] at hx0
   replace hx0 := (HB.out.cell (World.block_lt_of_cell? w _ hx0)).trans hx0
   have BY := z4 (rwide_f data[k] (HD.out _ (List.getElem_mem hlt)))
   have SN := z4 (dataL_snoc data k hlt)
   have SZ := z4 (show (strOfNums (leL data[k] 8)).size = 8 by rw [str_size _ (leL_bs _ _), leL_len])
   clear hrd
   generalize data[k] = n at hx0 BY SN SZ
   obtain ⟨ys, hys⟩ : ∃ ys, ys = front0 (bytesOf mark) code data ++ dataL (data.take (k + 1)) := ⟨_, rfl⟩
   have HY := z4 (show ys = (front0 (bytesOf mark) code data ++ dataL (data.take k)) ++ bytesOf (strOfNums (leL n 8)) by rw [hys, SN.out, of_str (leL_bs _ _), List.append_assoc])
   have HYS := z4 hys
   clear hys
   generalize strOfNums (leL n 8) = t8 at BY SZ HY
   go_wp2_with (first
    | (at_builtin; refine mark_append w.heap.size rfl (.tmp 27) (.tmp 32) 60 9 5 rfl Tryd.underlying60 Tryd.underlying9 info5 _ _ ys t8 HY.out (by first | rfl | (go_simp; done)) (by first | rfl | (go_simp; done)) HO1.out HB1.out.size (by have h1 := L0.out; have h2 := SD.out k; have h3 := SZ.out; rw [List.length_append]; omega) ?_; intro A n1 w5 ho5 hg5; have HO5 := z4 ho5; have HB5 := z4 (ownB_grown HB1.out HO1.out hg5); clear ho5 hg5)
    | (go_at_call 49; (with_reducible refine (cotterref06_wide.calls 11 n t8 _ BY.out).mono ?_); rintro e w4 ⟨rfl, hb4⟩; have HO1 := z4 (HO.out.below hb4); have HB1 := z4 (below_in HB.out hb4); clear hb4))
   go_roundw
   case rel => exact ⟨k + 1, by omega, by first | rfl | go_num, ⟨by rw [← HYS.out]; exact HO5.out⟩, HB5⟩
   case measure => simp [intOf]; omega
  case neg =>
   obtain rfl : k = data.length := by omega
   rw [List.take_length] at HO
   clear hlt hk
   have P2' := z4 (show (strOfNums (putL (syms.length : Int).toNat)).size ≤ 10 by rw [str_size _ (putL_bs _)]; simpa using P2.out)
   obtain ⟨ys, hys⟩ : ∃ ys, ys = front1 (bytesOf mark) code data syms := ⟨_, rfl⟩
   have HY := z4 (show ys = (front0 (bytesOf mark) code data ++ dataL data) ++ bytesOf (strOfNums (putL (syms.length : Int).toNat)) by rw [hys, of_str (putL_bs _)]; simp [front1])
   have HYS := z4 hys
   clear hys
   generalize strOfNums (putL (syms.length : Int).toNat) = nd2 at N2 P2' HY
   go_wp2_with (first
    | (at_builtin; refine mark_append w.heap.size rfl (.tmp 34) (.tmp 37) 60 9 5 rfl Tryd.underlying60 Tryd.underlying9 info5 _ _ ys nd2 HY.out (by first | rfl | (go_simp; done)) (by first | rfl | (go_simp; done)) HO1.out HB1.out.size (by have h1 := L0.out; have h2 := SD.out data.length; have h3 := P2'.out; rw [List.take_length] at h2; rw [List.length_append]; omega) ?_; intro A n1 w5 ho5 hg5; have HO5 := z4 ho5; have HB5 := z4 (ownB_grown HB1.out HO1.out hg5); clear ho5 hg5)
    | (go_at_call 48; (with_reducible refine (cotterref06_number.calls 10 _ nd2 _ N2.out).mono ?_); rintro e w4 ⟨rfl, hb4⟩; have HO1 := z4 (HO.out.below hb4); have HB1 := z4 (below_in HB.out hb4); clear hb4))
   generalize hV : Value.slice A ys.length n1 = v5 at *
   rw [HYS.out] at HO5
   clear HO HB HO1 HB1 HY N2 P2' hV HYS
   go_loopw [9, 11] (fun v9 v11 wr => ∃ k : Nat, k ≤ syms.length ∧ v11 = .int .i64 k ∧ Aside0 (OwnB wr w.heap.size 5 v9 (front1 (bytesOf mark) code data syms ++ symsL (syms.take k))) ∧ Aside0 (Below w.heap.size w wr)) (fun _ v11 _ => syms.length - (intOf v11).toNat)
   case atStart => exact ⟨0, Nat.zero_le _, rfl, ⟨by simpa [symsL] using HO5.out⟩, HB5⟩
   case round =>
    clear HO5 HB5
    obtain ⟨k, hk, rfl, HO, HB⟩ := hrel
    by_cases hlt : k < syms.length
    case pos =>
     obtain ⟨ad, he, hx0, hx1, hx2⟩ := at_T68 HR2.out (k : Int) (by omega) (by omega)
     cases he
     have hrd : rd_T68 syms (k : Int) = syms[k] := by simp [rd_T68, List.getD_eq_getElem?_getD, List.getElem?_eq_getElem hlt]
     rw [hrd] at hx0 hx1 hx2
     simp only [Int.toNat_natCast] at hx0 hx1 hx2
     have MM := HS.out _ (List.getElem_mem hlt)
     have SN := z4 (symsL_snoc syms k hlt)
     clear hrd
     generalize syms[k] = s at hx0 hx1 hx2 SN MM
     obtain ⟨s0, s1, s2⟩ := s
     dsimp only at hx0 hx1 hx2 MM
     have SOF := z4 (show ∀ w', Below w.heap.size w w' → (w'.cell? (ad.add (k * 3)) = some (.string s0) ∧ w'.cell? ⟨(ad.add (k * 3)).block, (ad.add (k * 3)).off + 1, none⟩ = some (.int .i64 s1) ∧ w'.cell? ⟨(ad.add (k * 3)).block, (ad.add (k * 3)).off + 2, none⟩ = some (.int .i64 s2) ∧ Below w.heap.size w w') from fun w' hb => ⟨pw_cell_below hb hx0, pw_cell_below hb hx1, pw_cell_below hb hx2, hb⟩)
     have T1 := z4 (rtext_f s0 (by have := MM.1.2; omega))
     have T2 := z4 (rnum_f s2 MM.2.1 (by have := MM.2.2; omega))
     have z1 : (strOfNums (textL s0)).size ≤ 38 := by rw [str_size _ (textL_bs _)]; have := textL_len s0 (by have := MM.1.2; omega); have := MM.1.2; omega
     have z2 : (strOfNums (putL s2.toNat)).size ≤ 10 := by rw [str_size _ (putL_bs _)]; exact put_small (by have := MM.2.2; omega)
     have z3 : (strOfNums [s1 % 256]).size = 1 := by rw [str_size _ (one_bs _)]; rfl
     obtain ⟨ys, hys⟩ : ∃ ys, ys = front1 (bytesOf mark) code data syms ++ symsL (syms.take (k + 1)) := ⟨_, rfl⟩
     have HY := z4 (show ys = (front1 (bytesOf mark) code data syms ++ symsL (syms.take k)) ++ bytesOf (strOfNums (textL s0) ++ strOfNums [s1 % 256] ++ strOfNums (putL s2.toNat)) by rw [hys, SN.out, bytesOf_append, bytesOf_append, of_str (textL_bs _), of_str (one_bs _), of_str (putL_bs _)]; simp only [symL, List.append_assoc])
     have HYS := z4 hys
     have hcv1 : ∀ (W : World) (b : Nat), W.cell? ⟨b, 0, none⟩ = some (.int .u8 (IntKind.u8.wrap s1)) → (convert 60 9 (.slice (some ⟨b, 0, none⟩) 1 1)).run Tryd.prog W = .ok (.string (strOfNums [s1 % 256])) W := fun W b h => by rw [conv1 W b _ h, u8_wrap]
     have HL := z4 (show (front1 (bytesOf mark) code data syms ++ symsL (syms.take k)).length + 49 ≤ 140737488355328 by rw [List.length_append]; have h1 := L1.out; have h2 := SY.out k; omega)
     clear hys MM SN
     generalize strOfNums (textL s0) = ts at *
     generalize strOfNums (putL s2.toNat) = ns at *
     generalize strOfNums [s1 % 256] = os at *
     have a1 : (ts.size + os.size ≤ 9223372036854775807) = True := eq_true (by omega)
     have a2 : (ts.size + os.size + ns.size ≤ 9223372036854775807) = True := eq_true (by omega)
     have b1 : (9223372036854775807 < ts.size + os.size) = False := eq_false (by omega)
     have b2 : (9223372036854775807 < ts.size + os.size + ns.size) = False := eq_false (by omega)
     have Z := z4 (show (ts ++ os ++ ns).size ≤ 49 by simp only [ByteArray.size_append]; omega)
     clear hx0 hx1 hx2 z1 z2 z3
     have HBW := z4 (zD (Below.refl wr.heap.size wr))
     go_wp2
     refine start_ (n := 25) (S := fun w' => w'.cell? (ad.add (k * 3)) = some (.string s0) ∧ w'.cell? ⟨(ad.add (k * 3)).block, (ad.add (k * 3)).off + 1, none⟩ = some (.int .i64 s1) ∧ w'.cell? ⟨(ad.add (k * 3)).block, (ad.add (k * 3)).off + 2, none⟩ = some (.int .i64 s2)) (ds := []) #[false, false, false, false, false, false, false, false, false, false, false, false, false, false, false, false, false, false, false, false, false, false, false, false, false] (by kernel_rfl) rfl rfl ⟨(SOF.out _ (below_in HB.out (zD (Below.refl _ _)))).1, (SOF.out _ (below_in HB.out (zD (Below.refl _ _)))).2.1, (SOF.out _ (below_in HB.out (zD (Below.refl _ _)))).2.2.1⟩ (fun hHeld => ?_)
     refine pure_ (i := 0) (N := some 45) (v := ?_) (a' := ?_) #[true, false, false, false, false, false, false, false, false, false, false, false, false, false, false, false, false, false, false, false, false, false, false, false, false] rfl rfl (by kernel_rfl) (fun _ _ _ h => h) (Or.inl ⟨by rfl, ?_⟩) ?_ ?_
     rotate_left
     ·intro w'
      go_simp
      with_reducible rfl
     rotate_left
     ·simp only [Act.put, z1, z2, z3, i64_w, i32_w]
      rfl
     refine pure_ (i := 1) (N := some 46) (v := ?_) (a' := ?_) #[true, true, false, false, false, false, false, false, false, false, false, false, false, false, false, false, false, false, false, false, false, false, false, false, false] rfl rfl (by kernel_rfl) (fun _ _ _ h => h) (Or.inl ⟨by rfl, ?_⟩) ?_ ?_
     rotate_left
     ·intro w'
      go_simp
      with_reducible rfl
     rotate_left
     ·simp only [Act.put, z1, z2, z3, i64_w, i32_w]
      rfl
     refine pure_ (i := 2) (N := some 47) (v := ?_) (a' := ?_) #[true, true, true, false, false, false, false, false, false, false, false, false, false, false, false, false, false, false, false, false, false, false, false, false, false] rfl rfl (by kernel_rfl) (fun _ _ _ h => h) (Or.inl ⟨by rfl, ?_⟩) ?_ ?_
     rotate_left
     ·intro w'
      go_simp
      with_reducible rfl
     rotate_left
     ·simp only [Act.put, z1, z2, z3, i64_w, i32_w]
      rfl
     refine pure_ (i := 3) (N := some 48) (v := ?_) (a' := ?_) #[true, true, true, true, false, false, false, false, false, false, false, false, false, false, false, false, false, false, false, false, false, false, false, false, false] rfl rfl (by kernel_rfl) (fun _ _ _ h => h) (Or.inl ⟨by rfl, ?_⟩) ?_ ?_
     rotate_left
     ·intro w'
      go_simp
      with_reducible rfl
     rotate_left
     ·simp only [Act.put, z1, z2, z3, i64_w, i32_w]
      rfl
     refine pure_ (i := 4) (N := some 49) (v := ?_) (a' := ?_) #[true, true, true, true, true, false, false, false, false, false, false, false, false, false, false, false, false, false, false, false, false, false, false, false, false] rfl rfl (by kernel_rfl) (fun _ _ _ h => h) (Or.inl ⟨by rfl, ?_⟩) ?_ ?_
     rotate_left
     ·intro w'
      go_simp
      with_reducible rfl
     rotate_left
     ·simp only [Act.put, z1, z2, z3, i64_w, i32_w]
      rfl
     refine pure_ (i := 7) (N := some 52) (v := ?_) (a' := ?_) #[true, true, true, true, true, false, false, true, false, false, false, false, false, false, false, false, false, false, false, false, false, false, false, false, false] rfl rfl (by kernel_rfl) (fun _ _ _ h => h) (Or.inl ⟨by rfl, ?_⟩) ?_ ?_
     rotate_left
     ·intro w'
      go_simp
      with_reducible rfl
     rotate_left
     ·simp only [Act.put, z1, z2, z3, i64_w, i32_w]
      rfl
     refine pure_ (i := 8) (N := some 53) (v := ?_) (a' := ?_) #[true, true, true, true, true, false, false, true, true, false, false, false, false, false, false, false, false, false, false, false, false, false, false, false, false] rfl rfl (by kernel_rfl) (fun _ _ _ h => h) (Or.inl ⟨by rfl, ?_⟩) ?_ ?_
     rotate_left
     ·intro w'
      go_simp
      with_reducible rfl
     rotate_left
     ·simp only [Act.put, z1, z2, z3, i64_w, i32_w]
      rfl
     refine pure_ (i := 9) (N := some 54) (v := ?_) (a' := ?_) #[true, true, true, true, true, false, false, true, true, true, false, false, false, false, false, false, false, false, false, false, false, false, false, false, false] rfl rfl (by kernel_rfl) (fun _ _ _ h => h) (Or.inl ⟨by rfl, ?_⟩) ?_ ?_
     rotate_left
     ·intro w'
      go_simp
      with_reducible rfl
     rotate_left
     ·simp only [Act.put, z1, z2, z3, i64_w, i32_w]
      rfl
     refine pure_ (i := 10) (N := some 55) (v := ?_) (a' := ?_) #[true, true, true, true, true, false, false, true, true, true, true, false, false, false, false, false, false, false, false, false, false, false, false, false, false] rfl rfl (by kernel_rfl) (fun _ _ _ h => h) (Or.inl ⟨by rfl, ?_⟩) ?_ ?_
     rotate_left
     ·intro w'
      go_simp
      with_reducible rfl
     rotate_left
     ·simp only [Act.put, z1, z2, z3, i64_w, i32_w]
      rfl
     refine pure_ (i := 16) (N := some 61) (v := ?_) (a' := ?_) #[true, true, true, true, true, false, false, true, true, true, true, false, false, false, false, false, true, false, false, false, false, false, false, false, false] rfl rfl (by kernel_rfl) (fun _ _ _ h => h) (Or.inl ⟨by rfl, ?_⟩) ?_ ?_
     rotate_left
     ·intro w'
      go_simp
      with_reducible rfl
     rotate_left
     ·simp only [Act.put, z1, z2, z3, i64_w, i32_w]
      rfl
     refine pure_ (i := 17) (N := some 62) (v := ?_) (a' := ?_) #[true, true, true, true, true, false, false, true, true, true, true, false, false, false, false, false, true, true, false, false, false, false, false, false, false] rfl rfl (by kernel_rfl) (fun _ _ _ h => h) (Or.inl ⟨by rfl, ?_⟩) ?_ ?_
     rotate_left
     ·intro w'
      go_simp
      with_reducible rfl
     rotate_left
     ·simp only [Act.put, z1, z2, z3, i64_w, i32_w]
      rfl
     refine pure_ (i := 18) (N := some 63) (v := ?_) (a' := ?_) #[true, true, true, true, true, false, false, true, true, true, true, false, false, false, false, false, true, true, true, false, false, false, false, false, false] rfl rfl (by kernel_rfl) (fun _ _ _ h => h) (Or.inl ⟨by rfl, ?_⟩) ?_ ?_
     rotate_left
     ·intro w'
      go_simp
      with_reducible rfl
     rotate_left
     ·simp only [Act.put, z1, z2, z3, i64_w, i32_w]
      rfl
     refine pure_ (i := 19) (N := some 64) (v := ?_) (a' := ?_) #[true, true, true, true, true, false, false, true, true, true, true, false, false, false, false, false, true, true, true, true, false, false, false, false, false] rfl rfl (by kernel_rfl) (fun _ _ _ h => h) (Or.inl ⟨by rfl, ?_⟩) ?_ ?_
     rotate_left
     ·intro w'
      go_simp
      with_reducible rfl
     rotate_left
     ·simp only [Act.put, z1, z2, z3, i64_w, i32_w]
      rfl
     refine take_ (i := 5) (N := some 50) (v := ?_) (a' := ?_) #[true, true, true, true, true, true, false, true, true, true, true, false, false, false, false, false, true, true, true, true, false, false, false, false, false] rfl rfl (by kernel_rfl) (fun _ _ _ h => h) (Or.inl ⟨by rfl, ?_⟩) hHeld ?_ ?_
     rotate_left
     ·rintro w' ⟨s0, s1, s2⟩
      go_simp
      with_reducible rfl
     rotate_left
     ·simp only [Act.put, z1, z2, z3, i64_w, i32_w]
      rfl
     refine take_ (i := 11) (N := some 56) (v := ?_) (a' := ?_) #[true, true, true, true, true, true, false, true, true, true, true, true, false, false, false, false, true, true, true, true, false, false, false, false, false] rfl rfl (by kernel_rfl) (fun _ _ _ h => h) (Or.inl ⟨by rfl, ?_⟩) hHeld ?_ ?_
     rotate_left
     ·rintro w' ⟨s0, s1, s2⟩
      go_simp
      with_reducible rfl
     rotate_left
     ·simp only [Act.put, z1, z2, z3, i64_w, i32_w]
      rfl
     refine pure_ (i := 12) (N := some 57) (v := ?_) (a' := ?_) #[true, true, true, true, true, true, false, true, true, true, true, true, true, false, false, false, true, true, true, true, false, false, false, false, false] rfl rfl (by kernel_rfl) (fun _ _ _ h => h) (Or.inl ⟨by rfl, ?_⟩) ?_ ?_
     rotate_left
     ·intro w'
      go_simp
      with_reducible rfl
     rotate_left
     ·simp only [Act.put, z1, z2, z3, i64_w, i32_w]
      rfl
     refine take_ (i := 20) (N := some 65) (v := ?_) (a' := ?_) #[true, true, true, true, true, true, false, true, true, true, true, true, true, false, false, false, true, true, true, true, true, false, false, false, false] rfl rfl (by kernel_rfl) (fun _ _ _ h => h) (Or.inl ⟨by rfl, ?_⟩) hHeld ?_ ?_
     rotate_left
     ·rintro w' ⟨s0, s1, s2⟩
      go_simp
      with_reducible rfl
     rotate_left
     ·simp only [Act.put, z1, z2, z3, i64_w, i32_w]
      rfl
     refine join_ (σ := Nat) 3 #[true, true, true, true, true, true, true, true, true, true, true, true, true, true, true, true, true, true, true, true, true, true, false, false, false] (fun b => [(51, .string ts), (66, .string ns), (58, .slice (some ⟨b, 0, none⟩) 1 1), (59, .string os), (60, .string (ts ++ os))]) (fun _ w' => Aside0 (Below (wr).heap.size wr w')) ?_ ?_
     rotate_left
     ·intro hCont
      refine two_ (i := 6) (j := 13) (Ni := some 51) (Nj := some 58) #[true, true, true, true, true, true, true, true, true, true, true, true, true, false, false, false, true, true, true, true, true, false, false, false, false] #[true, true, true, true, true, true, false, true, true, true, true, true, true, true, false, false, true, true, true, true, true, false, false, false, false] rfl rfl rfl rfl (by kernel_rfl) (by decide) (by decide) (fun K hK => ?_) (fun K hK => ?_)
      ·skip
       refine goes_ Tryd.func47 (by kernel_rfl) rfl #[.string s0] (by rfl) rfl rfl (by simp only [z9, List.map_cons, List.map_nil]; rfl) ?_
       with_reducible refine (cotterref06_text.calls 10 s0 ts _ T1.out).mono ?_
       rintro e w6_ ⟨rfl, hb_⟩
       refine ⟨_, rfl, ?_⟩
       have HBW := z4 (below_in HBW.out hb_)
       clear hb_
       refine hK.out _ _ ⟨(SOF.out _ (below_in HB.out HBW.out)).1, (SOF.out _ (below_in HB.out HBW.out)).2.1, (SOF.out _ (below_in HB.out HBW.out)).2.2.1⟩ (fun hHeld => ?_)
       clear hK K
       refine norm_ (a' := ?_) ?_ ?_
       rotate_left
       ·show Act.put _ (some 51) _ = _
        simp only [Act.put, z1, z2, z3, i64_w, i32_w]
        rfl
       refine two_ (i := 13) (j := 21) (Ni := some 58) (Nj := some 66) #[true, true, true, true, true, true, true, true, true, true, true, true, true, true, false, false, true, true, true, true, true, false, false, false, false] #[true, true, true, true, true, true, true, true, true, true, true, true, true, false, false, false, true, true, true, true, true, true, false, false, false] rfl rfl rfl rfl (by kernel_rfl) (by decide) (by decide) (fun K hK => ?_) (fun K hK => ?_)
       ·skip
        refine value_ (w1 := w6_.alloc (.cells #[.int .u8 (IntKind.u8.wrap s1)] 5)) (v := .slice (some ⟨w6_.heap.size, 0, none⟩) 1 1) (by rfl) rfl ?_ ?_
        ·go_simp
        have HC := z4 (show (w6_.alloc (.cells #[.int .u8 (IntKind.u8.wrap s1)] 5)).cell? ⟨w6_.heap.size, 0, none⟩ = some (.int .u8 (IntKind.u8.wrap s1)) from (zC (blk_new _ _) 0).trans rfl)
        have HBW := z4 (zA HBW.out (.cells #[.int .u8 (IntKind.u8.wrap s1)] 5))
        generalize hA_ : w6_.alloc (.cells #[.int .u8 (IntKind.u8.wrap s1)] 5) = w13_ at HC HBW ⊢
        clear hA_
        refine hK.out _ _ ⟨(SOF.out _ (below_in HB.out HBW.out)).1, (SOF.out _ (below_in HB.out HBW.out)).2.1, (SOF.out _ (below_in HB.out HBW.out)).2.2.1⟩ (fun hHeld => ?_)
        clear hK K
        refine norm_ (a' := ?_) ?_ ?_
        rotate_left
        ·show Act.put _ (some 58) _ = _
         simp only [Act.put, z1, z2, z3, i64_w, i32_w]
         rfl
        refine two_ (i := 14) (j := 21) (Ni := some 59) (Nj := some 66) #[true, true, true, true, true, true, true, true, true, true, true, true, true, true, true, false, true, true, true, true, true, false, false, false, false] #[true, true, true, true, true, true, true, true, true, true, true, true, true, true, false, false, true, true, true, true, true, true, false, false, false] rfl rfl rfl rfl (by kernel_rfl) (by decide) (by decide) (fun K hK => ?_) (fun K hK => ?_)
        ·skip
         have hc_ : w13_.cell? ⟨w6_.heap.size, 0, none⟩ = some (.int .u8 (IntKind.u8.wrap s1)) := HC.out
         refine value_ (w1 := w13_) (v := .string os) (by rfl) rfl ?_ ?_
         ·go_simp
         clear hc_ HC
         obtain ⟨w14_, hA_⟩ : ∃ y, y = w13_ := ⟨_, rfl⟩
         rw [← hA_] at HBW ⊢
         clear hA_
         refine hK.out _ _ ⟨(SOF.out _ (below_in HB.out HBW.out)).1, (SOF.out _ (below_in HB.out HBW.out)).2.1, (SOF.out _ (below_in HB.out HBW.out)).2.2.1⟩ (fun hHeld => ?_)
         clear hK K
         refine norm_ (a' := ?_) ?_ ?_
         rotate_left
         ·show Act.put _ (some 59) _ = _
          simp only [Act.put, z1, z2, z3, i64_w, i32_w]
          rfl
         refine pure_ (i := 15) (N := some 60) (v := ?_) (a' := ?_) #[true, true, true, true, true, true, true, true, true, true, true, true, true, true, true, true, true, true, true, true, true, false, false, false, false] rfl rfl (by kernel_rfl) (fun _ _ _ h => h) (Or.inl ⟨by rfl, ?_⟩) ?_ ?_
         rotate_left
         ·intro w'
          go_simp
          with_reducible rfl
         rotate_left
         ·simp only [Act.put, z1, z2, z3, i64_w, i32_w]
          rfl
         refine one_ (i := 21) (N := some 66) #[true, true, true, true, true, true, true, true, true, true, true, true, true, true, true, true, true, true, true, true, true, true, false, false, false] rfl rfl (by kernel_rfl) (by decide) (fun K hK => ?_)
         refine goes_ Tryd.func48 (by kernel_rfl) rfl #[.int .i64 s2] (by rfl) rfl rfl (by simp only [z9, List.map_cons, List.map_nil]; rfl) ?_
         with_reducible refine (cotterref06_number.calls 10 s2 ns _ T2.out).mono ?_
         rintro e w21_ ⟨rfl, hb_⟩
         refine ⟨_, rfl, ?_⟩
         have HBW := z4 (below_in HBW.out hb_)
         clear hb_
         refine hK.out _ _ ⟨(SOF.out _ (below_in HB.out HBW.out)).1, (SOF.out _ (below_in HB.out HBW.out)).2.1, (SOF.out _ (below_in HB.out HBW.out)).2.2.1⟩ (fun hHeld => ?_)
         clear hK K
         refine norm_ (a' := ?_) ?_ ?_
         rotate_left
         ·show Act.put _ (some 66) _ = _
          simp only [Act.put, z1, z2, z3, i64_w, i32_w]
          rfl
         exact norm_ (by simp only [putAll, Act.put, z1, z2, z3]) (hCont (w6_).heap.size _ HBW)
        ·skip
         refine goes_ Tryd.func48 (by kernel_rfl) rfl #[.int .i64 s2] (by rfl) rfl rfl (by simp only [z9, List.map_cons, List.map_nil]; rfl) ?_
         with_reducible refine (cotterref06_number.calls 10 s2 ns _ T2.out).mono ?_
         rintro e w21_ ⟨rfl, hb_⟩
         refine ⟨_, rfl, ?_⟩
         have HBW := z4 (below_in HBW.out hb_)
         have HC := z4 (pw_cell_below hb_ HC.out)
         clear hb_
         refine hK.out _ _ ⟨(SOF.out _ (below_in HB.out HBW.out)).1, (SOF.out _ (below_in HB.out HBW.out)).2.1, (SOF.out _ (below_in HB.out HBW.out)).2.2.1⟩ (fun hHeld => ?_)
         clear hK K
         refine norm_ (a' := ?_) ?_ ?_
         rotate_left
         ·show Act.put _ (some 66) _ = _
          simp only [Act.put, z1, z2, z3, i64_w, i32_w]
          rfl
         refine one_ (i := 14) (N := some 59) #[true, true, true, true, true, true, true, true, true, true, true, true, true, true, true, false, true, true, true, true, true, true, false, false, false] rfl rfl (by kernel_rfl) (by decide) (fun K hK => ?_)
         have hc_ : w21_.cell? ⟨w6_.heap.size, 0, none⟩ = some (.int .u8 (IntKind.u8.wrap s1)) := HC.out
         refine value_ (w1 := w21_) (v := .string os) (by rfl) rfl ?_ ?_
         ·go_simp
         clear hc_ HC
         obtain ⟨w14_, hA_⟩ : ∃ y, y = w21_ := ⟨_, rfl⟩
         rw [← hA_] at HBW ⊢
         clear hA_
         refine hK.out _ _ ⟨(SOF.out _ (below_in HB.out HBW.out)).1, (SOF.out _ (below_in HB.out HBW.out)).2.1, (SOF.out _ (below_in HB.out HBW.out)).2.2.1⟩ (fun hHeld => ?_)
         clear hK K
         refine norm_ (a' := ?_) ?_ ?_
         rotate_left
         ·show Act.put _ (some 59) _ = _
          simp only [Act.put, z1, z2, z3, i64_w, i32_w]
          rfl
         refine pure_ (i := 15) (N := some 60) (v := ?_) (a' := ?_) #[true, true, true, true, true, true, true, true, true, true, true, true, true, true, true, true, true, true, true, true, true, true, false, false, false] rfl rfl (by kernel_rfl) (fun _ _ _ h => h) (Or.inl ⟨by rfl, ?_⟩) ?_ ?_
         rotate_left
         ·intro w'
          go_simp
          with_reducible rfl
         rotate_left
         ·simp only [Act.put, z1, z2, z3, i64_w, i32_w]
          rfl
         exact norm_ (by simp only [putAll, Act.put, z1, z2, z3]) (hCont (w6_).heap.size _ HBW)
       ·skip
        refine goes_ Tryd.func48 (by kernel_rfl) rfl #[.int .i64 s2] (by rfl) rfl rfl (by simp only [z9, List.map_cons, List.map_nil]; rfl) ?_
        with_reducible refine (cotterref06_number.calls 10 s2 ns _ T2.out).mono ?_
        rintro e w21_ ⟨rfl, hb_⟩
        refine ⟨_, rfl, ?_⟩
        have HBW := z4 (below_in HBW.out hb_)
        clear hb_
        refine hK.out _ _ ⟨(SOF.out _ (below_in HB.out HBW.out)).1, (SOF.out _ (below_in HB.out HBW.out)).2.1, (SOF.out _ (below_in HB.out HBW.out)).2.2.1⟩ (fun hHeld => ?_)
        clear hK K
        refine norm_ (a' := ?_) ?_ ?_
        rotate_left
        ·show Act.put _ (some 66) _ = _
         simp only [Act.put, z1, z2, z3, i64_w, i32_w]
         rfl
        refine one_ (i := 13) (N := some 58) #[true, true, true, true, true, true, true, true, true, true, true, true, true, true, false, false, true, true, true, true, true, true, false, false, false] rfl rfl (by kernel_rfl) (by decide) (fun K hK => ?_)
        refine value_ (w1 := w21_.alloc (.cells #[.int .u8 (IntKind.u8.wrap s1)] 5)) (v := .slice (some ⟨w21_.heap.size, 0, none⟩) 1 1) (by rfl) rfl ?_ ?_
        ·go_simp
        have HC := z4 (show (w21_.alloc (.cells #[.int .u8 (IntKind.u8.wrap s1)] 5)).cell? ⟨w21_.heap.size, 0, none⟩ = some (.int .u8 (IntKind.u8.wrap s1)) from (zC (blk_new _ _) 0).trans rfl)
        have HBW := z4 (zA HBW.out (.cells #[.int .u8 (IntKind.u8.wrap s1)] 5))
        generalize hA_ : w21_.alloc (.cells #[.int .u8 (IntKind.u8.wrap s1)] 5) = w13_ at HC HBW ⊢
        clear hA_
        refine hK.out _ _ ⟨(SOF.out _ (below_in HB.out HBW.out)).1, (SOF.out _ (below_in HB.out HBW.out)).2.1, (SOF.out _ (below_in HB.out HBW.out)).2.2.1⟩ (fun hHeld => ?_)
        clear hK K
        refine norm_ (a' := ?_) ?_ ?_
        rotate_left
        ·show Act.put _ (some 58) _ = _
         simp only [Act.put, z1, z2, z3, i64_w, i32_w]
         rfl
        refine one_ (i := 14) (N := some 59) #[true, true, true, true, true, true, true, true, true, true, true, true, true, true, true, false, true, true, true, true, true, true, false, false, false] rfl rfl (by kernel_rfl) (by decide) (fun K hK => ?_)
        have hc_ : w13_.cell? ⟨w21_.heap.size, 0, none⟩ = some (.int .u8 (IntKind.u8.wrap s1)) := HC.out
        refine value_ (w1 := w13_) (v := .string os) (by rfl) rfl ?_ ?_
        ·go_simp
        clear hc_ HC
        obtain ⟨w14_, hA_⟩ : ∃ y, y = w13_ := ⟨_, rfl⟩
        rw [← hA_] at HBW ⊢
        clear hA_
        refine hK.out _ _ ⟨(SOF.out _ (below_in HB.out HBW.out)).1, (SOF.out _ (below_in HB.out HBW.out)).2.1, (SOF.out _ (below_in HB.out HBW.out)).2.2.1⟩ (fun hHeld => ?_)
        clear hK K
        refine norm_ (a' := ?_) ?_ ?_
        rotate_left
        ·show Act.put _ (some 59) _ = _
         simp only [Act.put, z1, z2, z3, i64_w, i32_w]
         rfl
        refine pure_ (i := 15) (N := some 60) (v := ?_) (a' := ?_) #[true, true, true, true, true, true, true, true, true, true, true, true, true, true, true, true, true, true, true, true, true, true, false, false, false] rfl rfl (by kernel_rfl) (fun _ _ _ h => h) (Or.inl ⟨by rfl, ?_⟩) ?_ ?_
        rotate_left
        ·intro w'
         go_simp
         with_reducible rfl
        rotate_left
        ·simp only [Act.put, z1, z2, z3, i64_w, i32_w]
         rfl
        exact norm_ (by simp only [putAll, Act.put, z1, z2, z3]) (hCont (w21_).heap.size _ HBW)
      ·skip
       refine value_ (w1 := (wr).drew.alloc (.cells #[.int .u8 (IntKind.u8.wrap s1)] 5)) (v := .slice (some ⟨(wr).drew.heap.size, 0, none⟩) 1 1) (by rfl) rfl ?_ ?_
       ·go_simp
       have HC := z4 (show ((wr).drew.alloc (.cells #[.int .u8 (IntKind.u8.wrap s1)] 5)).cell? ⟨(wr).drew.heap.size, 0, none⟩ = some (.int .u8 (IntKind.u8.wrap s1)) from (zC (blk_new _ _) 0).trans rfl)
       have HBW := z4 (zA HBW.out (.cells #[.int .u8 (IntKind.u8.wrap s1)] 5))
       generalize hA_ : (wr).drew.alloc (.cells #[.int .u8 (IntKind.u8.wrap s1)] 5) = w13_ at HC HBW ⊢
       clear hA_
       refine hK.out _ _ ⟨(SOF.out _ (below_in HB.out HBW.out)).1, (SOF.out _ (below_in HB.out HBW.out)).2.1, (SOF.out _ (below_in HB.out HBW.out)).2.2.1⟩ (fun hHeld => ?_)
       clear hK K
       refine norm_ (a' := ?_) ?_ ?_
       rotate_left
       ·show Act.put _ (some 58) _ = _
        simp only [Act.put, z1, z2, z3, i64_w, i32_w]
        rfl
       refine two_ (i := 6) (j := 14) (Ni := some 51) (Nj := some 59) #[true, true, true, true, true, true, true, true, true, true, true, true, true, true, false, false, true, true, true, true, true, false, false, false, false] #[true, true, true, true, true, true, false, true, true, true, true, true, true, true, true, false, true, true, true, true, true, false, false, false, false] rfl rfl rfl rfl (by kernel_rfl) (by decide) (by decide) (fun K hK => ?_) (fun K hK => ?_)
       ·skip
        refine goes_ Tryd.func47 (by kernel_rfl) rfl #[.string s0] (by rfl) rfl rfl (by simp only [z9, List.map_cons, List.map_nil]; rfl) ?_
        with_reducible refine (cotterref06_text.calls 10 s0 ts _ T1.out).mono ?_
        rintro e w6_ ⟨rfl, hb_⟩
        refine ⟨_, rfl, ?_⟩
        have HBW := z4 (below_in HBW.out hb_)
        have HC := z4 (pw_cell_below hb_ HC.out)
        clear hb_
        refine hK.out _ _ ⟨(SOF.out _ (below_in HB.out HBW.out)).1, (SOF.out _ (below_in HB.out HBW.out)).2.1, (SOF.out _ (below_in HB.out HBW.out)).2.2.1⟩ (fun hHeld => ?_)
        clear hK K
        refine norm_ (a' := ?_) ?_ ?_
        rotate_left
        ·show Act.put _ (some 51) _ = _
         simp only [Act.put, z1, z2, z3, i64_w, i32_w]
         rfl
        refine two_ (i := 14) (j := 21) (Ni := some 59) (Nj := some 66) #[true, true, true, true, true, true, true, true, true, true, true, true, true, true, true, false, true, true, true, true, true, false, false, false, false] #[true, true, true, true, true, true, true, true, true, true, true, true, true, true, false, false, true, true, true, true, true, true, false, false, false] rfl rfl rfl rfl (by kernel_rfl) (by decide) (by decide) (fun K hK => ?_) (fun K hK => ?_)
        ·skip
         have hc_ : w6_.cell? ⟨wr.heap.size, 0, none⟩ = some (.int .u8 (IntKind.u8.wrap s1)) := HC.out
         refine value_ (w1 := w6_) (v := .string os) (by rfl) rfl ?_ ?_
         ·go_simp
         clear hc_ HC
         obtain ⟨w14_, hA_⟩ : ∃ y, y = w6_ := ⟨_, rfl⟩
         rw [← hA_] at HBW ⊢
         clear hA_
         refine hK.out _ _ ⟨(SOF.out _ (below_in HB.out HBW.out)).1, (SOF.out _ (below_in HB.out HBW.out)).2.1, (SOF.out _ (below_in HB.out HBW.out)).2.2.1⟩ (fun hHeld => ?_)
         clear hK K
         refine norm_ (a' := ?_) ?_ ?_
         rotate_left
         ·show Act.put _ (some 59) _ = _
          simp only [Act.put, z1, z2, z3, i64_w, i32_w]
          rfl
         refine pure_ (i := 15) (N := some 60) (v := ?_) (a' := ?_) #[true, true, true, true, true, true, true, true, true, true, true, true, true, true, true, true, true, true, true, true, true, false, false, false, false] rfl rfl (by kernel_rfl) (fun _ _ _ h => h) (Or.inl ⟨by rfl, ?_⟩) ?_ ?_
         rotate_left
         ·intro w'
          go_simp
          with_reducible rfl
         rotate_left
         ·simp only [Act.put, z1, z2, z3, i64_w, i32_w]
          rfl
         refine one_ (i := 21) (N := some 66) #[true, true, true, true, true, true, true, true, true, true, true, true, true, true, true, true, true, true, true, true, true, true, false, false, false] rfl rfl (by kernel_rfl) (by decide) (fun K hK => ?_)
         refine goes_ Tryd.func48 (by kernel_rfl) rfl #[.int .i64 s2] (by rfl) rfl rfl (by simp only [z9, List.map_cons, List.map_nil]; rfl) ?_
         with_reducible refine (cotterref06_number.calls 10 s2 ns _ T2.out).mono ?_
         rintro e w21_ ⟨rfl, hb_⟩
         refine ⟨_, rfl, ?_⟩
         have HBW := z4 (below_in HBW.out hb_)
         clear hb_
         refine hK.out _ _ ⟨(SOF.out _ (below_in HB.out HBW.out)).1, (SOF.out _ (below_in HB.out HBW.out)).2.1, (SOF.out _ (below_in HB.out HBW.out)).2.2.1⟩ (fun hHeld => ?_)
         clear hK K
         refine norm_ (a' := ?_) ?_ ?_
         rotate_left
         ·show Act.put _ (some 66) _ = _
          simp only [Act.put, z1, z2, z3, i64_w, i32_w]
          rfl
         exact norm_ (by simp only [putAll, Act.put, z1, z2, z3]) (hCont ((wr).drew).heap.size _ HBW)
        ·skip
         refine goes_ Tryd.func48 (by kernel_rfl) rfl #[.int .i64 s2] (by rfl) rfl rfl (by simp only [z9, List.map_cons, List.map_nil]; rfl) ?_
         with_reducible refine (cotterref06_number.calls 10 s2 ns _ T2.out).mono ?_
         rintro e w21_ ⟨rfl, hb_⟩
         refine ⟨_, rfl, ?_⟩
         have HBW := z4 (below_in HBW.out hb_)
         have HC := z4 (pw_cell_below hb_ HC.out)
         clear hb_
         refine hK.out _ _ ⟨(SOF.out _ (below_in HB.out HBW.out)).1, (SOF.out _ (below_in HB.out HBW.out)).2.1, (SOF.out _ (below_in HB.out HBW.out)).2.2.1⟩ (fun hHeld => ?_)
         clear hK K
         refine norm_ (a' := ?_) ?_ ?_
         rotate_left
         ·show Act.put _ (some 66) _ = _
          simp only [Act.put, z1, z2, z3, i64_w, i32_w]
          rfl
         refine one_ (i := 14) (N := some 59) #[true, true, true, true, true, true, true, true, true, true, true, true, true, true, true, false, true, true, true, true, true, true, false, false, false] rfl rfl (by kernel_rfl) (by decide) (fun K hK => ?_)
         have hc_ : w21_.cell? ⟨wr.heap.size, 0, none⟩ = some (.int .u8 (IntKind.u8.wrap s1)) := HC.out
         refine value_ (w1 := w21_) (v := .string os) (by rfl) rfl ?_ ?_
         ·go_simp
         clear hc_ HC
         obtain ⟨w14_, hA_⟩ : ∃ y, y = w21_ := ⟨_, rfl⟩
         rw [← hA_] at HBW ⊢
         clear hA_
         refine hK.out _ _ ⟨(SOF.out _ (below_in HB.out HBW.out)).1, (SOF.out _ (below_in HB.out HBW.out)).2.1, (SOF.out _ (below_in HB.out HBW.out)).2.2.1⟩ (fun hHeld => ?_)
         clear hK K
         refine norm_ (a' := ?_) ?_ ?_
         rotate_left
         ·show Act.put _ (some 59) _ = _
          simp only [Act.put, z1, z2, z3, i64_w, i32_w]
          rfl
         refine pure_ (i := 15) (N := some 60) (v := ?_) (a' := ?_) #[true, true, true, true, true, true, true, true, true, true, true, true, true, true, true, true, true, true, true, true, true, true, false, false, false] rfl rfl (by kernel_rfl) (fun _ _ _ h => h) (Or.inl ⟨by rfl, ?_⟩) ?_ ?_
         rotate_left
         ·intro w'
          go_simp
          with_reducible rfl
         rotate_left
         ·simp only [Act.put, z1, z2, z3, i64_w, i32_w]
          rfl
         exact norm_ (by simp only [putAll, Act.put, z1, z2, z3]) (hCont ((wr).drew).heap.size _ HBW)
       ·skip
        have hc_ : w13_.cell? ⟨wr.heap.size, 0, none⟩ = some (.int .u8 (IntKind.u8.wrap s1)) := HC.out
        refine value_ (w1 := w13_) (v := .string os) (by rfl) rfl ?_ ?_
        ·go_simp
        clear hc_ HC
        obtain ⟨w14_, hA_⟩ : ∃ y, y = w13_ := ⟨_, rfl⟩
        rw [← hA_] at HBW ⊢
        clear hA_
        refine hK.out _ _ ⟨(SOF.out _ (below_in HB.out HBW.out)).1, (SOF.out _ (below_in HB.out HBW.out)).2.1, (SOF.out _ (below_in HB.out HBW.out)).2.2.1⟩ (fun hHeld => ?_)
        clear hK K
        refine norm_ (a' := ?_) ?_ ?_
        rotate_left
        ·show Act.put _ (some 59) _ = _
         simp only [Act.put, z1, z2, z3, i64_w, i32_w]
         rfl
        refine one_ (i := 6) (N := some 51) #[true, true, true, true, true, true, true, true, true, true, true, true, true, true, true, false, true, true, true, true, true, false, false, false, false] rfl rfl (by kernel_rfl) (by decide) (fun K hK => ?_)
        refine goes_ Tryd.func47 (by kernel_rfl) rfl #[.string s0] (by rfl) rfl rfl (by simp only [z9, List.map_cons, List.map_nil]; rfl) ?_
        with_reducible refine (cotterref06_text.calls 10 s0 ts _ T1.out).mono ?_
        rintro e w6_ ⟨rfl, hb_⟩
        refine ⟨_, rfl, ?_⟩
        have HBW := z4 (below_in HBW.out hb_)
        clear hb_
        refine hK.out _ _ ⟨(SOF.out _ (below_in HB.out HBW.out)).1, (SOF.out _ (below_in HB.out HBW.out)).2.1, (SOF.out _ (below_in HB.out HBW.out)).2.2.1⟩ (fun hHeld => ?_)
        clear hK K
        refine norm_ (a' := ?_) ?_ ?_
        rotate_left
        ·show Act.put _ (some 51) _ = _
         simp only [Act.put, z1, z2, z3, i64_w, i32_w]
         rfl
        refine pure_ (i := 15) (N := some 60) (v := ?_) (a' := ?_) #[true, true, true, true, true, true, true, true, true, true, true, true, true, true, true, true, true, true, true, true, true, false, false, false, false] rfl rfl (by kernel_rfl) (fun _ _ _ h => h) (Or.inl ⟨by rfl, ?_⟩) ?_ ?_
        rotate_left
        ·intro w'
         go_simp
         with_reducible rfl
        rotate_left
        ·simp only [Act.put, z1, z2, z3, i64_w, i32_w]
         rfl
        refine one_ (i := 21) (N := some 66) #[true, true, true, true, true, true, true, true, true, true, true, true, true, true, true, true, true, true, true, true, true, true, false, false, false] rfl rfl (by kernel_rfl) (by decide) (fun K hK => ?_)
        refine goes_ Tryd.func48 (by kernel_rfl) rfl #[.int .i64 s2] (by rfl) rfl rfl (by simp only [z9, List.map_cons, List.map_nil]; rfl) ?_
        with_reducible refine (cotterref06_number.calls 10 s2 ns _ T2.out).mono ?_
        rintro e w21_ ⟨rfl, hb_⟩
        refine ⟨_, rfl, ?_⟩
        have HBW := z4 (below_in HBW.out hb_)
        clear hb_
        refine hK.out _ _ ⟨(SOF.out _ (below_in HB.out HBW.out)).1, (SOF.out _ (below_in HB.out HBW.out)).2.1, (SOF.out _ (below_in HB.out HBW.out)).2.2.1⟩ (fun hHeld => ?_)
        clear hK K
        refine norm_ (a' := ?_) ?_ ?_
        rotate_left
        ·show Act.put _ (some 66) _ = _
         simp only [Act.put, z1, z2, z3, i64_w, i32_w]
         rfl
        exact norm_ (by simp only [putAll, Act.put, z1, z2, z3]) (hCont ((wr).drew).heap.size _ HBW)
     intro b w8 HBW
     have hHeld : w8.cell? (ad.add (k * 3)) = some (.string s0) ∧ w8.cell? ⟨(ad.add (k * 3)).block, (ad.add (k * 3)).off + 1, none⟩ = some (.int .i64 s1) ∧ w8.cell? ⟨(ad.add (k * 3)).block, (ad.add (k * 3)).off + 2, none⟩ = some (.int .i64 s2) := ⟨(SOF.out _ (below_in HB.out HBW.out)).1, (SOF.out _ (below_in HB.out HBW.out)).2.1, (SOF.out _ (below_in HB.out HBW.out)).2.2.1⟩
     refine norm_ (a' := ?_) ?_ ?_
     rotate_left
     ·simp only [putAll, Act.put, z1, z2, z3]
      rfl
     refine pure_ (i := 22) (N := some 67) (v := ?_) (a' := ?_) #[true, true, true, true, true, true, true, true, true, true, true, true, true, true, true, true, true, true, true, true, true, true, true, false, false] rfl rfl (by kernel_rfl) (fun _ _ _ h => h) (Or.inl ⟨by rfl, ?_⟩) ?_ ?_
     rotate_left
     ·intro w'
      go_simp
      with_reducible rfl
     rotate_left
     ·simp only [Act.put, z1, z2, z3, i64_w, i32_w]
      rfl
     refine one_ (i := 23) (N := some 68) #[true, true, true, true, true, true, true, true, true, true, true, true, true, true, true, true, true, true, true, true, true, true, true, true, false] rfl rfl (by kernel_rfl) (by decide) (fun K hK => ?_)
     refine mark_step w.heap.size (by rfl) (.tmp 45) (.tmp 67) 60 9 5 rfl Tryd.underlying60 Tryd.underlying9 info5 _ _ ys (ts ++ os ++ ns) HY.out (by rfl) (by rfl) (HO.out.below HBW.out) (Nat.le_trans HB.out.size HBW.out.size) (by have h1 := HL.out; have h2 := Z.out; omega) ?_
     intro A n1 w9 ho5 hg5
     have HO5 := z4 ho5
     have HBE := z4 (ownB_grown (below_in HB.out HBW.out) (HO.out.below HBW.out) hg5)
     clear ho5 hg5
     refine hK.out _ _ ⟨(SOF.out _ (HBE.out)).1, (SOF.out _ (HBE.out)).2.1, (SOF.out _ (HBE.out)).2.2.1⟩ (fun hHeld => ?_)
     clear hK K
     refine norm_ (a' := ?_) ?_ ?_
     rotate_left
     ·show Act.put _ (some 68) _ = _
      simp only [Act.put, z1, z2, z3, i64_w, i32_w]
      rfl
     refine pure_ (i := 24) (N := some 9) (v := ?_) (a' := ?_) #[true, true, true, true, true, true, true, true, true, true, true, true, true, true, true, true, true, true, true, true, true, true, true, true, true] rfl rfl (by kernel_rfl) (fun _ _ _ h => h) (Or.inl ⟨by rfl, ?_⟩) ?_ ?_
     rotate_left
     ·intro w'
      go_simp
      with_reducible rfl
     rotate_left
     ·simp only [Act.put, z1, z2, z3, i64_w, i32_w]
      rfl
     refine done_ (by kernel_rfl) ?_
     go_wp2
     go_roundw
     case rel => exact ⟨k + 1, by omega, by first | rfl | go_num, ⟨by rw [← HYS.out]; exact HO5.out⟩, HBE⟩
     case measure => simp [intOf]; omega
    case neg =>
     obtain rfl : k = syms.length := by omega
     rw [List.take_length] at HO
     have hst := HO.out.string Tryd.underlying60 Tryd.underlying5 Tryd.underlying9
     obtain ⟨res, hres⟩ : ∃ res, res = strOfNums (front (bytesOf mark) code data syms) := ⟨_, rfl⟩
     rw [show front1 (bytesOf mark) code data syms ++ symsL syms = front (bytesOf mark) code data syms from rfl, ← hres] at hst
     have HRES := z4 hres
     clear hres
     go_wp2
     go_ret
     exact ⟨by rw [← HRES.out]; rfl, HB.out⟩
end Go.Proofs.YtimhcpmfhebbhaaDoor.M
namespace Go.Proofs.YtimhcpmfhebbhaaDoor.M
open Go.RowKit Go.Proofs.YtimhcpmfhebbhaaDoorW.PrintWords Go.Proofs.YtimhcpmfhebbhaaDoorW.PrintLast
set_option linter.unusedVariables false
set_option linter.unusedSimpArgs false
/-- A state of type 88 at block g of W; what its slices lead to came in by w0. -/
def IsS88 (w0 W : World) (g : Nat) (f0 : ByteArray) (f1 : Int) (f2 : Bool) : Prop := W.heap[g]? = some (.cells #[.string f0, .int .i64 f1, .bool f2] 88 (0, 0)) ∧ w0.heap.size ≤ g
theorem IsS88.grown {w0 W : World} {g : Nat} {f0 : ByteArray} {f1 : Int} {f2 : Bool} {W1 : World} {row : Option Nat} (h : IsS88 w0 W g f0 f1 f2) (hw : W.grownBy W1 row) (hne : some g ≠ row) : IsS88 w0 W1 g f0 f1 f2 := by
 obtain ⟨hb, hg⟩ := h
 exact ⟨blk_grown hb hw hne, hg⟩
theorem IsS88.kept {w0 W : World} {g : Nat} {f0 : ByteArray} {f1 : Int} {f2 : Bool} {W1 : World} {S : Nat → Prop} (h : IsS88 w0 W g f0 f1 f2) (hk : Kept W W1 S) (hne : ¬ S g) : IsS88 w0 W1 g f0 f1 f2 := by
 obtain ⟨hb, hg⟩ := h
 exact ⟨blk_kept hb hk hne, hg⟩
theorem IsS88.below {w0 W : World} {g : Nat} {f0 : ByteArray} {f1 : Int} {f2 : Bool} {W1 : World} (h : IsS88 w0 W g f0 f1 f2) (hw : Below W.heap.size W W1) : IsS88 w0 W1 g f0 f1 f2 := h.grown (grown_of_below hw none) (by simp)
theorem IsS88.alloc {w0 W : World} {g : Nat} {f0 : ByteArray} {f1 : Int} {f2 : Bool} (h : IsS88 w0 W g f0 f1 f2) (o : Obj) : IsS88 w0 (W.alloc o) g f0 f1 f2 := h.below (zA (Below.refl _ _) o)
theorem IsS88.drewN {w0 W : World} {g : Nat} {f0 : ByteArray} {f1 : Int} {f2 : Bool} (h : IsS88 w0 W g f0 f1 f2) (m : Nat) : IsS88 w0 (W.drewN m) g f0 f1 f2 := h
theorem IsS88.drew {w0 W : World} {g : Nat} {f0 : ByteArray} {f1 : Int} {f2 : Bool} (h : IsS88 w0 W g f0 f1 f2) : IsS88 w0 W.drew g f0 f1 f2 := h
theorem IsS88.at_ {w0 W : World} {g : Nat} {f0 : ByteArray} {f1 : Int} {f2 : Bool} {w' : World} {m : Nat} (hq : W.drewN m = w') (h : IsS88 w0 W g f0 f1 f2) : IsS88 w0 w' g f0 f1 f2 := by subst hq; exact IsS88.drewN h m
theorem IsS88.apart {w0 W : World} {g : Nat} {f0 : ByteArray} {f1 : Int} {f2 : Bool} {α : Type} {d : Kd α} {e : Nat} {base : Nat} {ok : Nat → Prop} {v : Value} {xs : List α} (h : IsS88 w0 W g f0 f1 f2) (ho : d.R e W base ok v xs) (ht : ∀ q, q ∈ e :: d.E → q ≠ 88) : d.R e W base (fun k => ok k ∧ k ≠ g) v xs := by
 obtain ⟨hb, hg⟩ := h
 exact Kd.R_types ho hb ht
theorem IsS88.own_ne {w0 W : World} {g : Nat} {f0 : ByteArray} {f1 : Int} {f2 : Bool} {α : Type} {d : Kd α} {e : Nat} {base : Nat} {ok : Nat → Prop} {v : Value} {xs : List α} (h : IsS88 w0 W g f0 f1 f2) (ho : d.R e W base ok v xs) (ht : e ≠ 88) : some g ≠ v.ownBlock := by
 obtain ⟨hb, hg⟩ := h
 exact Kd.R_ne ho hb ht
theorem IsS88.far {w0 W : World} {g : Nat} {f0 : ByteArray} {f1 : Int} {f2 : Bool} {p : Addr} (h : IsS88 w0 W g f0 f1 f2) (hne : g ≠ p.block) (u : Value) : IsS88 w0 (W.setCell p u) g f0 f1 f2 := by
 obtain ⟨hb, hg⟩ := h
 exact ⟨blk_far hb hne u, hg⟩
theorem IsS88.new (w0 W : World) (f0 : ByteArray) (f1 : Int) (f2 : Bool) (hB : Below w0.heap.size w0 W) : IsS88 w0 (W.alloc (.cells #[.string f0, .int .i64 f1, .bool f2] 88)) W.heap.size f0 f1 f2 := ⟨by simpa using heap_alloc_new W _, hB.size⟩
end Go.Proofs.YtimhcpmfhebbhaaDoor.M
namespace Go.Proofs.YtimhcpmfhebbhaaDoor.M
end Go.Proofs.YtimhcpmfhebbhaaDoor.M
namespace Go.Proofs.YtimhcpmfhebbhaaDoor.M
set_option maxRecDepth 100000
open Go.RowKit Go.Proofs.YtimhcpmfhebbhaaDoorW.PrintWords Go.Proofs.YtimhcpmfhebbhaaDoor.Num Go.Proofs.YtimhcpmfhebbhaaDoor.Seven Go.Proofs.YtimhcpmfhebbhaaDoor.Word1 Go.Proofs.YtimhcpmfhebbhaaDoor.Obj
set_option linter.unusedVariables false
set_option linter.unusedSimpArgs false
theorem takeR_ok {s : ByteArray} {p : Nat} (h : (takeR s p).2.2 = 0) (hp : p ≤ s.size) : ∃ q : Nat, (takeR s p).2.1 = (q : Int) ∧ p < q ∧ q ≤ s.size ∧ 0 ≤ (takeR s p).1 ∧ (takeR s p).1 < 18446744073709551616 ∧ (bytesOf s).drop p = putL (takeR s p).1.toNat ++ (bytesOf s).drop q := by
 unfold takeR at *
 rw [if_neg (by omega)] at *
 simp only [Int.toNat_natCast] at *
 cases e : takeL ((bytesOf s).drop p) 0 with
 | none => rw [e] at h; simp at h
 | some t =>
  rw [e] at h
  obtain ⟨v, n⟩ := t
  obtain ⟨h1, h2, h3, h4, h5⟩ := takeL_some _ _ _ ((bytesOf_Bs s).drop p) e
  rw [List.length_drop, bytesOf_length] at h2
  dsimp only at *
  refine ⟨p + n, by omega, by omega, by omega, h3, by simpa using h4, ?_⟩
  have := List.take_append_drop n ((bytesOf s).drop p)
  rw [h5, List.drop_drop] at this
  exact this.symm
def numA (s : ByteArray) (most : Int) (p : Nat) : Option (Int × Nat) := if (takeR s p).2.2 = 0 ∧ (takeR s p).1 ≤ most then some ((takeR s p).1, (takeR s p).2.1.toNat) else none
def bytesA (s : ByteArray) (n p : Nat) : Option (ByteArray × Nat) := if p + n ≤ s.size then some (s.extract p (p + n), p + n) else none
def oneA (s : ByteArray) (p : Nat) : Option (Int × Nat) := if p < s.size then some (bt s p, p + 1) else none
def wideA (s : ByteArray) (p : Nat) : Option (Int × Nat) := (bytesA s 8 p).map fun x => ((numR x.1).1, x.2)
def textA (s : ByteArray) (most : Int) (p : Nat) : Option (ByteArray × Nat) := (numA s most p).bind fun a => bytesA s a.1.toNat a.2
def manyA {α : Type} (q : Nat → Option (α × Nat)) : Nat → Nat → Option (List α × Nat)
 | 0, p => some ([], p)
 | n + 1, p => (q p).bind fun x => (manyA q n x.2).map fun y => (x.1 :: y.1, y.2)
def listA {α : Type} (s : ByteArray) (most : Int) (q : Nat → Option (α × Nat)) (p : Nat) : Option (List α × Nat) := (numA s most p).bind fun a => manyA q a.1.toNat a.2
def symA (s : ByteArray) (p : Nat) : Option (S68 × Nat) := (textA s 28 p).bind fun a => (oneA s a.2).bind fun b => (numA s 65536 b.2).bind fun c => some (⟨a.1, b.1, c.1⟩, c.2)
def frontA (s mark : ByteArray) (p : Nat) : Option (ByteArray × List Int × List S68 × Nat) := (bytesA s 4 p).bind fun m => if m.1 = mark then (textA s 65536 m.2).bind fun c => (listA s 4096 (wideA s) c.2).bind fun d => (listA s 1000 (symA s) d.2).bind fun y => some (c.1, d.1, y.1, y.2) else none
theorem numA_ok {s : ByteArray} {most : Int} {p : Nat} {n : Int} {q : Nat} (h : numA s most p = some (n, q)) (hp : p ≤ s.size) : p < q ∧ q ≤ s.size ∧ 0 ≤ n ∧ n ≤ most ∧ n < 18446744073709551616 ∧ (bytesOf s).drop p = putL n.toNat ++ (bytesOf s).drop q ∧ takeR s p = (n, (q : Int), 0) := by
 unfold numA at h
 split at h
 ·next c =>
  obtain ⟨q', e, h1, h2, h3, h4, h5⟩ := takeR_ok c.1 hp
  obtain ⟨rfl, rfl⟩ := Prod.mk.inj (Option.some.inj h)
  rw [e, Int.toNat_natCast]
  exact ⟨h1, h2, h3, c.2, h4, h5, by rw [← e, ← c.1]⟩
 ·cases h
theorem bytesA_ok {s : ByteArray} {n p : Nat} {x : ByteArray} {q : Nat} (h : bytesA s n p = some (x, q)) : q = p + n ∧ q ≤ s.size ∧ x = s.extract p (p + n) ∧ x.size = n := by
 unfold bytesA at h
 split at h
 ·next c =>
  obtain ⟨rfl, rfl⟩ := Prod.mk.inj (Option.some.inj h)
  exact ⟨rfl, c, rfl, by simp [ByteArray.size_extract]; omega⟩
 ·cases h
/-- A step of the document's Reader: what lacks is told by a mark that stays. -/
def rr {α : Type} (d : α) (o : Option (α × Nat)) (p : Nat) (bad : Bool) : α × Nat × Bool := if bad then (d, p, true) else match o with | some (n, q) => (n, q, false) | none => (d, p, true)
@[simp] theorem rr_true {α : Type} (d : α) (o : Option (α × Nat)) (p : Nat) : rr d o p true = (d, p, true) := rfl
@[simp] theorem rr_none {α : Type} (d : α) (p : Nat) : rr d none p false = (d, p, true) := rfl
@[simp] theorem rr_some {α : Type} (d : α) (x : α × Nat) (p : Nat) : rr d (some x) p false = (x.1, x.2, false) := rfl
theorem oneA_ok {s : ByteArray} {p : Nat} {n : Int} {q : Nat} (h : oneA s p = some (n, q)) : q = p + 1 ∧ q ≤ s.size ∧ n = bt s p ∧ 0 ≤ n ∧ n < 256 := by
 unfold oneA at h
 split at h
 ·next c =>
  obtain ⟨rfl, rfl⟩ := Prod.mk.inj (Option.some.inj h)
  have := bytesOf_Bs s (bt s p) (by have := bt_drop s p c; exact List.mem_of_mem_drop (by rw [this]; simp))
  exact ⟨rfl, by omega, rfl, this.1, this.2⟩
 ·cases h
theorem wideA_ok {s : ByteArray} {p : Nat} {n : Int} {q : Nat} (h : wideA s p = some (n, q)) : q = p + 8 ∧ q ≤ s.size ∧ n = (numR (s.extract p (p + 8))).1 ∧ (s.extract p (p + 8)).size = 8 := by
 unfold wideA at h
 obtain ⟨x, hx, e⟩ := Option.map_eq_some_iff.1 h
 obtain ⟨h1, h2, h3, h4⟩ := bytesA_ok (x := x.1) (q := x.2) (by rw [hx])
 obtain ⟨rfl, rfl⟩ := Prod.mk.inj e
 rw [← h3]
 exact ⟨h1, h2, rfl, h4⟩
theorem extract_one (s : ByteArray) (p : Nat) (h : p + 1 ≤ s.size) : bt (s.extract p (p + 1)) 0 = bt s p := by
 have h1 := bt_drop s p h
 have h2 := bt_drop (s.extract p (p + 1)) 0 (by simp [ByteArray.size_extract]; omega)
 have h3 : bytesOf (s.extract p (p + 1)) = ((bytesOf s).drop p).take 1 := by
  simp [bytesOf, ByteArray.data_extract, List.map_take, List.map_drop]
 rw [h3, h1] at h2
 simpa using h2.symm
/-- A round of a reading loop. -/
theorem many_step {α : Type} {q : Nat → Option (α × Nat)} {p p' : Nat} {x : α} {bad : Bool} (h : q p = bif bad then none else some (x, p')) (m : Nat) (acc : List α) :
 ((manyA q (m + 1) p).map fun y => (acc ++ y.1, y.2)) = bif bad then none else ((manyA q m p').map fun y => ((acc ++ [x]) ++ y.1, y.2)) := by
 rw [manyA, h]
 cases bad
 ·simp [Option.map_map, Function.comp_def]
 ·simp
theorem toList_inj {a b : ByteArray} (h : a.toList = b.toList) : a = b := by
 rw [ByteArray.toList_eq, ByteArray.toList_eq] at h
 exact ByteArray.ext (Array.toList_inj.mp h)
end Go.Proofs.YtimhcpmfhebbhaaDoor.M
namespace Go.Proofs.YtimhcpmfhebbhaaDoor.M
set_option maxRecDepth 100000
open Go.RowKit Go.Proofs.YtimhcpmfhebbhaaDoorW.PrintWords Go.Proofs.YtimhcpmfhebbhaaDoor.Num Go.Proofs.YtimhcpmfhebbhaaDoor.Seven Go.Proofs.YtimhcpmfhebbhaaDoor.Word1 Go.Proofs.YtimhcpmfhebbhaaDoor.Obj
set_option linter.unusedVariables false
set_option linter.unusedSimpArgs false
def relA (s : ByteArray) (p : Nat) : Option (S116 × Nat) := (numA s 65536 p).bind fun a => (oneA s a.2).bind fun b => (textA s 28 b.2).bind fun c => (wideA s c.2).bind fun d => some (⟨a.1, b.1, c.1, d.1⟩, d.2)
abbrev COT1s : ByteArray := ⟨#[67, 79, 84, 49]⟩
/-- The object of a text's bytes. -/
def readA (s : ByteArray) : Option (ByteArray × List Int × List S68 × List S116) := (frontA s COT1s 0).bind fun a => (listA s 8000 (relA s) a.2.2.2).bind fun r =>
 if r.2 = s.size ∧ may a.1 a.2.1 a.2.2.1 r.1 = true then some (a.1, a.2.1, a.2.2.1, r.1) else none
def readF (s : ByteArray) : ByteArray × List Int × List S68 × List S116 × Int := match readA s with | some x => (x.1, x.2.1, x.2.2.1, x.2.2.2, 0) | none => (⟨#[]⟩, [], [], [], 9)
/-- The memory of a reading under way: the object's block h, one more block x, the object's rows; blocks from B on are none of them. -/
structure Held (w W : World) (B h x : Nat) (cs xs : Array Value) (xt : TypeId) (v1 : Value) (d : List Int) (v2 : Value) (y : List S68) (v3 : Value) (r : List S116) : Prop where
 below : Below w.heap.size w W
 obj : W.heap[h]? = some (.cells cs 74 (0, 0))
 more : W.heap[x]? = some (.cells xs xt (0, 0))
 r1 : Kd.R (Kd.int .i64) 2 W w.heap.size (fun k => k < B) v1 d
 r2 : Kd.R k68 68 W w.heap.size (fun k => k < B) v2 y
 r3 : Kd.R k116 116 W w.heap.size (fun k => k < B) v3 r
 lt : B ≤ W.heap.size
 hh : w.heap.size ≤ h ∧ h < B ∧ w.heap.size ≤ x ∧ x < B ∧ h ≠ x
 ht : xt ≠ 2 ∧ xt ≠ 68 ∧ xt ≠ 116
theorem mem_one {t q : Nat} {l : List Nat} (hl : l = []) (h : q ∈ t :: l) : q = t := by subst hl; simpa using h
section
variable {w W W' : World} {B h x : Nat} {cs xs : Array Value} {xt : TypeId} {v1 v2 v3 : Value} {d : List Int} {y : List S68} {r : List S116}
theorem Held.keep (H : Held w W B h x cs xs xt v1 d v2 y v3 r) {g gt : Nat} {gs : Array Value} (hk : KeepBut W W' g none) (hb : Below w.heap.size w W') (hgh : h ≠ g) (hgx : x ≠ g) (hg : W.heap[g]? = some (.cells gs gt (0, 0))) (hgt : gt ≠ 2 ∧ gt ≠ 68 ∧ gt ≠ 116) : Held w W' B h x cs xs xt v1 d v2 y v3 r where
 below := hb
 obj := hk.blk H.obj hgh (by simp)
 more := hk.blk H.more hgx (by simp)
 r1 := Kd.R_mono (Kd.R_keep (Kd.R_types H.r1 hg (fun q hq => by rw [mem_one rfl hq]; exact fun e => hgt.1 e.symm)) hk (fun _ h => h.2)) (fun _ h => h.1)
 r2 := Kd.R_mono (Kd.R_keep (Kd.R_types H.r2 hg (fun q hq => by rw [mem_one rfl hq]; exact fun e => hgt.2.1 e.symm)) hk (fun _ h => h.2)) (fun _ h => h.1)
 r3 := Kd.R_mono (Kd.R_keep (Kd.R_types H.r3 hg (fun q hq => by rw [mem_one rfl hq]; exact fun e => hgt.2.2 e.symm)) hk (fun _ h => h.2)) (fun _ h => h.1)
 lt := Nat.le_trans H.lt hk.1
 hh := H.hh
 ht := H.ht
theorem Held.next (H : Held w W B h x cs xs xt v1 d v2 y v3 r) (hb : Below W.heap.size W W') : Held w W' B h x cs xs xt v1 d v2 y v3 r where
 below := below_then H.below H.below.size hb
 obj := blk_below H.obj hb
 more := blk_below H.more hb
 r1 := Kd.R_below H.r1 hb
 r2 := Kd.R_below H.r2 hb
 r3 := Kd.R_below H.r3 hb
 lt := Nat.le_trans H.lt hb.size
 hh := H.hh
 ht := H.ht
theorem Held.far (H : Held w W B h x cs xs xt v1 d v2 y v3 r) {p : Addr} (hp : B ≤ p.block) (u : Value) : Held w (W.setCell p u) B h x cs xs xt v1 d v2 y v3 r where
 below := Below.setCell H.below (by have := H.hh; omega) u
 obj := blk_far H.obj (by have := H.hh; omega) u
 more := blk_far H.more (by have := H.hh; omega) u
 r1 := Kd.R_far H.r1 (fun k hk => by omega) u
 r2 := Kd.R_far H.r2 (fun k hk => by omega) u
 r3 := Kd.R_far H.r3 (fun k hk => by omega) u
 lt := by have := H.lt; simpa [World.setCell] using this
 hh := H.hh
 ht := H.ht
theorem Held.up (H : Held w W B h x cs xs xt v1 d v2 y v3 r) {B' : Nat} (hB : B ≤ B') (hB' : B' ≤ W.heap.size) : Held w W B' h x cs xs xt v1 d v2 y v3 r where
 below := H.below
 obj := H.obj
 more := H.more
 r1 := Kd.R_mono H.r1 (fun k hk => by omega)
 r2 := Kd.R_mono H.r2 (fun k hk => by omega)
 r3 := Kd.R_mono H.r3 (fun k hk => by omega)
 lt := hB'
 hh := by have := H.hh; omega
 ht := H.ht
theorem Held.put (H : Held w W B h x cs xs xt v1 d v2 y v3 r) {cs' : Array Value} (i : Nat) (u : Value) (e : cs.setIfInBounds i u = cs') : Held w (W.setCell ⟨h, i, none⟩ u) B h x cs' xs xt v1 d v2 y v3 r where
 below := Below.setCell H.below (by have := H.hh; simp; omega) u
 obj := blk_put H.obj i u e
 more := blk_far H.more (by have := H.hh; simp; omega) u
 r1 := Kd.R_mono (Kd.R_far (Kd.R_types H.r1 H.obj (fun q hq => by rw [mem_one rfl hq]; decide)) (fun _ h => h.2) u) (fun _ h => h.1)
 r2 := Kd.R_mono (Kd.R_far (Kd.R_types H.r2 H.obj (fun q hq => by rw [mem_one rfl hq]; decide)) (fun _ h => h.2) u) (fun _ h => h.1)
 r3 := Kd.R_mono (Kd.R_far (Kd.R_types H.r3 H.obj (fun q hq => by rw [mem_one rfl hq]; decide)) (fun _ h => h.2) u) (fun _ h => h.1)
 lt := by have := H.lt; simpa [World.setCell] using this
 hh := H.hh
 ht := H.ht
theorem Held.putX (H : Held w W B h x cs xs xt v1 d v2 y v3 r) {xs' : Array Value} (i : Nat) (u : Value) (e : xs.setIfInBounds i u = xs') : Held w (W.setCell ⟨x, i, none⟩ u) B h x cs xs' xt v1 d v2 y v3 r where
 below := Below.setCell H.below (by have := H.hh; simp; omega) u
 obj := blk_far H.obj (by have := H.hh; simp; omega) u
 more := blk_put H.more i u e
 r1 := Kd.R_mono (Kd.R_far (Kd.R_types H.r1 H.more (fun q hq => by rw [mem_one rfl hq]; exact fun e => H.ht.1 e.symm)) (fun _ h => h.2) u) (fun _ h => h.1)
 r2 := Kd.R_mono (Kd.R_far (Kd.R_types H.r2 H.more (fun q hq => by rw [mem_one rfl hq]; exact fun e => H.ht.2.1 e.symm)) (fun _ h => h.2) u) (fun _ h => h.1)
 r3 := Kd.R_mono (Kd.R_far (Kd.R_types H.r3 H.more (fun q hq => by rw [mem_one rfl hq]; exact fun e => H.ht.2.2 e.symm)) (fun _ h => h.2) u) (fun _ h => h.1)
 lt := by have := H.lt; simpa [World.setCell] using this
 hh := H.hh
 ht := H.ht
theorem R_all {α : Type} {k : Kd α} {e base : Nat} {ok : Nat → Prop} {v : Value} {l : List α} (h : k.R e W base ok v l) : k.R e W base (fun _ => True) v l := Kd.R_mono h (fun _ _ => trivial)
theorem R_in {α : Type} {k : Kd α} {e base : Nat} {ok : Nat → Prop} {v : Value} {l : List α} (h : k.R e W base ok v l) : k.R e W base (fun k => k < W.heap.size) v l := Kd.R_mono (Kd.R_bound h) (fun _ h => h.2.2.1)
/-- One more relocation. -/
theorem Held.more3 (H : Held w W B h x cs xs xt v1 d v2 y v3 r) {v3' : Value} {r' : List S116} {ok : Nat → Prop} (hR : Kd.R k116 116 W' w.heap.size ok v3' r') (hb : Below w.heap.size w W') (hg : W.grownBy W' v3.ownBlock) : Held w W' W'.heap.size h x cs xs xt v1 d v2 y v3' r' where
 below := hb
 obj := blk_grown H.obj hg (Kd.R_ne H.r3 H.obj (by decide))
 more := blk_grown H.more hg (Kd.R_ne H.r3 H.more (fun e => H.ht.2.2 e.symm))
 r1 := R_in (Kd.R_over' H.r1 (Kd.R_typed H.r3) (fun q hq => by rw [mem_one rfl hq]; decide) hg)
 r2 := R_in (Kd.R_over' H.r2 (Kd.R_typed H.r3) (fun q hq => by rw [mem_one rfl hq]; decide) hg)
 r3 := R_in hR
 lt := Nat.le_refl _
 hh := by have := H.hh; have := H.lt; have := hg.size; omega
 ht := H.ht
theorem Held.more2 (H : Held w W B h x cs xs xt v1 d v2 y v3 r) {v2' : Value} {y' : List S68} {ok : Nat → Prop} (hR : Kd.R k68 68 W' w.heap.size ok v2' y') (hb : Below w.heap.size w W') (hg : W.grownBy W' v2.ownBlock) : Held w W' W'.heap.size h x cs xs xt v1 d v2' y' v3 r where
 below := hb
 obj := blk_grown H.obj hg (Kd.R_ne H.r2 H.obj (by decide))
 more := blk_grown H.more hg (Kd.R_ne H.r2 H.more (fun e => H.ht.2.1 e.symm))
 r1 := R_in (Kd.R_over' H.r1 (Kd.R_typed H.r2) (fun q hq => by rw [mem_one rfl hq]; decide) hg)
 r2 := R_in hR
 r3 := R_in (Kd.R_over' H.r3 (Kd.R_typed H.r2) (fun q hq => by rw [mem_one rfl hq]; decide) hg)
 lt := Nat.le_refl _
 hh := by have := H.hh; have := H.lt; have := hg.size; omega
 ht := H.ht
theorem Held.more1 (H : Held w W B h x cs xs xt v1 d v2 y v3 r) {v1' : Value} {d' : List Int} {ok : Nat → Prop} (hR : Kd.R (Kd.int .i64) 2 W' w.heap.size ok v1' d') (hb : Below w.heap.size w W') (hg : W.grownBy W' v1.ownBlock) : Held w W' W'.heap.size h x cs xs xt v1' d' v2 y v3 r where
 below := hb
 obj := blk_grown H.obj hg (Kd.R_ne H.r1 H.obj (by decide))
 more := blk_grown H.more hg (Kd.R_ne H.r1 H.more (fun e => H.ht.1 e.symm))
 r1 := R_in hR
 r2 := R_in (Kd.R_over' H.r2 (Kd.R_typed H.r1) (fun q hq => by rw [mem_one rfl hq]; decide) hg)
 r3 := R_in (Kd.R_over' H.r3 (Kd.R_typed H.r1) (fun q hq => by rw [mem_one rfl hq]; decide) hg)
 lt := Nat.le_refl _
 hh := by have := H.hh; have := H.lt; have := hg.size; omega
 ht := H.ht
end
end Go.Proofs.YtimhcpmfhebbhaaDoor.M
namespace Go.Proofs.YtimhcpmfhebbhaaDoor.M
set_option maxRecDepth 100000
open Go.RowKit Go.Proofs.YtimhcpmfhebbhaaDoorW.PrintWords Go.Proofs.YtimhcpmfhebbhaaDoor.Num Go.Proofs.YtimhcpmfhebbhaaDoor.Seven Go.Proofs.YtimhcpmfhebbhaaDoor.Word1 Go.Proofs.YtimhcpmfhebbhaaDoor.Obj
theorem cot_bs : Bs COT1 := by
 intro b hb
 simp only [COT1, List.mem_cons, List.not_mem_nil, or_false] at hb
 omega
end Go.Proofs.YtimhcpmfhebbhaaDoor.M
namespace Go.Proofs.YtimhcpmfhebbhaaDoor.M
set_option maxRecDepth 100000
open Go.RowKit Go.Proofs.YtimhcpmfhebbhaaDoorW.PrintWords Go.Proofs.YtimhcpmfhebbhaaDoor.Num Go.Proofs.YtimhcpmfhebbhaaDoor.Seven Go.Proofs.YtimhcpmfhebbhaaDoor.Word1 Go.Proofs.YtimhcpmfhebbhaaDoor.Obj
set_option linter.unusedVariables false
set_option linter.unusedSimpArgs false
theorem drop_len {s : ByteArray} {p : Nat} {a r : List Int} (h : (bytesOf s).drop p = a ++ r) (ha : 0 < a.length) : p + a.length ≤ s.size ∧ (bytesOf s).drop (p + a.length) = r := by
 have h1 := congrArg List.length h
 rw [List.length_drop, bytesOf_length, List.length_append] at h1
 refine ⟨by omega, ?_⟩
 rw [← List.drop_drop, h, List.drop_left]
theorem drop_len' {s : ByteArray} {p : Nat} {a r : List Int} (hp : p ≤ s.size) (h : (bytesOf s).drop p = a ++ r) : p + a.length ≤ s.size ∧ (bytesOf s).drop (p + a.length) = r := by
 have h1 := congrArg List.length h
 rw [List.length_drop, bytesOf_length, List.length_append] at h1
 refine ⟨by omega, ?_⟩
 rw [← List.drop_drop, h, List.drop_left]
theorem numA_put {s : ByteArray} {most : Int} {p u : Nat} {r : List Int} (h : (bytesOf s).drop p = putL u ++ r) (hm : (u : Int) ≤ most) (hu : u < 18446744073709551616) : numA s most p = some ((u : Int), p + (putL u).length) := by
 have hp := (drop_len h (putL_pos u)).1
 have e : takeR s p = ((u : Int), (p : Int) + ((putL u).length : Nat), 0) := by
  unfold takeR
  rw [if_neg (by omega), Int.toNat_natCast, h, takeL_putL u u 0 r (Nat.le_refl _) (by simpa using hu) (Or.inl rfl)]
 unfold numA
 rw [e]
 dsimp only
 rw [if_pos ⟨rfl, hm⟩, show ((p : Int) + ((putL u).length : Nat)).toNat = p + (putL u).length by omega]
theorem bytesOf_extract (s : ByteArray) (p n : Nat) : bytesOf (s.extract p (p + n)) = ((bytesOf s).drop p).take n := by
 simp [bytesOf, ByteArray.data_extract, List.map_take, List.map_drop]
theorem bytesA_put {s x : ByteArray} {p : Nat} {r : List Int} (hp : p ≤ s.size) (h : (bytesOf s).drop p = bytesOf x ++ r) : bytesA s x.size p = some (x, p + x.size) := by
 have h1 := drop_len' hp h
 rw [bytesOf_length] at h1
 unfold bytesA
 rw [if_pos h1.1]
 have e : s.extract p (p + x.size) = x := by
  apply bytesOf_inj
  rw [bytesOf_extract, h, ← bytesOf_length x, List.take_left]
 rw [e]
theorem oneA_put {s : ByteArray} {p : Nat} {b : Int} {r : List Int} (h : (bytesOf s).drop p = b :: r) : oneA s p = some (b, p + 1) := by
 have h1 := (drop_len (a := [b]) (r := r) h (by simp)).1
 simp only [List.length_singleton] at h1
 have h2 := bt_drop s p (by omega)
 rw [h] at h2
 unfold oneA
 rw [if_pos (by omega), ← (List.cons.inj h2).1]
theorem wideA_put {s : ByteArray} {p : Nat} {n : Int} {r : List Int} (h : (bytesOf s).drop p = leL n 8 ++ r) (h0 : -9223372036854775808 ≤ n) (h1 : n < 9223372036854775808) : wideA s p = some (n, p + 8) := by
 have hl := (drop_len h (by rw [leL_len]; omega)).1
 rw [leL_len] at hl
 have hb : bytesA s 8 p = some (strOfNums (leL n 8), p + 8) := by
  have hz : (strOfNums (leL n 8)).size = 8 := by rw [str_size _ (leL_bs _ _), leL_len]
  have := bytesA_put (s := s) (x := strOfNums (leL n 8)) (p := p) (r := r) (by omega) (by rw [bytesOf_str (leL_bs _ _)]; exact h)
  rw [hz] at this
  exact this
 unfold wideA
 rw [hb]
 have hn := num_bytes n 8 h0 h1 (Or.inr (Or.inr rfl))
 have e : (bytesR n 8).1 = strOfNums (leL n 8) := by
  unfold bytesR
  rw [if_pos (Or.inr (Or.inr rfl))]
  rfl
 rw [e] at hn
 simp [hn]
theorem textA_put {s x : ByteArray} {most : Int} {p : Nat} {r : List Int} (h : (bytesOf s).drop p = textL x ++ r) (hm : (x.size : Int) ≤ most) (hx : x.size < 18446744073709551616) : textA s most p = some (x, p + (textL x).length) := by
 unfold textL at *
 rw [List.append_assoc] at h
 have h1 := drop_len h (putL_pos _)
 unfold textA
 rw [numA_put h hm hx, Option.bind_some]
 dsimp only
 rw [Int.toNat_natCast, bytesA_put h1.1 h1.2, List.length_append, bytesOf_length, Nat.add_assoc]
theorem textL_pos (x : ByteArray) : 0 < (textL x).length := by
 unfold textL
 rw [List.length_append]
 have := putL_pos x.size
 omega
theorem symA_put {s : ByteArray} {y : S68} {p : Nat} {r : List Int} (h : (bytesOf s).drop p = symL y ++ r) (hn : named y.f0) (h0 : 0 ≤ y.f2) (h1 : y.f2 < 65536) (hk : y.f1 = 1 ∨ y.f1 = 2 ∨ y.f1 = 3) : symA s p = some (y, p + (symL y).length) := by
 obtain ⟨y0, y1, y2⟩ := y
 dsimp only at *
 unfold symL at *
 dsimp only at *
 rw [List.append_assoc, List.append_assoc] at h
 have a1 := drop_len h (textL_pos _)
 have a2 := drop_len a1.2 (by simp)
 simp only [List.length_singleton] at *
 have hkk : y1 % 256 = y1 := by omega
 unfold symA
 rw [textA_put h (by have := hn.2; omega) (by have := hn.2; omega), Option.bind_some]
 dsimp only
 have a3 := a1.2
 rw [List.singleton_append] at a3
 rw [oneA_put a3, Option.bind_some]
 dsimp only
 rw [numA_put a2.2 (by omega) (by omega), Option.bind_some, hkk, Int.toNat_of_nonneg h0]
 simp [Nat.add_assoc]
 omega
theorem relA_put {s : ByteArray} {y : S116} {p : Nat} {r : List Int} (h : (bytesOf s).drop p = relL y ++ r) (hn : named y.f2) (h0 : 0 ≤ y.f0) (h1 : y.f0 < 65536) (hk : y.f1 = 1 ∨ y.f1 = 2) (h2 : -9223372036854775808 ≤ y.f3) (h3 : y.f3 < 9223372036854775808) : relA s p = some (y, p + (relL y).length) := by
 obtain ⟨y0, y1, y2, y3⟩ := y
 dsimp only at *
 unfold relL at *
 dsimp only at *
 rw [List.append_assoc, List.append_assoc, List.append_assoc] at h
 have a1 := drop_len h (putL_pos _)
 have a2 := drop_len a1.2 (by simp)
 have a3 := drop_len a2.2 (textL_pos _)
 simp only [List.length_singleton] at *
 have hkk : y1 % 256 = y1 := by omega
 unfold relA
 rw [numA_put h (by omega) (by omega), Option.bind_some]
 dsimp only
 have a4 := a1.2
 rw [List.singleton_append] at a4
 rw [oneA_put a4, Option.bind_some]
 dsimp only
 rw [textA_put a2.2 (by have := hn.2; omega) (by have := hn.2; omega), Option.bind_some]
 dsimp only
 rw [wideA_put a3.2 h2 h3, Option.bind_some, hkk, Int.toNat_of_nonneg h0]
 simp [Nat.add_assoc, leL_len]
 omega
theorem manyA_put {α : Type} {s : ByteArray} {q : Nat → Option (α × Nat)} {enc : α → List Int} {ok : α → Prop} (hq : ∀ x p r, ok x → p ≤ s.size → (bytesOf s).drop p = enc x ++ r → q p = some (x, p + (enc x).length)) : ∀ (l : List α) (p : Nat) (r : List Int), (∀ x ∈ l, ok x) → p ≤ s.size → (bytesOf s).drop p = l.flatMap enc ++ r → manyA q l.length p = some (l, p + (l.flatMap enc).length) := by
 intro l
 induction l with
 | nil => intro p r _ _ _; simp [manyA]
 | cons x l ih =>
  intro p r hok hp h
  rw [List.flatMap_cons, List.append_assoc] at h
  have h1 := drop_len' hp h
  rw [List.length_cons, manyA, hq x p _ (hok x (by simp)) hp h, Option.bind_some]
  dsimp only
  rw [ih _ r (fun y hy => hok y (by simp [hy])) h1.1 h1.2]
  simp [Nat.add_assoc]
theorem listA_put {α : Type} {s : ByteArray} {q : Nat → Option (α × Nat)} {enc : α → List Int} {ok : α → Prop} (hq : ∀ x p r, ok x → p ≤ s.size → (bytesOf s).drop p = enc x ++ r → q p = some (x, p + (enc x).length)) {most : Int} {p : Nat} {l : List α} {r : List Int} (h : (bytesOf s).drop p = putL l.length ++ (l.flatMap enc ++ r)) (hl : (l.length : Int) ≤ most) (hm : most < 18446744073709551616) (hok : ∀ x ∈ l, ok x) :
 listA s most q p = some (l, p + (putL l.length).length + (l.flatMap enc).length) := by
 have h1 := drop_len h (putL_pos _)
 unfold listA
 rw [numA_put h hl (by omega), Option.bind_some]
 dsimp only
 rw [Int.toNat_natCast, manyA_put hq l _ r hok h1.1 h1.2]
theorem parse_form {s code : ByteArray} {data : List Int} {syms : List S68} {rels : List S116} {rest : List Int} (h : bytesOf s = form COT1 code data syms rels ++ rest) (hm : may code data syms rels = true) (hw : wordsOk data) :
 frontA s COT1s 0 = some (code, data, syms, (front COT1 code data syms).length) ∧ listA s 8000 (relA s) (front COT1 code data syms).length = some (rels, (form COT1 code data syms rels).length) := by
 obtain ⟨m1, m2, m3, m4, m5, m6⟩ := may_parts hm
 have h0 : (bytesOf s).drop 0 = bytesOf COT1s ++ (textL code ++ (putL data.length ++ (dataL data ++ (putL syms.length ++ (symsL syms ++ (putL rels.length ++ (relsL rels ++ rest))))))) := by
  rw [List.drop_zero, h]
  unfold form front front1 front0
  rw [show bytesOf COT1s = COT1 from bytesOf_str cot_bs]
  simp only [List.append_assoc]
 have a0 := drop_len' (Nat.zero_le _) h0
 have b0 := bytesA_put (Nat.zero_le _) h0
 rw [bytesOf_length] at a0
 rw [show COT1s.size = 4 from rfl] at a0 b0
 have a1 := drop_len' a0.1 a0.2
 have b1 := textA_put (most := 65536) a0.2 (by omega) (by omega)
 have a2 := drop_len' a1.1 a1.2
 have b2 := listA_put (q := wideA s) (enc := fun n => leL n 8) (ok := fun n => -9223372036854775808 ≤ n ∧ n < 9223372036854775808) (fun x p r hx hp h => by rw [leL_len]; exact wideA_put h hx.1 hx.2) (most := 4096) a1.2 (by omega) (by omega) hw
 have a3 := drop_len' a2.1 a2.2
 have a4 := drop_len' a3.1 a3.2
 have b4 := listA_put (q := symA s) (enc := symL) (ok := fun y => named y.f0 ∧ 0 ≤ y.f2 ∧ y.f2 < 65536 ∧ (y.f1 = 1 ∨ y.f1 = 2 ∨ y.f1 = 3)) (fun x p r hx hp h => symA_put h hx.1 hx.2.1 hx.2.2.1 hx.2.2.2) (most := 1000) a3.2 (by omega) (by omega) m5
 have a5 := drop_len' a4.1 a4.2
 have b5 := listA_put (q := relA s) (enc := relL) (ok := fun y => named y.f2 ∧ 0 ≤ y.f0 ∧ y.f0 < 65536 ∧ (y.f1 = 1 ∨ y.f1 = 2) ∧ -9223372036854775808 ≤ y.f3 ∧ y.f3 < 9223372036854775808) (fun x p r hx hp h => relA_put h hx.1 hx.2.1 hx.2.2.1 hx.2.2.2.1 hx.2.2.2.2.1 hx.2.2.2.2.2) (most := 8000) a5.2 (by omega) (by omega) m6
 have e1 : (front COT1 code data syms).length = 0 + 4 + (textL code).length + (putL data.length).length + (dataL data).length + (putL syms.length).length + (symsL syms).length := by
  unfold front front1 front0
  simp only [List.length_append, show COT1.length = 4 from rfl]
  try omega
 have e2 : (form COT1 code data syms rels).length = (front COT1 code data syms).length + (putL rels.length).length + (relsL rels).length := by
  unfold form
  simp only [List.length_append]
 refine ⟨?_, ?_⟩
 ·unfold frontA
  rw [b0, Option.bind_some]
  dsimp only
  rw [if_pos rfl, b1, Option.bind_some]
  dsimp only
  rw [b2, Option.bind_some]
  dsimp only
  rw [show (data.flatMap fun n => leL n 8) = dataL data from rfl, b4, e1]
  rfl
 ·rw [e2, e1]
  exact b5
/-- A form, with anything behind it. -/
theorem read_form {s code : ByteArray} {data : List Int} {syms : List S68} {rels : List S116} {rest : List Int} (h : bytesOf s = form COT1 code data syms rels ++ rest) (hm : may code data syms rels = true) (hw : wordsOk data) :
 readA s = if rest = [] then some (code, data, syms, rels) else none := by
 obtain ⟨h1, h2⟩ := parse_form h hm hw
 have hl := congrArg List.length h
 rw [bytesOf_length, List.length_append] at hl
 unfold readA
 rw [h1, Option.bind_some]
 dsimp only
 rw [h2, Option.bind_some]
 dsimp only
 by_cases hr : rest = []
 ·subst hr
  rw [if_pos ⟨by simpa using hl.symm, hm⟩, if_pos rfl]
 ·have : 0 < rest.length := List.length_pos_iff.mpr hr
  rw [if_neg (by omega), if_neg hr]
theorem numA_back {s : ByteArray} {most : Int} {p : Nat} {n : Int} {q : Nat} (h : numA s most p = some (n, q)) (hp : p ≤ s.size) : q ≤ s.size ∧ 0 ≤ n ∧ n ≤ most ∧ (bytesOf s).drop p = putL n.toNat ++ (bytesOf s).drop q := by
 have := numA_ok h hp
 exact ⟨this.2.1, this.2.2.1, this.2.2.2.1, this.2.2.2.2.2.1⟩
theorem bytesA_back {s x : ByteArray} {n p q : Nat} (h : bytesA s n p = some (x, q)) : q ≤ s.size ∧ x.size = n ∧ (bytesOf s).drop p = bytesOf x ++ (bytesOf s).drop q := by
 obtain ⟨rfl, h2, rfl, h4⟩ := bytesA_ok h
 refine ⟨h2, h4, ?_⟩
 rw [bytesOf_extract, ← List.drop_drop, List.take_append_drop]
theorem oneA_back {s : ByteArray} {p : Nat} {n : Int} {q : Nat} (h : oneA s p = some (n, q)) : q ≤ s.size ∧ (bytesOf s).drop p = [n % 256] ++ (bytesOf s).drop q := by
 obtain ⟨rfl, h2, h3, h4, h5⟩ := oneA_ok h
 refine ⟨h2, ?_⟩
 rw [bt_drop s p (by omega), h3, show bt s p % 256 = bt s p by rw [← h3]; omega]
 rfl
theorem leL_wrap (u : Int) : leL (wrap64 u) 8 = leL u 8 := by
 have e : wrap64 u % 18446744073709551616 = u % 18446744073709551616 := by unfold wrap64; omega
 have h1 := leL_mod' (wrap64 u) 8 (by omega)
 have h2 := leL_mod' u 8 (by omega)
 rw [← h1, ← h2, e]
theorem wideA_back {s : ByteArray} {p : Nat} {n : Int} {q : Nat} (h : wideA s p = some (n, q)) : q ≤ s.size ∧ -9223372036854775808 ≤ n ∧ n < 9223372036854775808 ∧ (bytesOf s).drop p = leL n 8 ++ (bytesOf s).drop q := by
 obtain ⟨rfl, h2, h3, h4⟩ := wideA_ok h
 have hb := bytesA_back (s := s) (x := s.extract p (p + 8)) (n := 8) (p := p) (q := p + 8) (by unfold bytesA; rw [if_pos h2])
 have e : (numR (s.extract p (p + 8))).1 = wrap64 (unleL (bytesOf (s.extract p (p + 8)))) := by
  unfold numR
  rw [if_neg (by omega), if_neg (by omega), if_pos h4]
 rw [e] at h3
 subst h3
 have hl := leL_unleL _ (bytesOf_Bs (s.extract p (p + 8)))
 rw [bytesOf_length, h4] at hl
 have hr := wrap64_range (unleL (bytesOf (s.extract p (p + 8))))
 exact ⟨h2, hr.1, hr.2, by rw [leL_wrap, hl]; exact hb.2.2⟩
theorem textA_back {s x : ByteArray} {most : Int} {p q : Nat} (h : textA s most p = some (x, q)) (hp : p ≤ s.size) : q ≤ s.size ∧ (bytesOf s).drop p = textL x ++ (bytesOf s).drop q := by
 unfold textA at h
 obtain ⟨⟨n, r⟩, h1, h2⟩ := Option.bind_eq_some_iff.1 h
 have a := numA_back h1 hp
 have b := bytesA_back h2
 refine ⟨b.1, ?_⟩
 rw [a.2.2.2, b.2.2, ← b.2.1]
 unfold textL
 rw [List.append_assoc]
theorem symA_back {s : ByteArray} {p q : Nat} {y : S68} (h : symA s p = some (y, q)) (hp : p ≤ s.size) : q ≤ s.size ∧ (bytesOf s).drop p = symL y ++ (bytesOf s).drop q := by
 unfold symA at h
 obtain ⟨⟨x1, q1⟩, h1, h⟩ := Option.bind_eq_some_iff.1 h
 obtain ⟨⟨x2, q2⟩, h2, h⟩ := Option.bind_eq_some_iff.1 h
 obtain ⟨⟨x3, q3⟩, h3, h⟩ := Option.bind_eq_some_iff.1 h
 obtain ⟨rfl, rfl⟩ := Prod.mk.inj (Option.some.inj h)
 have a1 := textA_back h1 hp
 have a2 := oneA_back h2
 have a3 := numA_back h3 a2.1
 refine ⟨a3.1, ?_⟩
 rw [a1.2, a2.2, a3.2.2.2]
 simp only [symL, List.append_assoc]
theorem relA_back {s : ByteArray} {p q : Nat} {y : S116} (h : relA s p = some (y, q)) (hp : p ≤ s.size) : q ≤ s.size ∧ (bytesOf s).drop p = relL y ++ (bytesOf s).drop q := by
 unfold relA at h
 obtain ⟨⟨x1, q1⟩, h1, h⟩ := Option.bind_eq_some_iff.1 h
 obtain ⟨⟨x2, q2⟩, h2, h⟩ := Option.bind_eq_some_iff.1 h
 obtain ⟨⟨x3, q3⟩, h3, h⟩ := Option.bind_eq_some_iff.1 h
 obtain ⟨⟨x4, q4⟩, h4, h⟩ := Option.bind_eq_some_iff.1 h
 obtain ⟨rfl, rfl⟩ := Prod.mk.inj (Option.some.inj h)
 have a1 := numA_back h1 hp
 have a2 := oneA_back h2
 have a3 := textA_back h3 a2.1
 have a4 := wideA_back h4
 refine ⟨a4.1, ?_⟩
 rw [a1.2.2.2, a2.2, a3.2, a4.2.2.2]
 simp only [relL, List.append_assoc]
theorem manyA_back {α : Type} {s : ByteArray} {q : Nat → Option (α × Nat)} {enc : α → List Int} {ok : α → Prop} (hq : ∀ x p r, p ≤ s.size → q p = some (x, r) → r ≤ s.size ∧ (bytesOf s).drop p = enc x ++ (bytesOf s).drop r ∧ ok x) : ∀ (n : Nat) (l : List α) (p r : Nat), p ≤ s.size → manyA q n p = some (l, r) → l.length = n ∧ r ≤ s.size ∧ (bytesOf s).drop p = l.flatMap enc ++ (bytesOf s).drop r ∧ ∀ x ∈ l, ok x := by
 intro n
 induction n with
 | zero =>
  intro l p r hp h
  unfold manyA at h
  obtain ⟨rfl, rfl⟩ := Prod.mk.inj (Option.some.inj h)
  exact ⟨rfl, hp, rfl, fun x hx => by cases hx⟩
 | succ n ih =>
  intro l p r hp h
  rw [manyA] at h
  obtain ⟨⟨x, p1⟩, h1, h⟩ := Option.bind_eq_some_iff.1 h
  obtain ⟨⟨l1, p2⟩, h2, h⟩ := Option.map_eq_some_iff.1 h
  obtain ⟨rfl, rfl⟩ := Prod.mk.inj h
  have a := hq x p p1 hp h1
  have b := ih l1 p1 p2 a.1 h2
  refine ⟨by simp [b.1], b.2.1, ?_, ?_⟩
  ·rw [a.2.1, b.2.2.1, List.flatMap_cons, List.append_assoc]
  ·intro z hz
   rcases List.mem_cons.1 hz with rfl | hz
   ·exact a.2.2
   ·exact b.2.2.2 z hz
theorem listA_back {α : Type} {s : ByteArray} {q : Nat → Option (α × Nat)} {enc : α → List Int} {ok : α → Prop} (hq : ∀ x p r, p ≤ s.size → q p = some (x, r) → r ≤ s.size ∧ (bytesOf s).drop p = enc x ++ (bytesOf s).drop r ∧ ok x) {most : Int} {l : List α} {p r : Nat} (hp : p ≤ s.size) (h : listA s most q p = some (l, r)) : r ≤ s.size ∧ (bytesOf s).drop p = putL l.length ++ (l.flatMap enc ++ (bytesOf s).drop r) ∧ ∀ x ∈ l, ok x := by
 unfold listA at h
 obtain ⟨⟨n, p1⟩, h1, h2⟩ := Option.bind_eq_some_iff.1 h
 have a := numA_back h1 hp
 have b := manyA_back hq _ _ _ _ a.1 h2
 refine ⟨b.2.1, ?_, b.2.2.2⟩
 rw [a.2.2.2, b.2.2.1, b.1]
theorem read_back {s code : ByteArray} {data : List Int} {syms : List S68} {rels : List S116} (h : readA s = some (code, data, syms, rels)) : bytesOf s = form COT1 code data syms rels ∧ may code data syms rels = true ∧ wordsOk data := by
 unfold readA frontA at h
 obtain ⟨⟨c, d, y, p3⟩, h1, h⟩ := Option.bind_eq_some_iff.1 h
 obtain ⟨⟨r, p4⟩, h2, h⟩ := Option.bind_eq_some_iff.1 h
 obtain ⟨⟨mk, p0⟩, h0, h1⟩ := Option.bind_eq_some_iff.1 h1
 dsimp only at h h1 h2
 split at h
 case isFalse => cases h
 next hc =>
 simp only [Option.some.injEq, Prod.mk.injEq] at h
 obtain ⟨rfl, rfl, rfl, rfl⟩ := h
 split at h1
 case isFalse => cases h1
 next hmk =>
 obtain ⟨⟨c1, p1⟩, e1, h1⟩ := Option.bind_eq_some_iff.1 h1
 obtain ⟨⟨d1, p2⟩, e2, h1⟩ := Option.bind_eq_some_iff.1 h1
 obtain ⟨⟨y1, p3'⟩, e3, h1⟩ := Option.bind_eq_some_iff.1 h1
 simp only [Option.some.injEq, Prod.mk.injEq] at h1
 obtain ⟨rfl, rfl, rfl, rfl⟩ := h1
 subst hmk
 have a0 := bytesA_back h0
 have a1 := textA_back e1 a0.1
 have a2 := listA_back (enc := fun n => leL n 8) (ok := fun n => -9223372036854775808 ≤ n ∧ n < 9223372036854775808) (fun x p r hp h => ⟨(wideA_back h).1, (wideA_back h).2.2.2, (wideA_back h).2.1, (wideA_back h).2.2.1⟩) a1.1 e2
 have a3 := listA_back (enc := symL) (ok := fun _ => True) (fun x p r hp h => ⟨(symA_back h hp).1, (symA_back h hp).2, trivial⟩) a2.1 e3
 have a4 := listA_back (enc := relL) (ok := fun _ => True) (fun x p r hp h => ⟨(relA_back h hp).1, (relA_back h hp).2, trivial⟩) a3.1 h2
 refine ⟨?_, hc.2, a2.2.2⟩
 have hd : (bytesOf s).drop p4 = [] := List.drop_eq_nil_of_le (by rw [bytesOf_length, hc.1]; exact Nat.le_refl _)
 have e0 := a0.2.2
 rw [List.drop_zero] at e0
 rw [e0, a1.2, a2.2.1, a3.2.1, a4.2.1, hd, show bytesOf COT1s = COT1 from bytesOf_str cot_bs]
 unfold form front front1 front0 dataL symsL relsL
 simp only [List.append_assoc, List.append_nil]
end Go.Proofs.YtimhcpmfhebbhaaDoor.M
