/-
  Texts of the proofs of ImageReads, cut to what the proofs reach and packed by a program of this session (wip/packs.py). Each part begins with what it says; conditions: those told there.
-/
import Derived.Test.YtimhcpmfhebbhaaDoorPRA5
namespace Go.Proofs.YtimhcpmfhebbhaaDoor.M
open Go.RowKit Go.Proofs.YtimhcpmfhebbhaaDoorW.PrintWords Go.Proofs.YtimhcpmfhebbhaaDoorW.PrintLast
set_option linter.unusedVariables false
set_option linter.unusedSimpArgs false
def word_put.l0 : Nat → List Int → Int → Option (List Int)
 | 0, _, _ => none
 | k + 1, x0, x1 => if x1 ≥ 128 then (if x0.length < 140737488355328 then (word_put.l0 k (x0 ++ [Go.bits .or .u8 ((x1) % 256) 128]) (x1 / 128)) else (none)) else (if x0.length < 140737488355328 then (some (x0 ++ [(x1) % 256])) else (none))
def word_put.f (k : Nat) (l0 : List Int) (a1 : Int) : Option (List Int) := word_put.l0 k l0 a1
set_option maxHeartbeats 8000000 in
set_option maxRecDepth 100000 in
theorem word_put.calls (k : Nat) (P0_ : Nat → Prop) (u9000_ : Value) (l0 : List Int) (a1 : Int) (r : List Int) (w0 w : World) (hB : Below w0.heap.size w0 w) (ho0 : Kd.R (Kd.int .u8) 5 w w0.heap.size P0_ u9000_ l0) (h : word_put.f k l0 a1 = some r) :
 Calls Tryd.prog 43 #[u9000_, .int .u64 a1] w fun e w' => ∃ v0_ : Value, e = .returned (v0_) ∧ Kd.R (Kd.int .u8) 5 w' w0.heap.size (fun k_ => (P0_ k_ ∨ w.heap.size ≤ k_)) v0_ r ∧ Below w0.heap.size w0 w' ∧ Kept w w' (fun k_ => P0_ k_) := by
 have HO0 := z4 (show Kd.R (Kd.int .u8) 5 w w0.heap.size (fun k_ => (P0_ k_ ∨ w.heap.size ≤ k_)) u9000_ l0 from Kd.R_mono ho0 (fun k_ hk => (.inl hk)))
 have HK := z4 (Kept.refl w (fun k_ => P0_ k_))
 have HW0 := z4 hB.size
 have HB := z4 hB
 clear hB
 have H : (word_put.l0 k l0 a1) = some r := h
 clear h
 have H' := z4 H
 clear H
 go_enter Tryd.func43, Tryd.ntmps43
 go_wp2
 go_loopg [0, 1] k (fun kq v0 v1 w' => ∃ (x0_1 : List Int) (x1_1 : Int), v1 = .int .u64 x1_1 ∧ Aside0 (word_put.l0 kq x0_1 x1_1 = some r) ∧ Aside0 (kq ≤ k) ∧ Aside0 (Kd.R (Kd.int .u8) 5 w' w0.heap.size (fun k_ => (P0_ k_ ∨ w.heap.size ≤ k_)) v0 x0_1) ∧ Aside0 (Kept w w' (fun k_ => P0_ k_)) ∧ Aside0 (Below w0.heap.size w0 w'))
 case atStart => exact ⟨(l0), (a1), (by first | rfl | (simp; done) | (simp [*]; done)), H', ⟨Nat.le_refl _⟩, ⟨by (with_reducible repeat (first | apply zM | apply zN | apply zO)); exact HO0.out⟩, ⟨by repeat (first | exact HK.out | apply Kept.alloc | apply Kept.drewN | apply Kept.drew)⟩, ⟨by repeat (first | exact HB.out | apply zA | apply zB | apply zD)⟩⟩
 case round =>
  clear H'
  try clear p2
  obtain ⟨x0_1, x1_1, rfl, HA, HK1, HO_0, HK, HB⟩ := hrel
  cases gk with
  | zero => exact absurd HA.out (by simp [word_put.l0])
  | succ k1 =>
   have H := HA.out
   clear HA
   simp only [word_put.l0] at H
   by_cases c3 : x1_1 ≥ 128
   ·rw [if_pos c3] at H
    have c3b0 : decide (128 ≤ x1_1) = true := decide_eq_true c3
    clear c3
    by_cases c4 : x0_1.length < 140737488355328
    ·rw [if_pos c4] at H
     have LMc4 := z4 c4
     clear c4
     obtain ⟨y252, hy252⟩ : ∃ y_ : List Int, y_ = (x0_1 ++ [Go.bits .or .u8 ((x1_1) % 256) 128]) := ⟨_, rfl⟩
     replace H : (word_put.l0 k1 y252 (x1_1 / 128)) = some r := by first | (rw [hy252]; with_reducible exact H) | (have H2_ := (Option.bind_some _ _).symm.trans H; rw [hy252]; with_reducible exact H2_) | (have H2_ := (Option.bind_some _ _).symm.trans H; with_reducible exact H2_) | with_reducible exact H | (rw [hy252]; exact H) | exact H
     have Ny252 := z4 hy252
     clear hy252
     have H' := z4 H
     clear H
     go_wp2_with (first | ((with_reducible refine gate_builtin (b := .append) (xs := #[.tmp 9, .tmp 13]) rfl ?_); at_builtin; refine Kd.R_append (Kd.int .u8) (w0 := w0) w0.heap.size rfl (.tmp 9) (.tmp 13) 60 5 (.int .u8 0) 1 rfl Tryd.underlying60 info5 rfl (by decide) (by omega) u0 x0_1 (Go.bits .or .u8 ((x1_1) % 256) 128) [.int .u8 (Go.bits .or .u8 ((x1_1) % 256) 128)] (fun k_ => (P0_ k_ ∨ w.heap.size ≤ k_)) (fun _ => False) rfl rfl ?aP (fun _ hk => hk.elim) ?aF ?aO ?aB ?aS ?aL ?_; (case aP => exact rfl); (case aB => exact (by repeat (first | exact HB.out | apply zA | apply zB | apply zD))); (case aF => exact (fun k_ hk => (.inr (Nat.le_trans (by first | exact HK.out.1 | exact (show Kept w _ (fun k_ => P0_ k_) from by repeat (first | exact HK.out | apply Kept.alloc | apply Kept.drewN | apply Kept.drew)).1) hk)))); (case aO => exact (by (with_reducible repeat (first | apply zM | apply zN | apply zO)); exact HO_0.out)); (case aS => exact (zL (by repeat (first | exact HB.out | apply zA | apply zB | apply zD)))); (case aL => have := LMc4.out; omega); intro v253 w5 ho hb hg hat; rw [← Ny252.out] at ho; have n0_ := z4 (hb); have n1_ := z4 (Kept.of_grown (S := (fun k_ => P0_ k_)) hg (by repeat (first | exact HK.out | apply Kept.alloc | apply Kept.drewN | apply Kept.drew)) (fun k_ e_ => (HO_0.out.1 k_ e_))); have n2_ := z4 (ho); clear HB; clear HK; clear HO_0; have HB := n0_; have HK := n1_; have HO254 := n2_; clear n0_ n1_ n2_; clear ho hb hg hat))
     go_roundg k1
     case measure => have := HK1.out; omega
     case rel => exact ⟨(y252), (x1_1 / 128), (by first | rfl | (simp; done) | (simp [*]; done)), H', ⟨by have := HK1.out; omega⟩, ⟨by (with_reducible repeat (first | apply zM | apply zN | apply zO)); exact HO254.out⟩, ⟨by repeat (first | exact HK.out | apply Kept.alloc | apply Kept.drewN | apply Kept.drew)⟩, ⟨by repeat (first | exact HB.out | apply zA | apply zB | apply zD)⟩⟩
    ·rw [if_neg c4] at H
     exact absurd H (by simp)
   ·rw [if_neg c3] at H
    have c3b0 : decide (128 ≤ x1_1) = false := decide_eq_false c3
    clear c3
    by_cases c6 : x0_1.length < 140737488355328
    ·rw [if_pos c6] at H
     have LMc6 := z4 c6
     clear c6
     obtain ⟨y255, hy255⟩ : ∃ y_ : List Int, y_ = (x0_1 ++ [(x1_1) % 256]) := ⟨_, rfl⟩
     replace H : (some y255) = some r := by first | (rw [hy255]; with_reducible exact H) | (have H2_ := (Option.bind_some _ _).symm.trans H; rw [hy255]; with_reducible exact H2_) | (have H2_ := (Option.bind_some _ _).symm.trans H; with_reducible exact H2_) | with_reducible exact H | (rw [hy255]; exact H) | exact H
     have Ny255 := z4 hy255
     clear hy255
     obtain rfl := Option.some.inj H
     go_wp2_with (first | ((with_reducible refine gate_builtin (b := .append) (xs := #[.tmp 15, .tmp 18]) rfl ?_); at_builtin; refine Kd.R_append (Kd.int .u8) (w0 := w0) w0.heap.size rfl (.tmp 15) (.tmp 18) 60 5 (.int .u8 0) 1 rfl Tryd.underlying60 info5 rfl (by decide) (by omega) u0 x0_1 ((x1_1) % 256) [.int .u8 ((x1_1) % 256)] (fun k_ => (P0_ k_ ∨ w.heap.size ≤ k_)) (fun _ => False) rfl rfl ?aP (fun _ hk => hk.elim) ?aF ?aO ?aB ?aS ?aL ?_; (case aP => exact rfl); (case aB => exact (by repeat (first | exact HB.out | apply zA | apply zB | apply zD))); (case aF => exact (fun k_ hk => (.inr (Nat.le_trans (by first | exact HK.out.1 | exact (show Kept w _ (fun k_ => P0_ k_) from by repeat (first | exact HK.out | apply Kept.alloc | apply Kept.drewN | apply Kept.drew)).1) hk)))); (case aO => exact (by (with_reducible repeat (first | apply zM | apply zN | apply zO)); exact HO_0.out)); (case aS => exact (zL (by repeat (first | exact HB.out | apply zA | apply zB | apply zD)))); (case aL => have := LMc6.out; omega); intro v256 w7 ho hb hg hat; rw [← Ny255.out] at ho; have n0_ := z4 (hb); have n1_ := z4 (Kept.of_grown (S := (fun k_ => P0_ k_)) hg (by repeat (first | exact HK.out | apply Kept.alloc | apply Kept.drewN | apply Kept.drew)) (fun k_ e_ => (HO_0.out.1 k_ e_))); have n2_ := z4 (ho); clear HB; clear HK; clear HO_0; have HB := n0_; have HK := n1_; have HO257 := n2_; clear n0_ n1_ n2_; clear ho hb hg hat))
     go_ret
     exact ⟨_, by first | rfl | (simp [errW_none, errW_some] <;> rfl) | (simp [*, errW_none, errW_some] <;> rfl), by (with_reducible repeat (first | apply zM | apply zN | apply zO)); exact HO257.out, by repeat (first | exact HB.out | apply zA | apply zB | apply zD), by repeat (first | exact HK.out | apply Kept.alloc | apply Kept.drewN | apply Kept.drew)⟩
    ·rw [if_neg c6] at H
     exact absurd H (by simp)
def word_Put.f (k : Nat) (a0 : Int) : Option (ByteArray) := (word_put.f k ([] : List Int) a0).bind fun t258 => (some (strOfNums t258))
set_option maxHeartbeats 8000000 in
set_option maxRecDepth 100000 in
theorem word_Put.calls (k : Nat) (a0 : Int) (r : ByteArray) (w : World) (h : word_Put.f k a0 = some r) :
 Calls Tryd.prog 23 #[.int .u64 a0] w fun e w' => e = .returned (.string r) ∧ Below w.heap.size w w' := by
 have HB := z4 (Below.refl w.heap.size w)
 have H : ((word_put.f k ([] : List Int) a0).bind fun t258 => (some (strOfNums t258))) = some r := h
 clear h
 replace H := z8 H
 obtain ⟨t258, A20, H⟩ := H
 replace H : (some (strOfNums t258)) = some r := H
 have A2 := z4 A20
 clear A20
 obtain rfl := Option.some.inj H
 go_enter Tryd.func23, Tryd.ntmps23
 go_wp2_with (first | ((with_reducible refine gate_callee (f := 43) rfl ?_); refine goesL_ (some 4) rfl rfl Tryd.func43 (by kernel_rfl) rfl #[.slice none 0 0, .int .u64 a0] rfl (by (try simp only [z9, List.map_cons, List.map_nil]); first | done | rfl | (simp only [z9a, z9b]; rfl)) ?_; (refine (word_put.calls k (fun k_ => some k_ = (.slice none 0 0 : Value).ownBlock) (.slice none 0 0) ([] : List Int) a0 t258 w _ ?side1 ?side2 A2.out).mono ?_); (case side1 => repeat (first | exact HB.out | apply zA | apply zB | apply zD)); (case side2 => exact Kd.R_nil _ _ _ _ _); rintro e w3 ⟨v259, rfl, ho0, hb, hkp⟩; refine ⟨_, rfl, ?_⟩; have n0_ := z4 (Kd.R_mono (ok' := fun k_ => True) ho0 (fun k_ hk_ => trivial)); have n1_ := z4 (hb); clear HB; have HO260 := n0_; have HB := n1_; clear n0_ n1_; (try clear hb); (try clear hkp); (try clear ho0); have hcv4 := own_string (P := Tryd.prog) Tryd.underlying60 Tryd.underlying5 Tryd.underlying9 (Kd.own_of_R HO260.out)))
 go_ret
 exact ⟨by first | rfl | (simp [errW_none, errW_some] <;> rfl) | (simp [*, errW_none, errW_some] <;> rfl), by repeat (first | exact HB.out | apply zA | apply zB | apply zD)⟩
mutual
def word_Bytes.j0 : Nat → Int → Int → Option (ByteArray × Int)
 | 0, _, _ => none
 | k + 1, x0, x1 => if 0 ≤ x1 then (if (x1 : Int).toNat ≤ 281474976710656 then ((some (List.replicate (x1 : Int).toNat 0 : List Int)).bind fun y261 => (word_Bytes.l0 k x0 y261 (y261.length : Int) 0)) else (none)) else (none)
def word_Bytes.l0 : Nat → Int → List Int → Int → Int → Option (ByteArray × Int)
 | 0, _, _, _, _ => none
 | k + 1, x0, x6, x28, x29 => if x29 < x28 then (if 0 ≤ (wrap64 (8 * x29)) then (if 0 ≤ x29 then (if x29 < (x6.length : Int) then (word_Bytes.l0 k x0 (x6.set (x29 : Int).toNat ((shr .i64 x0 (wrap64 (8 * x29))) % 256)) x28 (wrap64 (x29 + 1))) else (none)) else (none)) else (none)) else (some (strOfNums x6, 0))
end
def word_Bytes.f (k : Nat) (a0 : Int) (a1 : Int) : Option (ByteArray × Int) := if a1 = 1 then (if a0 = (wrap64 (IntKind.i8.wrap (a0))) then (word_Bytes.j0 k a0 a1) else (some ((⟨#[]⟩ : ByteArray), 7))) else (if a1 = 4 then (if a0 = (wrap64 (wrap32 (a0))) then (word_Bytes.j0 k a0 a1) else (some ((⟨#[]⟩ : ByteArray), 7))) else (if a1 = 8 then (word_Bytes.j0 k a0 a1) else (some ((⟨#[]⟩ : ByteArray), 1))))
set_option maxHeartbeats 8000000 in
set_option maxRecDepth 100000 in
theorem word_Bytes.calls (k : Nat) (a0 : Int) (a1 : Int) (r1 : ByteArray) (r2 : Int) (w : World) (h : word_Bytes.f k a0 a1 = some (r1, r2)) :
 Calls Tryd.prog 26 #[.int .i64 a0, .int .i64 a1] w fun e w' => e = .returned (.tuple #[.string r1, .int .i64 r2]) ∧ Below w.heap.size w w' := by
 have HB := z4 (Below.refl w.heap.size w)
 have H : (if a1 = 1 then (if a0 = (wrap64 (IntKind.i8.wrap (a0))) then (word_Bytes.j0 k a0 a1) else (some ((⟨#[]⟩ : ByteArray), 7))) else (if a1 = 4 then (if a0 = (wrap64 (wrap32 (a0))) then (word_Bytes.j0 k a0 a1) else (some ((⟨#[]⟩ : ByteArray), 7))) else (if a1 = 8 then (word_Bytes.j0 k a0 a1) else (some ((⟨#[]⟩ : ByteArray), 1))))) = some (r1, r2) := h
 clear h
 have HC3 := z4 H
 clear H
 go_enter Tryd.func26, Tryd.ntmps26
 go_upto_block 0 with (fail)
 go_cut [] (fun wc => ∃ (kq : Nat), Aside0 (word_Bytes.j0 kq a0 a1 = some (r1, r2)) ∧ Aside0 (kq ≤ k) ∧ Aside0 (Below w.heap.size w wc))
 case first =>
  have H := HC3.out
  clear HC3
  by_cases c4 : a1 = 1
  ·rw [if_pos c4] at H
   have c4b0 : (a1 == 1) = true := z5 c4
   have c4b1 : (a1 != 1) = false := z6 c4
   clear c4
   (first | rw [c4b0] | (simp only [i64_w, i32_w]; rw [c4b0]) | skip)
   by_cases c5 : a0 = (wrap64 (IntKind.i8.wrap (a0)))
   ·rw [if_pos c5] at H
    have c5b0 : (a0 == (wrap64 (IntKind.i8.wrap (a0)))) = true := z5 c5
    have c5b1 : (a0 != (wrap64 (IntKind.i8.wrap (a0)))) = false := z6 c5
    clear c5
    have H' := z4 H
    clear H
    go_wp2
    go_meet
    case rel => exact ⟨_, H', ⟨by first | omega | exact Nat.le_refl _⟩, ⟨by repeat (first | exact HB.out | apply zA | apply zB | apply zD)⟩⟩
   ·rw [if_neg c5] at H
    have c5b0 : (a0 == (wrap64 (IntKind.i8.wrap (a0)))) = false := z7 c5
    have c5b1 : (a0 != (wrap64 (IntKind.i8.wrap (a0)))) = true := bne_iff_ne.mpr c5
    simp only [Option.some.injEq, Prod.mk.injEq] at H
    obtain ⟨rfl, rfl⟩ := H
    go_wp2
    go_ret2
    exact ⟨by first | rfl | (simp [errW_none, errW_some] <;> rfl) | (simp [*, errW_none, errW_some] <;> rfl), by repeat (first | exact HB.out | apply zA | apply zB | apply zD)⟩
  ·rw [if_neg c4] at H
   have c4b0 : (a1 == 1) = false := z7 c4
   have c4b1 : (a1 != 1) = true := bne_iff_ne.mpr c4
   (first | rw [c4b0] | (simp only [i64_w, i32_w]; rw [c4b0]) | skip)
   by_cases c6 : a1 = 4
   ·rw [if_pos c6] at H
    have c6b0 : (a1 == 4) = true := z5 c6
    have c6b1 : (a1 != 4) = false := z6 c6
    clear c6
    by_cases c7 : a0 = (wrap64 (wrap32 (a0)))
    ·rw [if_pos c7] at H
     have c7b0 : (a0 == (wrap64 (wrap32 (a0)))) = true := z5 c7
     have c7b1 : (a0 != (wrap64 (wrap32 (a0)))) = false := z6 c7
     clear c7
     have H' := z4 H
     clear H
     go_wp2
     go_meet
     case rel => exact ⟨_, H', ⟨by first | omega | exact Nat.le_refl _⟩, ⟨by repeat (first | exact HB.out | apply zA | apply zB | apply zD)⟩⟩
    ·rw [if_neg c7] at H
     have c7b0 : (a0 == (wrap64 (wrap32 (a0)))) = false := z7 c7
     have c7b1 : (a0 != (wrap64 (wrap32 (a0)))) = true := bne_iff_ne.mpr c7
     simp only [Option.some.injEq, Prod.mk.injEq] at H
     obtain ⟨rfl, rfl⟩ := H
     go_wp2
     go_ret2
     exact ⟨by first | rfl | (simp [errW_none, errW_some] <;> rfl) | (simp [*, errW_none, errW_some] <;> rfl), by repeat (first | exact HB.out | apply zA | apply zB | apply zD)⟩
   ·rw [if_neg c6] at H
    have c6b0 : (a1 == 4) = false := z7 c6
    have c6b1 : (a1 != 4) = true := bne_iff_ne.mpr c6
    by_cases c8 : a1 = 8
    ·rw [if_pos c8] at H
     have c8b0 : (a1 == 8) = true := z5 c8
     have c8b1 : (a1 != 8) = false := z6 c8
     clear c8
     have H' := z4 H
     clear H
     go_wp2
     go_meet
     case rel => exact ⟨_, H', ⟨by first | omega | exact Nat.le_refl _⟩, ⟨by repeat (first | exact HB.out | apply zA | apply zB | apply zD)⟩⟩
    ·rw [if_neg c8] at H
     have c8b0 : (a1 == 8) = false := z7 c8
     have c8b1 : (a1 != 8) = true := bne_iff_ne.mpr c8
     simp only [Option.some.injEq, Prod.mk.injEq] at H
     obtain ⟨rfl, rfl⟩ := H
     go_wp2
     go_ret2
     exact ⟨by first | rfl | (simp [errW_none, errW_some] <;> rfl) | (simp [*, errW_none, errW_some] <;> rfl), by repeat (first | exact HB.out | apply zA | apply zB | apply zD)⟩
 case rest =>
  clear HC3
  try clear c2
  try clear p2
  try clear p3
  try clear c4
  try clear c4b0
  try clear c4b1
  try clear c5
  try clear c5b0
  try clear c5b1
  try clear c6
  try clear c6b0
  try clear c6b1
  try clear p6
  try clear c7
  try clear c7b0
  try clear c7b1
  try clear c8
  try clear c8b0
  try clear c8b1
  obtain ⟨kq, HA, HJ2, HB⟩ := hcut
  cases kq with
  | zero => exact absurd HA.out (by simp [word_Bytes.j0])
  | succ kj2 =>
   have H := HA.out
   clear HA
   simp only [word_Bytes.j0] at H
   by_cases c9 : 0 ≤ a1
   ·rw [if_pos c9] at H
    have c9b0 := eq_true c9
    have c9b1 : decide (0 ≤ a1) = true := decide_eq_true c9
    clear c9
    by_cases c10 : (a1 : Int).toNat ≤ 281474976710656
    ·rw [if_pos c10] at H
     have c10b0 := eq_true c10
     have c10b1 : decide ((a1 : Int).toNat ≤ 281474976710656) = true := decide_eq_true c10
     clear c10
     obtain ⟨y261, hy261⟩ : ∃ y_ : List Int, y_ = (List.replicate (a1 : Int).toNat 0) := ⟨_, rfl⟩
     replace H : (word_Bytes.l0 kj2 a0 y261 (y261.length : Int) 0) = some (r1, r2) := by first | (rw [hy261]; with_reducible exact H) | (have H2_ := (Option.bind_some _ _).symm.trans H; rw [hy261]; with_reducible exact H2_) | (have H2_ := (Option.bind_some _ _).symm.trans H; with_reducible exact H2_) | with_reducible exact H | (rw [hy261]; exact H) | exact H
     have Ny261 := z4 hy261
     clear hy261
     have H' := z4 H
     clear H
     go_wp2_with (first | ((with_reducible refine gate_dst (N := 26) rfl ?_); refine Kd.R_make (Kd.int .u8) _ 5 rfl (N := 26) rfl 60 _ _ rfl a1 rfl rfl Tryd.underlying60 (.int .u8 0) 1 info5 rfl (by decide) (by omega) 0 (ok := fun _ => True) (okp := fun _ => True) rfl (fun _ hk => hk) trivial (of_decide_eq_true (by first | (with_reducible assumption) | assumption)) (Nat.le_trans (Nat.mul_le_mul_right _ (of_decide_eq_true (by first | (with_reducible assumption) | assumption) : a1.toNat ≤ 281474976710656)) (by omega)) (Below.refl _ _) (Nat.le_refl _) ?_; intro v262 w11 ho12 hb hg_ hnew_; clear hg_ hnew_; (first | rw [← Ny261.out] at ho12 | (simp only [Int.reduceToNat] at ho12; rw [← Ny261.out] at ho12)); have n0_ := z4 (zU ho12 (zL (by repeat (first | exact HB.out | apply zA | apply zB | apply zD)))); have n1_ := z4 (zK (by repeat (first | exact HB.out | apply zA | apply zB | apply zD)) hb); clear HB; have HO263 := n0_; have HB := n1_; clear n0_ n1_; clear hb ho12; obtain ⟨Ao13, co13, eo13⟩ := Kd.R_slice HO263.out; subst eo13))
     go_loopg [29] kj2 (fun kq v29 w' => ∃ (x6_2 : List Int) (x29_2 : Int), v29 = .int .i64 x29_2 ∧ Aside0 (word_Bytes.l0 kq a0 x6_2 (y261.length : Int) x29_2 = some (r1, r2)) ∧ Aside0 (kq ≤ kj2) ∧ Aside0 (Kd.R (Kd.int .u8) 5 w' w.heap.size (fun _ => True) (.slice Ao13 y261.length co13) x6_2) ∧ Aside0 (Below w.heap.size w w'))
     case atStart => exact ⟨(y261), (0), (by first | rfl | (simp; done) | (simp [*]; done)), H', ⟨Nat.le_refl _⟩, ⟨by (with_reducible repeat (first | apply zM | apply zN | apply zO)); exact HO263.out⟩, ⟨by repeat (first | exact HB.out | apply zA | apply zB | apply zD)⟩⟩
     case round =>
      clear H'
      try clear c1
      try clear c2
      try clear p2
      try clear p3
      try clear c4
      try clear c4b0
      try clear c4b1
      try clear c5
      try clear c5b0
      try clear c5b1
      try clear c6
      try clear c6b0
      try clear c6b1
      try clear p6
      try clear c7
      try clear c7b0
      try clear c7b1
      try clear c8
      try clear c8b0
      try clear c8b1
      try clear c9
      try clear c9b0
      try clear c9b1
      try clear c10
      try clear c10b0
      try clear c10b1
      try clear p2
      try clear p3
      try clear p6
      obtain ⟨x6_2, x29_2, rfl, HA, HK2, HO_6, HB⟩ := hrel
      have hl6_2 := (zT HO_6.out).1
      rw [hl6_2] at HO_6
      (try simp only [hl6_2])
      cases gk with
      | zero => exact absurd HA.out (by simp [word_Bytes.l0])
      | succ k2 =>
       have H := HA.out
       clear HA
       simp only [word_Bytes.l0] at H
       by_cases c14 : x29_2 < (y261.length : Int)
       ·rw [if_pos c14] at H
        have c14b0 : decide (x29_2 < (y261.length : Int)) = true := decide_eq_true c14
        (try simp only [hl6_2] at c14b0)
        clear c14
        obtain ⟨ji15, hji15⟩ : ∃ j_ : Int, (wrap64 (8 * x29_2)) = j_ := ⟨_, rfl⟩
        replace H : (if 0 ≤ (ji15) then (if 0 ≤ x29_2 then (if x29_2 < (x6_2.length : Int) then (word_Bytes.l0 k2 a0 (x6_2.set (x29_2 : Int).toNat ((shr .i64 a0 (ji15)) % 256)) (y261.length : Int) (wrap64 (x29_2 + 1))) else (none)) else (none)) else (none)) = some (r1, r2) := by first | (rw [hji15] at H; exact H) | (simp only [hji15] at H ⊢; exact H)
        have hji15w : (IntKind.i64.wrap (8 * x29_2)) = ji15 := (i64_w _).trans hji15
        by_cases c16 : 0 ≤ (ji15)
        ·rw [if_pos c16] at H
         have c16b0 := eq_true c16
         have c16b1 : decide (0 ≤ (ji15)) = true := decide_eq_true c16
         clear c16
         obtain ⟨ji17, hji17⟩ : ∃ j_ : Int, (shr .i64 a0 (ji15)) = j_ := ⟨_, rfl⟩
         replace H : (if 0 ≤ x29_2 then (if x29_2 < (x6_2.length : Int) then (word_Bytes.l0 k2 a0 (x6_2.set (x29_2 : Int).toNat ((ji17) % 256)) (y261.length : Int) (wrap64 (x29_2 + 1))) else (none)) else (none)) = some (r1, r2) := by first | (rw [hji17] at H; exact H) | (simp only [hji17] at H ⊢; exact H)
         have hji17_ : (a0 / 2 ^ min (ji15).toNat 64) = ji17 := hji17
         have hji17z : (ji15) ≤ 64 → (a0 / 2 ^ (ji15).toNat) = ji17 := shr_small hji17
         by_cases c18 : 0 ≤ x29_2
         ·rw [if_pos c18] at H
          have c18b0 : decide (0 ≤ x29_2) = true := decide_eq_true c18
          clear c18
          by_cases c19 : x29_2 < (x6_2.length : Int)
          ·rw [if_pos c19] at H
           have c19b0 : decide (x29_2 < (x6_2.length : Int)) = true := decide_eq_true c19
           (try simp only [hl6_2] at c19b0)
           clear c19
           obtain ⟨y264, hy264⟩ : ∃ y_ : List Int, y_ = (x6_2.set (x29_2 : Int).toNat ((ji17) % 256)) := ⟨_, rfl⟩
           replace H : (word_Bytes.l0 k2 a0 y264 (y261.length : Int) (wrap64 (x29_2 + 1))) = some (r1, r2) := by first | (rw [hy264]; with_reducible exact H) | (have H2_ := (Option.bind_some _ _).symm.trans H; rw [hy264]; with_reducible exact H2_) | (have H2_ := (Option.bind_some _ _).symm.trans H; with_reducible exact H2_) | with_reducible exact H | (rw [hy264]; exact H) | exact H
           have Ny264 := z4 hy264
           clear hy264
           have H' := z4 H
           clear H
           have p20 : 0 ≤ (x29_2 : Int) := of_decide_eq_true (by first | (with_reducible assumption) | assumption)
           have q20 : (x29_2 : Int) < ((x6_2.length : Int) : Int) := of_decide_eq_true (by first | (with_reducible assumption) | assumption)
           obtain ⟨go20, co20, eo20, gb20, gl20, cl20, HG20⟩ := Kd.R_form HO_6.out (by omega)
           (first | cases eo20 | (injection eo20 with ea_ en_ ec_; (first | subst ea_ | (injection ea_ with ea_; subst ea_)); subst ec_; clear en_))
           have GB20 := z4 gb20
           have GG20 := z4 HG20
           clear gb20 gl20 HG20
           obtain ⟨hx20_0, hf20_0⟩ := Kd.R_celln 0 HO_6.out (x29_2 : Int) p20 q20
           replace p20 := eq_true p20
           replace q20 := eq_true q20
           have HP21 := Kd.R_putg HO_6.out (x29_2 : Int) ((ji17) % 256)
           go_wp2_with (first | ((with_reducible refine gate_store (t := 5) (p := 39) rfl ?_); refine store_event (t := 5) (p := 39) (v := ?vo_w22) (w1 := (wr.setCell ⟨go20, (x29_2 : Int).toNat, none⟩ (.int .u8 ((ji17) % 256)))) ?hg ?ho ?hn ?hr ?_; (case ho => rfl); (case hg => rfl); (case hn => rfl); (case hr => first | (go_simp; done) | (go_simp; rfl)); intro w22 hw; have hg : wr.grownBy w22 (some go20) := (by rw [hw]; exact HP21.2); have hp_ : Kd.R (Kd.int .u8) 5 w22 w.heap.size (fun _ => True) (.slice (some ⟨go20, 0, none⟩) x6_2.length co13) y264 := (by rw [hw, Ny264.out]; exact HP21.1); clear HP21; have n0_ := z4 (hp_); have n1_ := z4 ((by rw [hw]; exact zJ (HB.out) GB20.out : Below w.heap.size w w22)); clear HO_6; clear HB; have HO_6 := n0_; have HB := n1_; clear n0_ n1_; clear hg hw hp_))
           (try simp only [← hl6_2])
           go_roundg k2
           case measure => have := HJ2.out; have := HK2.out; omega
           case rel => exact ⟨(y264), (wrap64 (x29_2 + 1)), (by first | rfl | (simp; done) | (simp [*]; done)), H', ⟨by have := HJ2.out; have := HK2.out; omega⟩, ⟨by (try simp only [hl6_2]); (with_reducible repeat (first | apply zM | apply zN | apply zO)); exact HO_6.out⟩, ⟨by repeat (first | exact HB.out | apply zA | apply zB | apply zD)⟩⟩
          ·rw [if_neg c19] at H
           exact absurd H (by simp)
         ·rw [if_neg c18] at H
          exact absurd H (by simp)
        ·rw [if_neg c16] at H
         exact absurd H (by simp)
       ·rw [if_neg c14] at H
        have c14b0 : decide (x29_2 < (y261.length : Int)) = false := decide_eq_false c14
        (try simp only [hl6_2] at c14b0)
        clear c14
        simp only [Option.some.injEq, Prod.mk.injEq] at H
        obtain ⟨rfl, rfl⟩ := H
        have hcv23 := own_string (P := Tryd.prog) Tryd.underlying60 Tryd.underlying5 Tryd.underlying9 (Kd.own_of_R HO_6.out)
        go_wp2
        go_ret2
        exact ⟨by first | rfl | (simp [errW_none, errW_some] <;> rfl) | (simp [*, errW_none, errW_some] <;> rfl), by repeat (first | exact HB.out | apply zA | apply zB | apply zD)⟩
    ·rw [if_neg c10] at H
     exact absurd H (by simp)
   ·rw [if_neg c9] at H
    exact absurd H (by simp)
end Go.Proofs.YtimhcpmfhebbhaaDoor.M
namespace Go.Proofs.YtimhcpmfhebbhaaDoor.M
open Go.RowKit Go.Proofs.YtimhcpmfhebbhaaDoorW.PrintWords Go.Proofs.YtimhcpmfhebbhaaDoorW.PrintLast
set_option linter.unusedVariables false
set_option linter.unusedSimpArgs false
mutual
def word_Take.j0 : Nat → ByteArray → Int → Bool → Option (Int × Int × Int)
 | 0, _, _, _ => none
 | k + 1, x0, x1, x17 => if x17 = true then (some (0, 0, 1)) else (word_Take.l0 k x0 x1 0 0)
def word_Take.l0 : Nat → ByteArray → Int → Int → Int → Option (Int × Int × Int)
 | 0, _, _, _, _ => none
 | k + 1, x0, x1, x7, x8 => if (wrap64 (x1 + x8)) < (x0.size : Int) then (if 0 ≤ (wrap64 (x1 + x8)) then (if x8 > 9 then (word_Take.j2 k x0 x1 x7 x8 (bt x0 (wrap64 (x1 + x8))) true) else (if x8 = 9 then (if (bt x0 (wrap64 (x1 + x8))) > 1 then (word_Take.j2 k x0 x1 x7 x8 (bt x0 (wrap64 (x1 + x8))) true) else (if x8 > 0 then (word_Take.j2 k x0 x1 x7 x8 (bt x0 (wrap64 (x1 + x8))) ((bt x0 (wrap64 (x1 + x8))) == 0)) else (word_Take.j2 k x0 x1 x7 x8 (bt x0 (wrap64 (x1 + x8))) false))) else (if x8 > 0 then (word_Take.j2 k x0 x1 x7 x8 (bt x0 (wrap64 (x1 + x8))) ((bt x0 (wrap64 (x1 + x8))) == 0)) else (word_Take.j2 k x0 x1 x7 x8 (bt x0 (wrap64 (x1 + x8))) false)))) else (none)) else (some (0, 0, 9))
def word_Take.j2 : Nat → ByteArray → Int → Int → Int → Int → Bool → Option (Int × Int × Int)
 | 0, _, _, _, _, _, _ => none
 | k + 1, x0, x1, x7, x8, x9, x48 => if x48 = true then (some (0, 0, 9)) else (if 0 ≤ (wrap64 (7 * x8)) then (if x9 < 128 then (some (Go.bits .or .u64 x7 (shl .u64 (IntKind.u64.wrap (Go.bits .and .u8 x9 127)) (wrap64 (7 * x8))), wrap64 ((wrap64 (x1 + x8)) + 1), 0)) else (word_Take.l0 k x0 x1 (Go.bits .or .u64 x7 (shl .u64 (IntKind.u64.wrap (Go.bits .and .u8 x9 127)) (wrap64 (7 * x8)))) (wrap64 (x8 + 1)))) else (none))
end
def word_Take.f (k : Nat) (a0 : ByteArray) (a1 : Int) : Option (Int × Int × Int) := if a1 < 0 then (word_Take.j0 k a0 a1 true) else (word_Take.j0 k a0 a1 (decide (a1 > (a0.size : Int))))
set_option maxHeartbeats 8000000 in
set_option maxRecDepth 100000 in
theorem word_Take.calls (k : Nat) (a0 : ByteArray) (a1 : Int) (r1 : Int) (r2 : Int) (r3 : Int) (w : World) (h : word_Take.f k a0 a1 = some (r1, r2, r3)) :
 Calls Tryd.prog 78 #[.string a0, .int .i64 a1] w fun e w' => e = .returned (.tuple #[.int .u64 r1, .int .i64 r2, .int .i64 r3]) ∧ Drawn0 w w' := by
 have H : (if a1 < 0 then (word_Take.j0 k a0 a1 true) else (word_Take.j0 k a0 a1 (decide (a1 > (a0.size : Int))))) = some (r1, r2, r3) := h
 clear h
 have HC3 := z4 H
 clear H
 go_enter Tryd.func78, Tryd.ntmps78
 go_upto_region 1 with (fail)
 go_cut [17] (fun v17 wc => ∃ (kq : Nat) (x17_2 : Bool), v17 = .bool x17_2 ∧ Aside0 (word_Take.j0 kq a0 a1 x17_2 = some (r1, r2, r3)) ∧ Aside0 (kq ≤ k) ∧ Drawn0 w wc)
 case first =>
  have H := HC3.out
  clear HC3
  by_cases c4 : a1 < 0
  ·rw [if_pos c4] at H
   have c4b0 : decide (a1 < 0) = true := decide_eq_true c4
   clear c4
   (first | rw [c4b0] | (simp only [i64_w, i32_w]; rw [c4b0]) | skip)
   have H' := z4 H
   clear H
   go_wp2
   go_meet
   case rel => exact ⟨_, (true), (by first | rfl | (simp; done) | (simp [*]; done)), H', ⟨by first | omega | exact Nat.le_refl _⟩, by repeat (first | exact Drawn0.refl _ | apply Drawn0.step)⟩
  ·rw [if_neg c4] at H
   have c4b0 : decide (a1 < 0) = false := decide_eq_false c4
   clear c4
   (first | rw [c4b0] | (simp only [i64_w, i32_w]; rw [c4b0]) | skip)
   have H' := z4 H
   clear H
   go_wp2
   go_meet
   case rel => exact ⟨_, (decide (a1 > (a0.size : Int))), (by first | rfl | (simp; done) | (simp [*]; done)), H', ⟨by first | omega | exact Nat.le_refl _⟩, by repeat (first | exact Drawn0.refl _ | apply Drawn0.step)⟩
 case rest =>
  clear HC3
  try clear p2
  try clear c4
  try clear c4b0
  obtain ⟨kq, x17_2, rfl, HA, HJ2, ⟨mc2, rfl⟩⟩ := hcut
  cases kq with
  | zero => exact absurd HA.out (by simp [word_Take.j0])
  | succ kj2 =>
   have H := HA.out
   clear HA
   simp only [word_Take.j0] at H
   by_cases c5 : x17_2 = true
   ·subst c5
    have H1 : (some (0, 0, 1)) = some (r1, r2, r3) := by rw [if_pos rfl] at H; exact H
    clear H
    have H := H1
    clear H1
    simp only [Option.some.injEq, Prod.mk.injEq] at H
    obtain ⟨rfl, rfl, rfl⟩ := H
    go_wp2
    go_ret3
    exact ⟨by first | rfl | (simp; done) | (simp [*]; done), by repeat (first | exact Drawn0.refl _ | apply Drawn0.step)⟩
   ·replace c5 := Bool.eq_false_iff.mpr c5
    subst c5
    have H1 : (word_Take.l0 kj2 a0 a1 0 0) = some (r1, r2, r3) := by rw [if_neg (show ¬ (false = true) by decide)] at H; exact H
    clear H
    have H := H1
    clear H1
    have H' := z4 H
    clear H
    go_wp2
    go_loopg [7, 8] kj2 (fun kq v7 v8 w' => ∃ (x7_2 : Int) (x8_2 : Int), v7 = .int .u64 x7_2 ∧ v8 = .int .i64 x8_2 ∧ Aside0 (word_Take.l0 kq a0 a1 x7_2 x8_2 = some (r1, r2, r3)) ∧ Aside0 (kq ≤ kj2) ∧ Drawn0 w w')
    case atStart => exact ⟨(0), (0), (by first | rfl | (simp; done) | (simp [*]; done)), (by first | rfl | (simp; done) | (simp [*]; done)), H', ⟨Nat.le_refl _⟩, by repeat (first | exact Drawn0.refl _ | apply Drawn0.step)⟩
    case round =>
     clear H'
     try clear c2
     try clear p2
     try clear c4
     try clear c4b0
     try clear c5
     try clear p2
     obtain ⟨x7_2, x8_2, rfl, rfl, HA, HK2, ⟨m2, rfl⟩⟩ := hrel
     cases gk with
     | zero => exact absurd HA.out (by simp [word_Take.l0])
     | succ k2 =>
      have H := HA.out
      clear HA
      simp only [word_Take.l0] at H
      by_cases c6 : (wrap64 (a1 + x8_2)) < (a0.size : Int)
      ·rw [if_pos c6] at H
       have c6b0 : decide ((wrap64 (a1 + x8_2)) < (a0.size : Int)) = true := decide_eq_true c6
       clear c6
       obtain ⟨ji7, hji7⟩ : ∃ j_ : Int, (wrap64 (a1 + x8_2)) = j_ := ⟨_, rfl⟩
       replace H : (if 0 ≤ (ji7) then (if x8_2 > 9 then (word_Take.j2 k2 a0 a1 x7_2 x8_2 (bt a0 (ji7)) true) else (if x8_2 = 9 then (if (bt a0 (ji7)) > 1 then (word_Take.j2 k2 a0 a1 x7_2 x8_2 (bt a0 (ji7)) true) else (if x8_2 > 0 then (word_Take.j2 k2 a0 a1 x7_2 x8_2 (bt a0 (ji7)) ((bt a0 (ji7)) == 0)) else (word_Take.j2 k2 a0 a1 x7_2 x8_2 (bt a0 (ji7)) false))) else (if x8_2 > 0 then (word_Take.j2 k2 a0 a1 x7_2 x8_2 (bt a0 (ji7)) ((bt a0 (ji7)) == 0)) else (word_Take.j2 k2 a0 a1 x7_2 x8_2 (bt a0 (ji7)) false)))) else (none)) = some (r1, r2, r3) := by first | (rw [hji7] at H; exact H) | (simp only [hji7] at H ⊢; exact H)
       (try rw [hji7] at c6b0)
       have hji7w : (IntKind.i64.wrap (a1 + x8_2)) = ji7 := (i64_w _).trans hji7
       by_cases c8 : 0 ≤ (ji7)
       ·rw [if_pos c8] at H
        have c8b0 : decide (0 ≤ (ji7)) = true := decide_eq_true c8
        clear c8
        have HC10 := z4 H
        clear H
        have p9 : 0 ≤ ((ji7) : Int) := of_decide_eq_true (by first | (with_reducible assumption) | assumption)
        have q9 : (ji7) < (a0.size : Int) := of_decide_eq_true (by first | (with_reducible assumption) | assumption)
        have hx9 := bt_at a0 (ji7)
        replace p9 := eq_true p9
        replace q9 := eq_true q9
        go_upto_region 8 with (fail)
        go_cut [48] (fun v48 wc => ∃ (kq : Nat) (x48_9 : Bool), v48 = .bool x48_9 ∧ Aside0 (word_Take.j2 kq a0 a1 x7_2 x8_2 (bt a0 (ji7)) x48_9 = some (r1, r2, r3)) ∧ Aside0 (kq ≤ k2) ∧ Drawn0 w wc)
        case first =>
         have H := HC10.out
         clear HC10
         by_cases c11 : x8_2 > 9
         ·rw [if_pos c11] at H
          have c11b0 : decide (9 < x8_2) = true := decide_eq_true c11
          clear c11
          (first | rw [c11b0] | (simp only [i64_w, i32_w]; rw [c11b0]) | skip)
          have H' := z4 H
          clear H
          go_wp2
          go_meet
          case rel => exact ⟨_, (true), (by first | rfl | (simp; done) | (simp [*]; done)), H', ⟨by have := HJ2.out; have := HK2.out; first | omega | exact Nat.le_refl _⟩, by repeat (first | exact Drawn0.refl _ | apply Drawn0.step)⟩
         ·rw [if_neg c11] at H
          have c11b0 : decide (9 < x8_2) = false := decide_eq_false c11
          clear c11
          (first | rw [c11b0] | (simp only [i64_w, i32_w]; rw [c11b0]) | skip)
          by_cases c12 : x8_2 = 9
          ·rw [if_pos c12] at H
           have c12b0 : (x8_2 == 9) = true := z5 c12
           have c12b1 : (x8_2 != 9) = false := z6 c12
           clear c12
           by_cases c13 : (bt a0 (ji7)) > 1
           ·rw [if_pos c13] at H
            have c13b0 : decide (1 < (bt a0 (ji7))) = true := decide_eq_true c13
            clear c13
            have H' := z4 H
            clear H
            go_wp2
            go_meet
            case rel => exact ⟨_, (true), (by first | rfl | (simp; done) | (simp [*]; done)), H', ⟨by have := HJ2.out; have := HK2.out; first | omega | exact Nat.le_refl _⟩, by repeat (first | exact Drawn0.refl _ | apply Drawn0.step)⟩
           ·rw [if_neg c13] at H
            have c13b0 : decide (1 < (bt a0 (ji7))) = false := decide_eq_false c13
            clear c13
            by_cases c14 : x8_2 > 0
            ·rw [if_pos c14] at H
             have c14b0 : decide (0 < x8_2) = true := decide_eq_true c14
             clear c14
             have H' := z4 H
             clear H
             go_wp2
             go_meet
             case rel => exact ⟨_, (((bt a0 (ji7)) == 0)), (by first | rfl | (simp; done) | (simp only [← hji7] <;> (first | rfl | simp)) | (simp [*]; done)), H', ⟨by have := HJ2.out; have := HK2.out; first | omega | exact Nat.le_refl _⟩, by repeat (first | exact Drawn0.refl _ | apply Drawn0.step)⟩
            ·rw [if_neg c14] at H
             have c14b0 : decide (0 < x8_2) = false := decide_eq_false c14
             clear c14
             have H' := z4 H
             clear H
             go_wp2
             go_meet
             case rel => exact ⟨_, (false), (by first | rfl | (simp; done) | (simp [*]; done)), H', ⟨by have := HJ2.out; have := HK2.out; first | omega | exact Nat.le_refl _⟩, by repeat (first | exact Drawn0.refl _ | apply Drawn0.step)⟩
          ·rw [if_neg c12] at H
           have c12b0 : (x8_2 == 9) = false := z7 c12
           have c12b1 : (x8_2 != 9) = true := bne_iff_ne.mpr c12
           by_cases c15 : x8_2 > 0
           ·rw [if_pos c15] at H
            have c15b0 : decide (0 < x8_2) = true := decide_eq_true c15
            clear c15
            have H' := z4 H
            clear H
            go_wp2
            go_meet
            case rel => exact ⟨_, (((bt a0 (ji7)) == 0)), (by first | rfl | (simp; done) | (simp only [← hji7] <;> (first | rfl | simp)) | (simp [*]; done)), H', ⟨by have := HJ2.out; have := HK2.out; first | omega | exact Nat.le_refl _⟩, by repeat (first | exact Drawn0.refl _ | apply Drawn0.step)⟩
           ·rw [if_neg c15] at H
            have c15b0 : decide (0 < x8_2) = false := decide_eq_false c15
            clear c15
            have H' := z4 H
            clear H
            go_wp2
            go_meet
            case rel => exact ⟨_, (false), (by first | rfl | (simp; done) | (simp [*]; done)), H', ⟨by have := HJ2.out; have := HK2.out; first | omega | exact Nat.le_refl _⟩, by repeat (first | exact Drawn0.refl _ | apply Drawn0.step)⟩
        case rest =>
         clear HC10
         try clear c1
         try clear c2
         try clear p2
         try clear c4
         try clear c4b0
         try clear c5
         try clear c6
         try clear c6b0
         try clear p6
         try clear c7
         try clear c8
         try clear c8b0
         try clear p9
         try clear q9
         try clear hx9
         try clear c11
         try clear c11b0
         try clear c12
         try clear c12b0
         try clear c12b1
         try clear c13
         try clear c13b0
         try clear c14
         try clear c14b0
         try clear c15
         try clear c15b0
         try clear p2
         try clear p9
         try clear q9
         obtain ⟨kq, x48_9, rfl, HA, HJ9, ⟨mc9, rfl⟩⟩ := hcut
         cases kq with
         | zero => exact absurd HA.out (by simp [word_Take.j2])
         | succ kj9 =>
          have H := HA.out
          clear HA
          simp only [word_Take.j2] at H
          by_cases c16 : x48_9 = true
          ·subst c16
           have H1 : (some (0, 0, 9)) = some (r1, r2, r3) := by rw [if_pos rfl] at H; exact H
           clear H
           have H := H1
           clear H1
           simp only [Option.some.injEq, Prod.mk.injEq] at H
           obtain ⟨rfl, rfl, rfl⟩ := H
           go_wp2
           go_ret3
           exact ⟨by first | rfl | (simp; done) | (simp only [← hji7] <;> (first | rfl | simp)) | (simp [*]; done), by repeat (first | exact Drawn0.refl _ | apply Drawn0.step)⟩
          ·replace c16 := Bool.eq_false_iff.mpr c16
           subst c16
           have H1 : (if 0 ≤ (wrap64 (7 * x8_2)) then (if (bt a0 (ji7)) < 128 then (some (Go.bits .or .u64 x7_2 (shl .u64 (IntKind.u64.wrap (Go.bits .and .u8 (bt a0 (ji7)) 127)) (wrap64 (7 * x8_2))), wrap64 ((wrap64 (a1 + x8_2)) + 1), 0)) else (word_Take.l0 kj9 a0 a1 (Go.bits .or .u64 x7_2 (shl .u64 (IntKind.u64.wrap (Go.bits .and .u8 (bt a0 (ji7)) 127)) (wrap64 (7 * x8_2)))) (wrap64 (x8_2 + 1)))) else (none)) = some (r1, r2, r3) := by rw [if_neg (show ¬ (false = true) by decide)] at H; exact H
           clear H
           have H := H1
           clear H1
           obtain ⟨ji17, hji17⟩ : ∃ j_ : Int, (wrap64 (7 * x8_2)) = j_ := ⟨_, rfl⟩
           replace H : (if 0 ≤ (ji17) then (if (bt a0 (ji7)) < 128 then (some (Go.bits .or .u64 x7_2 (shl .u64 (IntKind.u64.wrap (Go.bits .and .u8 (bt a0 (ji7)) 127)) (ji17)), wrap64 ((wrap64 (a1 + x8_2)) + 1), 0)) else (word_Take.l0 kj9 a0 a1 (Go.bits .or .u64 x7_2 (shl .u64 (IntKind.u64.wrap (Go.bits .and .u8 (bt a0 (ji7)) 127)) (ji17))) (wrap64 (x8_2 + 1)))) else (none)) = some (r1, r2, r3) := by first | (rw [hji17] at H; exact H) | (simp only [hji17] at H ⊢; exact H)
           have hji17w : (IntKind.i64.wrap (7 * x8_2)) = ji17 := (i64_w _).trans hji17
           by_cases c18 : 0 ≤ (ji17)
           ·rw [if_pos c18] at H
            have c18b0 := eq_true c18
            have c18b1 : decide (0 ≤ (ji17)) = true := decide_eq_true c18
            clear c18
            obtain ⟨ji19, hji19⟩ : ∃ j_ : Int, (shl .u64 (IntKind.u64.wrap (Go.bits .and .u8 (bt a0 (ji7)) 127)) (ji17)) = j_ := ⟨_, rfl⟩
            replace H : (if (bt a0 (ji7)) < 128 then (some (Go.bits .or .u64 x7_2 (ji19), wrap64 ((wrap64 (a1 + x8_2)) + 1), 0)) else (word_Take.l0 kj9 a0 a1 (Go.bits .or .u64 x7_2 (ji19)) (wrap64 (x8_2 + 1)))) = some (r1, r2, r3) := by first | (rw [hji19] at H; exact H) | (simp only [hji19] at H ⊢; exact H)
            have hji19_ : (IntKind.u64.wrap ((IntKind.u64.wrap (Go.bits .and .u8 (bt a0 (ji7)) 127)) * 2 ^ min (ji17).toNat 64)) = ji19 := hji19
            have hji19z : (ji17) ≤ 64 → (IntKind.u64.wrap ((IntKind.u64.wrap (Go.bits .and .u8 (bt a0 (ji7)) 127)) * 2 ^ (ji17).toNat)) = ji19 := shl_small hji19
            by_cases c20 : (bt a0 (ji7)) < 128
            ·rw [if_pos c20] at H
             have c20b0 : decide ((bt a0 (ji7)) < 128) = true := decide_eq_true c20
             clear c20
             simp only [Option.some.injEq, Prod.mk.injEq] at H
             obtain ⟨rfl, rfl, rfl⟩ := H
             go_wp2
             go_ret3
             exact ⟨by first | rfl | (simp; done) | (simp only [← hji7, ← hji17, ← hji19] <;> (first | rfl | simp)) | (simp [*]; done), by repeat (first | exact Drawn0.refl _ | apply Drawn0.step)⟩
            ·rw [if_neg c20] at H
             have c20b0 : decide ((bt a0 (ji7)) < 128) = false := decide_eq_false c20
             clear c20
             have H' := z4 H
             clear H
             go_wp2
             go_roundg kj9
             case measure => have := HJ2.out; have := HK2.out; have := HJ9.out; omega
             case rel => exact ⟨(Go.bits .or .u64 x7_2 (ji19)), (wrap64 (x8_2 + 1)), (by first | rfl | (simp; done) | (simp only [← hji19] <;> (first | rfl | simp)) | (simp [*]; done)), (by first | rfl | (simp; done) | (simp [*]; done)), H', ⟨by have := HJ2.out; have := HK2.out; have := HJ9.out; omega⟩, by repeat (first | exact Drawn0.refl _ | apply Drawn0.step)⟩
           ·rw [if_neg c18] at H
            exact absurd H (by simp)
       ·rw [if_neg c8] at H
        exact absurd H (by simp)
      ·rw [if_neg c6] at H
       have c6b0 : decide ((wrap64 (a1 + x8_2)) < (a0.size : Int)) = false := decide_eq_false c6
       clear c6
       simp only [Option.some.injEq, Prod.mk.injEq] at H
       obtain ⟨rfl, rfl, rfl⟩ := H
       go_wp2
       go_ret3
       exact ⟨by first | rfl | (simp; done) | (simp [*]; done), by repeat (first | exact Drawn0.refl _ | apply Drawn0.step)⟩
end Go.Proofs.YtimhcpmfhebbhaaDoor.M
namespace Go.Proofs.YtimhcpmfhebbhaaDoor.Word1
open Go.RowKit Go.Proofs.YtimhcpmfhebbhaaDoor.M Go.Proofs.YtimhcpmfhebbhaaDoor.Num Go.Proofs.YtimhcpmfhebbhaaDoor.Seven Go.Proofs.YtimhcpmfhebbhaaDoorW.PrintWords Go.Proofs.YtimhcpmfhebbhaaDoorW.PrintLast
theorem or128 (v : Nat) : bits .or .u8 ((v : Int) % 256) 128 = ((v % 128 + 128 : Nat) : Int) := by
 have key : ∀ w : Fin 256, bits .or .u8 (w.val : Int) 128 = ((w.val % 128 + 128 : Nat) : Int) := by decide +kernel
 have h := key ⟨v % 256, Nat.mod_lt _ (by decide)⟩
 simp only at h
 have e : (((v % 256 : Nat)) : Int) = (v : Int) % 256 := by omega
 rw [e] at h
 rw [h]
 congr 1
 omega
theorem put_l0 : ∀ (n k u : Nat) (x : List Int), u < 128 ^ (n + 1) → x.length + n < 140737488355328 → n < k → word_put.l0 k x u = some (x ++ putL u) := by
 intro n
 induction n with
 | zero =>
  intro k u x hu hx hk
  obtain ⟨k, rfl⟩ : ∃ m, k = m + 1 := ⟨k - 1, by omega⟩
  simp only [word_put.l0]
  rw [if_neg (by omega), if_pos (by omega), putL_small (by omega)]
  congr 3
  omega
 | succ n ih =>
  intro k u x hu hx hk
  obtain ⟨k, rfl⟩ : ∃ m, k = m + 1 := ⟨k - 1, by omega⟩
  simp only [word_put.l0]
  by_cases h : u < 128
  ·rw [if_neg (by omega), if_pos (by omega), putL_small h]
   congr 3
   omega
  ·rw [if_pos (by omega), if_pos (by omega)]
   have h2 : u / 128 < 128 ^ (n + 1) := by rw [Nat.div_lt_iff_lt_mul (by decide)]; rw [Nat.pow_succ] at hu; exact hu
   have e : (u : Int) / 128 = ((u / 128 : Nat) : Int) := by omega
   rw [e, ih k (u / 128) _ h2 (by simp; omega) (by omega), putL_great h, or128]
   simp
theorem put_f {k u : Nat} {x : List Int} (hu : u < 18446744073709551616) (hx : x.length + 9 < 140737488355328) (hk : 9 < k) : word_put.f k x u = some (x ++ putL u) := by
 unfold word_put.f
 exact put_l0 9 k u x (by omega) hx hk
theorem Put_f {k u : Nat} (hu : u < 18446744073709551616) (hk : 9 < k) : word_Put.f k u = some (strOfNums (putL u)) := by
 unfold word_Put.f
 rw [put_f hu (by simp) hk]
 rfl
def Us (l : List Int) : Prop := ∀ x ∈ l, 0 ≤ x ∧ x < 18446744073709551616
theorem Us.drop {l : List Int} (h : Us l) (n : Nat) : Us (l.drop n) := fun x hx => h x (List.mem_of_mem_drop hx)
/-- What Take answers: by the bytes from the place on. -/
def takeR (s : ByteArray) (at_ : Int) : Int × Int × Int :=
 if at_ < 0 ∨ at_ > s.size then (0, 0, 1) else match takeL ((bytesOf s).drop at_.toNat) 0 with
 | none => (0, 0, 9)
 | some (v, n) => (v, at_ + n, 0)
theorem and127 (b : Int) (h0 : 0 ≤ b) (h1 : b < 256) : IntKind.u64.wrap (bits .and .u8 b 127) = b % 128 := by
 have h := bits_mask .u8 8 (by decide) wraps_u8 7 (by decide) b h0 (by omega)
 have e : (2 : Int) ^ 7 - 1 = 127 := by decide
 have e2 : (2 : Int) ^ 7 = 128 := by decide
 rw [e, e2] at h
 rw [h, wrap_u64]
 omega
theorem p2 (n : Nat) : (0 : Int) < 2 ^ n := by
 have h2 : ((2 ^ n : Nat) : Int) = (2 : Int) ^ n := by simp
 have h3 := Nat.two_pow_pos n
 omega
theorem e64 : (2 : Int) ^ 64 = 18446744073709551616 := by decide
theorem shl_u64_small (x y : Int) (i : Nat) (hy : y = 7 * i) (hi : i ≤ 9) (h0 : 0 ≤ x) (h1 : x * 2 ^ (7 * i) < 18446744073709551616) : shl .u64 x y = x * 2 ^ (7 * i) := by
 subst hy
 unfold shl
 have e : (7 * (i : Int)).toNat = 7 * i := by omega
 have hm : min (7 * i) IntKind.u64.bits = 7 * i := Nat.min_eq_left (by have : IntKind.u64.bits = 64 := rfl; omega)
 rw [e, hm, wrap_u64]
 have hp : (0 : Int) ≤ 2 ^ (7 * i) := Int.le_of_lt (p2 _)
 have := Int.mul_nonneg h0 hp
 omega
theorem or_u64 (u c : Int) (i : Nat) (hu : 0 ≤ u) (hu1 : u < 2 ^ (7 * i)) (hc : 0 ≤ c) (hc1 : c * 2 ^ (7 * i) < 18446744073709551616) (hs : u + c * 2 ^ (7 * i) < 18446744073709551616) :
 bits .or .u64 u (c * 2 ^ (7 * i)) = u + c * 2 ^ (7 * i) := by
 have hp : (0 : Int) ≤ 2 ^ (7 * i) := Int.le_of_lt (p2 _)
 have hm := Int.mul_nonneg hc hp
 rw [bits_or_comm]
 have h := bits_join .u64 64 (by decide) (fun n h0 h1 => wrap_u64_id h0 (by rw [e64] at h1; exact h1)) (7 * i) (c * 2 ^ (7 * i)) u hm (Int.mul_emod_left _ _) (by rw [e64]; exact hc1) hu hu1 (by rw [e64]; omega)
 rw [h]
 omega
theorem take_fits {b : Int} {i : Nat} {u : Int} (h0 : 0 ≤ b) (h1 : b < 256) (hi : i ≤ 9) (h9 : i = 9 → b ≤ 1) (hu : 0 ≤ u) (hu1 : u < 2 ^ (7 * i)) :
 b % 128 * 2 ^ (7 * i) < 18446744073709551616 ∧ u + b % 128 * 2 ^ (7 * i) < 18446744073709551616 ∧ (i ≤ 8 → u + b % 128 * 2 ^ (7 * i) < 2 ^ (7 * (i + 1))) ∧ 0 ≤ u + b % 128 * 2 ^ (7 * i) := by
 have hp : (0 : Int) < 2 ^ (7 * i) := by
  have h2 : ((2 ^ (7 * i) : Nat) : Int) = (2 : Int) ^ (7 * i) := by simp
  have h3 := Nat.two_pow_pos (7 * i)
  omega
 have e : (2 : Int) ^ (7 * (i + 1)) = 128 * 2 ^ (7 * i) := by rw [Nat.mul_add, Int.pow_add]; omega
 have hm := Int.mul_nonneg (show 0 ≤ b % 128 by omega) (Int.le_of_lt hp)
 have g := Int.mul_le_mul_of_nonneg_right (show b % 128 ≤ 127 by omega) (Int.le_of_lt hp)
 by_cases hi9 : i = 9
 ·subst hi9
  have e63 : (2 : Int) ^ (7 * 9) = 9223372036854775808 := by decide
  have := h9 rfl
  rw [e63] at *
  refine ⟨by omega, by omega, fun h => by omega, by omega⟩
 ·have hp8 : (2 : Int) ^ (7 * i) ≤ 72057594037927936 := by
   have h1 : 2 ^ (7 * i) ≤ 2 ^ 56 := Nat.pow_le_pow_right (by decide) (by omega)
   have h2 : ((2 ^ (7 * i) : Nat) : Int) = (2 : Int) ^ (7 * i) := by simp
   have h3 : (2 : Nat) ^ 56 = 72057594037927936 := by decide
   rw [h3] at h1
   omega
  rw [e]
  generalize (2 : Int) ^ (7 * i) = P at *
  generalize b % 128 * P = m at *
  refine ⟨by omega, by omega, fun _ => by omega, by omega⟩
/-- What a loop over the groups comes to, from the group number i on, with u so far. -/
def restR (s : ByteArray) (at_ i : Nat) (u : Int) : Int × Int × Int :=
 match takeL ((bytesOf s).drop (at_ + i)) i with
 | none => (0, 0, 9)
 | some (v, n) => (u + v * 2 ^ (7 * i), ((at_ + i + n : Nat) : Int), 0)
theorem restR_end {s : ByteArray} {at_ i : Nat} {u : Int} (h : ¬ at_ + i < s.size) : restR s at_ i u = (0, 0, 9) := by
 unfold restR
 rw [List.drop_eq_nil_of_le (by rw [bytesOf_length]; omega)]
 rfl
theorem restR_bad {s : ByteArray} {at_ i : Nat} {u : Int} (hlt : at_ + i < s.size) (h : i > 9 ∨ (i = 9 ∧ bt s (at_ + i : Nat) > 1) ∨ (i > 0 ∧ bt s (at_ + i : Nat) = 0)) : restR s at_ i u = (0, 0, 9) := by
 unfold restR
 rw [bt_drop s _ hlt]
 simp only [takeL]
 rw [if_pos h]
theorem restR_last {s : ByteArray} {at_ i : Nat} {u : Int} (hlt : at_ + i < s.size) (h : ¬ (i > 9 ∨ (i = 9 ∧ bt s (at_ + i : Nat) > 1) ∨ (i > 0 ∧ bt s (at_ + i : Nat) = 0))) (hb : bt s (at_ + i : Nat) < 128) :
 restR s at_ i u = (u + bt s (at_ + i : Nat) * 2 ^ (7 * i), ((at_ + i + 1 : Nat) : Int), 0) := by
 unfold restR
 rw [bt_drop s _ hlt]
 simp only [takeL]
 rw [if_neg h, if_pos hb]
theorem restR_step {s : ByteArray} {at_ i : Nat} {u : Int} (hlt : at_ + i < s.size) (h : ¬ (i > 9 ∨ (i = 9 ∧ bt s (at_ + i : Nat) > 1) ∨ (i > 0 ∧ bt s (at_ + i : Nat) = 0))) (hb : ¬ bt s (at_ + i : Nat) < 128) :
 restR s at_ i u = restR s at_ (i + 1) (u + (bt s (at_ + i : Nat) - 128) * 2 ^ (7 * i)) := by
 unfold restR
 rw [bt_drop s _ hlt]
 simp only [takeL]
 rw [if_neg h, if_neg hb, show at_ + (i + 1) = at_ + i + 1 by omega]
 cases takeL ((bytesOf s).drop (at_ + i + 1)) (i + 1) with
 | none => rfl
 | some p =>
  simp only [Option.map_some]
  have e : (2 : Int) ^ (7 * (i + 1)) = 128 * 2 ^ (7 * i) := by rw [Nat.mul_add, Int.pow_add]; omega
  rw [e, Int.add_mul, Int.add_assoc, Int.mul_assoc 128, Int.mul_left_comm 128 p.1, show at_ + i + (p.2 + 1) = at_ + i + 1 + p.2 by omega]
theorem take_l0 (s : ByteArray) (at_ : Nat) (hs : s.size ≤ 281474976710656) (hat : at_ ≤ s.size) : ∀ (d k i : Nat) (u : Int), 10 - i = d → i ≤ 10 → 0 ≤ u → (i ≤ 9 → u < 2 ^ (7 * i)) → 2 * d + 2 < k →
 word_Take.l0 k s at_ u i = some (restR s at_ i u) := by
 intro d
 induction d with
 | zero =>
  intro k i u hd hi hu hu1 hk
  obtain ⟨k, rfl⟩ : ∃ m, k = m + 2 := ⟨k - 2, by omega⟩
  obtain rfl : i = 10 := by omega
  simp only [word_Take.l0]
  rw [wrap64_id (by omega) (by omega)]
  by_cases hlt : at_ + 10 < s.size
  ·rw [if_pos (by omega), if_pos (by omega), if_pos (by omega), restR_bad hlt (.inl (by omega))]
   simp [word_Take.j2]
  ·rw [if_neg (by omega), restR_end hlt]
 | succ d ih =>
  intro k i u hd hi hu hu1 hk
  obtain ⟨k, rfl⟩ : ∃ m, k = m + 2 := ⟨k - 2, by omega⟩
  simp only [word_Take.l0]
  have ew : wrap64 ((at_ : Int) + i) = ((at_ + i : Nat) : Int) := by rw [wrap64_id (by omega) (by omega)]; omega
  rw [ew]
  by_cases hlt : at_ + i < s.size
  ·rw [if_pos (by omega), if_pos (by omega), if_neg (by omega)]
   have hbr := bt_range s (at_ + i : Nat)
   have hb7 : wrap64 (7 * (i : Int)) = 7 * i := wrap64_id (by omega) (by omega)
   have hu9 := hu1 (by omega)
   -- the one form in which all ways meet
   have good : ∀ (c : Bool), (c = true ↔ (i = 9 ∧ bt s (at_ + i : Nat) > 1) ∨ (i > 0 ∧ bt s (at_ + i : Nat) = 0)) → word_Take.j2 (k + 1) s at_ u i (bt s (at_ + i : Nat)) c = some (restR s at_ i u) := by
    intro c hc
    simp only [word_Take.j2, hb7]
    by_cases hbad : c = true
    ·rw [if_pos hbad, restR_bad hlt (.inr (hc.1 hbad))]
    ·have hno : ¬ (i > 9 ∨ (i = 9 ∧ bt s (at_ + i : Nat) > 1) ∨ (i > 0 ∧ bt s (at_ + i : Nat) = 0)) := by
      intro h
      rcases h with h | h
      ·omega
      ·exact hbad (hc.2 h)
     obtain ⟨f1, f2, f3, f4⟩ := take_fits (b := bt s (at_ + i : Nat)) (i := i) (u := u) (by omega) (by omega) (by omega) (by intro h; omega) hu hu9
     rw [if_neg hbad, if_pos (by omega), and127 _ (by omega) (by omega), shl_u64_small _ _ i rfl (by omega) (by omega) f1, or_u64 u _ i hu hu9 (by omega) f1 f2, ew]
     by_cases hl : bt s (at_ + i : Nat) < 128
     ·rw [if_pos hl, restR_last hlt hno hl, wrap64_id (by omega) (by omega), show bt s (at_ + i : Nat) % 128 = bt s (at_ + i : Nat) by omega]
      congr 3
     ·rw [if_neg hl, restR_step hlt hno hl, wrap64_id (by omega) (by omega), show ((i : Int) + 1) = ((i + 1 : Nat) : Int) by omega, show bt s (at_ + i : Nat) % 128 = bt s (at_ + i : Nat) - 128 by omega]
      rw [show bt s (at_ + i : Nat) % 128 = bt s (at_ + i : Nat) - 128 by omega] at f3 f4
      exact ih k (i + 1) _ (by omega) (by omega) f4 (fun h => f3 (by omega)) (by omega)
   by_cases h9 : i = 9
   ·rw [if_pos (by omega)]
    by_cases hb1 : bt s (at_ + i : Nat) > 1
    ·rw [if_pos hb1]; exact good true (by simp only [true_iff]; omega)
    ·rw [if_neg hb1, if_pos (by omega)]; exact good _ (by simp only [beq_iff_eq]; omega)
   ·rw [if_neg (by omega)]
    by_cases h0 : i > 0
    ·rw [if_pos (by omega)]; exact good _ (by simp only [beq_iff_eq]; omega)
    ·rw [if_neg (by omega)]; exact good false (by simp only [Bool.false_eq_true, false_iff]; omega)
  ·rw [if_neg (by omega), restR_end hlt]
theorem restR_zero (s : ByteArray) (at_ : Nat) (h : at_ ≤ s.size) : restR s at_ 0 0 = takeR s at_ := by
 unfold restR takeR
 rw [if_neg (by omega), Nat.add_zero, Int.toNat_natCast]
 cases takeL ((bytesOf s).drop at_) 0 with
 | none => rfl
 | some p => simp
theorem take_f (s : ByteArray) (at_ : Int) (hs : s.size ≤ 281474976710656) (k : Nat) (hk : 24 < k) : word_Take.f k s at_ = some (takeR s at_) := by
 obtain ⟨k, rfl⟩ : ∃ m, k = m + 1 := ⟨k - 1, by omega⟩
 unfold word_Take.f
 by_cases h0 : at_ < 0
 ·rw [if_pos h0]
  simp [word_Take.j0, takeR, h0]
 ·rw [if_neg h0]
  by_cases h1 : at_ > (s.size : Int)
  ·have e : decide (at_ > (s.size : Int)) = true := decide_eq_true h1
   rw [e]
   unfold takeR
   rw [if_pos (.inr h1)]
   simp [word_Take.j0]
  ·have e : decide (at_ > (s.size : Int)) = false := decide_eq_false h1
   rw [e]
   simp only [word_Take.j0, Bool.false_eq_true, if_false]
   obtain ⟨a, rfl⟩ := Int.eq_ofNat_of_zero_le (show 0 ≤ at_ by omega)
   rw [← restR_zero s a (by omega)]
   exact take_l0 s a hs (by omega) 10 k 0 0 (by omega) (by omega) (by omega) (by simp) (by omega)
end Go.Proofs.YtimhcpmfhebbhaaDoor.Word1
namespace Go.Proofs.YtimhcpmfhebbhaaDoor.M
open Go.RowKit Go.Proofs.YtimhcpmfhebbhaaDoorW.PrintWords Go.Proofs.YtimhcpmfhebbhaaDoorW.PrintLast
set_option linter.unusedVariables false
set_option linter.unusedSimpArgs false
def word_Number.l0 : Nat → ByteArray → Int → Int → Int → Option (Int × Int)
 | 0, _, _, _, _ => none
 | k + 1, x0, x4, x7, x8 => if x8 < x7 then (if 0 ≤ x8 then (if x8 < (x0.size : Int) then (if 0 ≤ (wrap64 (8 * x8)) then (word_Number.l0 k x0 (Go.bits .or .i64 x4 (shl .i64 (wrap64 (bt x0 x8)) (wrap64 (8 * x8)))) x7 (wrap64 (x8 + 1))) else (none)) else (none)) else (none)) else (if (x0.size : Int) = 1 then (some (wrap64 (IntKind.i8.wrap (x4)), 0)) else (if (x0.size : Int) = 4 then (some (wrap64 (wrap32 (x4)), 0)) else (if (x0.size : Int) = 8 then (some (x4, 0)) else (some (0, 1)))))
def word_Number.f (k : Nat) (a0 : ByteArray) : Option (Int × Int) := word_Number.l0 k a0 0 (a0.size : Int) 0
set_option maxHeartbeats 8000000 in
set_option maxRecDepth 100000 in
theorem word_Number.calls (k : Nat) (a0 : ByteArray) (r1 : Int) (r2 : Int) (w : World) (h : word_Number.f k a0 = some (r1, r2)) :
 Calls Tryd.prog 79 #[.string a0] w fun e w' => e = .returned (.tuple #[.int .i64 r1, .int .i64 r2]) ∧ Drawn0 w w' := by
 have H : (word_Number.l0 k a0 0 (a0.size : Int) 0) = some (r1, r2) := h
 clear h
 have H' := z4 H
 clear H
 go_enter Tryd.func79, Tryd.ntmps79
 go_wp2
 go_loopg [4, 8] k (fun kq v4 v8 w' => ∃ (x4_1 : Int) (x8_1 : Int), v4 = .int .i64 x4_1 ∧ v8 = .int .i64 x8_1 ∧ Aside0 (word_Number.l0 kq a0 x4_1 (a0.size : Int) x8_1 = some (r1, r2)) ∧ Aside0 (kq ≤ k) ∧ Drawn0 w w')
 case atStart => exact ⟨(0), (0), (by first | rfl | (simp; done) | (simp [*]; done)), (by first | rfl | (simp; done) | (simp [*]; done)), H', ⟨Nat.le_refl _⟩, by repeat (first | exact Drawn0.refl _ | apply Drawn0.step)⟩
 case round =>
  clear H'
  obtain ⟨x4_1, x8_1, rfl, rfl, HA, HK1, ⟨m1, rfl⟩⟩ := hrel
  cases gk with
  | zero => exact absurd HA.out (by simp [word_Number.l0])
  | succ k1 =>
   have H := HA.out
   clear HA
   simp only [word_Number.l0] at H
   by_cases c2 : x8_1 < (a0.size : Int)
   ·rw [if_pos c2] at H
    have c2b0 : decide (x8_1 < (a0.size : Int)) = true := decide_eq_true c2
    clear c2
    by_cases c3 : 0 ≤ x8_1
    ·rw [if_pos c3] at H
     have c3b0 : decide (0 ≤ x8_1) = true := decide_eq_true c3
     clear c3
     by_cases c4 : x8_1 < (a0.size : Int)
     ·rw [if_pos c4] at H
      have c4b0 : decide (x8_1 < (a0.size : Int)) = true := decide_eq_true c4
      clear c4
      obtain ⟨ji6, hji6⟩ : ∃ j_ : Int, (wrap64 (8 * x8_1)) = j_ := ⟨_, rfl⟩
      replace H : (if 0 ≤ (ji6) then (word_Number.l0 k1 a0 (Go.bits .or .i64 x4_1 (shl .i64 (wrap64 (bt a0 x8_1)) (ji6))) (a0.size : Int) (wrap64 (x8_1 + 1))) else (none)) = some (r1, r2) := by first | (rw [hji6] at H; exact H) | (simp only [hji6] at H ⊢; exact H)
      have hji6w : (IntKind.i64.wrap (8 * x8_1)) = ji6 := (i64_w _).trans hji6
      by_cases c7 : 0 ≤ (ji6)
      ·rw [if_pos c7] at H
       have c7b0 := eq_true c7
       have c7b1 : decide (0 ≤ (ji6)) = true := decide_eq_true c7
       clear c7
       obtain ⟨ji8, hji8⟩ : ∃ j_ : Int, (shl .i64 (wrap64 (bt a0 x8_1)) (ji6)) = j_ := ⟨_, rfl⟩
       replace H : (word_Number.l0 k1 a0 (Go.bits .or .i64 x4_1 (ji8)) (a0.size : Int) (wrap64 (x8_1 + 1))) = some (r1, r2) := by first | (rw [hji8] at H; exact H) | (simp only [hji8] at H ⊢; exact H)
       have hji8_ : (IntKind.i64.wrap ((wrap64 (bt a0 x8_1)) * 2 ^ min (ji6).toNat 64)) = ji8 := hji8
       have hji8z : (ji6) ≤ 64 → (IntKind.i64.wrap ((wrap64 (bt a0 x8_1)) * 2 ^ (ji6).toNat)) = ji8 := shl_small hji8
       have hji8y : (wrap64 ((wrap64 (bt a0 x8_1)) * 2 ^ min (ji6).toNat 64)) = ji8 := (i64_w _).symm.trans hji8_
       have hji8x : (ji6) ≤ 64 → (wrap64 ((wrap64 (bt a0 x8_1)) * 2 ^ (ji6).toNat)) = ji8 := fun h_ => (i64_w _).symm.trans (hji8z h_)
       have H' := z4 H
       clear H
       have p5 : 0 ≤ (x8_1 : Int) := of_decide_eq_true (by first | (with_reducible assumption) | assumption)
       have q5 : x8_1 < (a0.size : Int) := of_decide_eq_true (by first | (with_reducible assumption) | assumption)
       have hx5 := bt_at a0 x8_1
       replace p5 := eq_true p5
       replace q5 := eq_true q5
       go_wp2
       go_roundg k1
       case measure => have := HK1.out; omega
       case rel => exact ⟨(Go.bits .or .i64 x4_1 (ji8)), (wrap64 (x8_1 + 1)), (by first | rfl | (simp; done) | (simp only [← hji8] <;> (first | rfl | simp)) | (simp [*]; done)), (by first | rfl | (simp; done) | (simp [*]; done)), H', ⟨by have := HK1.out; omega⟩, by repeat (first | exact Drawn0.refl _ | apply Drawn0.step)⟩
      ·rw [if_neg c7] at H
       exact absurd H (by simp)
     ·rw [if_neg c4] at H
      exact absurd H (by simp)
    ·rw [if_neg c3] at H
     exact absurd H (by simp)
   ·rw [if_neg c2] at H
    have c2b0 : decide (x8_1 < (a0.size : Int)) = false := decide_eq_false c2
    clear c2
    by_cases c9 : (a0.size : Int) = 1
    ·rw [if_pos c9] at H
     have c9b0 : ((a0.size : Int) == 1) = true := z5 c9
     have c9b1 : ((a0.size : Int) != 1) = false := z6 c9
     clear c9
     simp only [Option.some.injEq, Prod.mk.injEq] at H
     obtain ⟨rfl, rfl⟩ := H
     go_wp2
     go_ret2
     exact ⟨by first | rfl | (simp; done) | (simp [*]; done), by repeat (first | exact Drawn0.refl _ | apply Drawn0.step)⟩
    ·rw [if_neg c9] at H
     have c9b0 : ((a0.size : Int) == 1) = false := z7 c9
     have c9b1 : ((a0.size : Int) != 1) = true := bne_iff_ne.mpr c9
     by_cases c10 : (a0.size : Int) = 4
     ·rw [if_pos c10] at H
      have c10b0 : ((a0.size : Int) == 4) = true := z5 c10
      have c10b1 : ((a0.size : Int) != 4) = false := z6 c10
      clear c10
      simp only [Option.some.injEq, Prod.mk.injEq] at H
      obtain ⟨rfl, rfl⟩ := H
      go_wp2
      go_ret2
      exact ⟨by first | rfl | (simp; done) | (simp [*]; done), by repeat (first | exact Drawn0.refl _ | apply Drawn0.step)⟩
     ·rw [if_neg c10] at H
      have c10b0 : ((a0.size : Int) == 4) = false := z7 c10
      have c10b1 : ((a0.size : Int) != 4) = true := bne_iff_ne.mpr c10
      by_cases c11 : (a0.size : Int) = 8
      ·rw [if_pos c11] at H
       have c11b0 : ((a0.size : Int) == 8) = true := z5 c11
       have c11b1 : ((a0.size : Int) != 8) = false := z6 c11
       clear c11
       simp only [Option.some.injEq, Prod.mk.injEq] at H
       obtain ⟨rfl, rfl⟩ := H
       go_wp2
       go_ret2
       exact ⟨by first | rfl | (simp; done) | (simp [*]; done), by repeat (first | exact Drawn0.refl _ | apply Drawn0.step)⟩
      ·rw [if_neg c11] at H
       have c11b0 : ((a0.size : Int) == 8) = false := z7 c11
       have c11b1 : ((a0.size : Int) != 8) = true := bne_iff_ne.mpr c11
       simp only [Option.some.injEq, Prod.mk.injEq] at H
       obtain ⟨rfl, rfl⟩ := H
       go_wp2
       go_ret2
       exact ⟨by first | rfl | (simp; done) | (simp [*]; done), by repeat (first | exact Drawn0.refl _ | apply Drawn0.step)⟩
def ins_isRegister.f (a0 : Int) : Option (Bool) := if a0 ≥ 0 then (some (decide (a0 < 8))) else (some false)
set_option maxHeartbeats 8000000 in
set_option maxRecDepth 100000 in
theorem ins_isRegister.calls (a0 : Int) (r : Bool) (w : World) (h : ins_isRegister.f a0 = some r) :
 Calls Tryd.prog 93 #[.int .i64 a0] w fun e w' => e = .returned (.bool r) ∧ Drawn0 w w' := by
 have H : (if a0 ≥ 0 then (some (decide (a0 < 8))) else (some false)) = some r := h
 clear h
 by_cases c2 : a0 ≥ 0
 ·rw [if_pos c2] at H
  have c2b0 : decide (0 ≤ a0) = true := decide_eq_true c2
  clear c2
  obtain rfl := Option.some.inj H
  go_enter Tryd.func93, Tryd.ntmps93
  go_wp2
  go_ret
  exact ⟨by first | rfl | (simp; done) | (simp [*]; done), by repeat (first | exact Drawn0.refl _ | apply Drawn0.step)⟩
 ·rw [if_neg c2] at H
  have c2b0 : decide (0 ≤ a0) = false := decide_eq_false c2
  clear c2
  obtain rfl := Option.some.inj H
  go_enter Tryd.func93, Tryd.ntmps93
  go_wp2
  go_ret
  exact ⟨by first | rfl | (simp; done) | (simp [*]; done), by repeat (first | exact Drawn0.refl _ | apply Drawn0.step)⟩
end Go.Proofs.YtimhcpmfhebbhaaDoor.M
namespace Go.Proofs.YtimhcpmfhebbhaaDoor.Word1
open Go.RowKit Go.Proofs.YtimhcpmfhebbhaaDoor.M Go.Proofs.YtimhcpmfhebbhaaDoor.Num Go.Proofs.YtimhcpmfhebbhaaDoor.Seven Go.Proofs.YtimhcpmfhebbhaaDoorW.PrintWords Go.Proofs.YtimhcpmfhebbhaaDoorW.PrintLast
def Fits (n size : Int) : Prop := size = 1 ∧ -128 ≤ n ∧ n < 128 ∨ size = 4 ∧ -2147483648 ≤ n ∧ n < 2147483648 ∨ size = 8
instance (n size : Int) : Decidable (Fits n size) := by unfold Fits; exact inferInstance
/-- What Bytes answers. -/
def bytesR (n size : Int) : ByteArray × Int :=
 if size = 1 ∨ size = 4 ∨ size = 8 then if Fits n size then (strOfNums (leL n size.toNat), 0) else (⟨#[]⟩, 7) else (⟨#[]⟩, 1)
theorem shr_bytes (n : Int) (i : Nat) (h : i ≤ 8) : shr .i64 n (8 * (i : Int)) = n / 256 ^ i := by
 unfold shr
 have e : (8 * (i : Int)).toNat = 8 * i := by omega
 have hm : min (8 * i) IntKind.i64.bits = 8 * i := Nat.min_eq_left (by have : IntKind.i64.bits = 64 := rfl; omega)
 rw [e, hm, Int.pow_mul]
 rfl
theorem bytes_l0 (n : Int) (s : Nat) (hs : s ≤ 8) : ∀ (d k i : Nat), s - i = d → i ≤ s → d < k →
 word_Bytes.l0 k n (leL n i ++ List.replicate (s - i) 0) (s : Int) i = some (strOfNums (leL n s), 0) := by
 intro d
 induction d with
 | zero =>
  intro k i hd hi hk
  obtain ⟨k, rfl⟩ : ∃ m, k = m + 1 := ⟨k - 1, by omega⟩
  obtain rfl : i = s := by omega
  simp only [word_Bytes.l0]
  rw [if_neg (by omega), Nat.sub_self]
  simp
 | succ d ih =>
  intro k i hd hi hk
  obtain ⟨k, rfl⟩ : ∃ m, k = m + 1 := ⟨k - 1, by omega⟩
  simp only [word_Bytes.l0]
  have hw : wrap64 (8 * (i : Int)) = 8 * i := wrap64_id (by omega) (by omega)
  have hl : (leL n i ++ List.replicate (s - i) 0).length = s := by rw [List.length_append, leL_len, List.length_replicate]; omega
  rw [hw, hl, if_pos (by omega), if_pos (by omega), if_pos (by omega), if_pos (by omega), shr_bytes n i (by omega), wrap64_id (by omega) (by omega), show ((i : Int) + 1) = ((i + 1 : Nat) : Int) by omega]
  have e : (leL n i ++ List.replicate (s - i) 0).set (i : Int).toNat (n / 256 ^ i % 256) = leL n (i + 1) ++ List.replicate (s - (i + 1)) 0 := by
   rw [Int.toNat_natCast, List.set_append_right _ _ (by rw [leL_len]; exact Nat.le_refl _), leL_len, Nat.sub_self, show s - i = (s - (i + 1)) + 1 by omega, List.replicate_succ, z2, leL_snoc]
   simp
  rw [e]
  exact ih k (i + 1) (by omega) (by omega) (by omega)
theorem bytes_f (n size : Int) (h0 : -9223372036854775808 ≤ n) (h1 : n < 9223372036854775808) (k : Nat) (hk : 9 < k) : word_Bytes.f k n size = some (bytesR n size) := by
 obtain ⟨k, rfl⟩ : ∃ m, k = m + 1 := ⟨k - 1, by omega⟩
 have hj : ∀ s : Nat, s ≤ 8 → word_Bytes.j0 (k + 1) n s = some (strOfNums (leL n s), 0) := by
  intro s hs
  simp only [word_Bytes.j0]
  rw [if_pos (by omega), if_pos (by omega)]
  simp only [Option.bind_some, List.length_replicate, Int.toNat_natCast]
  have h := bytes_l0 n s hs s k 0 (by omega) (by omega) (by omega)
  simpa [leL] using h
 unfold word_Bytes.f bytesR
 by_cases e1 : size = 1
 ·subst e1
  have := hj 1 (by omega)
  by_cases hf : -128 ≤ n ∧ n < 128
  ·rw [if_pos rfl, if_pos (by rw [wrap_i8]; unfold wrap64; omega), if_pos (by omega), if_pos (by unfold Fits; omega)]
   exact this
  ·rw [if_pos rfl, if_neg (by rw [wrap_i8]; unfold wrap64; omega), if_pos (by omega), if_neg (by unfold Fits; omega)]
 ·rw [if_neg e1]
  by_cases e4 : size = 4
  ·subst e4
   have := hj 4 (by omega)
   by_cases hf : -2147483648 ≤ n ∧ n < 2147483648
   ·rw [if_pos rfl, if_pos (by unfold wrap64 wrap32; omega), if_pos (by omega), if_pos (by unfold Fits; omega)]
    exact this
   ·rw [if_pos rfl, if_neg (by unfold wrap64 wrap32; omega), if_pos (by omega), if_neg (by unfold Fits; omega)]
  ·rw [if_neg e4]
   by_cases e8 : size = 8
   ·subst e8
    rw [if_pos rfl, if_pos (by omega), if_pos (by unfold Fits; omega)]
    exact hj 8 (by omega)
   ·rw [if_neg e8, if_neg (by omega)]
/-- What Number answers. -/
def numR (s : ByteArray) : Int × Int :=
 if s.size = 1 then ((unleL (bytesOf s) + 128) % 256 - 128, 0)
 else if s.size = 4 then ((unleL (bytesOf s) + 2147483648) % 4294967296 - 2147483648, 0)
 else if s.size = 8 then (wrap64 (unleL (bytesOf s)), 0)
 else (0, 1)
theorem take_snoc_bytes (s : ByteArray) (i : Nat) (h : i < s.size) : (bytesOf s).take (i + 1) = (bytesOf s).take i ++ [bt s i] := by
 have hl : i < (bytesOf s).length := by rw [bytesOf_length]; exact h
 rw [List.take_succ_eq_append_getElem hl, ← rd_bytesOf]
 unfold rd
 rw [Int.toNat_natCast, List.getD_eq_getElem?_getD, List.getElem?_eq_getElem hl]
 rfl
theorem shl_bytes (b : Int) (i : Nat) (h0 : 0 ≤ b) (h1 : b < 256) (h : i ≤ 7) : shl .i64 (wrap64 b) (wrap64 (8 * (i : Int))) = wrap64 (b * 256 ^ i) := by
 unfold shl
 have hw : wrap64 (8 * (i : Int)) = 8 * i := wrap64_id (by omega) (by omega)
 have e : (8 * (i : Int)).toNat = 8 * i := by omega
 have hm : min (8 * i) IntKind.i64.bits = 8 * i := Nat.min_eq_left (by have : IntKind.i64.bits = 64 := rfl; omega)
 rw [hw, e, hm, Int.pow_mul, wrap_i64, wrap64_id (n := b) (by omega) (by omega)]
 rfl
theorem number_bad (s : ByteArray) (hs : s.size ≤ 140737488351232) (hb : ¬ (s.size = 1 ∨ s.size = 4 ∨ s.size = 8)) : ∀ (d k i : Nat) (x : Int), s.size - i = d → i ≤ s.size → d < k →
 word_Number.l0 k s x (s.size : Int) i = some (0, 1) := by
 intro d
 induction d with
 | zero =>
  intro k i x hd hi hk
  obtain ⟨k, rfl⟩ : ∃ m, k = m + 1 := ⟨k - 1, by omega⟩
  simp only [word_Number.l0]
  rw [if_neg (by omega), if_neg (by omega), if_neg (by omega), if_neg (by omega)]
 | succ d ih =>
  intro k i x hd hi hk
  obtain ⟨k, rfl⟩ : ∃ m, k = m + 1 := ⟨k - 1, by omega⟩
  simp only [word_Number.l0]
  have hw : wrap64 (8 * (i : Int)) = 8 * i := wrap64_id (by omega) (by omega)
  rw [if_pos (by omega), if_pos (by omega), if_pos (by omega), if_pos (by rw [hw]; omega), wrap64_id (n := (i : Int) + 1) (by omega) (by omega), show ((i : Int) + 1) = ((i + 1 : Nat) : Int) by omega]
  exact ih k (i + 1) _ (by omega) (by omega) (by omega)
theorem number_l0 (s : ByteArray) (hs : s.size ≤ 8) (hg : s.size = 1 ∨ s.size = 4 ∨ s.size = 8) : ∀ (d k i : Nat), s.size - i = d → i ≤ s.size → d < k →
 word_Number.l0 k s (wrap64 (unleL ((bytesOf s).take i))) (s.size : Int) i = some (numR s) := by
 intro d
 induction d with
 | zero =>
  intro k i hd hi hk
  obtain ⟨k, rfl⟩ : ∃ m, k = m + 1 := ⟨k - 1, by omega⟩
  obtain rfl : i = s.size := by omega
  have hr := unleL_range _ (bytesOf_Bs s)
  rw [bytesOf_length] at hr
  simp only [word_Number.l0]
  rw [if_neg (by omega), List.take_of_length_le (by rw [bytesOf_length]; exact Nat.le_refl _)]
  unfold numR
  rcases hg with h | h | h
  ·rw [if_pos (by omega), if_pos h, wrap_i8]
   rw [h] at hr
   unfold wrap64
   congr 2
   omega
  ·rw [if_neg (by omega), if_pos (by omega), if_neg (by omega), if_pos h]
   rw [h] at hr
   unfold wrap32 wrap64
   congr 2
   omega
  ·rw [if_neg (by omega), if_neg (by omega), if_pos (by omega), if_neg (by omega), if_neg (by omega), if_pos h]
 | succ d ih =>
  intro k i hd hi hk
  obtain ⟨k, rfl⟩ : ∃ m, k = m + 1 := ⟨k - 1, by omega⟩
  simp only [word_Number.l0]
  have hw : wrap64 (8 * (i : Int)) = 8 * i := wrap64_id (by omega) (by omega)
  have hbr := bt_range s i
  have hr := unleL_range _ ((bytesOf_Bs s).take i)
  have hl : ((bytesOf s).take i).length = i := by rw [z9b, bytesOf_length]; omega
  rw [hl] at hr
  rw [if_pos (by omega), if_pos (by omega), if_pos (by omega), if_pos (by rw [hw]; omega), wrap64_id (n := (i : Int) + 1) (by omega) (by omega), show ((i : Int) + 1) = ((i + 1 : Nat) : Int) by omega,
   shl_bytes _ i (by omega) (by omega) (by omega), or_join _ _ i (by omega) hr.1 hr.2 (by omega) (by omega)]
  have e := unleL_snoc ((bytesOf s).take i) (bt s i)
  rw [hl, ← take_snoc_bytes s i (by omega)] at e
  rw [← e]
  exact ih k (i + 1) (by omega) (by omega) (by omega)
theorem number_f (s : ByteArray) (hs : s.size ≤ 140737488351232) (k : Nat) (hk : s.size < k) : word_Number.f k s = some (numR s) := by
 unfold word_Number.f
 by_cases hg : s.size = 1 ∨ s.size = 4 ∨ s.size = 8
 ·have h := number_l0 s (by omega) hg s.size k 0 (by omega) (by omega) hk
  simpa [unleL, wrap64] using h
 ·have h := number_bad s hs hg s.size k 0 0 (by omega) (by omega) hk
  unfold numR
  rw [if_neg (by omega), if_neg (by omega), if_neg (by omega)]
  exact h
/-- Number turns Bytes back. -/
theorem num_bytes (n size : Int) (h0 : -9223372036854775808 ≤ n) (h1 : n < 9223372036854775808) (h : Fits n size) : numR (bytesR n size).1 = (n, 0) := by
 unfold bytesR
 have hz : size = 1 ∨ size = 4 ∨ size = 8 := by unfold Fits at h; omega
 rw [if_pos hz, if_pos h]
 simp only [numR, strOfNums_size, leL_len]
 rw [bytesOf_str (leL_bs _ _), unleL_leL]
 rcases h with ⟨rfl, h⟩ | ⟨rfl, h⟩ | rfl
 ·rw [if_pos (by omega)]
  have e : (1 : Int).toNat = 1 := rfl
  rw [e]
  congr 1
  omega
 ·rw [if_neg (by omega), if_pos (by omega)]
  have e : (4 : Int).toNat = 4 := rfl
  rw [e]
  congr 1
  omega
 ·rw [if_neg (by omega), if_neg (by omega), if_pos (by omega)]
  have e : (8 : Int).toNat = 8 := rfl
  rw [e]
  unfold wrap64
  congr 1
  omega
end Go.Proofs.YtimhcpmfhebbhaaDoor.Word1
namespace Go.Proofs.YtimhcpmfhebbhaaDoor.M
set_option maxRecDepth 100000
open Go.RowKit Go.Proofs.YtimhcpmfhebbhaaDoorW.PrintWords Go.Proofs.YtimhcpmfhebbhaaDoorW.PrintLast Go.Proofs.YtimhcpmfhebbhaaDoor.Num Go.Proofs.YtimhcpmfhebbhaaDoor.Seven Go.Proofs.YtimhcpmfhebbhaaDoor.Word1 Go.Proofs.YtimhcpmfhebbhaaDoor.Obj
set_option linter.unusedVariables false
set_option linter.unusedSimpArgs false
def wordsOk (l : List Int) : Prop := ∀ n ∈ l, -9223372036854775808 ≤ n ∧ n < 9223372036854775808
instance (l : List Int) : Decidable (wordsOk l) := by unfold wordsOk; exact inferInstance
def textL (s : ByteArray) : List Int := putL s.size ++ bytesOf s
def symL (s : S68) : List Int := textL s.f0 ++ [s.f1 % 256] ++ putL s.f2.toNat
def relL (r : S116) : List Int := putL r.f0.toNat ++ [r.f1 % 256] ++ textL r.f2 ++ leL r.f3 8
def dataL (l : List Int) : List Int := l.flatMap fun n => leL n 8
def symsL (l : List S68) : List Int := l.flatMap symL
def relsL (l : List S116) : List Int := l.flatMap relL
def front0 (mark : List Int) (code : ByteArray) (data : List Int) : List Int := mark ++ textL code ++ putL data.length
def front1 (mark : List Int) (code : ByteArray) (data : List Int) (syms : List S68) : List Int := front0 mark code data ++ dataL data ++ putL syms.length
def front (mark : List Int) (code : ByteArray) (data : List Int) (syms : List S68) : List Int := front1 mark code data syms ++ symsL syms
def form (mark : List Int) (code : ByteArray) (data : List Int) (syms : List S68) (rels : List S116) : List Int := front mark code data syms ++ putL rels.length ++ relsL rels
def COT1 : List Int := [67, 79, 84, 49]
theorem symGood_named {code data : Int} {s : S68} (h : symGood code data s = true) : named s.f0 ∧ 0 ≤ s.f2 ∧ s.f2 < (if s.f1 = 2 then data else code) ∧ (s.f1 = 1 ∨ s.f1 = 2 ∨ s.f1 = 3) := by
 unfold symGood at h
 simp only [Bool.and_eq_true, decide_eq_true_eq] at h
 exact ⟨h.1.1.2, h.1.2, h.2, h.1.1.1⟩
theorem put_small {n : Nat} (h : n < 18446744073709551616) : (putL n).length ≤ 10 := putL_ten h
theorem bytes8 (n : Int) (h : -9223372036854775808 ≤ n ∧ n < 9223372036854775808) : word_Bytes.f 10 n 8 = some (strOfNums (leL n 8), 0) := by
 rw [bytes_f n 8 h.1 h.2 10 (by omega)]
 unfold bytesR
 rw [if_pos (by omega), if_pos (by unfold Fits; omega)]
 rfl
theorem put8 (n : Nat) (h : n < 18446744073709551616) : word_Put.f 10 (IntKind.u64.wrap (n : Int)) = some (strOfNums (putL n)) := by
 rw [wrap_u64_id (by omega) (by omega)]
 exact Put_f h (by omega)
theorem put8' (n : Int) (h0 : 0 ≤ n) (h : n < 18446744073709551616) : word_Put.f 10 (IntKind.u64.wrap n) = some (strOfNums (putL n.toNat)) := by
 have := put8 n.toNat (by omega)
 rwa [Int.toNat_of_nonneg h0] at this
theorem of_strPut (n : Nat) : bytesOf (strOfNums (putL n)) = putL n := bytesOf_str (putL_bs n)
theorem of_strLe (n : Int) (s : Nat) : bytesOf (strOfNums (leL n s)) = leL n s := bytesOf_str (leL_bs n s)
theorem str_size (l : List Int) (h : Bs l) : (strOfNums l).size = l.length := by rw [← bytesOf_length, bytesOf_str h]
theorem flat_snoc {α : Type} (f : α → List Int) (l : List α) (k : Nat) (h : k < l.length) : (l.take (k + 1)).flatMap f = (l.take k).flatMap f ++ f l[k] := by
 rw [List.take_succ_eq_append_getElem h, List.flatMap_append, List.flatMap_cons, List.flatMap_nil, List.append_nil]
theorem dataL_snoc (l : List Int) (k : Nat) (h : k < l.length) : dataL (l.take (k + 1)) = dataL (l.take k) ++ leL l[k] 8 := flat_snoc _ l k h
theorem symsL_snoc (l : List S68) (k : Nat) (h : k < l.length) : symsL (l.take (k + 1)) = symsL (l.take k) ++ symL l[k] := flat_snoc _ l k h
theorem dataL_len (l : List Int) : (dataL l).length = 8 * l.length := by
 induction l with
 | nil => rfl
 | cons n l ih =>
  have e : dataL (n :: l) = leL n 8 ++ dataL l := rfl
  rw [e, List.length_append, ih, leL_len, List.length_cons]
  omega
theorem textL_len (s : ByteArray) (h : s.size < 18446744073709551616) : (textL s).length ≤ 10 + s.size := by
 unfold textL
 rw [List.length_append, bytesOf_length]
 have := put_small h
 omega
theorem symL_len (s : S68) (h : named s.f0) (h2 : s.f2 < 18446744073709551616) : (symL s).length ≤ 49 := by
 unfold symL
 rw [List.length_append, List.length_append]
 have h1 := textL_len s.f0 (by have := h.2; omega)
 have h3 := put_small (n := s.f2.toNat) (by omega)
 have := h.2
 simp only [List.length_cons, List.length_nil]
 omega
theorem symsL_len (l : List S68) (h : ∀ s ∈ l, named s.f0 ∧ s.f2 < 18446744073709551616) : (symsL l).length ≤ 49 * l.length := by
 induction l with
 | nil => exact Nat.le_refl _
 | cons s l ih =>
  have e : symsL (s :: l) = symL s ++ symsL l := rfl
  have h1 := symL_len s (h s (by simp)).1 (h s (by simp)).2
  have h2 := ih (fun t ht => h t (by simp [ht]))
  rw [e, List.length_append, List.length_cons]
  omega
/-- What relocations that may be are, one by one. -/
theorem relsOk_all : ∀ (l : List S116) (code free : Int), 0 ≤ free → relsOk code free l = true → ∀ r ∈ l, named r.f2 ∧ 0 ≤ r.f0 ∧ r.f0 ≤ code - 4 ∧ (r.f1 = 1 ∨ r.f1 = 2) ∧ -9223372036854775808 ≤ r.f3 ∧ r.f3 < 9223372036854775808 := by
 intro l
 induction l with
 | nil => intro _ _ _ _ r hr; cases hr
 | cons x l ih =>
  intro code free hf h r hr
  simp only [relsOk, Bool.and_eq_true, decide_eq_true_eq] at h
  obtain ⟨⟨h1, h2, h3, h4⟩, h5⟩ := h
  rcases List.mem_cons.1 hr with rfl | hr
  ·exact ⟨h1, by omega, h3, by omega, by omega, by omega⟩
  ·exact ih code (x.f0 + 4) (by omega) h5 r hr
theorem may_parts {code : ByteArray} {data : List Int} {syms : List S68} {rels : List S116} (h : may code data syms rels = true) :
 code.size ≤ 65536 ∧ data.length ≤ 4096 ∧ syms.length ≤ 1000 ∧ rels.length ≤ 8000 ∧
 (∀ s ∈ syms, named s.f0 ∧ 0 ≤ s.f2 ∧ s.f2 < 65536 ∧ (s.f1 = 1 ∨ s.f1 = 2 ∨ s.f1 = 3)) ∧
 (∀ r ∈ rels, named r.f2 ∧ 0 ≤ r.f0 ∧ r.f0 < 65536 ∧ (r.f1 = 1 ∨ r.f1 = 2) ∧ -9223372036854775808 ≤ r.f3 ∧ r.f3 < 9223372036854775808) := by
 unfold may symsOk at h
 simp only [Bool.and_eq_true, decide_eq_true_eq] at h
 obtain ⟨⟨⟨⟨h1, h2⟩, ⟨h3, h4⟩, h5⟩, h6⟩, h7⟩ := h
 refine ⟨h1, h2, h5, h7, fun s hs => ?_, fun r hr => ?_⟩
 ·have := symGood_named (List.all_eq_true.1 h3 s hs)
  refine ⟨this.1, this.2.1, ?_, this.2.2.2⟩
  have h8 := this.2.2.1
  split at h8 <;> omega
 ·have := relsOk_all rels _ 0 (by omega) h6 r hr
  exact ⟨this.1, this.2.1, by omega, this.2.2.2.1, this.2.2.2.2.1, this.2.2.2.2.2⟩
end Go.Proofs.YtimhcpmfhebbhaaDoor.M
namespace Go.Proofs.YtimhcpmfhebbhaaDoor.M
open Go.RowKit Go.Proofs.YtimhcpmfhebbhaaDoorW.PrintWords Go.Proofs.YtimhcpmfhebbhaaDoorW.PrintLast
set_option linter.unusedVariables false
set_option linter.unusedSimpArgs false
mutual
def cotterref01_Take.j0 : Nat → ByteArray → Int → Bool → Option (Int × Int × Int)
 | 0, _, _, _ => none
 | k + 1, x0, x1, x17 => if x17 = true then (some (0, 0, 1)) else (cotterref01_Take.l0 k x0 x1 0 0)
def cotterref01_Take.l0 : Nat → ByteArray → Int → Int → Int → Option (Int × Int × Int)
 | 0, _, _, _, _ => none
 | k + 1, x0, x1, x7, x8 => if x8 < 10 then (cotterref01_Take.j2 k x0 x1 x7 x8 (decide ((wrap64 (x1 + x8)) < (x0.size : Int)))) else (cotterref01_Take.j2 k x0 x1 x7 x8 false)
def cotterref01_Take.j2 : Nat → ByteArray → Int → Int → Int → Bool → Option (Int × Int × Int)
 | 0, _, _, _, _, _ => none
 | k + 1, x0, x1, x7, x8, x27 => if x27 = true then (if 0 ≤ (wrap64 (x1 + x8)) then (if (wrap64 (x1 + x8)) < (x0.size : Int) then (if x8 = 9 then (cotterref01_Take.j3 k x0 x1 x7 x8 (bt x0 (wrap64 (x1 + x8))) (decide ((bt x0 (wrap64 (x1 + x8))) > 1))) else (cotterref01_Take.j3 k x0 x1 x7 x8 (bt x0 (wrap64 (x1 + x8))) false)) else (none)) else (none)) else (some (0, 0, 9))
def cotterref01_Take.j3 : Nat → ByteArray → Int → Int → Int → Int → Bool → Option (Int × Int × Int)
 | 0, _, _, _, _, _, _ => none
 | k + 1, x0, x1, x7, x8, x9, x40 => if x40 = true then (some (0, 0, 9)) else (if 0 ≤ (IntKind.u64.wrap (wrap64 (7 * x8))) then (if x9 < 128 then (if x9 = 0 then (if x8 > 0 then (some (0, 0, 9)) else (some (IntKind.u64.wrap (x7 + (shl .u64 (IntKind.u64.wrap (Int.tmod x9 128)) (IntKind.u64.wrap (wrap64 (7 * x8))))), wrap64 ((wrap64 (x1 + x8)) + 1), 0))) else (some (IntKind.u64.wrap (x7 + (shl .u64 (IntKind.u64.wrap (Int.tmod x9 128)) (IntKind.u64.wrap (wrap64 (7 * x8))))), wrap64 ((wrap64 (x1 + x8)) + 1), 0))) else (cotterref01_Take.l0 k x0 x1 (IntKind.u64.wrap (x7 + (shl .u64 (IntKind.u64.wrap (Int.tmod x9 128)) (IntKind.u64.wrap (wrap64 (7 * x8)))))) (wrap64 (x8 + 1)))) else (none))
end
def cotterref01_Take.f (k : Nat) (a0 : ByteArray) (a1 : Int) : Option (Int × Int × Int) := if a1 < 0 then (cotterref01_Take.j0 k a0 a1 true) else (cotterref01_Take.j0 k a0 a1 (decide (a1 > (a0.size : Int))))
set_option maxHeartbeats 8000000 in
set_option maxRecDepth 100000 in
theorem cotterref01_Take.calls (k : Nat) (a0 : ByteArray) (a1 : Int) (r1 : Int) (r2 : Int) (r3 : Int) (w : World) (h : cotterref01_Take.f k a0 a1 = some (r1, r2, r3)) :
 Calls Tryd.prog 80 #[.string a0, .int .i64 a1] w fun e w' => e = .returned (.tuple #[.int .u64 r1, .int .i64 r2, .int .i64 r3]) ∧ Drawn0 w w' := by
 have H : (if a1 < 0 then (cotterref01_Take.j0 k a0 a1 true) else (cotterref01_Take.j0 k a0 a1 (decide (a1 > (a0.size : Int))))) = some (r1, r2, r3) := h
 clear h
 have HC3 := z4 H
 clear H
 go_enter Tryd.func80, Tryd.ntmps80
 go_upto_region 1 with (fail)
 go_cut [17] (fun v17 wc => ∃ (kq : Nat) (x17_2 : Bool), v17 = .bool x17_2 ∧ Aside0 (cotterref01_Take.j0 kq a0 a1 x17_2 = some (r1, r2, r3)) ∧ Aside0 (kq ≤ k) ∧ Drawn0 w wc)
 case first =>
  have H := HC3.out
  clear HC3
  by_cases c4 : a1 < 0
  ·rw [if_pos c4] at H
   have c4b0 : decide (a1 < 0) = true := decide_eq_true c4
   clear c4
   (first | rw [c4b0] | (simp only [i64_w, i32_w]; rw [c4b0]) | skip)
   have H' := z4 H
   clear H
   go_wp2
   go_meet
   case rel => exact ⟨_, (true), (by first | rfl | (simp; done) | (simp [*]; done)), H', ⟨by first | omega | exact Nat.le_refl _⟩, by repeat (first | exact Drawn0.refl _ | apply Drawn0.step)⟩
  ·rw [if_neg c4] at H
   have c4b0 : decide (a1 < 0) = false := decide_eq_false c4
   clear c4
   (first | rw [c4b0] | (simp only [i64_w, i32_w]; rw [c4b0]) | skip)
   have H' := z4 H
   clear H
   go_wp2
   go_meet
   case rel => exact ⟨_, (decide (a1 > (a0.size : Int))), (by first | rfl | (simp; done) | (simp [*]; done)), H', ⟨by first | omega | exact Nat.le_refl _⟩, by repeat (first | exact Drawn0.refl _ | apply Drawn0.step)⟩
 case rest =>
  clear HC3
  try clear p2
  try clear c4
  try clear c4b0
  obtain ⟨kq, x17_2, rfl, HA, HJ2, ⟨mc2, rfl⟩⟩ := hcut
  cases kq with
  | zero => exact absurd HA.out (by simp [cotterref01_Take.j0])
  | succ kj2 =>
   have H := HA.out
   clear HA
   simp only [cotterref01_Take.j0] at H
   by_cases c5 : x17_2 = true
   ·subst c5
    have H1 : (some (0, 0, 1)) = some (r1, r2, r3) := by rw [if_pos rfl] at H; exact H
    clear H
    have H := H1
    clear H1
    simp only [Option.some.injEq, Prod.mk.injEq] at H
    obtain ⟨rfl, rfl, rfl⟩ := H
    go_wp2
    go_ret3
    exact ⟨by first | rfl | (simp; done) | (simp [*]; done), by repeat (first | exact Drawn0.refl _ | apply Drawn0.step)⟩
   ·replace c5 := Bool.eq_false_iff.mpr c5
    subst c5
    have H1 : (cotterref01_Take.l0 kj2 a0 a1 0 0) = some (r1, r2, r3) := by rw [if_neg (show ¬ (false = true) by decide)] at H; exact H
    clear H
    have H := H1
    clear H1
    have H' := z4 H
    clear H
    go_wp2
    go_loopg [7, 8] kj2 (fun kq v7 v8 w' => ∃ (x7_2 : Int) (x8_2 : Int), v7 = .int .u64 x7_2 ∧ v8 = .int .i64 x8_2 ∧ Aside0 (cotterref01_Take.l0 kq a0 a1 x7_2 x8_2 = some (r1, r2, r3)) ∧ Aside0 (kq ≤ kj2) ∧ Drawn0 w w')
    case atStart => exact ⟨(0), (0), (by first | rfl | (simp; done) | (simp [*]; done)), (by first | rfl | (simp; done) | (simp [*]; done)), H', ⟨Nat.le_refl _⟩, by repeat (first | exact Drawn0.refl _ | apply Drawn0.step)⟩
    case round =>
     clear H'
     try clear c2
     try clear p2
     try clear c4
     try clear c4b0
     try clear c5
     try clear p2
     obtain ⟨x7_2, x8_2, rfl, rfl, HA, HK2, ⟨m2, rfl⟩⟩ := hrel
     cases gk with
     | zero => exact absurd HA.out (by simp [cotterref01_Take.l0])
     | succ k2 =>
      have H := HA.out
      clear HA
      simp only [cotterref01_Take.l0] at H
      have HC6 := z4 H
      clear H
      go_upto_region 5 with (fail)
      go_cut [27] (fun v27 wc => ∃ (kq : Nat) (x27_5 : Bool), v27 = .bool x27_5 ∧ Aside0 (cotterref01_Take.j2 kq a0 a1 x7_2 x8_2 x27_5 = some (r1, r2, r3)) ∧ Aside0 (kq ≤ k2) ∧ Drawn0 w wc)
      case first =>
       have H := HC6.out
       clear HC6
       by_cases c7 : x8_2 < 10
       ·rw [if_pos c7] at H
        have c7b0 : decide (x8_2 < 10) = true := decide_eq_true c7
        clear c7
        (first | rw [c7b0] | (simp only [i64_w, i32_w]; rw [c7b0]) | skip)
        have H' := z4 H
        clear H
        go_wp2
        go_meet
        case rel => exact ⟨_, (decide ((wrap64 (a1 + x8_2)) < (a0.size : Int))), (by first | rfl | (simp; done) | (simp [*]; done)), H', ⟨by have := HJ2.out; have := HK2.out; first | omega | exact Nat.le_refl _⟩, by repeat (first | exact Drawn0.refl _ | apply Drawn0.step)⟩
       ·rw [if_neg c7] at H
        have c7b0 : decide (x8_2 < 10) = false := decide_eq_false c7
        clear c7
        (first | rw [c7b0] | (simp only [i64_w, i32_w]; rw [c7b0]) | skip)
        have H' := z4 H
        clear H
        go_wp2
        go_meet
        case rel => exact ⟨_, (false), (by first | rfl | (simp; done) | (simp [*]; done)), H', ⟨by have := HJ2.out; have := HK2.out; first | omega | exact Nat.le_refl _⟩, by repeat (first | exact Drawn0.refl _ | apply Drawn0.step)⟩
      case rest =>
       clear HC6
       try clear c2
       try clear p2
       try clear c4
       try clear c4b0
       try clear c5
       try clear p6
       try clear c7
       try clear c7b0
       try clear p2
       obtain ⟨kq, x27_5, rfl, HA, HJ5, ⟨mc5, rfl⟩⟩ := hcut
       cases kq with
       | zero => exact absurd HA.out (by simp [cotterref01_Take.j2])
       | succ kj5 =>
        have H := HA.out
        clear HA
        simp only [cotterref01_Take.j2] at H
        by_cases c8 : x27_5 = true
        ·subst c8
         have H1 : (if 0 ≤ (wrap64 (a1 + x8_2)) then (if (wrap64 (a1 + x8_2)) < (a0.size : Int) then (if x8_2 = 9 then (cotterref01_Take.j3 kj5 a0 a1 x7_2 x8_2 (bt a0 (wrap64 (a1 + x8_2))) (decide ((bt a0 (wrap64 (a1 + x8_2))) > 1))) else (cotterref01_Take.j3 kj5 a0 a1 x7_2 x8_2 (bt a0 (wrap64 (a1 + x8_2))) false)) else (none)) else (none)) = some (r1, r2, r3) := by rw [if_pos rfl] at H; exact H
         clear H
         have H := H1
         clear H1
         obtain ⟨ji9, hji9⟩ : ∃ j_ : Int, (wrap64 (a1 + x8_2)) = j_ := ⟨_, rfl⟩
         replace H : (if 0 ≤ (ji9) then (if (ji9) < (a0.size : Int) then (if x8_2 = 9 then (cotterref01_Take.j3 kj5 a0 a1 x7_2 x8_2 (bt a0 (ji9)) (decide ((bt a0 (ji9)) > 1))) else (cotterref01_Take.j3 kj5 a0 a1 x7_2 x8_2 (bt a0 (ji9)) false)) else (none)) else (none)) = some (r1, r2, r3) := by first | (rw [hji9] at H; exact H) | (simp only [hji9] at H ⊢; exact H)
         have hji9w : (IntKind.i64.wrap (a1 + x8_2)) = ji9 := (i64_w _).trans hji9
         by_cases c10 : 0 ≤ (ji9)
         ·rw [if_pos c10] at H
          have c10b0 : decide (0 ≤ (ji9)) = true := decide_eq_true c10
          clear c10
          by_cases c11 : (ji9) < (a0.size : Int)
          ·rw [if_pos c11] at H
           have c11b0 : decide ((ji9) < (a0.size : Int)) = true := decide_eq_true c11
           clear c11
           have HC13 := z4 H
           clear H
           have p12 : 0 ≤ ((ji9) : Int) := of_decide_eq_true (by first | (with_reducible assumption) | assumption)
           have q12 : (ji9) < (a0.size : Int) := of_decide_eq_true (by first | (with_reducible assumption) | assumption)
           have hx12 := bt_at a0 (ji9)
           replace p12 := eq_true p12
           replace q12 := eq_true q12
           go_upto_region 8 with (fail)
           go_cut [40] (fun v40 wc => ∃ (kq : Nat) (x40_12 : Bool), v40 = .bool x40_12 ∧ Aside0 (cotterref01_Take.j3 kq a0 a1 x7_2 x8_2 (bt a0 (ji9)) x40_12 = some (r1, r2, r3)) ∧ Aside0 (kq ≤ kj5) ∧ Drawn0 w wc)
           case first =>
            have H := HC13.out
            clear HC13
            by_cases c14 : x8_2 = 9
            ·rw [if_pos c14] at H
             have c14b0 : (x8_2 == 9) = true := z5 c14
             have c14b1 : (x8_2 != 9) = false := z6 c14
             clear c14
             (first | rw [c14b0] | (simp only [i64_w, i32_w]; rw [c14b0]) | skip)
             have H' := z4 H
             clear H
             go_wp2
             go_meet
             case rel => exact ⟨_, (decide ((bt a0 (ji9)) > 1)), (by first | rfl | (simp; done) | (simp only [← hji9] <;> (first | rfl | simp)) | (simp [*]; done)), H', ⟨by have := HJ2.out; have := HK2.out; have := HJ5.out; first | omega | exact Nat.le_refl _⟩, by repeat (first | exact Drawn0.refl _ | apply Drawn0.step)⟩
            ·rw [if_neg c14] at H
             have c14b0 : (x8_2 == 9) = false := z7 c14
             have c14b1 : (x8_2 != 9) = true := bne_iff_ne.mpr c14
             (first | rw [c14b0] | (simp only [i64_w, i32_w]; rw [c14b0]) | skip)
             have H' := z4 H
             clear H
             go_wp2
             go_meet
             case rel => exact ⟨_, (false), (by first | rfl | (simp; done) | (simp [*]; done)), H', ⟨by have := HJ2.out; have := HK2.out; have := HJ5.out; first | omega | exact Nat.le_refl _⟩, by repeat (first | exact Drawn0.refl _ | apply Drawn0.step)⟩
           case rest =>
            clear HC13
            try clear c1
            try clear p1
            try clear q1
            try clear hx1
            try clear c2
            try clear p2
            try clear c4
            try clear c4b0
            try clear c5
            try clear p6
            try clear c7
            try clear c7b0
            try clear c8
            try clear c10
            try clear c10b0
            try clear c11
            try clear c11b0
            try clear p12
            try clear q12
            try clear hx12
            try clear c14
            try clear c14b0
            try clear c14b1
            try clear p12
            try clear p2
            try clear p6
            try clear q12
            obtain ⟨kq, x40_12, rfl, HA, HJ12, ⟨mc12, rfl⟩⟩ := hcut
            cases kq with
            | zero => exact absurd HA.out (by simp [cotterref01_Take.j3])
            | succ kj12 =>
             have H := HA.out
             clear HA
             simp only [cotterref01_Take.j3] at H
             by_cases c15 : x40_12 = true
             ·subst c15
              have H1 : (some (0, 0, 9)) = some (r1, r2, r3) := by rw [if_pos rfl] at H; exact H
              clear H
              have H := H1
              clear H1
              simp only [Option.some.injEq, Prod.mk.injEq] at H
              obtain ⟨rfl, rfl, rfl⟩ := H
              go_wp2
              go_ret3
              exact ⟨by first | rfl | (simp; done) | (simp only [← hji9] <;> (first | rfl | simp)) | (simp [*]; done), by repeat (first | exact Drawn0.refl _ | apply Drawn0.step)⟩
             ·replace c15 := Bool.eq_false_iff.mpr c15
              subst c15
              have H1 : (if 0 ≤ (IntKind.u64.wrap (wrap64 (7 * x8_2))) then (if (bt a0 (ji9)) < 128 then (if (bt a0 (ji9)) = 0 then (if x8_2 > 0 then (some (0, 0, 9)) else (some (IntKind.u64.wrap (x7_2 + (shl .u64 (IntKind.u64.wrap (Int.tmod (bt a0 (ji9)) 128)) (IntKind.u64.wrap (wrap64 (7 * x8_2))))), wrap64 ((wrap64 (a1 + x8_2)) + 1), 0))) else (some (IntKind.u64.wrap (x7_2 + (shl .u64 (IntKind.u64.wrap (Int.tmod (bt a0 (ji9)) 128)) (IntKind.u64.wrap (wrap64 (7 * x8_2))))), wrap64 ((wrap64 (a1 + x8_2)) + 1), 0))) else (cotterref01_Take.l0 kj12 a0 a1 (IntKind.u64.wrap (x7_2 + (shl .u64 (IntKind.u64.wrap (Int.tmod (bt a0 (ji9)) 128)) (IntKind.u64.wrap (wrap64 (7 * x8_2)))))) (wrap64 (x8_2 + 1)))) else (none)) = some (r1, r2, r3) := by rw [if_neg (show ¬ (false = true) by decide)] at H; exact H
              clear H
              have H := H1
              clear H1
              obtain ⟨ji16, hji16⟩ : ∃ j_ : Int, (IntKind.u64.wrap (wrap64 (7 * x8_2))) = j_ := ⟨_, rfl⟩
              replace H : (if 0 ≤ (ji16) then (if (bt a0 (ji9)) < 128 then (if (bt a0 (ji9)) = 0 then (if x8_2 > 0 then (some (0, 0, 9)) else (some (IntKind.u64.wrap (x7_2 + (shl .u64 (IntKind.u64.wrap (Int.tmod (bt a0 (ji9)) 128)) (ji16))), wrap64 ((wrap64 (a1 + x8_2)) + 1), 0))) else (some (IntKind.u64.wrap (x7_2 + (shl .u64 (IntKind.u64.wrap (Int.tmod (bt a0 (ji9)) 128)) (ji16))), wrap64 ((wrap64 (a1 + x8_2)) + 1), 0))) else (cotterref01_Take.l0 kj12 a0 a1 (IntKind.u64.wrap (x7_2 + (shl .u64 (IntKind.u64.wrap (Int.tmod (bt a0 (ji9)) 128)) (ji16)))) (wrap64 (x8_2 + 1)))) else (none)) = some (r1, r2, r3) := by first | (rw [hji16] at H; exact H) | (simp only [hji16] at H ⊢; exact H)
              by_cases c17 : 0 ≤ (ji16)
              ·rw [if_pos c17] at H
               have c17b0 := eq_true c17
               have c17b1 : decide (0 ≤ (ji16)) = true := decide_eq_true c17
               clear c17
               obtain ⟨ji18, hji18⟩ : ∃ j_ : Int, (shl .u64 (IntKind.u64.wrap (Int.tmod (bt a0 (ji9)) 128)) (ji16)) = j_ := ⟨_, rfl⟩
               replace H : (if (bt a0 (ji9)) < 128 then (if (bt a0 (ji9)) = 0 then (if x8_2 > 0 then (some (0, 0, 9)) else (some (IntKind.u64.wrap (x7_2 + (ji18)), wrap64 ((wrap64 (a1 + x8_2)) + 1), 0))) else (some (IntKind.u64.wrap (x7_2 + (ji18)), wrap64 ((wrap64 (a1 + x8_2)) + 1), 0))) else (cotterref01_Take.l0 kj12 a0 a1 (IntKind.u64.wrap (x7_2 + (ji18))) (wrap64 (x8_2 + 1)))) = some (r1, r2, r3) := by first | (rw [hji18] at H; exact H) | (simp only [hji18] at H ⊢; exact H)
               have hji18_ : (IntKind.u64.wrap ((IntKind.u64.wrap (Int.tmod (bt a0 (ji9)) 128)) * 2 ^ min (ji16).toNat 64)) = ji18 := hji18
               have hji18z : (ji16) ≤ 64 → (IntKind.u64.wrap ((IntKind.u64.wrap (Int.tmod (bt a0 (ji9)) 128)) * 2 ^ (ji16).toNat)) = ji18 := shl_small hji18
               by_cases c19 : (bt a0 (ji9)) < 128
               ·rw [if_pos c19] at H
                have c19b0 : decide ((bt a0 (ji9)) < 128) = true := decide_eq_true c19
                clear c19
                by_cases c20 : (bt a0 (ji9)) = 0
                ·rw [if_pos c20] at H
                 have c20b0 : ((bt a0 (ji9)) == 0) = true := z5 c20
                 have c20b1 : ((bt a0 (ji9)) != 0) = false := z6 c20
                 clear c20
                 by_cases c21 : x8_2 > 0
                 ·rw [if_pos c21] at H
                  have c21b0 : decide (0 < x8_2) = true := decide_eq_true c21
                  clear c21
                  simp only [Option.some.injEq, Prod.mk.injEq] at H
                  obtain ⟨rfl, rfl, rfl⟩ := H
                  go_wp2
                  go_ret3
                  exact ⟨by first | rfl | (simp; done) | (simp only [← hji9, ← hji16, ← hji18] <;> (first | rfl | simp)) | (simp [*]; done), by repeat (first | exact Drawn0.refl _ | apply Drawn0.step)⟩
                 ·rw [if_neg c21] at H
                  have c21b0 : decide (0 < x8_2) = false := decide_eq_false c21
                  clear c21
                  simp only [Option.some.injEq, Prod.mk.injEq] at H
                  obtain ⟨rfl, rfl, rfl⟩ := H
                  go_wp2
                  go_ret3
                  exact ⟨by first | rfl | (simp; done) | (simp only [← hji9, ← hji16, ← hji18] <;> (first | rfl | simp)) | (simp [*]; done), by repeat (first | exact Drawn0.refl _ | apply Drawn0.step)⟩
                ·rw [if_neg c20] at H
                 have c20b0 : ((bt a0 (ji9)) == 0) = false := z7 c20
                 have c20b1 : ((bt a0 (ji9)) != 0) = true := bne_iff_ne.mpr c20
                 simp only [Option.some.injEq, Prod.mk.injEq] at H
                 obtain ⟨rfl, rfl, rfl⟩ := H
                 go_wp2
                 go_ret3
                 exact ⟨by first | rfl | (simp; done) | (simp only [← hji9, ← hji16, ← hji18] <;> (first | rfl | simp)) | (simp [*]; done), by repeat (first | exact Drawn0.refl _ | apply Drawn0.step)⟩
               ·rw [if_neg c19] at H
                have c19b0 : decide ((bt a0 (ji9)) < 128) = false := decide_eq_false c19
                clear c19
                have H' := z4 H
                clear H
                go_wp2
                go_roundg kj12
                case measure => have := HJ2.out; have := HK2.out; have := HJ5.out; have := HJ12.out; omega
                case rel => exact ⟨(IntKind.u64.wrap (x7_2 + (ji18))), (wrap64 (x8_2 + 1)), (by first | rfl | (simp; done) | (simp only [← hji18] <;> (first | rfl | simp)) | (simp [*]; done)), (by first | rfl | (simp; done) | (simp [*]; done)), H', ⟨by have := HJ2.out; have := HK2.out; have := HJ5.out; have := HJ12.out; omega⟩, by repeat (first | exact Drawn0.refl _ | apply Drawn0.step)⟩
              ·rw [if_neg c17] at H
               exact absurd H (by simp)
          ·rw [if_neg c11] at H
           exact absurd H (by simp)
         ·rw [if_neg c10] at H
          exact absurd H (by simp)
        ·replace c8 := Bool.eq_false_iff.mpr c8
         subst c8
         have H1 : (some (0, 0, 9)) = some (r1, r2, r3) := by rw [if_neg (show ¬ (false = true) by decide)] at H; exact H
         clear H
         have H := H1
         clear H1
         simp only [Option.some.injEq, Prod.mk.injEq] at H
         obtain ⟨rfl, rfl, rfl⟩ := H
         go_wp2
         go_ret3
         exact ⟨by first | rfl | (simp; done) | (simp [*]; done), by repeat (first | exact Drawn0.refl _ | apply Drawn0.step)⟩
end Go.Proofs.YtimhcpmfhebbhaaDoor.M
namespace Go.Proofs.YtimhcpmfhebbhaaDoor.Word1
open Go.RowKit Go.Proofs.YtimhcpmfhebbhaaDoor.M Go.Proofs.YtimhcpmfhebbhaaDoor.Num Go.Proofs.YtimhcpmfhebbhaaDoor.Seven Go.Proofs.YtimhcpmfhebbhaaDoorW.PrintWords Go.Proofs.YtimhcpmfhebbhaaDoorW.PrintLast
theorem rtake_l0 (s : ByteArray) (at_ : Nat) (hs : s.size ≤ 281474976710656) (hat : at_ ≤ s.size) : ∀ (d k i : Nat) (u : Int), 10 - i = d → i ≤ 10 → 0 ≤ u → (i ≤ 9 → u < 2 ^ (7 * i)) → 3 * d + 3 < k →
 cotterref01_Take.l0 k s at_ u i = some (restR s at_ i u) := by
 intro d
 induction d with
 | zero =>
  intro k i u hd hi hu hu1 hk
  obtain ⟨k, rfl⟩ : ∃ m, k = m + 3 := ⟨k - 3, by omega⟩
  obtain rfl : i = 10 := by omega
  simp only [cotterref01_Take.l0]
  rw [if_neg (by omega)]
  by_cases hlt : at_ + 10 < s.size
  ·rw [restR_bad hlt (.inl (by omega))]; simp [cotterref01_Take.j2]
  ·rw [restR_end hlt]; simp [cotterref01_Take.j2]
 | succ d ih =>
  intro k i u hd hi hu hu1 hk
  obtain ⟨k, rfl⟩ : ∃ m, k = m + 3 := ⟨k - 3, by omega⟩
  simp only [cotterref01_Take.l0]
  have ew : wrap64 ((at_ : Int) + i) = ((at_ + i : Nat) : Int) := by rw [wrap64_id (by omega) (by omega)]; omega
  rw [ew, if_pos (by omega)]
  by_cases hlt : at_ + i < s.size
  ·have et : decide (((at_ + i : Nat) : Int) < (s.size : Int)) = true := decide_eq_true (by omega)
   rw [et]
   simp only [cotterref01_Take.j2, if_true]
   rw [ew, if_pos (by omega), if_pos (by omega)]
   have hbr := bt_range s (at_ + i : Nat)
   have hb7 : IntKind.u64.wrap (wrap64 (7 * (i : Int))) = 7 * i := by rw [wrap64_id (by omega) (by omega), wrap_u64]; omega
   have hu9 := hu1 (by omega)
   have good : ∀ (c : Bool), (c = true ↔ (i = 9 ∧ bt s (at_ + i : Nat) > 1)) → cotterref01_Take.j3 (k + 1) s at_ u i (bt s (at_ + i : Nat)) c = some (restR s at_ i u) := by
    intro c hc
    simp only [cotterref01_Take.j3, hb7]
    by_cases hbad : c = true
    ·rw [if_pos hbad, restR_bad hlt (.inr (.inl (hc.1 hbad)))]
    ·rw [if_neg hbad, if_pos (by omega)]
     have h91 : i = 9 → bt s (at_ + i : Nat) ≤ 1 := by
      intro h
      by_cases hb : bt s (at_ + i : Nat) > 1
      ·exact absurd (hc.2 ⟨h, hb⟩) hbad
      ·omega
     have mt : Int.tmod (bt s (at_ + i : Nat)) 128 = bt s (at_ + i : Nat) % 128 := Int.tmod_eq_emod_of_nonneg (by omega)
     have mw : IntKind.u64.wrap (bt s (at_ + i : Nat) % 128) = bt s (at_ + i : Nat) % 128 := by rw [wrap_u64]; omega
     obtain ⟨f1, f2, f3, f4⟩ := take_fits (b := bt s (at_ + i : Nat)) (i := i) (u := u) (by omega) (by omega) (by omega) h91 hu hu9
     have hsh := shl_u64_small (bt s (at_ + i : Nat) % 128) (7 * i) i rfl (by omega) (by omega) f1
     rw [mt, mw, hsh, wrap_u64_id f4 f2, ew]
     by_cases hl : bt s (at_ + i : Nat) < 128
     ·rw [if_pos hl]
      by_cases h0 : bt s (at_ + i : Nat) = 0
      ·rw [if_pos h0]
       by_cases hi0 : (i : Int) > 0
       ·rw [if_pos hi0, restR_bad hlt (.inr (.inr ⟨by omega, h0⟩))]
       ·rw [if_neg hi0, restR_last hlt (by omega) hl, wrap64_id (by omega) (by omega), show bt s (at_ + i : Nat) % 128 = bt s (at_ + i : Nat) by omega]
        congr 3
      ·rw [if_neg h0, restR_last hlt (by omega) hl, wrap64_id (by omega) (by omega), show bt s (at_ + i : Nat) % 128 = bt s (at_ + i : Nat) by omega]
       congr 3
     ·rw [if_neg hl, restR_step hlt (by omega) hl, wrap64_id (by omega) (by omega), show ((i : Int) + 1) = ((i + 1 : Nat) : Int) by omega, show bt s (at_ + i : Nat) % 128 = bt s (at_ + i : Nat) - 128 by omega]
      rw [show bt s (at_ + i : Nat) % 128 = bt s (at_ + i : Nat) - 128 by omega] at f3 f4
      exact ih k (i + 1) _ (by omega) (by omega) f4 (fun h => f3 (by omega)) (by omega)
   by_cases h9 : i = 9
   ·rw [if_pos (by omega)]; exact good _ (by simp only [decide_eq_true_eq]; omega)
   ·rw [if_neg (by omega)]; exact good false (by simp only [Bool.false_eq_true, false_iff]; omega)
  ·have et : decide (((at_ + i : Nat) : Int) < (s.size : Int)) = false := decide_eq_false (by omega)
   rw [et, restR_end hlt]
   simp [cotterref01_Take.j2]
theorem rtake_f (s : ByteArray) (at_ : Int) (hs : s.size ≤ 281474976710656) (k : Nat) (hk : 36 < k) : cotterref01_Take.f k s at_ = some (takeR s at_) := by
 obtain ⟨k, rfl⟩ : ∃ m, k = m + 1 := ⟨k - 1, by omega⟩
 unfold cotterref01_Take.f
 by_cases h0 : at_ < 0
 ·rw [if_pos h0]
  simp [cotterref01_Take.j0, takeR, h0]
 ·rw [if_neg h0]
  by_cases h1 : at_ > (s.size : Int)
  ·have e : decide (at_ > (s.size : Int)) = true := decide_eq_true h1
   rw [e]
   unfold takeR
   rw [if_pos (.inr h1)]
   simp [cotterref01_Take.j0]
  ·have e : decide (at_ > (s.size : Int)) = false := decide_eq_false h1
   rw [e]
   simp only [cotterref01_Take.j0, Bool.false_eq_true, if_false]
   obtain ⟨a, rfl⟩ := Int.eq_ofNat_of_zero_le (show 0 ≤ at_ by omega)
   rw [← restR_zero s a (by omega)]
   exact rtake_l0 s a hs (by omega) 10 k 0 0 (by omega) (by omega) (by omega) (by simp) (by omega)
theorem sized_f (n : Int) : cotterref01_sized.f n = some (decide (n = 1 ∨ n = 4 ∨ n = 8)) := by
 unfold cotterref01_sized.f
 by_cases e1 : n = 1
 ·simp [e1]
 ·by_cases e4 : n = 4
  ·simp [e4]
  ·by_cases e8 : n = 8
   ·simp [e8]
   ·simp [e1, e4, e8]
theorem rbytes_l0 (n : Int) (s : Nat) (hs : s ≤ 8) : ∀ (d k i : Nat), s - i = d → i ≤ s → d < k →
 cotterref01_Bytes.l0 k s (leL n i) (n % 18446744073709551616 / 256 ^ i) i = some (strOfNums (leL n s), 0) := by
 intro d
 induction d with
 | zero =>
  intro k i hd hi hk
  obtain ⟨k, rfl⟩ : ∃ m, k = m + 1 := ⟨k - 1, by omega⟩
  obtain rfl : i = s := by omega
  simp only [cotterref01_Bytes.l0]
  rw [if_neg (by omega)]
 | succ d ih =>
  intro k i hd hi hk
  obtain ⟨k, rfl⟩ : ∃ m, k = m + 1 := ⟨k - 1, by omega⟩
  simp only [cotterref01_Bytes.l0]
  have hp := pow256_pos i
  have hq : 0 ≤ n % 18446744073709551616 / 256 ^ i := Int.ediv_nonneg (by omega) (by omega)
  have hq1 : n % 18446744073709551616 / 256 ^ i ≤ n % 18446744073709551616 := Int.ediv_le_self _ (by omega)
  have hb : n % 18446744073709551616 / 256 ^ i % 256 = n / 256 ^ i % 256 := by
   have h := leL_mod n (i + 1) 8 (by omega)
   have e8 : (256 : Int) ^ 8 = 18446744073709551616 := by decide
   rw [e8, leL_snoc, leL_snoc, leL_mod' n i (by omega)] at h
   simpa using h
  have hm : Int.tmod (n % 18446744073709551616 / 256 ^ i) 256 = n / 256 ^ i % 256 := by rw [Int.tmod_eq_emod_of_nonneg hq, hb]
  have hd2 : IntKind.u64.wrap (Int.tdiv (n % 18446744073709551616 / 256 ^ i) 256) = n % 18446744073709551616 / 256 ^ (i + 1) := by
   rw [Int.tdiv_eq_ediv_of_nonneg hq, wrap_u64_id (by omega) (by omega), Int.ediv_ediv_of_nonneg (by omega), Int.pow_succ]
  rw [if_pos (by omega), if_pos (by rw [leL_len]; omega), hm, hd2, show n / 256 ^ i % 256 % 256 = n / 256 ^ i % 256 by omega, ← leL_snoc, wrap64_id (by omega) (by omega), show ((i : Int) + 1) = ((i + 1 : Nat) : Int) by omega]
  exact ih k (i + 1) (by omega) (by omega) (by omega)
theorem rbytes_f (n size : Int) (h0 : -9223372036854775808 ≤ n) (h1 : n < 9223372036854775808) (k : Nat) (hk : 10 < k) : cotterref01_Bytes.f k n size = some (bytesR n size) := by
 obtain ⟨k, rfl⟩ : ∃ m, k = m + 1 := ⟨k - 1, by omega⟩
 have hj : ∀ s : Nat, s ≤ 8 → cotterref01_Bytes.j0 (k + 1) n s = some (strOfNums (leL n s), 0) := by
  intro s hs
  simp only [cotterref01_Bytes.j0]
  rw [wrap_u64]
  have h := rbytes_l0 n s hs s k 0 (by omega) (by omega) (by omega)
  simpa [leL] using h
 unfold cotterref01_Bytes.f bytesR
 rw [sized_f]
 simp only [Option.bind_some, decide_eq_true_eq]
 by_cases hz : size = 1 ∨ size = 4 ∨ size = 8
 ·rw [if_pos hz, if_pos hz]
  rcases hz with rfl | rfl | rfl
  ·have e1 : IntKind.u64.wrap (wrap64 (wrap64 (8 * 1) - 1)) = 7 := by decide +kernel
   have e2 : shl .i64 1 7 = 128 := by decide +kernel
   have e3 : wrap64 (-128) = -128 := by decide +kernel
   rw [if_pos (by omega), e1, e2, e3, if_pos (by omega)]
   by_cases ha : n < -128
   ·rw [if_pos ha, if_neg (by unfold Fits; omega)]
   ·rw [if_neg ha]
    by_cases hb : n ≥ 128
    ·rw [if_pos hb, if_neg (by unfold Fits; omega)]
    ·rw [if_neg hb, if_pos (by unfold Fits; omega)]
     exact hj 1 (by omega)
  ·have e1 : IntKind.u64.wrap (wrap64 (wrap64 (8 * 4) - 1)) = 31 := by decide +kernel
   have e2 : shl .i64 1 31 = 2147483648 := by decide +kernel
   have e3 : wrap64 (-2147483648) = -2147483648 := by decide +kernel
   rw [if_pos (by omega), e1, e2, e3, if_pos (by omega)]
   by_cases ha : n < -2147483648
   ·rw [if_pos ha, if_neg (by unfold Fits; omega)]
   ·rw [if_neg ha]
    by_cases hb : n ≥ 2147483648
    ·rw [if_pos hb, if_neg (by unfold Fits; omega)]
    ·rw [if_neg hb, if_pos (by unfold Fits; omega)]
     exact hj 4 (by omega)
  ·rw [if_neg (by omega), if_pos (by unfold Fits; omega)]
   exact hj 8 (by omega)
 ·rw [if_neg hz, if_neg hz]
theorem rnumber_l0 (s : ByteArray) (hg : s.size = 1 ∨ s.size = 4 ∨ s.size = 8) : ∀ (d k : Nat), d ≤ s.size → d < k →
 cotterref01_Number.l0 k s (unleL ((bytesOf s).drop d)) ((d : Int) - 1) = some (numR s) := by
 intro d
 induction d with
 | zero =>
  intro k hi hk
  obtain ⟨k, rfl⟩ : ∃ m, k = m + 1 := ⟨k - 1, by omega⟩
  simp only [cotterref01_Number.l0]
  have hr := unleL_range _ (bytesOf_Bs s)
  rw [bytesOf_length] at hr
  have hlast : ∀ n : Nat, s.size = n + 1 → unleL (bytesOf s) = unleL ((bytesOf s).take n) + bt s n * 256 ^ n ∧ 0 ≤ unleL ((bytesOf s).take n) ∧ unleL ((bytesOf s).take n) < 256 ^ n := by
   intro n hn
   have hl : ((bytesOf s).take n).length = n := by rw [z9b, bytesOf_length]; omega
   have e := unleL_snoc ((bytesOf s).take n) (bt s n)
   rw [hl, ← take_snoc_bytes s n (by omega), List.take_of_length_le (by rw [bytesOf_length]; omega)] at e
   have hr2 := unleL_range _ ((bytesOf_Bs s).take n)
   rw [hl] at hr2
   exact ⟨e, hr2.1, hr2.2⟩
  rw [if_neg (by omega), List.drop_zero]
  unfold numR
  rcases hg with h | h | h
  ·obtain ⟨g1, g2, g3⟩ := hlast 0 h
   have hbr := bt_range s (0 : Nat)
   rw [h] at hr
   have ew : wrap64 ((s.size : Int) - 1) = ((0 : Nat) : Int) := by rw [h]; decide +kernel
   have es : shl .u64 1 (IntKind.u64.wrap (wrap64 (8 * (s.size : Int)))) = 256 := by rw [h]; decide +kernel
   rw [if_pos (by omega), ew, if_pos (by omega), if_pos (by omega), if_pos h, es]
   by_cases hb : bt s (0 : Nat) ≥ 128
   ·rw [if_pos hb, if_pos (by rw [wrap_u64]; omega), wrap_u64]
    unfold wrap64
    congr 2
    omega
   ·rw [if_neg hb]
    unfold wrap64
    congr 2
    omega
  ·obtain ⟨g1, g2, g3⟩ := hlast 3 h
   have hbr := bt_range s (3 : Nat)
   rw [h] at hr
   have ew : wrap64 ((s.size : Int) - 1) = ((3 : Nat) : Int) := by rw [h]; decide +kernel
   have es : shl .u64 1 (IntKind.u64.wrap (wrap64 (8 * (s.size : Int)))) = 4294967296 := by rw [h]; decide +kernel
   rw [if_pos (by omega), ew, if_pos (by omega), if_pos (by omega), if_neg (show ¬ s.size = 1 by omega), if_pos h, es]
   by_cases hb : bt s (3 : Nat) ≥ 128
   ·rw [if_pos hb, if_pos (by rw [wrap_u64]; omega), wrap_u64]
    unfold wrap64
    congr 2
    omega
   ·rw [if_neg hb]
    unfold wrap64
    congr 2
    omega
  ·rw [if_neg (by omega), if_neg (by omega), if_neg (by omega), if_pos h]
 | succ d ih =>
  intro k hi hk
  obtain ⟨k, rfl⟩ : ∃ m, k = m + 1 := ⟨k - 1, by omega⟩
  simp only [cotterref01_Number.l0]
  have e1 : ((d + 1 : Nat) : Int) - 1 = (d : Int) := by omega
  have hbr := bt_range s d
  have hr := unleL_range _ ((bytesOf_Bs s).drop (d + 1))
  have hl : ((bytesOf s).drop (d + 1)).length = s.size - (d + 1) := by rw [z9a, bytesOf_length]
  have h7 : (256 : Int) ^ (s.size - (d + 1)) ≤ 256 ^ 7 := by
   have h1 : 256 ^ (s.size - (d + 1)) ≤ 256 ^ 7 := Nat.pow_le_pow_right (by decide) (by omega)
   have h2 : ((256 ^ (s.size - (d + 1)) : Nat) : Int) = (256 : Int) ^ (s.size - (d + 1)) := by simp
   have h3 : ((256 ^ 7 : Nat) : Int) = (256 : Int) ^ 7 := by simp
   omega
  have e7 : (256 : Int) ^ 7 = 72057594037927936 := by decide
  rw [hl] at hr
  rw [e7] at h7
  rw [e1, if_pos (by omega), if_pos (by omega), if_pos (by omega), wrap64_id (by omega) (by omega)]
  have e2 : IntKind.u64.wrap (IntKind.u64.wrap (unleL ((bytesOf s).drop (d + 1)) * 256) + IntKind.u64.wrap (bt s d)) = unleL ((bytesOf s).drop d) := by
   rw [bt_drop s d (by omega), unleL, wrap_u64, wrap_u64, wrap_u64]
   omega
  rw [e2]
  exact ih k (by omega) (by omega)
theorem rnumber_f (s : ByteArray) (hs : s.size ≤ 281474976710656) (k : Nat) (hk : 9 < k) : cotterref01_Number.f k s = some (numR s) := by
 unfold cotterref01_Number.f
 rw [sized_f]
 simp only [Option.bind_some, decide_eq_true_eq]
 by_cases hg : s.size = 1 ∨ s.size = 4 ∨ s.size = 8
 ·rw [if_pos (by omega), wrap64_id (by omega) (by omega)]
  have h := rnumber_l0 s hg s.size k (by omega) (by omega)
  rw [List.drop_eq_nil_of_le (by rw [bytesOf_length]; exact Nat.le_refl _)] at h
  exact h
 ·rw [if_neg (by omega)]
  unfold numR
  rw [if_neg (by omega), if_neg (by omega), if_neg (by omega)]
end Go.Proofs.YtimhcpmfhebbhaaDoor.Word1
namespace Go.Proofs.YtimhcpmfhebbhaaDoorW.PrintWords
set_option maxRecDepth 100000
open Go.RowKit
set_option linter.unusedVariables false
set_option linter.unusedSimpArgs false
/-- A row of bytes of the call's own, whether it bears a mark behind its end or not. -/
def OwnB (w : World) (base e : Nat) (v : Value) (xs : List Int) : Prop :=
 (v = .slice none 0 0 ∧ xs = []) ∨ ∃ (g cap : Nat) (cur : Array Value) (fr : Nat × Nat), v = .slice (some ⟨g, 0, none⟩) xs.length cap ∧ base ≤ g ∧ w.heap[g]? = some (.cells cur e fr) ∧ (fr.2 ≤ fr.1 ∨ cur.size ≤ fr.1) ∧ xs.length ≤ cap ∧ cap ≤ maxLen ∧ cur.size = cap ∧ cur.toList.take xs.length = nums .u8 xs
theorem OwnB.slice {w : World} {base e : Nat} {v : Value} {xs : List Int} (h : OwnB w base e v xs) : ∃ A c, v = .slice A xs.length c := by
 rcases h with ⟨rfl, rfl⟩ | ⟨g, cap, cur, fr, rfl, _⟩
 ·exact ⟨none, 0, rfl⟩
 ·exact ⟨_, _, rfl⟩
theorem OwnB.kept {w w1 : World} {base e : Nat} {v : Value} {xs : List Int} (h : OwnB w base e v xs) (hk : ∀ k, v.ownBlock = some k → k < w.heap.size → w1.heap[k]? = w.heap[k]?) : OwnB w1 base e v xs := by
 rcases h with h | ⟨g, cap, cur, fr, rfl, hb, hg, r⟩
 ·exact .inl h
 ·exact .inr ⟨g, cap, cur, fr, rfl, hb, (hk g rfl (blk_lt hg)).trans hg, r⟩
theorem OwnB.below {w w1 : World} {base e : Nat} {v : Value} {xs : List Int} (h : OwnB w base e v xs) (hb : Below w.heap.size w w1) : OwnB w1 base e v xs := h.kept (fun k _ hk => hb.block k hk)
theorem OwnB.cells {w : World} {base e : Nat} {v : Value} {xs : List Int} (h : OwnB w base e v xs) : (∃ c, v = .slice none 0 c ∧ xs = []) ∨ ∃ g cap, v = .slice (some ⟨g, 0, none⟩) xs.length cap ∧ ∀ j u, (nums .u8 xs)[j]? = some u → w.cell? ⟨g, j, none⟩ = some u := by
 rcases h with ⟨rfl, rfl⟩ | ⟨g, cap, cur, fr, rfl, hb, hg, hf, h1, h2, h3, h4⟩
 ·exact .inl ⟨0, rfl, rfl⟩
 ·refine .inr ⟨g, cap, rfl, fun j u hj => ?_⟩
  rw [cell_of_row w g j cur e fr hg]
  have hlt : j < xs.length := by rw [← nums_length .u8 xs]; exact (List.getElem?_eq_some_iff.1 hj).1
  rw [← h4, List.getElem?_take_of_lt hlt] at hj
  simpa using hj
theorem OwnB.string {P : Program} {w : World} {base e' : Nat} {src dst e : TypeId} {v : Value} {xs : List Int} (hs : P.underlying src = some (.slice e)) (he : P.underlying e = some (.int .u8)) (hd : P.underlying dst = some .string)
 (h : OwnB w base e' v xs) : (convert src dst v).run P w = .ok (.string (strOfNums xs)) w := by
 rcases h.cells with ⟨c, rfl, rfl⟩ | ⟨g, cap, rfl, hc⟩
 ·exact run_convert_bytes_nil w src e hs he 0 c dst hd
 ·refine run_convert_bytes_arg w src e hs he g 0 xs.length cap xs rfl (fun i hi => ?_) dst hd
  have := hc i (.int .u8 (xs.getD i 0)) (by simp [nums, List.getElem?_eq_getElem (show i < xs.length by omega), List.getD_eq_getElem?_getD])
  simpa using this
/-- '[]byte(s)': the new row. -/
theorem OwnB.new (w : World) (base e : Nat) (s : ByteArray) (hb : base ≤ w.heap.size) (hs : s.size ≤ maxLen) : OwnB (Lib.bytesWorld w e s) base e (.slice (some ⟨w.heap.size, 0, none⟩) s.size (grownCap w s.size 0 e)) (bytesOf s) := by
 have hge := grownCap_ge w s.size 0 e
 have hcm := grownCap_le_maxLen w s.size 0 e hs
 have hsz : (Lib.bytesCells w e s).size = grownCap w s.size 0 e := by
  simp only [Lib.bytesCells, Array.size_append, Array.size_map, Array.size_replicate]
  have : s.data.size = s.size := rfl
  omega
 have hl : (bytesOf s).length = s.size := bytesOf_length s
 refine .inr ⟨w.heap.size, _, _, _, by rw [hl], hb, Lib.bytesWorld_at_new w e s, .inr (Nat.le_refl _), by rw [hl]; exact hge, hcm, hsz, ?_⟩
 rw [hl]
 have e1 : (s.data.map fun b => Value.int .u8 b.toNat).toList = nums .u8 (bytesOf s) := by simp [nums, bytesOf]
 have e2 : (nums .u8 (bytesOf s)).length = s.size := by rw [nums_length, hl]
 simp only [Lib.bytesCells, Array.toList_append]
 rw [e1, ← e2]
 exact List.take_left
section
variable {P : Program} {ops : Array Oper} {rest : List Oper} {o : Oper} {a : Act} {Q : Exit → Act → World → Prop} {K : Act → World → Prop}
end
end Go.Proofs.YtimhcpmfhebbhaaDoorW.PrintWords
namespace Go.Proofs.YtimhcpmfhebbhaaDoor.M
set_option maxRecDepth 100000
open Go.RowKit Go.Proofs.YtimhcpmfhebbhaaDoorW.PrintWords Go.Proofs.YtimhcpmfhebbhaaDoorW.PrintLast Go.Proofs.YtimhcpmfhebbhaaDoor.Num Go.Proofs.YtimhcpmfhebbhaaDoor.Seven Go.Proofs.YtimhcpmfhebbhaaDoor.Word1 Go.Proofs.YtimhcpmfhebbhaaDoor.Obj
set_option linter.unusedVariables false
set_option linter.unusedSimpArgs false
theorem below_in {w W w1 : World} (h : Below w.heap.size w W) (k : Below W.heap.size W w1) : Below w.heap.size w w1 := below_then h h.size k
end Go.Proofs.YtimhcpmfhebbhaaDoor.M
namespace Go.Proofs.YtimhcpmfhebbhaaDoor.M
open Go.RowKit Go.Proofs.YtimhcpmfhebbhaaDoorW.PrintWords Go.Proofs.YtimhcpmfhebbhaaDoorW.PrintLast
set_option linter.unusedVariables false
set_option linter.unusedSimpArgs false
/-- A state of type 88 at block g of W; what its slices lead to came in by w0. -/
def IsS88 (w0 W : World) (g : Nat) (f0 : ByteArray) (f1 : Int) (f2 : Bool) : Prop := W.heap[g]? = some (.cells #[.string f0, .int .i64 f1, .bool f2] 88 (0, 0)) ∧ w0.heap.size ≤ g
theorem IsS88.like {w0 W : World} {g : Nat} {f0 : ByteArray} {f1 : Int} {f2 : Bool} {W' : World} (_ : IsS88 w0 W' g f0 f1 f2) (h : IsS88 w0 W g f0 f1 f2) : IsS88 w0 W g f0 f1 f2 := h
theorem IsS88.grown {w0 W : World} {g : Nat} {f0 : ByteArray} {f1 : Int} {f2 : Bool} {W1 : World} {row : Option Nat} (h : IsS88 w0 W g f0 f1 f2) (hw : W.grownBy W1 row) (hne : some g ≠ row) : IsS88 w0 W1 g f0 f1 f2 := by
 obtain ⟨hb, hg⟩ := h
 exact ⟨blk_grown hb hw hne, hg⟩
theorem IsS88.kept {w0 W : World} {g : Nat} {f0 : ByteArray} {f1 : Int} {f2 : Bool} {W1 : World} {S : Nat → Prop} (h : IsS88 w0 W g f0 f1 f2) (hk : Kept W W1 S) (hne : ¬ S g) : IsS88 w0 W1 g f0 f1 f2 := by
 obtain ⟨hb, hg⟩ := h
 exact ⟨blk_kept hb hk hne, hg⟩
theorem IsS88.below {w0 W : World} {g : Nat} {f0 : ByteArray} {f1 : Int} {f2 : Bool} {W1 : World} (h : IsS88 w0 W g f0 f1 f2) (hw : Below W.heap.size W W1) : IsS88 w0 W1 g f0 f1 f2 := h.grown (grown_of_below hw none) (by simp)
theorem IsS88.alloc {w0 W : World} {g : Nat} {f0 : ByteArray} {f1 : Int} {f2 : Bool} (h : IsS88 w0 W g f0 f1 f2) (o : Obj) : IsS88 w0 (W.alloc o) g f0 f1 f2 := h.below (zA (Below.refl _ _) o)
theorem IsS88.drewN {w0 W : World} {g : Nat} {f0 : ByteArray} {f1 : Int} {f2 : Bool} (h : IsS88 w0 W g f0 f1 f2) (m : Nat) : IsS88 w0 (W.drewN m) g f0 f1 f2 := h
theorem IsS88.drew {w0 W : World} {g : Nat} {f0 : ByteArray} {f1 : Int} {f2 : Bool} (h : IsS88 w0 W g f0 f1 f2) : IsS88 w0 W.drew g f0 f1 f2 := h
theorem IsS88.at_ {w0 W : World} {g : Nat} {f0 : ByteArray} {f1 : Int} {f2 : Bool} {w' : World} {m : Nat} (hq : W.drewN m = w') (h : IsS88 w0 W g f0 f1 f2) : IsS88 w0 w' g f0 f1 f2 := by subst hq; exact IsS88.drewN h m
theorem IsS88.apart {w0 W : World} {g : Nat} {f0 : ByteArray} {f1 : Int} {f2 : Bool} {α : Type} {d : Kd α} {e : Nat} {base : Nat} {ok : Nat → Prop} {v : Value} {xs : List α} (h : IsS88 w0 W g f0 f1 f2) (ho : d.R e W base ok v xs) (ht : ∀ q, q ∈ e :: d.E → q ≠ 88) : d.R e W base (fun k => ok k ∧ k ≠ g) v xs := by
 obtain ⟨hb, hg⟩ := h
 exact Kd.R_types ho hb ht
theorem IsS88.own_ne {w0 W : World} {g : Nat} {f0 : ByteArray} {f1 : Int} {f2 : Bool} {α : Type} {d : Kd α} {e : Nat} {base : Nat} {ok : Nat → Prop} {v : Value} {xs : List α} (h : IsS88 w0 W g f0 f1 f2) (ho : d.R e W base ok v xs) (ht : e ≠ 88) : some g ≠ v.ownBlock := by
 obtain ⟨hb, hg⟩ := h
 exact Kd.R_ne ho hb ht
theorem IsS88.lt {w0 W : World} {g : Nat} {f0 : ByteArray} {f1 : Int} {f2 : Bool} (h : IsS88 w0 W g f0 f1 f2) : g < W.heap.size := by
 obtain ⟨hb, hg⟩ := h
 exact blk_lt hb
theorem IsS88.ge {w0 W : World} {g : Nat} {f0 : ByteArray} {f1 : Int} {f2 : Bool} (h : IsS88 w0 W g f0 f1 f2) : w0.heap.size ≤ g := by
 obtain ⟨hb, hg⟩ := h
 exact hg
theorem IsS88.far {w0 W : World} {g : Nat} {f0 : ByteArray} {f1 : Int} {f2 : Bool} {p : Addr} (h : IsS88 w0 W g f0 f1 f2) (hne : g ≠ p.block) (u : Value) : IsS88 w0 (W.setCell p u) g f0 f1 f2 := by
 obtain ⟨hb, hg⟩ := h
 exact ⟨blk_far hb hne u, hg⟩
theorem cellS88_0 {W : World} {g : Nat} {f0 : ByteArray} {f1 : Int} {f2 : Bool} (h : W.heap[g]? = some (.cells #[.string f0, .int .i64 f1, .bool f2] 88 (0, 0))) : W.cell? ⟨g, 0, none⟩ = some (.string f0) := (zC h 0).trans rfl
theorem IsS88.set_0 {w0 W : World} {g : Nat} {f0 : ByteArray} {f1 : Int} {f2 : Bool} (h : IsS88 w0 W g f0 f1 f2) (x : ByteArray) : IsS88 w0 (W.setCell ⟨g, 0, none⟩ (.string x)) g x f1 f2 := by
 obtain ⟨hb, hg⟩ := h
 exact ⟨by simpa using blk_set hb 0 (.string x), hg⟩
theorem cellS88_1 {W : World} {g : Nat} {f0 : ByteArray} {f1 : Int} {f2 : Bool} (h : W.heap[g]? = some (.cells #[.string f0, .int .i64 f1, .bool f2] 88 (0, 0))) : W.cell? ⟨g, 1, none⟩ = some (.int .i64 f1) := (zC h 1).trans rfl
theorem IsS88.set_1 {w0 W : World} {g : Nat} {f0 : ByteArray} {f1 : Int} {f2 : Bool} (h : IsS88 w0 W g f0 f1 f2) (x : Int) : IsS88 w0 (W.setCell ⟨g, 1, none⟩ (.int .i64 x)) g f0 x f2 := by
 obtain ⟨hb, hg⟩ := h
 exact ⟨by simpa using blk_set hb 1 (.int .i64 x), hg⟩
theorem cellS88_2 {W : World} {g : Nat} {f0 : ByteArray} {f1 : Int} {f2 : Bool} (h : W.heap[g]? = some (.cells #[.string f0, .int .i64 f1, .bool f2] 88 (0, 0))) : W.cell? ⟨g, 2, none⟩ = some (.bool f2) := (zC h 2).trans rfl
theorem IsS88.set_2 {w0 W : World} {g : Nat} {f0 : ByteArray} {f1 : Int} {f2 : Bool} (h : IsS88 w0 W g f0 f1 f2) (x : Bool) : IsS88 w0 (W.setCell ⟨g, 2, none⟩ (.bool x)) g f0 f1 x := by
 obtain ⟨hb, hg⟩ := h
 exact ⟨by simpa using blk_set hb 2 (.bool x), hg⟩
theorem IsS88.new (w0 W : World) (f0 : ByteArray) (f1 : Int) (f2 : Bool) (hB : Below w0.heap.size w0 W) : IsS88 w0 (W.alloc (.cells #[.string f0, .int .i64 f1, .bool f2] 88)) W.heap.size f0 f1 f2 := ⟨by simpa using heap_alloc_new W _, hB.size⟩
def cotterref06_Reader_Bytes.f (s0_0 : ByteArray) (s0_1 : Int) (s0_2 : Bool) (a1 : Int) : Option (ByteArray × ByteArray × Int × Bool) := if s0_2 = true then (some ((⟨#[]⟩ : ByteArray), s0_0, s0_1, true)) else (if a1 > (wrap64 ((s0_0.size : Int) - s0_1)) then (some ((⟨#[]⟩ : ByteArray), s0_0, s0_1, true)) else (if 0 ≤ (wrap64 ((wrap64 (s0_1 + a1)) - a1)) then (if (wrap64 ((wrap64 (s0_1 + a1)) - a1)) ≤ (wrap64 (s0_1 + a1)) then (if (wrap64 (s0_1 + a1)) ≤ (s0_0.size : Int) then (some (s0_0.extract ((wrap64 ((wrap64 (s0_1 + a1)) - a1)) : Int).toNat ((wrap64 (s0_1 + a1)) : Int).toNat, s0_0, wrap64 (s0_1 + a1), s0_2)) else (none)) else (none)) else (none)))
set_option maxHeartbeats 8000000 in
set_option maxRecDepth 100000 in
theorem cotterref06_Reader_Bytes.calls (g : Nat) (s0_0 : ByteArray) (s0_1 : Int) (s0_2 : Bool) (a1 : Int) (r1 : ByteArray) (r2 : ByteArray) (r3 : Int) (r4 : Bool) (w0 w : World) (hI : IsS88 w0 w g s0_0 s0_1 s0_2) (hB : Below w0.heap.size w0 w) (h : cotterref06_Reader_Bytes.f s0_0 s0_1 s0_2 a1 = some (r1, r2, r3, r4)) :
 Calls Tryd.prog 61 #[.pointer (some ⟨g, 0, none⟩), .int .i64 a1] w fun e w' => e = .returned (.string r1) ∧ IsS88 w0 w' g r2 r3 r4 ∧ Below w0.heap.size w0 w' ∧ KeepBut w w' g none := by
 have HI0 := z4 hI
 have HK := z4 (KeepBut.refl w g none)
 have HL := z4 hB.size
 clear hI
 have HW0 := z4 hB.size
 have HB := z4 hB
 clear hB
 have H : (if s0_2 = true then (some ((⟨#[]⟩ : ByteArray), s0_0, s0_1, true)) else (if a1 > (wrap64 ((s0_0.size : Int) - s0_1)) then (some ((⟨#[]⟩ : ByteArray), s0_0, s0_1, true)) else (if 0 ≤ (wrap64 ((wrap64 (s0_1 + a1)) - a1)) then (if (wrap64 ((wrap64 (s0_1 + a1)) - a1)) ≤ (wrap64 (s0_1 + a1)) then (if (wrap64 (s0_1 + a1)) ≤ (s0_0.size : Int) then (some (s0_0.extract ((wrap64 ((wrap64 (s0_1 + a1)) - a1)) : Int).toNat ((wrap64 (s0_1 + a1)) : Int).toNat, s0_0, wrap64 (s0_1 + a1), s0_2)) else (none)) else (none)) else (none)))) = some (r1, r2, r3, r4) := h
 clear h
 by_cases c3 : s0_2 = true
 ·subst c3
  have H1 : (some ((⟨#[]⟩ : ByteArray), s0_0, s0_1, true)) = some (r1, r2, r3, r4) := by rw [if_pos rfl] at H; exact H
  clear H
  have H := H1
  clear H1
  simp only [Option.some.injEq, Prod.mk.injEq] at H
  obtain ⟨rfl, rfl, rfl, rfl⟩ := H
  obtain ⟨HGz4, hgz4⟩ := HI0.out
  have hcz4_0 := cellS88_0 HGz4
  have hcz4_1 := cellS88_1 HGz4
  have hcz4_2 := cellS88_2 HGz4
  have hfz4_0 := zF HGz4 0
  have hfz4_1 := zF HGz4 1
  have hfz4_2 := zF HGz4 2
  clear HGz4 hgz4
  go_enter Tryd.func61, Tryd.ntmps61
  go_wp2
  repeat (go_quiet (fail); try go_wp2)
  go_ret
  exact ⟨by first | rfl | (simp [errW_none, errW_some] <;> rfl) | (simp [*, errW_none, errW_some] <;> rfl), by repeat (first | exact HI0.out | apply IsS88.alloc | apply IsS88.drewN | apply IsS88.drew | apply IsS88.set_0 | apply IsS88.set_1 | apply IsS88.set_2), by repeat (first | (with_reducible first | exact HB.out | apply zA | apply zB | apply zD | refine zJ ?_ (IsS88.ge HI0.out)) | exact HB.out), by repeat (first | exact HK.out | apply KeepBut.set_ | apply keep_drewN | apply keep_drew | apply keep_alloc)⟩
 ·replace c3 := Bool.eq_false_iff.mpr c3
  subst c3
  have H1 : (if a1 > (wrap64 ((s0_0.size : Int) - s0_1)) then (some ((⟨#[]⟩ : ByteArray), s0_0, s0_1, true)) else (if 0 ≤ (wrap64 ((wrap64 (s0_1 + a1)) - a1)) then (if (wrap64 ((wrap64 (s0_1 + a1)) - a1)) ≤ (wrap64 (s0_1 + a1)) then (if (wrap64 (s0_1 + a1)) ≤ (s0_0.size : Int) then (some (s0_0.extract ((wrap64 ((wrap64 (s0_1 + a1)) - a1)) : Int).toNat ((wrap64 (s0_1 + a1)) : Int).toNat, s0_0, wrap64 (s0_1 + a1), false)) else (none)) else (none)) else (none))) = some (r1, r2, r3, r4) := by rw [if_neg (show ¬ (false = true) by decide)] at H; exact H
  clear H
  have H := H1
  clear H1
  by_cases c5 : a1 > (wrap64 ((s0_0.size : Int) - s0_1))
  ·rw [if_pos c5] at H
   have c5b0 : decide ((wrap64 ((s0_0.size : Int) - s0_1)) < a1) = true := decide_eq_true c5
   clear c5
   simp only [Option.some.injEq, Prod.mk.injEq] at H
   obtain ⟨rfl, rfl, rfl, rfl⟩ := H
   obtain ⟨HGz6, hgz6⟩ := HI0.out
   have hcz6_0 := cellS88_0 HGz6
   have hcz6_1 := cellS88_1 HGz6
   have hcz6_2 := cellS88_2 HGz6
   have hfz6_0 := zF HGz6 0
   have hfz6_1 := zF HGz6 1
   have hfz6_2 := zF HGz6 2
   clear HGz6 hgz6
   go_enter Tryd.func61, Tryd.ntmps61
   go_wp2
   repeat (go_quiet (fail); try go_wp2)
   go_ret
   exact ⟨by first | rfl | (simp [errW_none, errW_some] <;> rfl) | (simp [*, errW_none, errW_some] <;> rfl), by repeat (first | exact HI0.out | apply IsS88.alloc | apply IsS88.drewN | apply IsS88.drew | apply IsS88.set_0 | apply IsS88.set_1 | apply IsS88.set_2), by repeat (first | (with_reducible first | exact HB.out | apply zA | apply zB | apply zD | refine zJ ?_ (IsS88.ge HI0.out)) | exact HB.out), by repeat (first | exact HK.out | apply KeepBut.set_ | apply keep_drewN | apply keep_drew | apply keep_alloc)⟩
  ·rw [if_neg c5] at H
   have c5b0 : decide ((wrap64 ((s0_0.size : Int) - s0_1)) < a1) = false := decide_eq_false c5
   clear c5
   obtain ⟨ji7, hji7⟩ : ∃ j_ : Int, (wrap64 ((wrap64 (s0_1 + a1)) - a1)) = j_ := ⟨_, rfl⟩
   replace H : (if 0 ≤ (ji7) then (if (ji7) ≤ (wrap64 (s0_1 + a1)) then (if (wrap64 (s0_1 + a1)) ≤ (s0_0.size : Int) then (some (s0_0.extract ((ji7) : Int).toNat ((wrap64 (s0_1 + a1)) : Int).toNat, s0_0, wrap64 (s0_1 + a1), false)) else (none)) else (none)) else (none)) = some (r1, r2, r3, r4) := by first | (rw [hji7] at H; exact H) | (simp only [hji7] at H ⊢; exact H)
   have hji7w : (IntKind.i64.wrap ((wrap64 (s0_1 + a1)) - a1)) = ji7 := (i64_w _).trans hji7
   by_cases c8 : 0 ≤ (ji7)
   ·rw [if_pos c8] at H
    have c8b0 := eq_true c8
    have c8b1 : decide (0 ≤ (ji7)) = true := decide_eq_true c8
    clear c8
    by_cases c9 : (ji7) ≤ (wrap64 (s0_1 + a1))
    ·rw [if_pos c9] at H
     have c9b0 := eq_true c9
     have c9b1 : decide ((ji7) ≤ (wrap64 (s0_1 + a1))) = true := decide_eq_true c9
     by_cases c10 : (wrap64 (s0_1 + a1)) ≤ (s0_0.size : Int)
     ·rw [if_pos c10] at H
      have c10b0 := eq_true c10
      have c10b1 : decide ((wrap64 (s0_1 + a1)) ≤ (s0_0.size : Int)) = true := decide_eq_true c10
      simp only [Option.some.injEq, Prod.mk.injEq] at H
      obtain ⟨rfl, rfl, rfl, rfl⟩ := H
      obtain ⟨HGz11, hgz11⟩ := HI0.out
      have hcz11_0 := cellS88_0 HGz11
      have hcz11_1 := cellS88_1 HGz11
      have hcz11_2 := cellS88_2 HGz11
      have hfz11_0 := zF HGz11 0
      have hfz11_1 := zF HGz11 1
      have hfz11_2 := zF HGz11 2
      clear HGz11 hgz11
      go_enter Tryd.func61, Tryd.ntmps61
      go_wp2
      repeat (go_quiet (fail); try go_wp2)
      go_ret
      exact ⟨by first | rfl | (simp [errW_none, errW_some] <;> rfl) | (simp only [← hji7]; first | rfl | (simp [errW_none, errW_some] <;> rfl)) | (simp [*, errW_none, errW_some] <;> rfl), by repeat (first | exact HI0.out | apply IsS88.alloc | apply IsS88.drewN | apply IsS88.drew | apply IsS88.set_0 | apply IsS88.set_1 | apply IsS88.set_2), by repeat (first | (with_reducible first | exact HB.out | apply zA | apply zB | apply zD | refine zJ ?_ (IsS88.ge HI0.out)) | exact HB.out), by repeat (first | exact HK.out | apply KeepBut.set_ | apply keep_drewN | apply keep_drew | apply keep_alloc)⟩
     ·rw [if_neg c10] at H
      exact absurd H (by simp)
    ·rw [if_neg c9] at H
     exact absurd H (by simp)
   ·rw [if_neg c8] at H
    exact absurd H (by simp)
def cotterref06_Reader_Number.f (k : Nat) (s0_0 : ByteArray) (s0_1 : Int) (s0_2 : Bool) (a1 : Int) : Option (Int × ByteArray × Int × Bool) := (cotterref01_Take.f k s0_0 s0_1).bind fun bt275 => (if s0_2 = true then (some (0, s0_0, s0_1, true)) else (if bt275.2.2 = 0 then (if bt275.1 > (IntKind.u64.wrap (a1)) then (some (0, s0_0, s0_1, true)) else (some (wrap64 (bt275.1), s0_0, bt275.2.1, s0_2))) else (some (0, s0_0, s0_1, true))))
set_option maxHeartbeats 8000000 in
set_option maxRecDepth 100000 in
theorem cotterref06_Reader_Number.calls (k : Nat) (g : Nat) (s0_0 : ByteArray) (s0_1 : Int) (s0_2 : Bool) (a1 : Int) (r1 : Int) (r2 : ByteArray) (r3 : Int) (r4 : Bool) (w0 w : World) (hI : IsS88 w0 w g s0_0 s0_1 s0_2) (hB : Below w0.heap.size w0 w) (h : cotterref06_Reader_Number.f k s0_0 s0_1 s0_2 a1 = some (r1, r2, r3, r4)) :
 Calls Tryd.prog 62 #[.pointer (some ⟨g, 0, none⟩), .int .i64 a1] w fun e w' => e = .returned (.int .i64 r1) ∧ IsS88 w0 w' g r2 r3 r4 ∧ Below w0.heap.size w0 w' ∧ KeepBut w w' g none := by
 have HI0 := z4 hI
 have HK := z4 (KeepBut.refl w g none)
 have HL := z4 hB.size
 clear hI
 have HW0 := z4 hB.size
 have HB := z4 hB
 clear hB
 have H : ((cotterref01_Take.f k s0_0 s0_1).bind fun bt275 => (if s0_2 = true then (some (0, s0_0, s0_1, true)) else (if bt275.2.2 = 0 then (if bt275.1 > (IntKind.u64.wrap (a1)) then (some (0, s0_0, s0_1, true)) else (some (wrap64 (bt275.1), s0_0, bt275.2.1, s0_2))) else (some (0, s0_0, s0_1, true))))) = some (r1, r2, r3, r4) := h
 clear h
 replace H := z8 H
 obtain ⟨⟨t275, t276, t277⟩, A30, H⟩ := H
 replace H : (if s0_2 = true then (some (0, s0_0, s0_1, true)) else (if t277 = 0 then (if t275 > (IntKind.u64.wrap (a1)) then (some (0, s0_0, s0_1, true)) else (some (wrap64 (t275), s0_0, t276, s0_2))) else (some (0, s0_0, s0_1, true)))) = some (r1, r2, r3, r4) := H
 have A3 := z4 A30
 clear A30
 by_cases c4 : s0_2 = true
 ·subst c4
  have H1 : (some (0, s0_0, s0_1, true)) = some (r1, r2, r3, r4) := by rw [if_pos rfl] at H; exact H
  clear H
  have H := H1
  clear H1
  simp only [Option.some.injEq, Prod.mk.injEq] at H
  obtain ⟨rfl, rfl, rfl, rfl⟩ := H
  obtain ⟨HGz5, hgz5⟩ := HI0.out
  have hcz5_0 := cellS88_0 HGz5
  have hcz5_1 := cellS88_1 HGz5
  have hcz5_2 := cellS88_2 HGz5
  have hfz5_0 := zF HGz5 0
  have hfz5_1 := zF HGz5 1
  have hfz5_2 := zF HGz5 2
  clear HGz5 hgz5
  go_enter Tryd.func62, Tryd.ntmps62
  go_wp2_with (first | (go_at_call 80; (with_reducible refine (cotterref01_Take.calls k s0_0 s0_1 t275 t276 t277 _ A3.out).mono ?_); rintro e w' ⟨rfl, ⟨nd, rfl⟩⟩; (try first | exact ⟨rfl, _, World.drewN_drewN _ _ _⟩ | exact ⟨rfl, _, Eq.trans (World.drewN_drewN _ _ _) (congrArg (World.drewN _) (Nat.add_assoc _ _ _))⟩)))
  repeat (go_quiet (first | (go_at_call 80; (with_reducible refine (cotterref01_Take.calls k s0_0 s0_1 t275 t276 t277 _ A3.out).mono ?_); rintro e w' ⟨rfl, ⟨nd, rfl⟩⟩; (try first | exact ⟨rfl, _, World.drewN_drewN _ _ _⟩ | exact ⟨rfl, _, Eq.trans (World.drewN_drewN _ _ _) (congrArg (World.drewN _) (Nat.add_assoc _ _ _))⟩))); try go_wp2_with (first | (go_at_call 80; (with_reducible refine (cotterref01_Take.calls k s0_0 s0_1 t275 t276 t277 _ A3.out).mono ?_); rintro e w' ⟨rfl, ⟨nd, rfl⟩⟩; (try first | exact ⟨rfl, _, World.drewN_drewN _ _ _⟩ | exact ⟨rfl, _, Eq.trans (World.drewN_drewN _ _ _) (congrArg (World.drewN _) (Nat.add_assoc _ _ _))⟩))))
  go_ret
  exact ⟨by first | rfl | (simp [errW_none, errW_some] <;> rfl) | (simp [*, errW_none, errW_some] <;> rfl), by repeat (first | exact HI0.out | apply IsS88.alloc | apply IsS88.drewN | apply IsS88.drew | apply IsS88.set_0 | apply IsS88.set_1 | apply IsS88.set_2), by repeat (first | (with_reducible first | exact HB.out | apply zA | apply zB | apply zD | refine zJ ?_ (IsS88.ge HI0.out)) | exact HB.out), by repeat (first | exact HK.out | apply KeepBut.set_ | apply keep_drewN | apply keep_drew | apply keep_alloc)⟩
 ·replace c4 := Bool.eq_false_iff.mpr c4
  subst c4
  have H1 : (if t277 = 0 then (if t275 > (IntKind.u64.wrap (a1)) then (some (0, s0_0, s0_1, true)) else (some (wrap64 (t275), s0_0, t276, false))) else (some (0, s0_0, s0_1, true))) = some (r1, r2, r3, r4) := by rw [if_neg (show ¬ (false = true) by decide)] at H; exact H
  clear H
  have H := H1
  clear H1
  by_cases c6 : t277 = 0
  ·rw [if_pos c6] at H
   have c6b0 : (t277 == 0) = true := z5 c6
   have c6b1 : (t277 != 0) = false := z6 c6
   clear c6
   by_cases c7 : t275 > (IntKind.u64.wrap (a1))
   ·rw [if_pos c7] at H
    have c7b0 : decide ((IntKind.u64.wrap (a1)) < t275) = true := decide_eq_true c7
    clear c7
    simp only [Option.some.injEq, Prod.mk.injEq] at H
    obtain ⟨rfl, rfl, rfl, rfl⟩ := H
    obtain ⟨HGz8, hgz8⟩ := HI0.out
    have hcz8_0 := cellS88_0 HGz8
    have hcz8_1 := cellS88_1 HGz8
    have hcz8_2 := cellS88_2 HGz8
    have hfz8_0 := zF HGz8 0
    have hfz8_1 := zF HGz8 1
    have hfz8_2 := zF HGz8 2
    clear HGz8 hgz8
    go_enter Tryd.func62, Tryd.ntmps62
    go_wp2_with (first | (go_at_call 80; (with_reducible refine (cotterref01_Take.calls k s0_0 s0_1 t275 t276 t277 _ A3.out).mono ?_); rintro e w' ⟨rfl, ⟨nd, rfl⟩⟩; (try first | exact ⟨rfl, _, World.drewN_drewN _ _ _⟩ | exact ⟨rfl, _, Eq.trans (World.drewN_drewN _ _ _) (congrArg (World.drewN _) (Nat.add_assoc _ _ _))⟩)))
    repeat (go_quiet (first | (go_at_call 80; (with_reducible refine (cotterref01_Take.calls k s0_0 s0_1 t275 t276 t277 _ A3.out).mono ?_); rintro e w' ⟨rfl, ⟨nd, rfl⟩⟩; (try first | exact ⟨rfl, _, World.drewN_drewN _ _ _⟩ | exact ⟨rfl, _, Eq.trans (World.drewN_drewN _ _ _) (congrArg (World.drewN _) (Nat.add_assoc _ _ _))⟩))); try go_wp2_with (first | (go_at_call 80; (with_reducible refine (cotterref01_Take.calls k s0_0 s0_1 t275 t276 t277 _ A3.out).mono ?_); rintro e w' ⟨rfl, ⟨nd, rfl⟩⟩; (try first | exact ⟨rfl, _, World.drewN_drewN _ _ _⟩ | exact ⟨rfl, _, Eq.trans (World.drewN_drewN _ _ _) (congrArg (World.drewN _) (Nat.add_assoc _ _ _))⟩))))
    go_ret
    exact ⟨by first | rfl | (simp [errW_none, errW_some] <;> rfl) | (simp [*, errW_none, errW_some] <;> rfl), by repeat (first | exact HI0.out | apply IsS88.alloc | apply IsS88.drewN | apply IsS88.drew | apply IsS88.set_0 | apply IsS88.set_1 | apply IsS88.set_2), by repeat (first | (with_reducible first | exact HB.out | apply zA | apply zB | apply zD | refine zJ ?_ (IsS88.ge HI0.out)) | exact HB.out), by repeat (first | exact HK.out | apply KeepBut.set_ | apply keep_drewN | apply keep_drew | apply keep_alloc)⟩
   ·rw [if_neg c7] at H
    have c7b0 : decide ((IntKind.u64.wrap (a1)) < t275) = false := decide_eq_false c7
    clear c7
    simp only [Option.some.injEq, Prod.mk.injEq] at H
    obtain ⟨rfl, rfl, rfl, rfl⟩ := H
    obtain ⟨HGz9, hgz9⟩ := HI0.out
    have hcz9_0 := cellS88_0 HGz9
    have hcz9_1 := cellS88_1 HGz9
    have hcz9_2 := cellS88_2 HGz9
    have hfz9_0 := zF HGz9 0
    have hfz9_1 := zF HGz9 1
    have hfz9_2 := zF HGz9 2
    clear HGz9 hgz9
    go_enter Tryd.func62, Tryd.ntmps62
    go_wp2_with (first | (go_at_call 80; (with_reducible refine (cotterref01_Take.calls k s0_0 s0_1 t275 t276 t277 _ A3.out).mono ?_); rintro e w' ⟨rfl, ⟨nd, rfl⟩⟩; (try first | exact ⟨rfl, _, World.drewN_drewN _ _ _⟩ | exact ⟨rfl, _, Eq.trans (World.drewN_drewN _ _ _) (congrArg (World.drewN _) (Nat.add_assoc _ _ _))⟩)))
    repeat (go_quiet (first | (go_at_call 80; (with_reducible refine (cotterref01_Take.calls k s0_0 s0_1 t275 t276 t277 _ A3.out).mono ?_); rintro e w' ⟨rfl, ⟨nd, rfl⟩⟩; (try first | exact ⟨rfl, _, World.drewN_drewN _ _ _⟩ | exact ⟨rfl, _, Eq.trans (World.drewN_drewN _ _ _) (congrArg (World.drewN _) (Nat.add_assoc _ _ _))⟩))); try go_wp2_with (first | (go_at_call 80; (with_reducible refine (cotterref01_Take.calls k s0_0 s0_1 t275 t276 t277 _ A3.out).mono ?_); rintro e w' ⟨rfl, ⟨nd, rfl⟩⟩; (try first | exact ⟨rfl, _, World.drewN_drewN _ _ _⟩ | exact ⟨rfl, _, Eq.trans (World.drewN_drewN _ _ _) (congrArg (World.drewN _) (Nat.add_assoc _ _ _))⟩))))
    go_ret
    exact ⟨by first | rfl | (simp [errW_none, errW_some] <;> rfl) | (simp [*, errW_none, errW_some] <;> rfl), by repeat (first | exact HI0.out | apply IsS88.alloc | apply IsS88.drewN | apply IsS88.drew | apply IsS88.set_0 | apply IsS88.set_1 | apply IsS88.set_2), by repeat (first | (with_reducible first | exact HB.out | apply zA | apply zB | apply zD | refine zJ ?_ (IsS88.ge HI0.out)) | exact HB.out), by repeat (first | exact HK.out | apply KeepBut.set_ | apply keep_drewN | apply keep_drew | apply keep_alloc)⟩
  ·rw [if_neg c6] at H
   have c6b0 : (t277 == 0) = false := z7 c6
   have c6b1 : (t277 != 0) = true := bne_iff_ne.mpr c6
   simp only [Option.some.injEq, Prod.mk.injEq] at H
   obtain ⟨rfl, rfl, rfl, rfl⟩ := H
   obtain ⟨HGz10, hgz10⟩ := HI0.out
   have hcz10_0 := cellS88_0 HGz10
   have hcz10_1 := cellS88_1 HGz10
   have hcz10_2 := cellS88_2 HGz10
   have hfz10_0 := zF HGz10 0
   have hfz10_1 := zF HGz10 1
   have hfz10_2 := zF HGz10 2
   clear HGz10 hgz10
   go_enter Tryd.func62, Tryd.ntmps62
   go_wp2_with (first | (go_at_call 80; (with_reducible refine (cotterref01_Take.calls k s0_0 s0_1 t275 t276 t277 _ A3.out).mono ?_); rintro e w' ⟨rfl, ⟨nd, rfl⟩⟩; (try first | exact ⟨rfl, _, World.drewN_drewN _ _ _⟩ | exact ⟨rfl, _, Eq.trans (World.drewN_drewN _ _ _) (congrArg (World.drewN _) (Nat.add_assoc _ _ _))⟩)))
   repeat (go_quiet (first | (go_at_call 80; (with_reducible refine (cotterref01_Take.calls k s0_0 s0_1 t275 t276 t277 _ A3.out).mono ?_); rintro e w' ⟨rfl, ⟨nd, rfl⟩⟩; (try first | exact ⟨rfl, _, World.drewN_drewN _ _ _⟩ | exact ⟨rfl, _, Eq.trans (World.drewN_drewN _ _ _) (congrArg (World.drewN _) (Nat.add_assoc _ _ _))⟩))); try go_wp2_with (first | (go_at_call 80; (with_reducible refine (cotterref01_Take.calls k s0_0 s0_1 t275 t276 t277 _ A3.out).mono ?_); rintro e w' ⟨rfl, ⟨nd, rfl⟩⟩; (try first | exact ⟨rfl, _, World.drewN_drewN _ _ _⟩ | exact ⟨rfl, _, Eq.trans (World.drewN_drewN _ _ _) (congrArg (World.drewN _) (Nat.add_assoc _ _ _))⟩))))
   go_ret
   exact ⟨by first | rfl | (simp [errW_none, errW_some] <;> rfl) | (simp [*, errW_none, errW_some] <;> rfl), by repeat (first | exact HI0.out | apply IsS88.alloc | apply IsS88.drewN | apply IsS88.drew | apply IsS88.set_0 | apply IsS88.set_1 | apply IsS88.set_2), by repeat (first | (with_reducible first | exact HB.out | apply zA | apply zB | apply zD | refine zJ ?_ (IsS88.ge HI0.out)) | exact HB.out), by repeat (first | exact HK.out | apply KeepBut.set_ | apply keep_drewN | apply keep_drew | apply keep_alloc)⟩
def cotterref06_Reader_Wide.f (k : Nat) (s0_0 : ByteArray) (s0_1 : Int) (s0_2 : Bool) : Option (Int × ByteArray × Int × Bool) := (cotterref06_Reader_Bytes.f s0_0 s0_1 s0_2 8).bind fun bt278 => ((cotterref01_Number.f k bt278.1).bind fun bt282 => (some (bt282.1, bt278.2.1, bt278.2.2.1, bt278.2.2.2)))
set_option maxHeartbeats 8000000 in
set_option maxRecDepth 100000 in
theorem cotterref06_Reader_Wide.calls (k : Nat) (g : Nat) (s0_0 : ByteArray) (s0_1 : Int) (s0_2 : Bool) (r1 : Int) (r2 : ByteArray) (r3 : Int) (r4 : Bool) (w0 w : World) (hI : IsS88 w0 w g s0_0 s0_1 s0_2) (hB : Below w0.heap.size w0 w) (h : cotterref06_Reader_Wide.f k s0_0 s0_1 s0_2 = some (r1, r2, r3, r4)) :
 Calls Tryd.prog 63 #[.pointer (some ⟨g, 0, none⟩)] w fun e w' => e = .returned (.int .i64 r1) ∧ IsS88 w0 w' g r2 r3 r4 ∧ Below w0.heap.size w0 w' ∧ KeepBut w w' g none := by
 have HI0 := z4 hI
 have HK := z4 (KeepBut.refl w g none)
 have HL := z4 hB.size
 clear hI
 have HW0 := z4 hB.size
 have HB := z4 hB
 clear hB
 have H : ((cotterref06_Reader_Bytes.f s0_0 s0_1 s0_2 8).bind fun bt278 => ((cotterref01_Number.f k bt278.1).bind fun bt282 => (some (bt282.1, bt278.2.1, bt278.2.2.1, bt278.2.2.2)))) = some (r1, r2, r3, r4) := h
 clear h
 replace H := z8 H
 obtain ⟨⟨t278, t279, t280, t281⟩, A20, H⟩ := H
 replace H : ((cotterref01_Number.f k t278).bind fun bt282 => (some (bt282.1, t279, t280, t281))) = some (r1, r2, r3, r4) := H
 have A2 := z4 A20
 clear A20
 replace H := z8 H
 obtain ⟨⟨t282, t283⟩, A30, H⟩ := H
 replace H : (some (t282, t279, t280, t281)) = some (r1, r2, r3, r4) := H
 have A3 := z4 A30
 clear A30
 simp only [Option.some.injEq, Prod.mk.injEq] at H
 obtain ⟨rfl, rfl, rfl, rfl⟩ := H
 go_enter Tryd.func63, Tryd.ntmps63
 go_wp2_with (first | ((with_reducible refine gate_callee (f := 61) rfl ?_); refine goesL_ (some 7) rfl rfl Tryd.func61 (by kernel_rfl) rfl #[.pointer (some ⟨g, 0, none⟩), .int .i64 8] rfl (by (try simp only [z9, List.map_cons, List.map_nil]); first | done | rfl | (simp only [z9a, z9b]; rfl)) ?_; (with_reducible refine (cotterref06_Reader_Bytes.calls g s0_0 s0_1 s0_2 8 t278 t279 t280 t281 w0 _ ?side1 ?side2 A2.out).mono ?_); (case side1 => repeat (first | exact HI0.out | apply IsS88.alloc | apply IsS88.drewN | apply IsS88.drew | apply IsS88.set_0 | apply IsS88.set_1 | apply IsS88.set_2)); (case side2 => repeat (first | (with_reducible first | exact HB.out | apply zA | apply zB | apply zD | refine zJ ?_ (IsS88.ge HI0.out)) | exact HB.out)); rintro e w4 ⟨rfl, hi, hb, hk⟩; refine ⟨_, rfl, ?_⟩; have n0_ := z4 (KeepBut.trans (by repeat (first | exact HK.out | apply KeepBut.set_ | apply keep_drewN | apply keep_drew | apply keep_alloc)) hk (.inl rfl)); have n1_ := z4 (hb); have n2_ := z4 (hi); clear HK; clear HB; clear HI0; have HK := n0_; have HB := n1_; have HI0 := n2_; clear n0_ n1_ n2_; (try clear hb); (try clear hb2); (try clear hk); (try clear hi)) | ((with_reducible refine gate_callee (f := 81) rfl ?_); refine goesL_ (some 8) rfl rfl Tryd.func81 (by kernel_rfl) rfl #[.string t278] rfl (by (try simp only [z9, List.map_cons, List.map_nil]); first | done | rfl | (simp only [z9a, z9b]; rfl)) ?_; (with_reducible refine (cotterref01_Number.calls k t278 t282 t283 _ A3.out).mono ?_); rintro e w' ⟨rfl, ⟨nd, rfl⟩⟩; refine ⟨_, rfl, ?_⟩))
 go_ret
 exact ⟨by first | rfl | (simp [errW_none, errW_some] <;> rfl) | (simp [*, errW_none, errW_some] <;> rfl), by repeat (first | exact HI0.out | apply IsS88.alloc | apply IsS88.drewN | apply IsS88.drew | apply IsS88.set_0 | apply IsS88.set_1 | apply IsS88.set_2), by repeat (first | (with_reducible first | exact HB.out | apply zA | apply zB | apply zD | refine zJ ?_ (IsS88.ge HI0.out)) | exact HB.out), by repeat (first | exact HK.out | apply KeepBut.set_ | apply keep_drewN | apply keep_drew | apply keep_alloc)⟩
def cotterref06_Reader_One.f (s0_0 : ByteArray) (s0_1 : Int) (s0_2 : Bool) : Option (Int × ByteArray × Int × Bool) := (cotterref06_Reader_Bytes.f s0_0 s0_1 s0_2 1).bind fun bt284 => (if bt284.1.toList = ([] : List UInt8) then (some (0, bt284.2.1, bt284.2.2.1, bt284.2.2.2)) else (if 0 < (bt284.1.size : Int) then (some (wrap64 (bt bt284.1 0), bt284.2.1, bt284.2.2.1, bt284.2.2.2)) else (none)))
set_option maxHeartbeats 8000000 in
set_option maxRecDepth 100000 in
theorem cotterref06_Reader_One.calls (g : Nat) (s0_0 : ByteArray) (s0_1 : Int) (s0_2 : Bool) (r1 : Int) (r2 : ByteArray) (r3 : Int) (r4 : Bool) (w0 w : World) (hI : IsS88 w0 w g s0_0 s0_1 s0_2) (hB : Below w0.heap.size w0 w) (h : cotterref06_Reader_One.f s0_0 s0_1 s0_2 = some (r1, r2, r3, r4)) :
 Calls Tryd.prog 64 #[.pointer (some ⟨g, 0, none⟩)] w fun e w' => e = .returned (.int .i64 r1) ∧ IsS88 w0 w' g r2 r3 r4 ∧ Below w0.heap.size w0 w' ∧ KeepBut w w' g none := by
 have HI0 := z4 hI
 have HK := z4 (KeepBut.refl w g none)
 have HL := z4 hB.size
 clear hI
 have HW0 := z4 hB.size
 have HB := z4 hB
 clear hB
 have H : ((cotterref06_Reader_Bytes.f s0_0 s0_1 s0_2 1).bind fun bt284 => (if bt284.1.toList = ([] : List UInt8) then (some (0, bt284.2.1, bt284.2.2.1, bt284.2.2.2)) else (if 0 < (bt284.1.size : Int) then (some (wrap64 (bt bt284.1 0), bt284.2.1, bt284.2.2.1, bt284.2.2.2)) else (none)))) = some (r1, r2, r3, r4) := h
 clear h
 replace H := z8 H
 obtain ⟨⟨t284, t285, t286, t287⟩, A20, H⟩ := H
 replace H : (if t284.toList = ([] : List UInt8) then (some (0, t285, t286, t287)) else (if 0 < (t284.size : Int) then (some (wrap64 (bt t284 0), t285, t286, t287)) else (none))) = some (r1, r2, r3, r4) := H
 have A2 := z4 A20
 clear A20
 by_cases c3 : t284.toList = ([] : List UInt8)
 ·rw [if_pos c3] at H
  have c3b0 : (t284.toList == ([] : List UInt8)) = true := z5 c3
  have c3b1 : (t284.toList != ([] : List UInt8)) = false := z6 c3
  clear c3
  simp only [Option.some.injEq, Prod.mk.injEq] at H
  obtain ⟨rfl, rfl, rfl, rfl⟩ := H
  go_enter Tryd.func64, Tryd.ntmps64
  go_wp2_with (first | ((with_reducible refine gate_callee (f := 61) rfl ?_); refine goesL_ (some 5) rfl rfl Tryd.func61 (by kernel_rfl) rfl #[.pointer (some ⟨g, 0, none⟩), .int .i64 1] rfl (by (try simp only [z9, List.map_cons, List.map_nil]); first | done | rfl | (simp only [z9a, z9b]; rfl)) ?_; (with_reducible refine (cotterref06_Reader_Bytes.calls g s0_0 s0_1 s0_2 1 t284 t285 t286 t287 w0 _ ?side1 ?side2 A2.out).mono ?_); (case side1 => repeat (first | exact HI0.out | apply IsS88.alloc | apply IsS88.drewN | apply IsS88.drew | apply IsS88.set_0 | apply IsS88.set_1 | apply IsS88.set_2)); (case side2 => repeat (first | (with_reducible first | exact HB.out | apply zA | apply zB | apply zD | refine zJ ?_ (IsS88.ge HI0.out)) | exact HB.out)); rintro e w4 ⟨rfl, hi, hb, hk⟩; refine ⟨_, rfl, ?_⟩; have n0_ := z4 (KeepBut.trans (by repeat (first | exact HK.out | apply KeepBut.set_ | apply keep_drewN | apply keep_drew | apply keep_alloc)) hk (.inl rfl)); have n1_ := z4 (hb); have n2_ := z4 (hi); clear HK; clear HB; clear HI0; have HK := n0_; have HB := n1_; have HI0 := n2_; clear n0_ n1_ n2_; (try clear hb); (try clear hb2); (try clear hk); (try clear hi)))
  go_ret
  exact ⟨by first | rfl | (simp [errW_none, errW_some] <;> rfl) | (simp [*, errW_none, errW_some] <;> rfl), by repeat (first | exact HI0.out | apply IsS88.alloc | apply IsS88.drewN | apply IsS88.drew | apply IsS88.set_0 | apply IsS88.set_1 | apply IsS88.set_2), by repeat (first | (with_reducible first | exact HB.out | apply zA | apply zB | apply zD | refine zJ ?_ (IsS88.ge HI0.out)) | exact HB.out), by repeat (first | exact HK.out | apply KeepBut.set_ | apply keep_drewN | apply keep_drew | apply keep_alloc)⟩
 ·rw [if_neg c3] at H
  have c3b0 : (t284.toList == ([] : List UInt8)) = false := z7 c3
  have c3b1 : (t284.toList != ([] : List UInt8)) = true := bne_iff_ne.mpr c3
  by_cases c5 : 0 < (t284.size : Int)
  ·rw [if_pos c5] at H
   have c5b0 : decide (0 < (t284.size : Int)) = true := decide_eq_true c5
   have c5b1 : decide (0 < t284.size) = true := decide_eq_true (by omega)
   clear c5
   simp only [Option.some.injEq, Prod.mk.injEq] at H
   obtain ⟨rfl, rfl, rfl, rfl⟩ := H
   go_enter Tryd.func64, Tryd.ntmps64
   go_wp2_with (first | ((with_reducible refine gate_callee (f := 61) rfl ?_); refine goesL_ (some 5) rfl rfl Tryd.func61 (by kernel_rfl) rfl #[.pointer (some ⟨g, 0, none⟩), .int .i64 1] rfl (by (try simp only [z9, List.map_cons, List.map_nil]); first | done | rfl | (simp only [z9a, z9b]; rfl)) ?_; (with_reducible refine (cotterref06_Reader_Bytes.calls g s0_0 s0_1 s0_2 1 t284 t285 t286 t287 w0 _ ?side1 ?side2 A2.out).mono ?_); (case side1 => repeat (first | exact HI0.out | apply IsS88.alloc | apply IsS88.drewN | apply IsS88.drew | apply IsS88.set_0 | apply IsS88.set_1 | apply IsS88.set_2)); (case side2 => repeat (first | (with_reducible first | exact HB.out | apply zA | apply zB | apply zD | refine zJ ?_ (IsS88.ge HI0.out)) | exact HB.out)); rintro e w7 ⟨rfl, hi, hb, hk⟩; refine ⟨_, rfl, ?_⟩; have n0_ := z4 (KeepBut.trans (by repeat (first | exact HK.out | apply KeepBut.set_ | apply keep_drewN | apply keep_drew | apply keep_alloc)) hk (.inl rfl)); have n1_ := z4 (hb); have n2_ := z4 (hi); clear HK; clear HB; clear HI0; have HK := n0_; have HB := n1_; have HI0 := n2_; clear n0_ n1_ n2_; (try clear hb); (try clear hb2); (try clear hk); (try clear hi); have p6 : 0 ≤ (0 : Int) := (by omega); have q6 : 0 < t284.size := (by have : (0 : Int) < (t284.size : Int) := of_decide_eq_true (by first | (with_reducible assumption) | assumption); omega); have hx6 : ∀ h : 0 < t284.size, ((t284[0]'h).toNat : Int) = bt t284 0 := bt_at t284 0; clear p6; have qi6 : (0 < (t284.size : Int)) = True := eq_true (of_decide_eq_true (by first | (with_reducible assumption) | assumption)); replace q6 := eq_true q6))
   go_ret
   exact ⟨by first | rfl | (simp [errW_none, errW_some] <;> rfl) | (simp [*, errW_none, errW_some] <;> rfl), by repeat (first | exact HI0.out | apply IsS88.alloc | apply IsS88.drewN | apply IsS88.drew | apply IsS88.set_0 | apply IsS88.set_1 | apply IsS88.set_2), by repeat (first | (with_reducible first | exact HB.out | apply zA | apply zB | apply zD | refine zJ ?_ (IsS88.ge HI0.out)) | exact HB.out), by repeat (first | exact HK.out | apply KeepBut.set_ | apply keep_drewN | apply keep_drew | apply keep_alloc)⟩
  ·rw [if_neg c5] at H
   exact absurd H (by simp)
end Go.Proofs.YtimhcpmfhebbhaaDoor.M
