/-
  Texts of the proofs of MemScripts, cut to what the proofs reach and packed by a program of this session (wip/packs.py). Each part begins with what it says; conditions: those told there.
-/
import Derived.Test.YtkanhnhagjopkaaPPA6
/-
  Layer 2: the document's memory: Load, Store, Foot, Words, New: the walks. Conditions: a memory that may be.
-/
namespace Go.Proofs.Ytkanhnhagjopkaa.M
open Go.RowKit Go.Proofs.YtkanhnhagjopkaaW.PrintWords Go.Proofs.YtkanhnhagjopkaaW.PrintLast Go.Proofs.Ytkanhnhagjopkaa.Num
set_option linter.unusedVariables false
set_option linter.unusedSimpArgs false
section
variable {O1 O2 O3 : Nat → Prop} {w W W' : World} {pb : Nat} {vr v0 v1 : Value} {l : List S27} {xs ys : List Int}
theorem find_n (H : RefG O1 O2 O3 w W pb vr v0 v1 l xs ys) (G : ∀ o ∈ l, goodR o) (hm : l.length ≤ 1000) (a : Int) (a0 : -9223372036854775808 ≤ a) (a1 : a ≤ 9223372036854775807) (hf : findI l a = none) :
    Calls Try.prog 36 #[.pointer (some ⟨pb, 0, none⟩), .int .i64 a] W fun e w' => e = .returned (.tuple #[.int .i64 0, .int .i64 0, .bool false]) ∧ Below W.heap.size W w' := by
  obtain ⟨A, c, rfl⟩ := Kd.S_slice H.reg
  obtain ⟨hC, -, hcc⟩ := C_of_S H.reg
  refine (find_c H.blk hC hcc G hm a a0 a1).mono ?_
  rintro e w' ⟨⟨_, rfl⟩ | ⟨i, h, _⟩, hb⟩
  · exact ⟨rfl, hb⟩
  · rw [hf] at h; cases h
theorem find_s (H : RefG O1 O2 O3 w W pb vr v0 v1 l xs ys) (G : ∀ o ∈ l, goodR o) (hm : l.length ≤ 1000) (a : Int) (a0 : -9223372036854775808 ≤ a) (a1 : a ≤ 9223372036854775807) {i : Nat} (hf : findI l a = some i) :
    Calls Try.prog 36 #[.pointer (some ⟨pb, 0, none⟩), .int .i64 a] W fun e w' => e = .returned (.tuple #[.int .i64 (i : Nat), .int .i64 (nth l i a : Nat), .bool true]) ∧ Below W.heap.size W w' := by
  obtain ⟨A, c, rfl⟩ := Kd.S_slice H.reg
  obtain ⟨hC, -, hcc⟩ := C_of_S H.reg
  refine (find_c H.blk hC hcc G hm a a0 a1).mono ?_
  rintro e w' ⟨⟨h, _⟩ | ⟨j, h, _, _, rfl⟩, hb⟩
  · rw [hf] at h; cases h
  · rw [hf] at h
    injection h with h
    subst h
    exact ⟨rfl, hb⟩
/-- A new row of reads is told. -/
theorem RefG.put0 (H : RefG O1 O2 O3 w W pb vr v0 v1 l xs ys) {v : Value} {xs' : List Int} {b : Nat} (hR : Kd.R (Kd.int .i64) 2 W b (fun _ => True) v xs') (hb : ∀ k, O1 k ∨ O2 k ∨ O3 k ∨ k = pb → k < b) (hwb : w.heap.size ≤ b) :
    RefG O1 (fun k => b ≤ k ∧ k < W.heap.size) O3 w (W.setCell ⟨pb, 1, none⟩ v) pb vr v v1 l xs' ys where
  below := below_set H.below H.ge
  ge := H.ge
  blk := blk_put (cs' := #[vr, v, v1]) H.blk 1 v rfl
  reg := Kd.S_far (p := ⟨pb, 1, none⟩) H.reg (fun k hk e => H.pbn.1 ((show k = pb from e) ▸ hk)) v
  r0 := Kd.R_lower (Kd.R_far (p := ⟨pb, 1, none⟩) (Kd.R_mono (Kd.R_bound hR) (fun k hk => ⟨hk.2.1, hk.2.2.1⟩)) (fun k hk e => by have := hb pb (.inr (.inr (.inr rfl))); have := hk.1; simp only at e; omega) v) hwb
  r1 := Kd.R_far (p := ⟨pb, 1, none⟩) H.r1 (fun k hk e => H.pbn.2.2 ((show k = pb from e) ▸ hk)) v
  d12 := fun k h1 h2 => by have := hb k (.inl h1); omega
  d13 := H.d13
  d23 := fun k h1 h2 => by have := hb k (.inr (.inr (.inl h2))); omega
  pbn := ⟨H.pbn.1, fun h => by have := hb pb (.inr (.inr (.inr rfl))); omega, H.pbn.2.2⟩
  lt := fun k hk => by
    have e : (W.setCell ⟨pb, 1, none⟩ v).heap.size = W.heap.size := by simp [World.setCell]
    rw [e]
    rcases hk with hk | hk | hk
    · exact H.lt k (.inl hk)
    · exact hk.2
    · exact H.lt k (.inr (.inr hk))
theorem RefG.put1 (H : RefG O1 O2 O3 w W pb vr v0 v1 l xs ys) {v : Value} {ys' : List Int} {b : Nat} (hR : Kd.R (Kd.int .i64) 2 W b (fun _ => True) v ys') (hb : ∀ k, O1 k ∨ O2 k ∨ O3 k ∨ k = pb → k < b) (hwb : w.heap.size ≤ b) :
    RefG O1 O2 (fun k => b ≤ k ∧ k < W.heap.size) w (W.setCell ⟨pb, 2, none⟩ v) pb vr v0 v l xs ys' where
  below := below_set H.below H.ge
  ge := H.ge
  blk := blk_put (cs' := #[vr, v0, v]) H.blk 2 v rfl
  reg := Kd.S_far (p := ⟨pb, 2, none⟩) H.reg (fun k hk e => H.pbn.1 ((show k = pb from e) ▸ hk)) v
  r0 := Kd.R_far (p := ⟨pb, 2, none⟩) H.r0 (fun k hk e => H.pbn.2.1 ((show k = pb from e) ▸ hk)) v
  r1 := Kd.R_lower (Kd.R_far (p := ⟨pb, 2, none⟩) (Kd.R_mono (Kd.R_bound hR) (fun k hk => ⟨hk.2.1, hk.2.2.1⟩)) (fun k hk e => by have := hb pb (.inr (.inr (.inr rfl))); have := hk.1; simp only at e; omega) v) hwb
  d12 := H.d12
  d13 := fun k h1 h2 => by have := hb k (.inl h1); omega
  d23 := fun k h1 h2 => by have := hb k (.inr (.inl h1)); omega
  pbn := ⟨H.pbn.1, H.pbn.2.1, fun h => by have := hb pb (.inr (.inr (.inr rfl))); omega⟩
  lt := fun k hk => by
    have e : (W.setCell ⟨pb, 2, none⟩ v).heap.size = W.heap.size := by simp [World.setCell]
    rw [e]
    rcases hk with hk | hk | hk
    · exact H.lt k (.inl hk)
    · exact H.lt k (.inr (.inl hk))
    · exact hk.2
/-- A word is written. -/
theorem RefG.store (H : RefG O1 O2 O3 w W pb vr v0 v1 l xs ys) {i : Nat} {A : Addr} {c g cg : Nat} (hs : SlotG W vr l i A c g cg) (k : Nat) (hk : k < (rd_T27 l i).f1.length) (v : Int) :
    RefG O1 O2 O3 w (W.setCell ⟨g, k, none⟩ (.int .i64 v)) pb vr v0 v1 (l.set i ⟨(rd_T27 l i).f0, (rd_T27 l i).f1.set k v, (rd_T27 l i).f2⟩) xs ys ∧ O1 g := by
  have hl := hs.lt
  have hR0 := H.reg
  rw [hs.row] at hR0
  obtain ⟨oki, cc, hcl, hM, hcc, hoki, hback⟩ := Kd.S_borrow hR0 z27 (i : Int) (by omega) (by omega)
  obtain ⟨u1, rfl, hR⟩ := k27_openM hM
  have hsz : k27.sz = 3 := rfl
  rw [hsz] at hcc
  simp only [Int.toNat_natCast] at hcc
  have h1 := hcc 1 _ rfl
  rw [add_field _ _ 1 (by omega), hs.z1] at h1
  injection h1 with h1
  subst h1
  have hbase : w.heap.size ≤ g := Kd.R_base hR g rfl
  have hokg : oki g := hR.1 g rfl
  have hg1 : O1 g := (hoki g hokg).1
  obtain ⟨hp, hg⟩ := Kd.R_putg hR (k : Int) v
  simp only [Int.toNat_natCast] at hp hg
  obtain ⟨cs, hcs⟩ := hs.typ
  have e : (W.setCell ⟨g, k, none⟩ (.int .i64 v)).heap.size = W.heap.size := by simp [World.setCell]
  refine ⟨⟨H.below.setCell hbase _, H.ge, blk_far H.blk (blk_ne H.blk hcs (by decide)) _, ?_, Kd.R_far (p := ⟨g, k, none⟩) H.r0 (fun j hj he => H.d12 g hg1 ((show j = g from he) ▸ hj)) _, Kd.R_far (p := ⟨g, k, none⟩) H.r1 (fun j hj he => H.d13 g hg1 ((show j = g from he) ▸ hj)) _, H.d12, H.d13, H.d23, H.pbn, fun j hj => by rw [e]; exact H.lt j hj⟩, hg1⟩
  have hfin := hback (x' := ⟨(rd_T27 l i).f0, (rd_T27 l i).f1.set k v, (rd_T27 l i).f2⟩) hg (fun j hj => by injection hj with hj; exact hj ▸ hokg) ?_
  · rw [hs.row]
    exact hfin
  · exact k27_mkM _ _ _ (⟨(rd_T27 l i).f0, (rd_T27 l i).f1.set k v, (rd_T27 l i).f2⟩ : S27) hp
/-- What is touched, put into a rising list. -/
def touchP (l : List S27) (a : Int) (xs : List Int) : List Int := match findI l a with | none => xs | some _ => putF xs a
def storeP (l : List S27) (a : Int) (ys : List Int) : List Int := match findI l a with | none => ys | some i => if (rd_T27 l i).f2 then putF ys a else ys
/-- Some sets of blocks, none of them what was there before. -/
structure RefS (w W : World) (pb : Nat) (vr : Value) (l : List S27) (xs ys : List Int) (B : Nat → Prop) : Prop where
  ex : ∃ (O1 O2 O3 : Nat → Prop) (v0 v1 : Value), RefG O1 O2 O3 w W pb vr v0 v1 l xs ys ∧ ∀ k, O1 k ∨ O2 k ∨ O3 k ∨ k = pb → B k
set_option maxHeartbeats 4000000 in
theorem loadR_c (H : RefG O1 O2 O3 w W pb vr v0 v1 l xs ys) (G : ∀ o ∈ l, goodR o) (hm : l.length ≤ 1000) (hu : Up xs) (lx : xs.length ≤ 100000) (a : Int) (a0 : -9223372036854775808 ≤ a) (a1 : a ≤ 9223372036854775807) :
    Calls Try.prog 21 #[.pointer (some ⟨pb, 0, none⟩), .int .i64 a] W fun e w' => e = .returned (.tuple #[.int .i64 (loadV l a).1, .int .i64 (loadV l a).2]) ∧ RefS w w' pb vr l (touchP l a xs) ys (fun k => (O1 k ∨ O2 k ∨ O3 k ∨ k = pb) ∨ W.heap.size ≤ k) ∧ Kept W w' (fun k => k = pb) := by
  unfold loadV touchP
  cases hf : findI l a with
  | none =>
    have C := Aside0.mk (find_n H G hm a a0 a1 hf)
    have HH := Aside0.mk H
    clear H G lx hf hu
    dsimp only
    go_enter Try.func21, Try.ntmps21
    go_wp2_with (first | (go_at_call 36; (with_reducible refine C.out.mono ?_); rintro e w1 ⟨rfl, hd⟩; have HB1 := Aside0.mk hd; clear hd))
    go_ret2
    exact ⟨rfl, ⟨⟨O1, O2, O3, v0, v1, HH.out.next HB1.out, fun k hk => .inl hk⟩⟩, below_kept HB1.out _⟩
  | some i =>
    obtain ⟨_, hi, hin⟩ := find_in hf
    have hn := nth_lt hin
    obtain ⟨ad, c, g0, cg0, hs0, _⟩ := slot_of H.reg i hi (by omega)
    obtain rfl := hs0.row
    have C := Aside0.mk (find_s H G hm a a0 a1 hf)
    obtain ⟨A0, c0, rfl⟩ := Kd.R_slice H.r0
    have HH := Aside0.mk H
    have PC := Aside0.mk (fun w1 (h : Below W.heap.size W w1) => cotterref02_put.calls 300000 A0 c0 xs a _ w1 (Kd.C_below (Kd.R_reads' H.r0).2.2 h) (Kd.R_reads' H.r0).2.1 (put_f xs a (by omega) hu 300000 (by omega)))
    have NI := Aside0.mk hi
    dsimp only
    have hi2 : (i : Int) < (l.length : Int) := by omega
    obtain ⟨m, hm0⟩ : ∃ m, m = nth l i a := ⟨_, rfl⟩
    rw [← hm0] at C hn ⊢
    have hn2 : (m : Int) < ((rd_T27 l i).f1.length : Int) := by omega
    have NN := Aside0.mk hn
    have k1 : ∀ w1 : World, Below W.heap.size W w1 → w1.cell? ⟨pb, 1, none⟩ = some (.slice A0 xs.length c0) := fun w1 h => (blk_cell (blk_below H.blk h) 1).trans rfl
    have K1 := Aside0.mk k1
    clear H G lx hf hu hin hs0 hm0 k1 hn hi
    generalize putF xs a = us at *
    go_enter Try.func21, Try.ntmps21
    go_wp2_with (first
      | (go_at_call 36; (with_reducible refine C.out.mono ?_); rintro e w1 ⟨rfl, hd⟩; have HB1 := Aside0.mk hd; have kz1 := K1.out w1 hd; clear hd)
      | (go_at_call 37; (with_reducible refine (PC.out _ HB1.out).mono ?_); rintro e w2 ⟨v', rfl, hr, hd⟩; obtain ⟨Av, cv, rfl⟩ := Kd.R_slice hr; have HB2 := Aside0.mk (below_inL HB1.out hd); have H2 := Aside0.mk (HH.out.next HB2.out); have hsz := HB1.out.size; have H3 := Aside0.mk (H2.out.put0 hr (fun k hk => by have h1 := HH.out.lt; have h2 := blk_lt HH.out.blk; rcases hk with hk | hk | hk | hk <;> first | (have := h1 k (.inl hk); omega) | (have := h1 k (.inr (.inl hk)); omega) | (have := h1 k (.inr (.inr hk)); omega) | omega) (by have := HH.out.below.size; omega)); have ky1 : w2.cell? ⟨pb, 1, none⟩ = some (.slice A0 xs.length c0) := K1.out w2 HB2.out; have ky2 : w2.frozen? ⟨pb, 1, none⟩ = false := blk_frozen H2.out.blk 1; obtain ⟨ad', c', g, cg, hs, _⟩ := slot_of H3.out.reg i NI.out (by have := NN.out; omega); obtain ⟨rfl, rfl⟩ : ad = ad' ∧ c = c' := (by have h := hs.row; injection h with e1 e2 e3; injection e1 with e1; exact ⟨e1, e3⟩); have kw0 : (w2.setCell ⟨pb, 1, none⟩ (.slice Av us.length cv)).cell? ⟨pb, 0, none⟩ = some (.slice (some ad) l.length c) := (blk_cell H3.out.blk 0).trans rfl; have kw1 := hs.z1; have kw2 := hs.at_ m NN.out; clear hs hr hd hsz))
    go_ret2
    refine ⟨rfl, ⟨⟨_, _, _, _, _, H3.out, fun k hk => ?_⟩⟩, (below_kept HB2.out (fun k => k = pb)).setCell (p := ⟨pb, 1, none⟩) (.inl rfl) _⟩
    have := HB1.out.size
    rcases hk with hk | hk | hk | hk
    · exact .inl (.inl hk)
    · exact .inr (by omega)
    · exact .inl (.inr (.inr (.inl hk)))
    · exact .inl (.inr (.inr (.inr hk)))
set_option maxHeartbeats 4000000 in
theorem storeR_c (H : RefG O1 O2 O3 w W pb vr v0 v1 l xs ys) (G : ∀ o ∈ l, goodR o) (hm : l.length ≤ 1000) (hu : Up ys) (ly : ys.length ≤ 100000) (a : Int) (a0 : -9223372036854775808 ≤ a) (a1 : a ≤ 9223372036854775807) (v : Int) :
    Calls Try.prog 14 #[.pointer (some ⟨pb, 0, none⟩), .int .i64 a, .int .i64 v] W fun e w' => e = .returned (.int .i64 (storeE l a)) ∧ RefS w w' pb vr (storeL l a v) xs (storeP l a ys) (fun k => (O1 k ∨ O2 k ∨ O3 k ∨ k = pb) ∨ W.heap.size ≤ k) ∧ Kept W w' (fun k => O1 k ∨ k = pb) := by
  unfold storeE storeL storeP
  cases hf : findI l a with
  | none =>
    have C := Aside0.mk (find_n H G hm a a0 a1 hf)
    have HH := Aside0.mk H
    clear H G ly hf hu
    dsimp only
    go_enter Try.func14, Try.ntmps14
    go_wp2_with (first | (go_at_call 36; (with_reducible refine C.out.mono ?_); rintro e w1 ⟨rfl, hd⟩; have HB1 := Aside0.mk hd; clear hd))
    go_ret
    exact ⟨rfl, ⟨⟨O1, O2, O3, v0, v1, HH.out.next HB1.out, fun k hk => .inl hk⟩⟩, below_kept HB1.out _⟩
  | some i =>
    obtain ⟨_, hi, hin⟩ := find_in hf
    have hn := nth_lt hin
    obtain ⟨ad, c, g0, cg0, hs0, _⟩ := slot_of H.reg i hi (by omega)
    obtain rfl := hs0.row
    have C := Aside0.mk (find_s H G hm a a0 a1 hf)
    have NI := Aside0.mk hi
    dsimp only
    have hi2 : (i : Int) < (l.length : Int) := by omega
    obtain ⟨m, hm0⟩ : ∃ m, m = nth l i a := ⟨_, rfl⟩
    rw [← hm0] at C hn ⊢
    have HS0 := Aside0.mk (fun w1 (h : Below W.heap.size W w1) => hs0.next h)
    have K0 := Aside0.mk (fun w1 (h : Below W.heap.size W w1) => show w1.cell? ⟨pb, 0, none⟩ = some (.slice (some ad) l.length c) from (blk_cell (blk_below H.blk h) 0).trans rfl)
    cases hw : (rd_T27 l i).f2 with
    | false =>
      have HH := Aside0.mk H
      have HW := Aside0.mk hw
      clear H G ly hf hu hs0 hm0 hw hn hin hi
      go_enter Try.func14, Try.ntmps14
      go_wp2_with (first
        | (go_at_call 36; (with_reducible refine C.out.mono ?_); rintro e w1 ⟨rfl, hd⟩; have HB1 := Aside0.mk hd; have kz0 := K0.out w1 hd; have kz2 := (HS0.out w1 hd).z2; rw [HW.out] at kz2; clear hd))
      go_ret
      exact ⟨rfl, ⟨⟨O1, O2, O3, v0, v1, HH.out.next HB1.out, fun k hk => .inl hk⟩⟩, below_kept HB1.out _⟩
    | true =>
      obtain ⟨A0, c0, rfl⟩ := Kd.R_slice H.r1
      have HH := Aside0.mk H
      have HW := Aside0.mk hw
      have PC := Aside0.mk (fun w1 (h : Below W.heap.size W w1) => cotterref02_put.calls 300000 A0 c0 ys a _ w1 (Kd.C_below (Kd.R_reads' H.r1).2.2 h) (Kd.R_reads' H.r1).2.1 (put_f ys a (by omega) hu 300000 (by omega)))
      have hn2 : (m : Int) < ((rd_T27 l i).f1.length : Int) := by omega
      have NN := Aside0.mk hn
      have K1 := Aside0.mk (fun w1 (h : Below W.heap.size W w1) => show w1.cell? ⟨pb, 2, none⟩ = some (.slice A0 ys.length c0) from (blk_cell (blk_below H.blk h) 2).trans rfl)
      clear H G ly hf hu hin hs0 hm0 hn hi hw
      rw [if_pos rfl]
      generalize putF ys a = us at *
      go_enter Try.func14, Try.ntmps14
      go_wp2_with (first
        | (go_at_call 36; (with_reducible refine C.out.mono ?_); rintro e w1 ⟨rfl, hd⟩; have HB1 := Aside0.mk hd; have kz1 := K1.out w1 hd; have kz0 := K0.out w1 hd; have kz2 := (HS0.out w1 hd).z2; rw [HW.out] at kz2; clear hd)
        | (go_at_call 37; (with_reducible refine (PC.out _ HB1.out).mono ?_); rintro e w2 ⟨v', rfl, hr, hd⟩; obtain ⟨Av, cv, rfl⟩ := Kd.R_slice hr; have HB2 := Aside0.mk (below_inL HB1.out hd); have H2 := Aside0.mk (HH.out.next HB2.out); have hsz := HB1.out.size; have H3 := Aside0.mk (H2.out.put1 hr (fun k hk => by have h1 := HH.out.lt; have h2 := blk_lt HH.out.blk; rcases hk with hk | hk | hk | hk <;> first | (have := h1 k (.inl hk); omega) | (have := h1 k (.inr (.inl hk)); omega) | (have := h1 k (.inr (.inr hk)); omega) | omega) (by have := HH.out.below.size; omega)); have ky1 : w2.cell? ⟨pb, 2, none⟩ = some (.slice A0 ys.length c0) := K1.out w2 HB2.out; have ky2 : w2.frozen? ⟨pb, 2, none⟩ = false := blk_frozen H2.out.blk 2; obtain ⟨ad', c', g, cg, hs, _⟩ := slot_of H3.out.reg i NI.out (by have := NN.out; omega); obtain ⟨rfl, rfl⟩ : ad = ad' ∧ c = c' := (by have h := hs.row; injection h with e1 e2 e3; injection e1 with e1; exact ⟨e1, e3⟩); have kw0 : (w2.setCell ⟨pb, 2, none⟩ (.slice Av us.length cv)).cell? ⟨pb, 0, none⟩ = some (.slice (some ad) l.length c) := (blk_cell H3.out.blk 0).trans rfl; have kw1 := hs.z1; have kw2 := hs.at_ m NN.out; have kf2 : (w2.setCell ⟨pb, 2, none⟩ (.slice Av us.length cv)).frozen? ⟨g, m, none⟩ = false := (by obtain ⟨cs, hcs⟩ := hs.typ; exact blk_frozen hcs m); have HST := Aside0.mk (H3.out.store hs m NN.out v); clear hs hr hd hsz))
      go_ret
      rw [HW.out] at HST
      refine ⟨rfl, ⟨⟨_, _, _, _, _, HST.out.1, fun k hk => ?_⟩⟩, ((below_kept HB2.out (fun k => O1 k ∨ k = pb)).setCell (p := ⟨pb, 2, none⟩) (.inl (.inr rfl)) _).setCell (p := ⟨g, m, none⟩) (.inl (.inl HST.out.2)) _⟩
      have := HB1.out.size
      rcases hk with hk | hk | hk | hk
      · exact .inl (.inl hk)
      · exact .inl (.inr (.inl hk))
      · exact .inr (by omega)
      · exact .inl (.inr (.inr (.inr hk)))
end
end Go.Proofs.Ytkanhnhagjopkaa.M

/-
  Layer 2: the document's memory: Foot, Words: the walks; May, plain. Conditions: a memory that may be.
-/
namespace Go.Proofs.Ytkanhnhagjopkaa.M
open Go.RowKit Go.Proofs.YtkanhnhagjopkaaW.PrintWords Go.Proofs.YtkanhnhagjopkaaW.PrintLast Go.Proofs.Ytkanhnhagjopkaa.Num
set_option linter.unusedVariables false
set_option linter.unusedSimpArgs false
section
variable {O1 O2 O3 : Nat → Prop} {w W W' : World} {pb : Nat} {vr v0 v1 : Value} {l : List S27} {xs ys : List Int}
set_option maxHeartbeats 4000000 in
theorem wordsR_c (H : RefG O1 O2 O3 w W pb vr v0 v1 l xs ys) (G : ∀ o ∈ l, goodR o) (hm : l.length ≤ 1000) (n : Int) :
    Calls Try.prog 20 #[.pointer (some ⟨pb, 0, none⟩), .int .i64 n] W fun e w' => ∃ (A' : Option Addr) (c' : Nat), e = .returned (.slice A' (wordsF l n).length c') ∧ Kd.R (Kd.int .i64) 2 w' W.heap.size (fun _ => True) (.slice A' (wordsF l n).length c') (wordsF l n) ∧ Below W.heap.size W w' := by
  obtain ⟨A, c, rfl⟩ := Kd.S_slice H.reg
  obtain ⟨hC, -, hcc⟩ := C_of_S H.reg
  have hcc' : (l.length : Int) ≤ (c : Int) := by omega
  have k2 : W.cell? ⟨pb, 0, none⟩ = some (.slice A l.length c) := (blk_cell H.blk 0).trans rfl
  unfold wordsF
  by_cases h0 : n < 0
  case pos =>
    clear H G hC hcc hcc' k2
    rw [if_pos h0]
    go_enter Try.func20, Try.ntmps20
    go_wp2
    go_ret
    exact ⟨none, 0, rfl, Kd.R_nil _ _ _ _ _, Below.refl _ _⟩
  by_cases h1 : (l.length : Int) ≤ n
  case pos =>
    clear H G hC hcc
    rw [if_neg h0, if_pos h1]
    go_enter Try.func20, Try.ntmps20
    go_wp2
    go_ret
    exact ⟨none, 0, rfl, Kd.R_nil _ _ _ _ _, Below.refl _ _⟩
  rw [if_neg h0, if_neg h1]
  obtain ⟨ad, A1, c1, e, hx0, hx1, hx2, k1, r1⟩ := at_T27 hC n (by omega) (by omega)
  cases e
  have hl5 : (rd_T27 l n).f1.length ≤ 65536 := by
    have hg : goodR (rd_T27 l n) := by
      have e : n = ((n.toNat : Nat) : Int) := by omega
      rw [e, rd27_at l n.toNat (by omega)]
      exact G _ (List.getElem_mem _)
    exact hg.2.2.2
  have HL5 := Aside0.mk hl5
  have R1 := Aside0.mk r1
  have h2 : (n : Int) < (l.length : Int) := by omega
  generalize rd_T27 l n = o at *
  clear H G hC hcc r1 hl5
  go_enter Try.func20, Try.ntmps20
  go_wp2_with (first
    | (at_builtin; refine Kd.R_append_row (Value.int .i64) (0 : Int) (h1 := fun _ => rfl) (w0 := W) W.heap.size rfl (.tmp 17) (.tmp 25) 25 2 (.int .i64 0) 8 rfl Try.underlying25 info2 rfl (by decide) (.slice none 0 0) [] o.f1 A1 _ c1 (fun _ => True) rfl rfl (fun _ _ => trivial) (Kd.R_nil _ _ _ _ _) R1.out (Below.refl _ _) (Nat.le_refl _) (by have := HL5.out; simp; omega) ?_; intro v1 w1 ho hb hg hat; rw [List.nil_append] at ho; obtain ⟨A', c', rfl⟩ := Kd.R_slice ho; have HR := Aside0.mk ho; have HB := Aside0.mk hb; clear ho hb hg hat))
  go_ret
  exact ⟨A', c', rfl, HR.out, HB.out⟩
set_option maxHeartbeats 8000000 in
theorem footR_c {A0 : Option Addr} {c0 : Nat} {A1 : Option Addr} {c1 : Nat} (H : RefG O1 O2 O3 w W pb vr (.slice A0 xs.length c0) (.slice A1 ys.length c1) l xs ys) :
    Calls Try.prog 17 #[.pointer (some ⟨pb, 0, none⟩)] W fun e w' => e = .returned (.agg #[.slice A0 xs.length c0, .slice A1 ys.length c1]) ∧ Kd.R (Kd.int .i64) 2 w' w.heap.size O2 (.slice A0 xs.length c0) xs ∧ Kd.R (Kd.int .i64) 2 w' w.heap.size O3 (.slice A1 ys.length c1) ys ∧ RefG O1 (fun _ => False) (fun _ => False) w w' pb vr (.slice none 0 0) (.slice none 0 0) l [] [] ∧ Kept W w' (fun k => k = pb) := by
  have hlt := blk_lt H.blk
  have k1 : W.cell? ⟨pb, 1, none⟩ = some (.slice A0 xs.length c0) := (blk_cell H.blk 1).trans rfl
  have k2 : W.cell? ⟨pb, 2, none⟩ = some (.slice A1 ys.length c1) := (blk_cell H.blk 2).trans rfl
  have k3 : W.frozen? ⟨pb, 1, none⟩ = false := blk_frozen H.blk 1
  have k4 : W.frozen? ⟨pb, 2, none⟩ = false := blk_frozen H.blk 2
  have hb1 := blk_put (cs' := #[vr, .slice none 0 0, .slice A1 ys.length c1]) H.blk 1 (.slice none 0 0) rfl
  have k5 : (W.setCell ⟨pb, 1, none⟩ (.slice none 0 0)).cell? ⟨pb, 2, none⟩ = some (.slice A1 ys.length c1) := (blk_cell hb1 2).trans rfl
  have k6 : (W.setCell ⟨pb, 1, none⟩ (.slice none 0 0)).frozen? ⟨pb, 2, none⟩ = false := blk_frozen hb1 2
  have HH := Aside0.mk H
  clear H hb1
  go_enter Try.func17, Try.ntmps17
  go_wp2
  have H := HH.out
  have hs2 : ((W.setCell ⟨pb, 1, none⟩ (.slice none 0 0)).setCell ⟨pb, 2, none⟩ (.slice none 0 0)).heap.size = W.heap.size := by simp [World.setCell]
  have bl : ((W.setCell ⟨pb, 1, none⟩ (.slice none 0 0)).setCell ⟨pb, 2, none⟩ (.slice none 0 0)).heap[pb]? = some (.cells #[vr, .slice none 0 0, .slice none 0 0] 74 (0, 0)) := blk_put (cs' := #[vr, .slice none 0 0, .slice none 0 0]) (blk_put (cs' := #[vr, .slice none 0 0, .slice A1 ys.length c1]) H.blk 1 (.slice none 0 0) rfl) 2 (.slice none 0 0) rfl
  have n1 : ∀ k, O1 k → k ≠ pb := fun k hk e => H.pbn.1 (e ▸ hk)
  have n2 : ∀ k, O2 k → k ≠ pb := fun k hk e => H.pbn.2.1 (e ▸ hk)
  have n3 : ∀ k, O3 k → k ≠ pb := fun k hk e => H.pbn.2.2 (e ▸ hk)
  have R2 : RefG O1 (fun _ => False) (fun _ => False) w ((W.setCell ⟨pb, 1, none⟩ (.slice none 0 0)).setCell ⟨pb, 2, none⟩ (.slice none 0 0)) pb vr (.slice none 0 0) (.slice none 0 0) l [] [] :=
    ⟨below_set (below_set H.below H.ge) H.ge, H.ge, bl, Kd.S_far (p := ⟨pb, 2, none⟩) (Kd.S_far (p := ⟨pb, 1, none⟩) H.reg n1 _) n1 _, Kd.R_nil _ _ _ _ _, Kd.R_nil _ _ _ _ _, fun _ _ h => h, fun _ _ h => h, fun _ h _ => h, ⟨H.pbn.1, fun h => h, fun h => h⟩, fun k hk => by
      rw [hs2]
      rcases hk with hk | hk | hk
      · exact H.lt k (.inl hk)
      · exact hk.elim
      · exact hk.elim⟩
  have q0 := Kd.R_far (p := ⟨pb, 2, none⟩) (Kd.R_far (p := ⟨pb, 1, none⟩) H.r0 n2 (.slice none 0 0)) n2 (.slice none 0 0)
  have q1 := Kd.R_far (p := ⟨pb, 2, none⟩) (Kd.R_far (p := ⟨pb, 1, none⟩) H.r1 n3 (.slice none 0 0)) n3 (.slice none 0 0)
  have K2 : Kept W ((W.setCell ⟨pb, 1, none⟩ (.slice none 0 0)).setCell ⟨pb, 2, none⟩ (.slice none 0 0)) (fun k => k = pb) := ((Kept.refl W (fun k => k = pb)).setCell (p := ⟨pb, 1, none⟩) (.inl rfl) _).setCell (p := ⟨pb, 2, none⟩) (.inl rfl) _
  generalize (W.setCell ⟨pb, 1, none⟩ (.slice none 0 0)).setCell ⟨pb, 2, none⟩ (.slice none 0 0) = W2 at *
  have hb : Below W2.heap.size W2 ((W2.alloc (.cells #[.slice A0 xs.length c0, .slice A1 ys.length c1] 45)).alloc (.cells #[.slice A0 xs.length c0, .slice A1 ys.length c1] 45)) := below_alloc (below_alloc (Below.refl _ _) _) _
  have hbk := blk_alloc (blk_new W2 (.cells #[.slice A0 xs.length c0, .slice A1 ys.length c1] 45)) (.cells #[.slice A0 xs.length c0, .slice A1 ys.length c1] 45)
  rw [hs2] at hbk
  exact bodyPost_ret (results_cell_row rfl _ _ W.heap.size 45 #[.slice A0 xs.length c0, .slice A1 ys.length c1] (0, 0) _ rfl hbk Try.underlying45 rfl (by kernel_rfl)) rfl ⟨rfl, Kd.R_below q0 hb, Kd.R_below q1 hb, R2.next hb, K2.below hb⟩
end
end Go.Proofs.Ytkanhnhagjopkaa.M

/-
  Layer 2: the document's memory: May, plain; New: the walk. Conditions: lengths that any memory can hold.
-/
namespace Go.Proofs.Ytkanhnhagjopkaa.M
open Go.RowKit Go.Proofs.YtkanhnhagjopkaaW.PrintWords Go.Proofs.YtkanhnhagjopkaaW.PrintLast Go.Proofs.Ytkanhnhagjopkaa.Num
set_option linter.unusedVariables false
set_option linter.unusedSimpArgs false
def tb13.T7 : Bool × List (List Nat × List Nat) := (true, [([], []), ([], []), ([0, 1], [0, 1]), ([2], [2]), ([3], [3]), ([], []), ([], []), ([5, 6], [5, 6]), ([7], [7]), ([8], [8]), ([4, 9], [4, 9]), ([], []), ([11, 10, 0, 1, 2, 3, 4, 5, 6, 7, 8, 9, 10, 11], [10, 11])])
def tb13.B7 : List Nat := [0, 0, 3, 7, 15, 0, 0, 96, 224, 480, 1023, 0, 4095]
theorem tb13.tab7 : rtab .any (opsOf Try.f13 7) = tb13.T7 := by kernel_rfl
theorem tb13.bits7 : waitsOk tb13.T7.2 tb13.B7 = true := by kernel_rfl
def tb13.T8 : Bool × List (List Nat × List Nat) := (true, [([], []), ([0], [0]), ([], []), ([], []), ([2, 3], [2, 3]), ([4], [4]), ([5], [5]), ([1, 6], [1, 6]), ([0, 1, 2, 3, 4, 5, 6, 7], []), ([8, 7, 7, 0, 1, 2, 3, 4, 5, 6, 7], [7, 8])])
def tb13.B8 : List Nat := [0, 1, 0, 0, 12, 28, 60, 127, 255, 511]
theorem tb13.tab8 : rtab .any (opsOf Try.f13 8) = tb13.T8 := by kernel_rfl
theorem tb13.bits8 : waitsOk tb13.T8.2 tb13.B8 = true := by kernel_rfl
def tb13.T9 : Bool × List (List Nat × List Nat) := (true, [([], []), ([], []), ([1], [1]), ([2], [2]), ([3], [3]), ([], []), ([5], [5]), ([4, 6], [4, 6]), ([0, 0, 1, 2, 3, 4, 5, 6, 7], [0]), ([8, 0, 1, 2, 3, 4, 5, 6, 7], [8]), ([9, 7, 7, 0, 1, 2, 3, 4, 5, 6, 7], [7, 9])])
def tb13.B9 : List Nat := [0, 0, 2, 6, 14, 0, 32, 126, 255, 511, 1023]
theorem tb13.tab9 : rtab .any (opsOf Try.f13 9) = tb13.T9 := by kernel_rfl
theorem tb13.bits9 : waitsOk tb13.T9.2 tb13.B9 = true := by kernel_rfl
theorem tmod8 (a : Int) : (Int.tmod a 8 = 0) ↔ a % 8 = 0 := by
  rw [← Int.dvd_iff_tmod_eq_zero, ← Int.dvd_iff_emod_eq_zero]
theorem may_l (l : List S27) (hl : l.length ≤ 16) : ∀ k : Nat,
    (∀ i, i ≤ l.length → (l.length - i) * 20 + 1 ≤ k → cotterref02_May.l0 k l (i : Int) = some (mayF (l.take i) (l.drop i))) ∧
    (∀ i j, (hi : i < l.length) → j ≤ i → (l.length - (i + 1)) * 20 + (i - j) + 2 ≤ k → cotterref02_May.l1 k l (i : Int) (j : Int) = some (!(((l.take i).drop j).any (meetsR l[i])) && mayF (l.take (i + 1)) (l.drop (i + 1))))
  | 0 => ⟨fun i hi hk => by omega, fun i j hi hj hk => by omega⟩
  | k + 1 => by
    obtain ⟨ih0, ih1⟩ := may_l l hl k
    refine ⟨fun i hi hk => ?_, fun i j hi hj hk => ?_⟩
    · simp only [cotterref02_May.l0]
      by_cases h : i < l.length
      · rw [if_pos (by omega), if_pos (by omega), rd27_at l i h, List.drop_eq_getElem_cons h]
        unfold mayF
        rw [List.take_append_getElem h]
        have hj : ∀ x : Bool, cotterref02_May.j1 k l (i : Int) x = some (!x && (!(((l.take i).any (meetsR l[i]))) && mayF (l.take (i + 1)) (l.drop (i + 1)))) := by
          intro x
          match k, hk, ih1 with
          | 0, hk, _ => exact absurd hk (by omega)
          | k + 1, hk, ih1 =>
            simp only [cotterref02_May.j1]
            cases x with
            | true => rfl
            | false =>
              rw [if_neg (by simp)]
              have h2 := (may_l l hl k).2 i 0 h (by omega) (by omega)
              simpa using h2
        have e : ∀ b : Bool, decide (goodR l[i]) = !b → some (!b && (!(((l.take i).any (meetsR l[i]))) && mayF (l.take (i + 1)) (l.drop (i + 1)))) = some (decide (goodR l[i]) && !((l.take i).any (meetsR l[i])) && mayF (l.take (i + 1)) (l.drop (i + 1))) := by
          intro b hb
          rw [hb, Bool.and_assoc]
        by_cases c0 : l[i].f0 < 0
        · rw [if_pos c0, hj true]
          exact e true (by simp; unfold goodR; omega)
        · rw [if_neg c0]
          by_cases c1 : l[i].f0 % 8 = 0
          · rw [if_pos ((tmod8 _).2 c1)]
            by_cases c2 : l[i].f0 > 1099511627776
            · rw [if_pos c2, hj true]
              exact e true (by simp; unfold goodR; omega)
            · rw [if_neg c2, hj]
              refine e _ ?_
              by_cases c3 : (l[i].f1.length : Int) > 65536
              · rw [decide_eq_true c3]
                simp
                unfold goodR
                omega
              · rw [decide_eq_false c3]
                simp
                unfold goodR
                omega
          · rw [if_neg (fun h => c1 ((tmod8 _).1 h)), hj true]
            exact e true (by simp; unfold goodR; omega)
      · rw [if_neg (by omega), List.drop_eq_nil_of_le (by omega)]
        rfl
    · simp only [cotterref02_May.l1]
      by_cases h : j < i
      · have hjl : j < l.length := by omega
        have hjt : j < (l.take i).length := by rw [List.length_take]; omega
        have ih := ih1 i (j + 1) hi (by omega) (by omega)
        rw [if_pos (by omega), if_pos (by omega), if_pos (by omega), if_pos (by omega), if_pos (by omega), rd27_at l i hi, rd27_at l j hjl, List.drop_eq_getElem_cons hjt, List.any_cons, up1 j (by omega), ih, List.getElem_take]
        show (if l[i].f0 < endv l[j] then (if l[j].f0 < endv l[i] then some false else _) else _) = _
        unfold meetsR
        by_cases c0 : l[i].f0 < endv l[j]
        · rw [if_pos c0]
          by_cases c1 : l[j].f0 < endv l[i]
          · rw [if_pos c1]
            simp [c0, c1]
          · rw [if_neg c1]
            simp [c1]
        · rw [if_neg c0]
          simp [c0]
      · obtain rfl : j = i := by omega
        have h2 := ih0 (j + 1) (by omega) (by omega)
        have ed : (l.take j).drop j = [] := List.drop_eq_nil_of_le (by rw [List.length_take]; omega)
        rw [if_neg (by omega), up1 j (by omega), h2, ed]
        simp
theorem may_f (l : List S27) : cotterref02_May.f 400 l = some (newOk l) := by
  unfold cotterref02_May.f newOk
  by_cases h : (l.length : Int) > 16
  · rw [if_pos h, decide_eq_false (by omega)]
    rfl
  · rw [if_neg h, decide_eq_true (by omega)]
    have := (may_l l (by omega) 400).1 0 (by omega) (by omega)
    simpa using this
section
variable {O : Nat → Prop} {w W W' : World} {pb : Nat} {vr : Value} {l : List S27}
theorem app_preS {base : Nat} (h : Kd.S k27 27 W base O vr l) {N b : Nat} (hO : ∀ k, O k → k < N) {A : Option Addr} {c : Nat} {f0 : Int} {f1 : List Int} {f2 : Bool} (hR : Kd.R (Kd.int .i64) 2 W b (fun k => N ≤ k) (.slice A f1.length c) f1) (hb : base ≤ b) :
    k27.M W base (fun k => some k = (Value.slice A f1.length c).ownBlock) (⟨f0, f1, f2⟩ : S27) [.int .i64 f0, .slice A f1.length c, .bool f2] ∧ (∀ k, some k = (Value.slice A f1.length c).ownBlock → True ∧ some k ≠ vr.ownBlock) ∧ Kd.S k27 27 W base (fun k => True ∧ ¬ some k = (Value.slice A f1.length c).ownBlock) vr l := by
  refine ⟨k27_mkM _ _ _ (⟨f0, f1, f2⟩ : S27) (Kd.R_mono (Kd.R_tight rfl (Kd.R_lower hR hb)) (fun _ h => h)), fun k hk => ⟨trivial, fun e => ?_⟩, Kd.S_mono h (fun k hk => ⟨trivial, fun e => ?_⟩)⟩
  · have h1 := hR.1 k hk.symm
    have h2 : O k := (Kd.S_R h).1 k e.symm
    have := hO k h2
    omega
  · have h1 := hR.1 k e.symm
    have := hO k hk
    omega
theorem RefG.append (H : RefG O (fun _ => False) (fun _ => False) w W pb vr (.slice none 0 0) (.slice none 0 0) l [] []) {v1 : Value} {l1 : List S27} {O1 : Nat → Prop} {W1 : World} (hS : Kd.S k27 27 W1 w.heap.size O1 v1 l1) (hg : W.grownBy W1 vr.ownBlock) (hB : Below w.heap.size w W1) :
    RefG (fun k => w.heap.size ≤ k ∧ k < (W1.setCell ⟨pb, 0, none⟩ v1).heap.size ∧ k ≠ pb) (fun _ => False) (fun _ => False) w (W1.setCell ⟨pb, 0, none⟩ v1) pb v1 (.slice none 0 0) (.slice none 0 0) l1 [] [] := by
  have hp := blk_grown H.blk hg (Kd.S_ne H.reg H.blk (by decide))
  refine ⟨below_set hB H.ge, H.ge, blk_put (cs' := #[v1, .slice none 0 0, .slice none 0 0]) hp 0 _ rfl, ?_, Kd.R_nil _ _ _ _ _, Kd.R_nil _ _ _ _ _, fun _ _ h => h, fun _ _ h => h, fun _ h _ => h, ⟨fun h => h.2.2 rfl, fun h => h, fun h => h⟩, fun k hk => by rcases hk with hk | hk | hk; exact hk.2.1; exact hk.elim; exact hk.elim⟩
  have h := Kd.S_types hS hp (fun q hq => by rcases k27_types hq with h | h <;> subst h <;> decide)
  have h2 := Kd.S_far (p := ⟨pb, 0, none⟩) h (fun k hk => hk.2) v1
  exact Kd.S_mono (Kd.S_bound h2) (fun k hk => ⟨hk.2.1, hk.2.2.1, hk.1.2⟩)
end
set_option maxHeartbeats 16000000 in
set_option maxRecDepth 100000 in
theorem newR_c {W : World} {A : Option Addr} {c : Nat} {l : List S27} (h : Kd.C k27 W A l.length l) (hc : l.length ≤ c) (hm : l.length ≤ 4000000000000) (hw : ∀ o ∈ l, o.f1.length ≤ 4000000000000) :
    Calls Try.prog 13 #[.slice A l.length c] W fun e w' => (newOk l = true → ∃ pb vr, e = .returned (.tuple #[.pointer (some ⟨pb, 0, none⟩), .int .i64 0]) ∧ RefG (fun k => W.heap.size ≤ k ∧ k < w'.heap.size ∧ k ≠ pb) (fun _ => False) (fun _ => False) W w' pb vr (.slice none 0 0) (.slice none 0 0) l [] []) ∧ (newOk l = false → e = .returned (.tuple #[.pointer none, .int .i64 1])) ∧ Below W.heap.size W w' := by
  have HC := Aside0.mk h
  have HL := Aside0.mk hw
  have MC := Aside0.mk (cotterref02_May.calls 400 A c l (newOk l) W h hc (may_f l))
  clear h hw hc
  cases hok : newOk l with
  | false =>
    rw [hok] at MC
    go_enter Try.func13, Try.ntmps13
    go_wp2_with (first | (go_at_call 35; (with_reducible refine MC.out.mono ?_); rintro e w1 ⟨rfl, hd⟩; have HB := Aside0.mk (drawn_below hd); clear hd))
    go_ret2
    exact ⟨fun h => by simp at h, fun _ => rfl, HB.out⟩
  | true =>
    rw [hok] at MC
    have hle16 := (newOk_good hok).2
    clear hok
    go_enter Try.func13, Try.ntmps13
    go_wp2_with (first | (go_at_call 35; (with_reducible refine MC.out.mono ?_); rintro e w1 ⟨rfl, hd⟩; have HB := Aside0.mk (drawn_below hd); clear hd))
    have H0 := Aside0.mk (show RefG (fun k => W.heap.size ≤ k ∧ k < (w1.alloc (.cells #[.slice none 0 0, .slice none 0 0, .slice none 0 0] 74)).heap.size ∧ k ≠ w1.heap.size) (fun _ => False) (fun _ => False) W (w1.alloc (.cells #[.slice none 0 0, .slice none 0 0, .slice none 0 0] 74)) w1.heap.size (.slice none 0 0) (.slice none 0 0) (.slice none 0 0) [] [] [] from
      ⟨below_alloc HB.out _, HB.out.size, blk_new _ _, Kd.S_nil _ _ _ _ _, Kd.R_nil _ _ _ _ _, Kd.R_nil _ _ _ _ _, fun _ _ h => h, fun _ _ h => h, fun _ h _ => h, ⟨fun h => h.2.2 rfl, fun h => h, fun h => h⟩, fun k hk => by rcases hk with hk | hk | hk; exact hk.2.1; exact hk.elim; exact hk.elim⟩)
    generalize w1.heap.size = pb at *
    generalize w1.alloc (.cells #[.slice none 0 0, .slice none 0 0, .slice none 0 0] 74) = w3 at *
    clear HB
    go_wp2
    go_loopw [5] (fun v5 wr => ∃ (i : Nat) (vr : Value), i ≤ l.length ∧ v5 = .int .i64 i ∧ Aside0 (RefG (fun k => W.heap.size ≤ k ∧ k < wr.heap.size ∧ k ≠ pb) (fun _ => False) (fun _ => False) W wr pb vr (.slice none 0 0) (.slice none 0 0) (l.take i) [] [])) (fun v5 _ => l.length - (intOf v5).toNat)
    case atStart => exact ⟨0, _, Nat.zero_le _, rfl, H0⟩
    case round =>
      clear H0
      obtain ⟨i, vr, hi, rfl, HM⟩ := hrel
      by_cases hlt : i < l.length
      case pos =>
        obtain ⟨ad, A1, c1, e, hx0, hx1, hx2, k1, r1⟩ := at_T27 HC.out (i : Int) (by omega) (by omega)
        cases e
        have hil : (i : Int) < (l.length : Int) := by omega
        simp only [Int.toNat_natCast] at hx0 hx1 hx2
        rw [rd27_at l i hlt] at hx0 hx1 hx2 k1 r1
        replace hx0 := pw_cell_below HM.out.below hx0
        replace hx1 := pw_cell_below HM.out.below hx1
        replace hx2 := pw_cell_below HM.out.below hx2
        have R1 := Aside0.mk (Kd.C_below r1 HM.out.below)
        have LT := Aside0.mk hlt
        have ET := Aside0.mk (show l.take (i + 1) = l.take i ++ [l[i]] from (List.take_append_getElem hlt).symm)
        have LM := Aside0.mk (HL.out _ (List.getElem_mem hlt))
        clear r1 k1
        generalize l[i] = o at *
        obtain ⟨f0, f1, f2⟩ := o
        dsimp only at *
        go_wp2
        refine start_ (n := 13) (S := fun w' => w'.cell? (ad.add (i * 3)) = some (.int .i64 f0) ∧ w'.cell? ⟨(ad.add (i * 3)).block, (ad.add (i * 3)).off + 2, none⟩ = some (.bool f2)) (ds := [12]) #[false, false, false, false, false, false, false, false, false, false, false, false, false] (by kernel_rfl) rfl rfl ⟨hx0, hx2⟩ (fun hHeld => ?_)
        refine with_tabW tb13.tab7 tb13.bits7 (fun HT_ HW_ => ?_)
        refine pure_ (i := 0) (N := some 18) (v := ?_) (a' := ?_) #[true, false, false, false, false, false, false, false, false, false, false, false, false] rfl rfl (any_of HT_.out (by kernel_rfl)) (fun _ _ _ h => h) (Or.inl ⟨by rfl, ?_⟩) ?_ ?_
        rotate_left
        · intro w'
          go_simp
          with_reducible rfl
        rotate_left
        · simp only [Act.put, List.setIfInBounds_toArray, List.set_cons_zero, List.set_cons_succ, i64_w, i32_w]
          rfl
        refine pure_ (i := 1) (N := some 19) (v := ?_) (a' := ?_) #[true, true, false, false, false, false, false, false, false, false, false, false, false] rfl rfl (any_of HT_.out (by kernel_rfl)) (fun _ _ _ h => h) (Or.inl ⟨by rfl, ?_⟩) ?_ ?_
        rotate_left
        · intro w'
          go_simp
          with_reducible rfl
        rotate_left
        · simp only [Act.put, List.setIfInBounds_toArray, List.set_cons_zero, List.set_cons_succ, i64_w, i32_w]
          rfl
        refine pure_ (i := 2) (N := some 20) (v := ?_) (a' := ?_) #[true, true, true, false, false, false, false, false, false, false, false, false, false] rfl rfl (any_of HT_.out (by kernel_rfl)) (fun _ _ _ h => h) (Or.inl ⟨by rfl, ?_⟩) ?_ ?_
        rotate_left
        · intro w'
          go_simp
          with_reducible rfl
        rotate_left
        · simp only [Act.put, List.setIfInBounds_toArray, List.set_cons_zero, List.set_cons_succ, i64_w, i32_w]
          rfl
        refine pure_ (i := 3) (N := some 21) (v := ?_) (a' := ?_) #[true, true, true, true, false, false, false, false, false, false, false, false, false] rfl rfl (any_of HT_.out (by kernel_rfl)) (fun _ _ _ h => h) (Or.inl ⟨by rfl, ?_⟩) ?_ ?_
        rotate_left
        · intro w'
          go_simp
          with_reducible rfl
        rotate_left
        · simp only [Act.put, List.setIfInBounds_toArray, List.set_cons_zero, List.set_cons_succ, i64_w, i32_w]
          rfl
        refine pure_ (i := 5) (N := some 23) (v := ?_) (a' := ?_) #[true, true, true, true, false, true, false, false, false, false, false, false, false] rfl rfl (any_of HT_.out (by kernel_rfl)) (fun _ _ _ h => h) (Or.inl ⟨by rfl, ?_⟩) ?_ ?_
        rotate_left
        · intro w'
          go_simp
          with_reducible rfl
        rotate_left
        · simp only [Act.put, List.setIfInBounds_toArray, List.set_cons_zero, List.set_cons_succ, i64_w, i32_w]
          rfl
        refine pure_ (i := 6) (N := some 24) (v := ?_) (a' := ?_) #[true, true, true, true, false, true, true, false, false, false, false, false, false] rfl rfl (any_of HT_.out (by kernel_rfl)) (fun _ _ _ h => h) (Or.inl ⟨by rfl, ?_⟩) ?_ ?_
        rotate_left
        · intro w'
          go_simp
          with_reducible rfl
        rotate_left
        · simp only [Act.put, List.setIfInBounds_toArray, List.set_cons_zero, List.set_cons_succ, i64_w, i32_w]
          rfl
        refine pure_ (i := 7) (N := some 25) (v := ?_) (a' := ?_) #[true, true, true, true, false, true, true, true, false, false, false, false, false] rfl rfl (any_of HT_.out (by kernel_rfl)) (fun _ _ _ h => h) (Or.inl ⟨by rfl, ?_⟩) ?_ ?_
        rotate_left
        · intro w'
          go_simp
          with_reducible rfl
        rotate_left
        · simp only [Act.put, List.setIfInBounds_toArray, List.set_cons_zero, List.set_cons_succ, i64_w, i32_w]
          rfl
        refine pure_ (i := 8) (N := some 26) (v := ?_) (a' := ?_) #[true, true, true, true, false, true, true, true, true, false, false, false, false] rfl rfl (any_of HT_.out (by kernel_rfl)) (fun _ _ _ h => h) (Or.inl ⟨by rfl, ?_⟩) ?_ ?_
        rotate_left
        · intro w'
          go_simp
          with_reducible rfl
        rotate_left
        · simp only [Act.put, List.setIfInBounds_toArray, List.set_cons_zero, List.set_cons_succ, i64_w, i32_w]
          rfl
        refine take_ (i := 4) (N := some 22) (v := ?_) (a' := ?_) #[true, true, true, true, true, true, true, true, true, false, false, false, false] rfl rfl (take_ofW HT_.out HW_.out (by kernel_rfl)) (fun _ _ _ h => h) (Or.inl ⟨by rfl, ?_⟩) hHeld ?_ ?_
        rotate_left
        · rintro w' ⟨s0, s1⟩
          go_simp
          with_reducible rfl
        rotate_left
        · simp only [Act.put, List.setIfInBounds_toArray, List.set_cons_zero, List.set_cons_succ, i64_w, i32_w]
          rfl
        refine take_ (i := 9) (N := some 27) (v := ?_) (a' := ?_) #[true, true, true, true, true, true, true, true, true, true, false, false, false] rfl rfl (take_ofW HT_.out HW_.out (by kernel_rfl)) (fun _ _ _ h => h) (Or.inl ⟨by rfl, ?_⟩) hHeld ?_ ?_
        rotate_left
        · rintro w' ⟨s0, s1⟩
          go_simp
          with_reducible rfl
        rotate_left
        · simp only [Act.put, List.setIfInBounds_toArray, List.set_cons_zero, List.set_cons_succ, i64_w, i32_w]
          rfl
        refine pure_ (i := 10) (N := some 28) (v := ?_) (a' := ?_) #[true, true, true, true, true, true, true, true, true, true, true, false, false] rfl rfl (any_of HT_.out (by kernel_rfl)) (fun _ _ _ h => h) (Or.inl ⟨by rfl, ?_⟩) ?_ ?_
        rotate_left
        · intro w'
          go_simp
          with_reducible rfl
        rotate_left
        · simp only [Act.put, List.setIfInBounds_toArray, List.set_cons_zero, List.set_cons_succ, i64_w, i32_w]
          rfl
        refine one_ (i := 11) (N := some 6) #[true, true, true, true, true, true, true, true, true, true, true, true, false] rfl rfl (one_of HT_.out (by kernel_rfl)) (by decide) (fun K hK => ?_)
        refine value_ (w1 := ?_) (v := ?_) (by rfl) rfl ?_ ?_
        rotate_left 2
        · go_simp
          constructor
          · rfl
          · rfl
        refine hK.out _ _ ⟨(Lib.cell?_alloc_some _ hx0), (Lib.cell?_alloc_some _ hx2)⟩ (fun hHeld => ?_)
        clear hK K
        refine norm_ (a' := ?_) ?_ ?_
        rotate_left
        · show Act.put _ (some 6) _ = _
          simp only [Act.put, List.setIfInBounds_toArray, List.set_cons_zero, List.set_cons_succ, i64_w, i32_w]
          rfl
        refine last_ (i := 12) (N := none) #[true, true, true, true, true, true, true, true, true, true, true, true, true] rfl rfl (one_of HT_.out (by kernel_rfl)) (by decide) (fun K hK => ?_)
        refine skip_ (w1 := ?_) (by rfl) rfl ?_ ?_
        rotate_left
        · go_simp
          rfl
        refine hK.out _ _ ?_
        clear hK K
        refine done_ (done_of HT_.out (by kernel_rfl)) ?_
        have H6 := Aside0.mk (HM.out.next (below_drew1 (below_alloc (Below.refl _ _) (.cells #[.int .i64 f0, .slice none 0 0, .bool f2] 27))))
        have BG6 := Aside0.mk (blk_drew (blk_new wr (.cells #[.int .i64 f0, .slice none 0 0, .bool f2] 27)))
        have R6 := Aside0.mk (Kd.C_drew (Kd.C_alloc R1.out (.cells #[.int .i64 f0, .slice none 0 0, .bool f2] 27)))
        have NG := Aside0.mk (show wr.heap.size < (wr.alloc (.cells #[.int .i64 f0, .slice none 0 0, .bool f2] 27)).drew.heap.size from blk_lt (blk_drew (blk_new wr _)))
        have kg1 : (wr.alloc (.cells #[.int .i64 f0, .slice none 0 0, .bool f2] 27)).drew.cell? ⟨wr.heap.size, 1, none⟩ = some (.slice none 0 0) := (blk_cell BG6.out 1).trans rfl
        have kx1 : (wr.alloc (.cells #[.int .i64 f0, .slice none 0 0, .bool f2] 27)).drew.cell? ⟨(ad.add (i * 3)).block, (ad.add (i * 3)).off + 1, none⟩ = some (.slice A1 f1.length c1) := pw_cell_below (below_drew1 (below_alloc (Below.refl _ _) _)) hx1
        have HSZ := Aside0.mk (show W.heap.size ≤ wr.heap.size from HM.out.below.size)
        have PBL := Aside0.mk (show pb < wr.heap.size from blk_lt HM.out.blk)
        clear HM R1 hx0 hx1 hx2 hHeld HT_ HW_
        generalize (wr.alloc (.cells #[.int .i64 f0, .slice none 0 0, .bool f2] 27)).drew = w6 at *
        generalize wr.heap.size = gb at *
        go_wp2
        refine start_ (n := 10) (S := fun w' => w'.cell? ⟨gb, 1, none⟩ = some (.slice none 0 0) ∧ w'.cell? ⟨(ad.add (i * 3)).block, (ad.add (i * 3)).off + 1, none⟩ = some (.slice A1 f1.length c1)) (ds := [7, 9]) #[false, false, false, false, false, false, false, false, false, false] (by kernel_rfl) rfl rfl ⟨kg1, kx1⟩ (fun hHeld => ?_)
        refine with_tabW tb13.tab8 tb13.bits8 (fun HT_ HW_ => ?_)
        refine pure_ (i := 0) (N := some 29) (v := ?_) (a' := ?_) #[true, false, false, false, false, false, false, false, false, false] rfl rfl (any_of HT_.out (by kernel_rfl)) (fun _ _ _ h => h) (Or.inl ⟨by rfl, ?_⟩) ?_ ?_
        rotate_left
        · intro w'
          go_simp
          with_reducible rfl
        rotate_left
        · simp only [Act.put, List.setIfInBounds_toArray, List.set_cons_zero, List.set_cons_succ, i64_w, i32_w]
          rfl
        refine pure_ (i := 2) (N := some 31) (v := ?_) (a' := ?_) #[true, false, true, false, false, false, false, false, false, false] rfl rfl (any_of HT_.out (by kernel_rfl)) (fun _ _ _ h => h) (Or.inl ⟨by rfl, ?_⟩) ?_ ?_
        rotate_left
        · intro w'
          go_simp
          with_reducible rfl
        rotate_left
        · simp only [Act.put, List.setIfInBounds_toArray, List.set_cons_zero, List.set_cons_succ, i64_w, i32_w]
          rfl
        refine pure_ (i := 3) (N := some 32) (v := ?_) (a' := ?_) #[true, false, true, true, false, false, false, false, false, false] rfl rfl (any_of HT_.out (by kernel_rfl)) (fun _ _ _ h => h) (Or.inl ⟨by rfl, ?_⟩) ?_ ?_
        rotate_left
        · intro w'
          go_simp
          with_reducible rfl
        rotate_left
        · simp only [Act.put, List.setIfInBounds_toArray, List.set_cons_zero, List.set_cons_succ, i64_w, i32_w]
          rfl
        refine pure_ (i := 4) (N := some 33) (v := ?_) (a' := ?_) #[true, false, true, true, true, false, false, false, false, false] rfl rfl (any_of HT_.out (by kernel_rfl)) (fun _ _ _ h => h) (Or.inl ⟨by rfl, ?_⟩) ?_ ?_
        rotate_left
        · intro w'
          go_simp
          with_reducible rfl
        rotate_left
        · simp only [Act.put, List.setIfInBounds_toArray, List.set_cons_zero, List.set_cons_succ, i64_w, i32_w]
          rfl
        refine pure_ (i := 5) (N := some 34) (v := ?_) (a' := ?_) #[true, false, true, true, true, true, false, false, false, false] rfl rfl (any_of HT_.out (by kernel_rfl)) (fun _ _ _ h => h) (Or.inl ⟨by rfl, ?_⟩) ?_ ?_
        rotate_left
        · intro w'
          go_simp
          with_reducible rfl
        rotate_left
        · simp only [Act.put, List.setIfInBounds_toArray, List.set_cons_zero, List.set_cons_succ, i64_w, i32_w]
          rfl
        refine take_ (i := 1) (N := some 30) (v := ?_) (a' := ?_) #[true, true, true, true, true, true, false, false, false, false] rfl rfl (take_ofW HT_.out HW_.out (by kernel_rfl)) (fun _ _ _ h => h) (Or.inl ⟨by rfl, ?_⟩) hHeld ?_ ?_
        rotate_left
        · rintro w' ⟨s0, s1⟩
          go_simp
          with_reducible rfl
        rotate_left
        · simp only [Act.put, List.setIfInBounds_toArray, List.set_cons_zero, List.set_cons_succ, i64_w, i32_w]
          rfl
        refine take_ (i := 6) (N := some 35) (v := ?_) (a' := ?_) #[true, true, true, true, true, true, true, false, false, false] rfl rfl (take_ofW HT_.out HW_.out (by kernel_rfl)) (fun _ _ _ h => h) (Or.inl ⟨by rfl, ?_⟩) hHeld ?_ ?_
        rotate_left
        · rintro w' ⟨s0, s1⟩
          go_simp
          with_reducible rfl
        rotate_left
        · simp only [Act.put, List.setIfInBounds_toArray, List.set_cons_zero, List.set_cons_succ, i64_w, i32_w]
          rfl
        refine last_ (i := 7) (N := some 36) #[true, true, true, true, true, true, true, true, false, false] rfl rfl (one_of HT_.out (by kernel_rfl)) (by decide) (fun K hK => ?_)
        refine Kd.R_append_rows_step (Kd.int .i64) (w0 := w6) w6.heap.size (by rfl) (.tmp 30) (.tmp 35) 25 2 (.int .i64 0) 8 rfl Try.underlying25 info2 rfl (by decide) (by omega) (.slice none 0 0) ([] : List Int) f1 _ _ _ (fun _ => True) (fun _ => False) rfl rfl (Kd.R_nil _ _ _ _ (fun _ => True)) (Kd.C_drew R6.out) (fun _ _ h => h) (fun _ h => h.elim) (fun _ _ => trivial) (below_drew1 (Below.refl _ _)) (Nat.le_refl _) (by have := LM.out; simp; omega) ?_
        intro v1 w10 ho hb hg hat
        rw [List.nil_append] at ho
        obtain ⟨Av, cv, rfl⟩ := Kd.R_slice ho
        have HR10 := Aside0.mk ho
        have HB10 := Aside0.mk hb
        have kp1 : w10.cell? ⟨gb, 1, none⟩ = some (.slice none 0 0) := (blk_cell (blk_below BG6.out hb) 1).trans rfl
        have kf1 : w10.frozen? ⟨gb, 1, none⟩ = false := blk_frozen (blk_below BG6.out hb) 1
        clear ho hb hg hat
        refine hK.out _ _ ?_
        clear hK K
        refine norm_ (a' := ?_) ?_ ?_
        rotate_left
        · show Act.put _ (some 36) _ = _
          simp only [Act.put, List.setIfInBounds_toArray, List.set_cons_zero, List.set_cons_succ, i64_w, i32_w]
          rfl
        refine pure_ (i := 8) (N := some 37) (v := ?_) (a' := ?_) #[true, true, true, true, true, true, true, true, true, false] rfl rfl (any_of HT_.out (by kernel_rfl)) (fun _ _ _ h => h) (Or.inl ⟨by rfl, ?_⟩) ?_ ?_
        rotate_left
        · intro w'
          go_simp
          with_reducible rfl
        rotate_left
        · simp only [Act.put, List.setIfInBounds_toArray, List.set_cons_zero, List.set_cons_succ, i64_w, i32_w]
          rfl
        refine last_ (i := 9) (N := none) #[true, true, true, true, true, true, true, true, true, true] rfl rfl (one_of HT_.out (by kernel_rfl)) (by decide) (fun K hK => ?_)
        refine skip_ (w1 := ?_) (by rfl) rfl ?_ ?_
        rotate_left
        · go_simp
          rfl
        refine hK.out _ _ ?_
        clear hK K
        refine done_ (done_of HT_.out (by kernel_rfl)) ?_
        have X11 : Kept w10 (w10.setCell ⟨gb, 1, none⟩ (.slice Av f1.length cv)) (fun k => k = gb) := (Kept.refl _ (fun k => k = gb)).setCell (p := ⟨gb, 1, none⟩) (.inl rfl) _
        have h10 := H6.out.next HB10.out
        obtain ⟨A', c', rfl⟩ := Kd.S_slice H6.out.reg
        have hlen : (l.take i).length = i := by rw [List.length_take]; omega
        rw [hlen] at h10
        have H11 := Aside0.mk ((h10.kept X11 (fun k hk e => by have := PBL.out; rcases hk with hk | hk | hk | hk; · have := hk.2.1; omega
                                                               · exact hk.elim
                                                               · exact hk.elim
                                                               · omega) (below_set h10.below HSZ.out)).next (below_drew1 (Below.refl _ _)))
        have BG11 := Aside0.mk (blk_drew (blk_put (cs' := #[.int .i64 f0, .slice Av f1.length cv, .bool f2]) (blk_below BG6.out HB10.out) 1 (.slice Av f1.length cv) rfl))
        have hR := Kd.R_mono (ok' := fun k => gb < k ∧ gb ≤ k) (Kd.R_bound HR10.out) (fun k hk => ⟨by have := hk.2.1; have := NG.out; omega, by have := hk.2.1; have := NG.out; omega⟩)
        have HR11 := Aside0.mk (Kd.R_drew (Kd.R_mono (ok' := fun k => gb ≤ k) (Kd.R_far (p := ⟨gb, 1, none⟩) hR (fun k hk => by have := hk.1; simp; omega) (.slice Av f1.length cv)) (fun k hk => hk.2)))
        have PRE := Aside0.mk (app_preS (f0 := f0) (f2 := f2) (N := gb) H11.out.reg (fun k hk => hk.2.1) HR11.out (by have := HSZ.out; have := NG.out; omega))
        have HLN := Aside0.mk hlen
        clear h10 hR X11 hlen kp1 kf1 hHeld HT_ HW_ kg1 kx1
        generalize w10.setCell ⟨gb, 1, none⟩ (.slice Av f1.length cv) = w11 at *
        have k62 : w11.drew.cell? ⟨pb, 0, none⟩ = some (.slice A' i c') := (blk_cell H11.out.blk 0).trans rfl
        have k60 : w11.drew.cell? ⟨gb, 0, none⟩ = some (.int .i64 f0) := (blk_cell BG11.out 0).trans rfl
        have k61 : w11.drew.cell? ⟨gb, 1, none⟩ = some (.slice Av f1.length cv) := (blk_cell BG11.out 1).trans rfl
        have k63 : w11.drew.cell? ⟨gb, 2, none⟩ = some (.bool f2) := (blk_cell BG11.out 2).trans rfl
        go_wp2
        refine start_ (n := 11) (S := fun w' => w'.cell? ⟨pb, 0, none⟩ = some (.slice A' i c') ∧ w'.cell? ⟨gb, 0, none⟩ = some (.int .i64 f0) ∧ w'.cell? ⟨gb, 1, none⟩ = some (.slice Av f1.length cv) ∧ w'.cell? ⟨gb, 2, none⟩ = some (.bool f2)) (ds := [7, 10]) #[false, false, false, false, false, false, false, false, false, false, false] (by kernel_rfl) rfl rfl ⟨k62, k60, k61, k63⟩ (fun hHeld => ?_)
        refine with_tabW tb13.tab9 tb13.bits9 (fun HT_ HW_ => ?_)
        refine pure_ (i := 0) (N := some 38) (v := ?_) (a' := ?_) #[true, false, false, false, false, false, false, false, false, false, false] rfl rfl (any_of HT_.out (by kernel_rfl)) (fun _ _ _ h => h) (Or.inl ⟨by rfl, ?_⟩) ?_ ?_
        rotate_left
        · intro w'
          go_simp
          with_reducible rfl
        rotate_left
        · simp only [Act.put, List.setIfInBounds_toArray, List.set_cons_zero, List.set_cons_succ, i64_w, i32_w]
          rfl
        refine pure_ (i := 1) (N := some 39) (v := ?_) (a' := ?_) #[true, true, false, false, false, false, false, false, false, false, false] rfl rfl (any_of HT_.out (by kernel_rfl)) (fun _ _ _ h => h) (Or.inl ⟨by rfl, ?_⟩) ?_ ?_
        rotate_left
        · intro w'
          go_simp
          with_reducible rfl
        rotate_left
        · simp only [Act.put, List.setIfInBounds_toArray, List.set_cons_zero, List.set_cons_succ, i64_w, i32_w]
          rfl
        refine pure_ (i := 2) (N := some 40) (v := ?_) (a' := ?_) #[true, true, true, false, false, false, false, false, false, false, false] rfl rfl (any_of HT_.out (by kernel_rfl)) (fun _ _ _ h => h) (Or.inl ⟨by rfl, ?_⟩) ?_ ?_
        rotate_left
        · intro w'
          go_simp
          with_reducible rfl
        rotate_left
        · simp only [Act.put, List.setIfInBounds_toArray, List.set_cons_zero, List.set_cons_succ, i64_w, i32_w]
          rfl
        refine pure_ (i := 3) (N := some 41) (v := ?_) (a' := ?_) #[true, true, true, true, false, false, false, false, false, false, false] rfl rfl (any_of HT_.out (by kernel_rfl)) (fun _ _ _ h => h) (Or.inl ⟨by rfl, ?_⟩) ?_ ?_
        rotate_left
        · intro w'
          go_simp
          with_reducible rfl
        rotate_left
        · simp only [Act.put, List.setIfInBounds_toArray, List.set_cons_zero, List.set_cons_succ, i64_w, i32_w]
          rfl
        refine take_ (i := 4) (N := some 42) (v := ?_) (a' := ?_) #[true, true, true, true, true, false, false, false, false, false, false] rfl rfl (take_ofW HT_.out HW_.out (by kernel_rfl)) (fun _ _ _ h => h) (Or.inl ⟨by rfl, ?_⟩) hHeld ?_ ?_
        rotate_left
        · rintro w' ⟨s0, s1, s2, s3⟩
          go_simp
          with_reducible rfl
        rotate_left
        · simp only [Act.put, List.setIfInBounds_toArray, List.set_cons_zero, List.set_cons_succ, i64_w, i32_w]
          rfl
        refine take_ (i := 5) (N := some 43) (v := ?_) (a' := ?_) #[true, true, true, true, true, true, false, false, false, false, false] rfl rfl (take_ofW HT_.out HW_.out (by kernel_rfl)) (fun _ _ _ h => h) (Or.inl ⟨by rfl, ?_⟩) hHeld ?_ ?_
        rotate_left
        · rintro w' ⟨s0, s1, s2, s3⟩
          go_simp
          with_reducible rfl
        rotate_left
        · simp only [Act.put, List.setIfInBounds_toArray, List.set_cons_zero, List.set_cons_succ, i64_w, i32_w]
          rfl
        refine one_ (i := 6) (N := some 44) #[true, true, true, true, true, true, true, false, false, false, false] rfl rfl (one_of HT_.out (by kernel_rfl)) (by decide) (fun K hK => ?_)
        refine value_ (w1 := ?_) (v := ?_) (by rfl) rfl ?_ ?_
        rotate_left 2
        · go_simp
          constructor
          · rfl
          · rfl
        refine hK.out _ _ ⟨(Lib.cell?_alloc_some _ k62), (Lib.cell?_alloc_some _ k60), (Lib.cell?_alloc_some _ k61), (Lib.cell?_alloc_some _ k63)⟩ (fun hHeld => ?_)
        clear hK K
        refine norm_ (a' := ?_) ?_ ?_
        rotate_left
        · show Act.put _ (some 44) _ = _
          simp only [Act.put, List.setIfInBounds_toArray, List.set_cons_zero, List.set_cons_succ, i64_w, i32_w]
          rfl
        refine last_ (i := 7) (N := some 45) #[true, true, true, true, true, true, true, true, false, false, false] rfl rfl (one_of HT_.out (by kernel_rfl)) (by decide) (fun K hK => ?_)
        refine Kd.S_append_step k27 (w0 := W) W.heap.size (by rfl) (.tmp 42) (.tmp 44) 22 27 (.agg #[.int .i64 0, .slice none 0 0, .bool false]) 40 rfl Try.underlying22 info27 rfl (by decide) (by omega) (.slice A' i c') (l.take i) (⟨f0, f1, f2⟩ : S27) [.int .i64 f0, .slice Av f1.length cv, .bool f2] (fun _ => True) (fun k => some k = (Value.slice Av f1.length cv).ownBlock) rfl rfl PRE.out.1 PRE.out.2.1 (fun _ _ => trivial) PRE.out.2.2 H11.out.below H11.out.below.size (by rw [HLN.out]; omega) ?_
        intro v2 w12 ho hb hg hat
        obtain ⟨Au, cu, rfl⟩ := Kd.S_slice ho
        have HO := Aside0.mk ho
        have HB12 := Aside0.mk hb
        have HG12 := Aside0.mk hg
        have hp12 := blk_grown H11.out.blk hg (Kd.S_ne H11.out.reg H11.out.blk (by decide))
        have kp12 : w12.cell? ⟨pb, 0, none⟩ = some (.slice A' i c') := (blk_cell hp12 0).trans rfl
        have kf12 : w12.frozen? ⟨pb, 0, none⟩ = false := blk_frozen hp12 0
        clear ho hb hg hat hp12
        refine hK.out _ _ ?_
        clear hK K
        refine norm_ (a' := ?_) ?_ ?_
        rotate_left
        · show Act.put _ (some 45) _ = _
          simp only [Act.put, List.setIfInBounds_toArray, List.set_cons_zero, List.set_cons_succ, i64_w, i32_w]
          rfl
        refine pure_ (i := 8) (N := some 46) (v := ?_) (a' := ?_) #[true, true, true, true, true, true, true, true, true, false, false] rfl rfl (any_of HT_.out (by kernel_rfl)) (fun _ _ _ h => h) (Or.inl ⟨by rfl, ?_⟩) ?_ ?_
        rotate_left
        · intro w'
          go_simp
          with_reducible rfl
        rotate_left
        · simp only [Act.put, List.setIfInBounds_toArray, List.set_cons_zero, List.set_cons_succ, i64_w, i32_w]
          rfl
        refine pure_ (i := 9) (N := some 47) (v := ?_) (a' := ?_) #[true, true, true, true, true, true, true, true, true, true, false] rfl rfl (any_of HT_.out (by kernel_rfl)) (fun _ _ _ h => h) (Or.inl ⟨by rfl, ?_⟩) ?_ ?_
        rotate_left
        · intro w'
          go_simp
          with_reducible rfl
        rotate_left
        · simp only [Act.put, List.setIfInBounds_toArray, List.set_cons_zero, List.set_cons_succ, i64_w, i32_w]
          rfl
        refine last_ (i := 10) (N := none) #[true, true, true, true, true, true, true, true, true, true, true] rfl rfl (one_of HT_.out (by kernel_rfl)) (by decide) (fun K hK => ?_)
        refine skip_ (w1 := ?_) (by rfl) rfl ?_ ?_
        rotate_left
        · go_simp
          rfl
        refine hK.out _ _ ?_
        clear hK K
        refine done_ (done_of HT_.out (by kernel_rfl)) ?_
        go_wp2
        have h9 := HO.out
        rw [show (l.take i ++ [(⟨f0, f1, f2⟩ : S27)]).length = i + 1 by rw [List.length_append, HLN.out]; rfl] at h9
        refine ⟨⟨i + 1, _, LT.out, by first | rfl | go_num, ⟨by rw [ET.out]; exact H11.out.append h9 HG12.out HB12.out⟩⟩, ?_⟩
        have := LT.out
        simp [intOf]
        omega
      case neg =>
        obtain rfl : i = l.length := by omega
        rw [List.take_length] at HM
        go_wp2
        go_ret2
        exact ⟨⟨pb, rfl, vr, HM.out⟩, HM.out.below⟩
end Go.Proofs.Ytkanhnhagjopkaa.M

/-
  Layer 2: MemScripts: plain, and a list of calls. Conditions: those told at each.
-/
namespace Go.Proofs.Ytkanhnhagjopkaa.M
open Go.RowKit Go.Proofs.YtkanhnhagjopkaaW.PrintWords Go.Proofs.YtkanhnhagjopkaaW.PrintLast Go.Proofs.Ytkanhnhagjopkaa.Num
set_option linter.unusedVariables false
set_option linter.unusedSimpArgs false
/-- A call of a script. -/
structure S43 where
  f0 : Int
  f1 : Int
  f2 : Int
def z43 : S43 := ⟨0, 0, 0⟩
def k43 : Kd S43 := Kd.iso (Kd.pair (Kd.int .i64) (Kd.pair (Kd.int .i64) (Kd.int .i64))) (fun x : S43 => (x.f0, x.f1, x.f2))
theorem k43_open {w : World} {x : S43} {cs : List Value} (h : k43.K w x cs) : cs = [.int .i64 x.f0, .int .i64 x.f1, .int .i64 x.f2] := by
  obtain ⟨_, _, rfl, rfl, ⟨_, _, rfl, rfl, rfl⟩⟩ := h
  rfl
theorem k43_mk (w : World) (x : S43) : k43.K w x [.int .i64 x.f0, .int .i64 x.f1, .int .i64 x.f2] := ⟨[.int .i64 x.f0], [.int .i64 x.f1, .int .i64 x.f2], rfl, rfl, ⟨[.int .i64 x.f1], [.int .i64 x.f2], rfl, rfl, rfl⟩⟩
theorem at_T43 {w : World} {A : Option Addr} {n : Nat} {xs : List S43} (h : Kd.C k43 w A n xs) (i : Int) (h0 : 0 ≤ i) (h1 : i < n) : ∃ ad, A = some ad ∧ w.cell? (ad.add (i.toNat * 3)) = some (.int .i64 (xs.getD i.toNat z43).f0) ∧ w.cell? ⟨(ad.add (i.toNat * 3)).block, (ad.add (i.toNat * 3)).off + 1, none⟩ = some (.int .i64 (xs.getD i.toNat z43).f1) ∧ w.cell? ⟨(ad.add (i.toNat * 3)).block, (ad.add (i.toNat * 3)).off + 2, none⟩ = some (.int .i64 (xs.getD i.toNat z43).f2) := by
  obtain ⟨ad, c, e, _, hK, hc0⟩ := Kd.C_get h z43 i h0 h1
  have hc : ∀ j u, c[j]? = some u → w.cell? (ad.add (i.toNat * 3 + j)) = some u := hc0
  obtain rfl := k43_open hK
  exact ⟨ad, e, hc 0 _ rfl, by rw [← add_field _ _ 1 (by omega)]; exact hc 1 _ rfl, by rw [← add_field _ _ 2 (by omega)]; exact hc 2 _ rfl⟩
theorem copied_l (l : List S27) (hl : l.length ≤ 3518437208780) (hw : ∀ o ∈ l, o.f1.length ≤ 2000) : ∀ (d k i : Nat), l.length - i = d → i ≤ l.length → d < k → cotterlaw02_copied.l0 k l (l.take i) (i : Int) = some l
  | d, 0, i, hd, hi, hk => by omega
  | 0, k + 1, i, hd, hi, hk => by
    simp only [cotterlaw02_copied.l0]
    rw [if_neg (by omega), List.take_of_length_le (by omega)]
  | d + 1, k + 1, i, hd, hi, hk => by
    have h : i < l.length := by omega
    have h2 := hw l[i] (List.getElem_mem h)
    simp only [cotterlaw02_copied.l0]
    rw [if_pos (by omega), if_pos (by omega), rd27_at l i h, if_pos (by simp; omega), if_pos (by rw [List.length_take]; omega), up1 i (by omega)]
    have e : l.take i ++ [(⟨l[i].f0, (([] : List Int) ++ l[i].f1), l[i].f2⟩ : S27)] = l.take (i + 1) := by
      rw [← List.take_append_getElem h]
      rfl
    rw [e]
    exact copied_l l hl hw d k (i + 1) (by omega) (by omega) (by omega)
theorem copied_f (l : List S27) (hl : l.length ≤ 3518437208780) (hw : ∀ o ∈ l, o.f1.length ≤ 2000) : cotterlaw02_copied.f (l.length + 1) l = some l := by
  have := copied_l l hl hw l.length (l.length + 1) 0 (by omega) (by omega) (by omega)
  simpa [cotterlaw02_copied.f] using this
/-- A word of a row of regions is written. -/
theorem S_store {O : Nat → Prop} {W : World} {base : Nat} {vr : Value} {l : List S27} (h : Kd.S k27 27 W base O vr l) {i : Nat} {A : Addr} {c g cg : Nat} (hs : SlotG W vr l i A c g cg) (k : Nat) (hk : k < (rd_T27 l i).f1.length) (v : Int) :
    Kd.S k27 27 (W.setCell ⟨g, k, none⟩ (.int .i64 v)) base O vr (l.set i ⟨(rd_T27 l i).f0, (rd_T27 l i).f1.set k v, (rd_T27 l i).f2⟩) ∧ O g ∧ base ≤ g := by
  have hl := hs.lt
  have hR0 := h
  rw [hs.row] at hR0
  obtain ⟨oki, cc, hcl, hM, hcc, hoki, hback⟩ := Kd.S_borrow hR0 z27 (i : Int) (by omega) (by omega)
  obtain ⟨u1, rfl, hR⟩ := k27_openM hM
  have hsz : k27.sz = 3 := rfl
  rw [hsz] at hcc
  simp only [Int.toNat_natCast] at hcc
  have h1 := hcc 1 _ rfl
  rw [add_field _ _ 1 (by omega), hs.z1] at h1
  injection h1 with h1
  subst h1
  have hokg : oki g := hR.1 g rfl
  obtain ⟨hp, hg⟩ := Kd.R_putg hR (k : Int) v
  simp only [Int.toNat_natCast] at hp hg
  refine ⟨?_, (hoki g hokg).1, Kd.R_base hR g rfl⟩
  have hfin := hback (x' := ⟨(rd_T27 l i).f0, (rd_T27 l i).f1.set k v, (rd_T27 l i).f2⟩) hg (fun j hj => by injection hj with hj; exact hj ▸ hokg) ?_
  · rw [hs.row]
    exact hfin
  · exact k27_mkM _ _ _ (⟨(rd_T27 l i).f0, (rd_T27 l i).f1.set k v, (rd_T27 l i).f2⟩ : S27) hp
/-- What is touched, told sorted. -/
theorem touch_puts (l : List S27) (a : Int) (xs : List Int) : touchP l a (putsF [] xs) = putsF [] (touchF l a xs) := by
  unfold touchP touchF
  cases findI l a with
  | none => rfl
  | some i => dsimp only; rw [putsF_append]; rfl
theorem store_puts (l : List S27) (a : Int) (ys : List Int) : storeP l a (putsF [] ys) = putsF [] (storeT l a ys) := by
  unfold storeP storeT
  cases findI l a with
  | none => rfl
  | some i =>
    dsimp only
    split
    · rw [putsF_append]; rfl
    · rfl
section
variable {O1 O2 O3 : Nat → Prop} {w w0 W W' : World} {pb : Nat} {vr v0 v1 : Value} {l : List S27} {xs ys : List Int}
theorem RefG.base (H : RefG O1 O2 O3 w W pb vr v0 v1 l xs ys) (hb : Below w0.heap.size w0 W) (hle : w0.heap.size ≤ w.heap.size) : RefG O1 O2 O3 w0 W pb vr v0 v1 l xs ys :=
  ⟨hb, Nat.le_trans hle H.ge, H.blk, Kd.S_lower H.reg hle, Kd.R_lower H.r0 hle, Kd.R_lower H.r1 hle, H.d12, H.d13, H.d23, H.pbn, H.lt⟩
end
/-- The two memories at a call: the program's, the document's, the same regions, the same touched; their blocks are B. -/
structure Both (w1 wr : World) (pb pb2 : Nat) (vr vr2 : Value) (n : Nat) (B : Nat → Prop) : Prop where
  ex : ∃ (O O1 O2 O3 : Nat → Prop) (r q : Nat) (v0 v1 : Value) (xs ys : List Int) (l : List S27), MemG O w1 wr pb r q vr xs ys l ∧ RefG O1 O2 O3 w1 wr pb2 vr2 v0 v1 l (putsF [] xs) (putsF [] ys) ∧ (∀ k, O k → ¬ (O1 k ∨ O2 k ∨ O3 k ∨ k = pb2)) ∧ (∀ o ∈ l, goodR o) ∧ l.length ≤ 16 ∧ xs.length ≤ n ∧ ys.length ≤ n ∧ (∀ k, O k ∨ O1 k ∨ O2 k ∨ O3 k ∨ k = pb2 → B k)
theorem Both.next {w1 W W' : World} {pb pb2 : Nat} {vr vr2 : Value} {n : Nat} {B : Nat → Prop} (H : Both w1 W pb pb2 vr vr2 n B) (hb : Below W.heap.size W W') : Both w1 W' pb pb2 vr vr2 n B := by
  obtain ⟨O, O1, O2, O3, r, q, v0, v1, xs, ys, l, hm, hr, h⟩ := H.ex
  exact ⟨⟨O, O1, O2, O3, r, q, v0, v1, xs, ys, l, hm.next hb, hr.next hb, h⟩⟩
theorem Both.now {w1 W : World} {pb pb2 : Nat} {vr vr2 : Value} {n : Nat} {B : Nat → Prop} (H : Both w1 W pb pb2 vr vr2 n B) : Both w1 W pb pb2 vr vr2 n (fun k => k < W.heap.size) := by
  obtain ⟨O, O1, O2, O3, r, q, v0, v1, xs, ys, l, hm, hr, h1, h2, h3, h4, h5, h6⟩ := H.ex
  refine ⟨⟨O, O1, O2, O3, r, q, v0, v1, xs, ys, l, hm, hr, h1, h2, h3, h4, h5, fun k hk => ?_⟩⟩
  rcases hk with hk | hk | hk | hk | hk
  · exact hm.lt k hk
  · exact hr.lt k (.inl hk)
  · exact hr.lt k (.inr (.inl hk))
  · exact hr.lt k (.inr (.inr hk))
  · exact hk ▸ blk_lt hr.blk
theorem Both.below {w1 W : World} {pb pb2 : Nat} {vr vr2 : Value} {n : Nat} {B : Nat → Prop} (H : Both w1 W pb pb2 vr vr2 n B) : Below w1.heap.size w1 W := by
  obtain ⟨O, O1, O2, O3, r, q, v0, v1, xs, ys, l, hm, h⟩ := H.ex
  exact hm.tch.below
/-- What is written is none of theirs. -/
theorem Both.far {w1 W W' : World} {pb pb2 : Nat} {vr vr2 : Value} {n : Nat} {B : Nat → Prop} (H : Both w1 W pb pb2 vr vr2 n B) {X : Nat → Prop} (hk : Kept W W' X) (hX : ∀ k, X k → ¬ B k) (hb : Below w1.heap.size w1 W') : Both w1 W' pb pb2 vr vr2 n B := by
  obtain ⟨O, O1, O2, O3, r, q, v0, v1, xs, ys, l, hm, hr, h1, h2, h3, h4, h5, h6⟩ := H.ex
  refine ⟨⟨O, O1, O2, O3, r, q, v0, v1, xs, ys, l, hm.kept hk (fun k ho hx => ?_) hb, hr.kept hk (fun k ho hx => ?_) hb, h1, h2, h3, h4, h5, h6⟩⟩
  · exact hX k hx (h6 k (.inl ho))
  · exact hX k hx (h6 k (.inr ho))
theorem puts_up0 (xs : List Int) : Up (putsF [] xs) := putsF_up _ _ List.Pairwise.nil
theorem puts_len0 (xs : List Int) : (putsF [] xs).length ≤ xs.length := by have := putsF_len xs []; simpa using this
/-- A store into both. -/
theorem both_store {w1 W : World} {pb pb2 : Nat} {vr vr2 : Value} {n : Nat} {B : Nat → Prop} (H : Both w1 W pb pb2 vr vr2 n B) (hn : n ≤ 100) (a v : Int) (ha : RG a) : ∃ (g : Int) (Mid : World → Prop),
    Calls Try.prog 11 #[.pointer (some ⟨pb, 0, none⟩), .int .i64 a, .int .i64 v] W (fun e w3 => e = .returned (.int .i64 g) ∧ Mid w3 ∧ Kept W w3 B) ∧
    (∀ w3, Mid w3 → Calls Try.prog 14 #[.pointer (some ⟨pb2, 0, none⟩), .int .i64 a, .int .i64 v] w3 (fun e w4 => e = .returned (.int .i64 g) ∧ Both w1 w4 pb pb2 vr vr2 (n + 1) (fun k => k < w4.heap.size) ∧ Kept w3 w4 B)) := by
  obtain ⟨O, O1, O2, O3, r, q, v0, v1, xs, ys, l, hm, hr, h1, h2, h3, h4, h5, h6⟩ := H.ex
  refine ⟨storeE l a, fun w3 => MemG O w1 w3 pb r q vr xs (storeT l a ys) (storeL l a v) ∧ RefG O1 O2 O3 w1 w3 pb2 vr2 v0 v1 l (putsF [] xs) (putsF [] ys), ?_, ?_⟩
  · refine (store_c hm h2 (by omega) (by omega) a ha.1 ha.2 v).mono ?_
    rintro e w3 ⟨rfl, h7, h8⟩
    exact ⟨rfl, ⟨h7, hr.kept h8 (fun k k1 k2 => h1 k k2 k1) h7.tch.below⟩, h8.mono (fun k hk => h6 k (.inl hk))⟩
  · rintro w3 ⟨h7, h8⟩
    refine (storeR_c h8 h2 (by omega) (puts_up0 ys) (by have := puts_len0 ys; omega) a ha.1 ha.2 v).mono ?_
    rintro e w4 ⟨rfl, ⟨O1', O2', O3', v0', v1', h9, h10⟩, h11⟩
    refine ⟨rfl, Both.now (B := fun k => k < w4.heap.size) ⟨⟨O, O1', O2', O3', r, q, v0', v1', xs, storeT l a ys, storeL l a v, h7.kept h11 (fun k k1 k2 => h1 k k1 (k2.elim .inl (fun k3 => .inr (.inr (.inr k3))))) h9.below, by rw [← store_puts]; exact h9, fun k k1 k2 => ?_, good_store h2 a v, by rw [storeL_length]; exact h3, by omega, by have := storeT_len l a ys; omega, fun k hk => ?_⟩⟩, h11.mono (fun k hk => h6 k (hk.elim (fun h => .inr (.inl h)) (fun h => .inr (.inr (.inr (.inr h))))))⟩
    · rcases h10 k k2 with h | h
      · exact h1 k k1 h
      · have := h7.lt k k1; omega
    · rcases hk with hk | hk | hk | hk | hk
      · exact Nat.lt_of_lt_of_le (h7.lt k hk) h11.1
      · exact h9.lt k (.inl hk)
      · exact h9.lt k (.inr (.inl hk))
      · exact h9.lt k (.inr (.inr hk))
      · exact hk ▸ blk_lt h9.blk
/-- A load from both. -/
theorem both_load {w1 W : World} {pb pb2 : Nat} {vr vr2 : Value} {n : Nat} {B : Nat → Prop} (H : Both w1 W pb pb2 vr vr2 n B) (hn : n ≤ 100) (a : Int) (ha : RG a) : ∃ (u g : Int) (Mid : World → Prop),
    Calls Try.prog 10 #[.pointer (some ⟨pb, 0, none⟩), .int .i64 a] W (fun e w3 => e = .returned (.tuple #[.int .i64 u, .int .i64 g]) ∧ Mid w3 ∧ Kept W w3 B) ∧
    (∀ w3, Mid w3 → Calls Try.prog 21 #[.pointer (some ⟨pb2, 0, none⟩), .int .i64 a] w3 (fun e w4 => e = .returned (.tuple #[.int .i64 u, .int .i64 g]) ∧ Both w1 w4 pb pb2 vr vr2 (n + 1) (fun k => k < w4.heap.size) ∧ Kept w3 w4 B)) := by
  obtain ⟨O, O1, O2, O3, r, q, v0, v1, xs, ys, l, hm, hr, h1, h2, h3, h4, h5, h6⟩ := H.ex
  refine ⟨(loadV l a).1, (loadV l a).2, fun w3 => MemG O w1 w3 pb r q vr (touchF l a xs) ys l ∧ RefG O1 O2 O3 w1 w3 pb2 vr2 v0 v1 l (putsF [] xs) (putsF [] ys), ?_, ?_⟩
  · refine (load_c hm h2 (by omega) (by omega) a ha.1 ha.2).mono ?_
    rintro e w3 ⟨rfl, h7, h8⟩
    exact ⟨rfl, ⟨h7, hr.kept h8 (fun k k1 k2 => h1 k k2 k1) h7.tch.below⟩, h8.mono (fun k hk => h6 k (.inl hk))⟩
  · rintro w3 ⟨h7, h8⟩
    refine (loadR_c h8 h2 (by omega) (puts_up0 xs) (by have := puts_len0 xs; omega) a ha.1 ha.2).mono ?_
    rintro e w4 ⟨rfl, ⟨O1', O2', O3', v0', v1', h9, h10⟩, h11⟩
    refine ⟨rfl, Both.now (B := fun k => k < w4.heap.size) ⟨⟨O, O1', O2', O3', r, q, v0', v1', touchF l a xs, ys, l, h7.kept h11 (fun k k1 k2 => h1 k k1 (.inr (.inr (.inr k2)))) h9.below, by rw [← touch_puts]; exact h9, fun k k1 k2 => ?_, h2, h3, by have := touch_len l a xs; omega, by omega, fun k hk => ?_⟩⟩, h11.mono (fun k hk => h6 k (.inr (.inr (.inr (.inr hk)))))⟩
    · rcases h10 k k2 with h | h
      · exact h1 k k1 h
      · have := h7.lt k k1; omega
    · rcases hk with hk | hk | hk | hk | hk
      · exact Nat.lt_of_lt_of_le (h7.lt k hk) h11.1
      · exact h9.lt k (.inl hk)
      · exact h9.lt k (.inr (.inl hk))
      · exact h9.lt k (.inr (.inr hk))
      · exact hk ▸ blk_lt h9.blk
/-- What was touched, from both. -/
theorem both_foot {w1 W : World} {pb pb2 : Nat} {vr vr2 : Value} {n : Nat} {B : Nat → Prop} (H : Both w1 W pb pb2 vr vr2 n B) (hB : ∀ k, B k → k < W.heap.size) (hn : n ≤ 100) : ∃ (us vs : List Int) (Mid : World → (Nat → Prop) → Prop), us.length ≤ 100 ∧ vs.length ≤ 100 ∧
    Calls Try.prog 15 #[.pointer (some ⟨pb, 0, none⟩)] W (fun e w3 => ∃ A0 c0 A1 c1 B', e = .returned (.agg #[.slice A0 us.length c0, .slice A1 vs.length c1]) ∧ Kd.R (Kd.int .i64) 2 w3 W.heap.size (fun k => ¬ B' k) (.slice A0 us.length c0) us ∧ Kd.R (Kd.int .i64) 2 w3 W.heap.size (fun k => ¬ B' k) (.slice A1 vs.length c1) vs ∧ Mid w3 B' ∧ Kept W w3 B ∧ Below w1.heap.size w1 w3 ∧ (∀ k, B' k → k < w3.heap.size)) ∧
    (∀ w3 w3' B', Mid w3 B' → Below w3.heap.size w3 w3' → Calls Try.prog 17 #[.pointer (some ⟨pb2, 0, none⟩)] w3' (fun e w4 => ∃ A0 c0 A1 c1, e = .returned (.agg #[.slice A0 us.length c0, .slice A1 vs.length c1]) ∧ Kd.C (Kd.int .i64) w4 A0 us.length us ∧ us.length ≤ c0 ∧ Kd.C (Kd.int .i64) w4 A1 vs.length vs ∧ vs.length ≤ c1 ∧ Both w1 w4 pb pb2 vr vr2 0 B' ∧ Kept w3' w4 B')) := by
  obtain ⟨O, O1, O2, O3, r, q, v0, v1, xs, ys, l, hm, hr, h1, h2, h3, h4, h5, h6⟩ := H.ex
  refine ⟨putsF [] xs, putsF [] ys, fun w3 B' => ∃ r' q', MemG (fun k => O k ∨ k = r' ∨ k = q') w1 w3 pb r' q' vr [] [] l ∧ RefG O1 O2 O3 w1 w3 pb2 vr2 v0 v1 l (putsF [] xs) (putsF [] ys) ∧ (∀ k, B' k ↔ B k ∨ k = r' ∨ k = q') ∧ W.heap.size ≤ r' ∧ W.heap.size ≤ q', by have := puts_len0 xs; omega, by have := puts_len0 ys; omega, ?_, ?_⟩
  · refine (footM_c hm (by omega) (by omega)).mono ?_
    rintro e w3 ⟨A0, c0, A1, c1, r', q', rfl, k0, k1, h7, h8, h9, h10⟩
    have hlr := h7.tch.m1.choose_spec.1.lt
    have hlq := h7.tch.m2.choose_spec.1.lt
    have ok : ∀ k, W.heap.size ≤ k → (¬ O k ∧ k ≠ r' ∧ k ≠ q') → ¬ (B k ∨ k = r' ∨ k = q') := fun k hk hh hb => by
      rcases hb with hb | hb | hb
      · have := hB k hb; omega
      · exact hh.2.1 hb
      · exact hh.2.2 hb
    exact ⟨A0, c0, A1, c1, fun k => B k ∨ k = r' ∨ k = q', rfl, Kd.R_mono (Kd.R_bound k0) (fun k hk => ok k hk.2.1 hk.1), Kd.R_mono (Kd.R_bound k1) (fun k hk => ok k hk.2.1 hk.1), ⟨r', q', h7, hr.kept h8 (fun k k1 k2 => h1 k k2 k1) h7.tch.below, fun k => Iff.rfl, h9, h10⟩, h8.mono (fun k hk => h6 k (.inl hk)), h7.tch.below, fun k hk => by
      rcases hk with hk | hk | hk
      · exact Nat.lt_of_lt_of_le (hB k hk) h8.1
      · omega
      · omega⟩
  · rintro w3 w3' B' ⟨r', q', h7, h8, h9, h10, h11⟩ hbb
    have h7 := h7.next hbb
    have h8 := h8.next hbb
    obtain ⟨A0, c0, rfl⟩ := Kd.R_slice h8.r0
    obtain ⟨A1, c1, rfl⟩ := Kd.R_slice h8.r1
    refine (footR_c h8).mono ?_
    rintro e w4 ⟨rfl, k0, k1, k2, k3⟩
    have hd : ∀ k, (O k ∨ k = r' ∨ k = q') → ¬ (O1 k ∨ k = pb2) := fun k ho hx => by
      have hlt : k < W.heap.size := by
        rcases hx with hx | hx
        · exact hB k (h6 k (.inr (.inl hx)))
        · exact hB k (h6 k (.inr (.inr (.inr (.inr hx)))))
      rcases ho with ho | ho | ho
      · exact h1 k ho (hx.elim .inl (fun h => .inr (.inr (.inr h))))
      · omega
      · omega
    refine ⟨A0, c0, A1, c1, rfl, (Kd.R_reads' k0).2.2, (Kd.R_reads' k0).2.1, (Kd.R_reads' k1).2.2, (Kd.R_reads' k1).2.1, ⟨⟨fun k => O k ∨ k = r' ∨ k = q', O1, fun _ => False, fun _ => False, r', q', _, _, [], [], l, h7.kept k3 (fun k k4 k5 => hd k k4 (.inr k5)) k2.below, k2, fun k k4 k5 => ?_, h2, h3, Nat.zero_le _, Nat.zero_le _, fun k hk => ?_⟩⟩, k3.mono (fun k hk => (h9 k).2 (.inl (h6 k (.inr (.inr (.inr (.inr hk)))))))⟩
    · rcases k5 with k5 | k5 | k5 | k5
      · exact hd k k4 (.inl k5)
      · exact k5.elim
      · exact k5.elim
      · exact hd k k4 (.inr k5)
    · rcases hk with hk | hk | hk | hk | hk
      · exact (h9 k).2 (hk.elim (fun h => .inl (h6 k (.inl h))) .inr)
      · exact (h9 k).2 (.inl (h6 k (.inr (.inl hk))))
      · exact hk.elim
      · exact hk.elim
      · exact (h9 k).2 (.inl (h6 k (.inr (.inr (.inr (.inr hk))))))
/-- A region's words, from both. -/
theorem both_words {w1 W : World} {pb pb2 : Nat} {vr vr2 : Value} {n : Nat} {B : Nat → Prop} (H : Both w1 W pb pb2 vr vr2 n B) (m : Int) : ∃ us : List Int, us.length ≤ 65536 ∧
    (∀ w3, Below W.heap.size W w3 → Calls Try.prog 18 #[.pointer (some ⟨pb, 0, none⟩), .int .i64 m] w3 (fun e w4 => ∃ (A' : Option Addr) (c' : Nat), e = .returned (.slice A' us.length c') ∧ Kd.R (Kd.int .i64) 2 w4 w3.heap.size (fun _ => True) (.slice A' us.length c') us ∧ Below w3.heap.size w3 w4)) ∧
    (∀ w3, Below W.heap.size W w3 → Calls Try.prog 20 #[.pointer (some ⟨pb2, 0, none⟩), .int .i64 m] w3 (fun e w4 => ∃ (A' : Option Addr) (c' : Nat), e = .returned (.slice A' us.length c') ∧ Kd.R (Kd.int .i64) 2 w4 w3.heap.size (fun _ => True) (.slice A' us.length c') us ∧ Below w3.heap.size w3 w4)) := by
  obtain ⟨O, O1, O2, O3, r, q, v0, v1, xs, ys, l, hm, hr, h1, h2, h3, h4, h5, h6⟩ := H.ex
  refine ⟨wordsF l m, ?_, fun w3 hb => words_c (hm.next hb) h2 (by omega) m, fun w3 hb => wordsR_c (hr.next hb) h2 (by omega) m⟩
  unfold wordsF
  split
  · simp
  · split
    · simp
    · have e : m = ((m.toNat : Nat) : Int) := by omega
      rw [e, rd27_at l m.toNat (by omega)]
      exact (h2 _ (List.getElem_mem _)).2.2.2
theorem Both.le {w1 W : World} {pb pb2 : Nat} {vr vr2 : Value} {n n' : Nat} {B : Nat → Prop} (H : Both w1 W pb pb2 vr vr2 n B) (h : n ≤ n') : Both w1 W pb pb2 vr vr2 n' B := by
  obtain ⟨O, O1, O2, O3, r, q, v0, v1, xs, ys, l, hm, hr, h1, h2, h3, h4, h5, h6⟩ := H.ex
  exact ⟨⟨O, O1, O2, O3, r, q, v0, v1, xs, ys, l, hm, hr, h1, h2, h3, by omega, by omega, h6⟩⟩
end Go.Proofs.Ytkanhnhagjopkaa.M

/-
  Layer 2: MemScripts: the walk. Conditions: lengths that any memory can hold, numbers of 64 bits.
-/
namespace Go.Proofs.Ytkanhnhagjopkaa.M
open Go.RowKit Go.Proofs.YtkanhnhagjopkaaW.PrintWords Go.Proofs.YtkanhnhagjopkaaW.PrintLast Go.Proofs.Ytkanhnhagjopkaa.Num
set_option linter.unusedVariables false
set_option linter.unusedSimpArgs false
def tb4.T30 : Bool × List (List Nat × List Nat) := (true, [([], []), ([], []), ([1], [1]), ([], []), ([3], [3]), ([0, 2, 4], [0, 2, 4]), ([], []), ([], []), ([7], [7]), ([], []), ([9], [9]), ([6, 8, 10, 5], [6, 8, 10]), ([5, 11], [5, 11])])
def tb4.B30 : List Nat := [0, 0, 2, 0, 8, 31, 0, 0, 128, 0, 512, 2047, 4095]
theorem tb4.tab30 : rtab .any (opsOf Try.f4 30) = tb4.T30 := by kernel_rfl
theorem tb4.bits30 : waitsOk tb4.T30.2 tb4.B30 = true := by kernel_rfl
theorem MemG.base {O : Nat → Prop} {w w0 W : World} {pb r q : Nat} {vr : Value} {xs ys : List Int} {l : List S27} (H : MemG O w W pb r q vr xs ys l) (hb : Below w0.heap.size w0 W) (hle : w0.heap.size ≤ w.heap.size) : MemG O w0 W pb r q vr xs ys l :=
  ⟨⟨hb, H.tch.blk, H.tch.m1, H.tch.m2, ⟨Nat.le_trans hle H.tch.ge.1, Nat.le_trans hle H.tch.ge.2.1, Nat.le_trans hle H.tch.ge.2.2⟩, H.tch.ne⟩, Kd.S_lower H.reg hle, H.own, H.lt⟩
/-- The row of regions that was handed in to New: its words may be written. -/
structure Mine (W : World) (wb : Nat) (OO : Nat → Prop) (v : Value) (n : Nat) : Prop where
  ex : ∃ lo : List S27, Kd.S k27 27 W wb OO v lo ∧ lo.length = n ∧ ∀ j : Nat, (rd_T27 lo j).f1.length ≤ 2000
theorem mine_set {lo : List S27} {i k : Nat} (v : Int) (hi : i < lo.length) (h : ∀ j : Nat, (rd_T27 lo j).f1.length ≤ 2000) : ∀ j : Nat, (rd_T27 (lo.set i ⟨(rd_T27 lo i).f0, (rd_T27 lo i).f1.set k v, (rd_T27 lo i).f2⟩) j).f1.length ≤ 2000 := by
  intro j
  rw [set_rd _ _ _ _ hi]
  split
  · dsimp only
    rw [List.length_set]
    exact h i
  · exact h j
theorem mine_len {lo : List S27} {i k : Nat} (v : Int) (hi : i < lo.length) : (rd_T27 (lo.set i ⟨(rd_T27 lo i).f0, (rd_T27 lo i).f1.set k v, (rd_T27 lo i).f2⟩) i).f1.length = (rd_T27 lo i).f1.length := by
  rw [set_rd _ _ _ _ hi, if_pos rfl]
  simp
set_option maxHeartbeats 16000000 in
set_option maxRecDepth 100000 in
theorem scripts_c {W : World} {A : Option Addr} {c : Nat} {l : List S27} {A1 : Option Addr} {c1 : Nat} {ops : List S43} (h : Kd.C k27 W A l.length l) (hc : l.length ≤ c) (hm : l.length ≤ 3518437208780) (ho : Kd.C k43 W A1 ops.length ops) (hmo : ops.length ≤ 6000000000000) (hr : ∀ o ∈ ops, RG o.f0 ∧ RG o.f1 ∧ RG o.f2) :
    Calls Try.prog 4 #[.slice A l.length c, .slice A1 ops.length c1] W fun e w' => e = .returned (.bool true) ∧ Below W.heap.size W w' := by
  have LIVE := Aside0.mk live_c
  have HC := Aside0.mk h
  have HCC := Aside0.mk hc
  have HOP := Aside0.mk ho
  have HOR := Aside0.mk hr
  clear h hc ho hr
  go_enter Try.func4, Try.ntmps4
  go_wp2
  go_loopw [5] (fun v5 wr => ∃ i : Nat, i ≤ l.length ∧ v5 = .int .i64 i ∧ Aside0 (Below W.heap.size W wr) ∧ Aside0 (∀ j, (hj : j < l.length) → j < i → l[j].f1.length ≤ 2000)) (fun v5 _ => l.length - (intOf v5).toNat)
  case atStart => exact ⟨0, Nat.zero_le _, rfl, ⟨Below.refl _ _⟩, ⟨fun j _ h => by omega⟩⟩
  case round =>
    obtain ⟨i, hi, rfl, HB, HS⟩ := hrel
    by_cases hlt : i < l.length
    case pos =>
      obtain ⟨ad, B1, d1, e, hx0, hx1, hx2, k1, r1⟩ := at_T27 (Kd.C_below HC.out HB.out) (i : Int) (by omega) (by omega)
      cases e
      have hil : (i : Int) < (l.length : Int) := by omega
      simp only [Int.toNat_natCast] at hx0 hx1 hx2
      have HN := Aside0.mk (fun h : (rd_T27 l i).f1.length ≤ 2000 => show ∀ j, (hj : j < l.length) → j < i + 1 → l[j].f1.length ≤ 2000 from fun j hj hji => by
        by_cases e : j = i
        · subst e
          rw [← rd27_at l j hj]; exact h
        · exact HS.out j hj (by omega))
      clear r1 hx0 hx2
      generalize rd_T27 l i = o at *
      by_cases hb : (o.f1.length : Int) > 2000
      case pos =>
        go_wp2_with (first | (go_at_call 8; (with_reducible refine (LIVE.out _).mono ?_); rintro e w2 ⟨rfl, hb⟩; have HB2 := Aside0.mk (below_inL HB.out hb); clear hb))
        go_ret
        exact ⟨rfl, HB2.out⟩
      case neg =>
        have LT := Aside0.mk hlt
        have HN2 := Aside0.mk (HN.out (by omega))
        clear HN
        go_wp2
        refine ⟨⟨i + 1, LT.out, by first | rfl | go_num, HB, HN2⟩, ?_⟩
        have := LT.out
        simp [intOf]
        omega
    case neg =>
      obtain rfl : i = l.length := by omega
      have HW2 := Aside0.mk (show ∀ o ∈ l, o.f1.length ≤ 2000 from fun o ho => by
        obtain ⟨j, hj, rfl⟩ := List.getElem_of_mem ho
        exact HS.out j hj hj)
      have CP := Aside0.mk (cotterlaw02_copied.calls (l.length + 1) A c l l _ (Kd.C_below HC.out HB.out) HCC.out (copied_f l hm HW2.out))
      have N1 := Aside0.mk (fun (w : World) (Ao : Option Addr) (co : Nat) (h : Kd.C k27 w Ao l.length l) => new_c (c := co) h (by omega) (fun o ho => by have := HW2.out o ho; omega))
      have N2 := Aside0.mk (fun (w : World) (hb : Below W.heap.size W w) => newR_c (Kd.C_below HC.out hb) HCC.out (by omega) (fun o ho => by have := HW2.out o ho; omega))
      cases hok : newOk l with
      | false =>
        rw [hok] at N1 N2
        go_wp2_with (first
          | (go_at_call 12; (with_reducible refine CP.out.mono ?_); rintro e w3 ⟨v, rfl, hs, hb⟩; obtain ⟨Ao, co, rfl⟩ := Kd.S_slice hs; have HB3 := Aside0.mk (below_inL HB.out hb); have C3 := Aside0.mk (C_of_S hs).1; clear hs hb)
          | (go_at_call 9; (with_reducible refine (N1.out _ _ _ C3.out).mono ?_); rintro e w4 ⟨-, he, hb⟩; obtain rfl := he (by first | rfl | trivial); have HB4 := Aside0.mk (below_inL HB3.out hb); clear he hb)
          | (go_at_call 13; (with_reducible refine (N2.out _ HB4.out).mono ?_); rintro e w5 ⟨-, he, hb⟩; obtain rfl := he (by first | rfl | trivial); have HB5 := Aside0.mk (below_inL HB4.out hb); clear he hb)
          | (go_at_call 8; (with_reducible refine (LIVE.out _).mono ?_); rintro e w6 ⟨rfl, hb⟩; have HB6 := Aside0.mk (below_inL HB5.out hb); clear hb))
        go_ret
        exact ⟨rfl, HB6.out⟩
      | true =>
        obtain ⟨G, hle⟩ := newOk_good hok
        rw [hok] at N1 N2
        have GG := Aside0.mk G
        clear G hok
        go_wp2_with (first
          | (go_at_call 12; (with_reducible refine CP.out.mono ?_); rintro e w3 ⟨v, rfl, hs, hb⟩; obtain ⟨Ao, co, rfl⟩ := Kd.S_slice hs; have HB3 := Aside0.mk (below_inL HB.out hb); have C3 := Aside0.mk (C_of_S hs).1; have S3 := Aside0.mk (Kd.S_mono (ok' := fun k => k < w3.heap.size) (Kd.S_bound hs) (fun k hk => hk.2.2.1)); clear hs hb)
          | (go_at_call 9; (with_reducible refine (N1.out _ _ _ C3.out).mono ?_); rintro e w4 ⟨he, -, hb⟩; obtain ⟨pb, r, q, vr, rfl, hmm⟩ := he (by first | rfl | trivial); have HB4 := Aside0.mk (below_inL HB3.out hb); have M4 := Aside0.mk hmm; have S4 := Aside0.mk (Kd.S_below S3.out hb); clear he hb hmm)
          | (go_at_call 13; (with_reducible refine (N2.out _ HB4.out).mono ?_); rintro e w5 ⟨he, -, hb⟩; obtain ⟨pb2, vr2, rfl, hmm⟩ := he (by first | rfl | trivial); have HB5 := Aside0.mk (below_inL HB4.out hb); have M5 := Aside0.mk (M4.out.next hb); have R5 := Aside0.mk hmm; have S5 := Aside0.mk (Kd.S_below S4.out hb); have Z45 := Aside0.mk hb.size; clear he hb hmm))
        have hz := Z45.out
        have hz4 := M4.out.tch.below.size
        have hg5 := R5.out.ge
        have hb5 := blk_lt R5.out.blk
        have dj : ∀ k, (w3.heap.size ≤ k ∧ k < w4.heap.size) → ¬ ((w4.heap.size ≤ k ∧ k < w5.heap.size ∧ k ≠ pb2) ∨ False ∨ False ∨ k = pb2) := fun k h1 h2 => by
          rcases h2 with h2 | h2 | h2 | h2
          · omega
          · exact h2.elim
          · exact h2.elim
          · omega
        have bb : ∀ k, (w3.heap.size ≤ k ∧ k < w4.heap.size) ∨ (w4.heap.size ≤ k ∧ k < w5.heap.size ∧ k ≠ pb2) ∨ False ∨ False ∨ k = pb2 → w3.heap.size ≤ k ∧ k < w5.heap.size := fun k hk => by
          rcases hk with hk | hk | hk | hk | hk
          · omega
          · omega
          · exact hk.elim
          · exact hk.elim
          · omega
        have BO := Aside0.mk (show Both W w5 pb pb2 vr vr2 0 (fun k => w3.heap.size ≤ k ∧ k < w5.heap.size) from
          ⟨⟨_, _, _, _, r, q, _, _, [], [], l, M5.out.base HB5.out HB3.out.size, R5.out.base HB5.out HB4.out.size, dj, GG.out, hle, Nat.le_refl _, Nat.le_refl _, bb⟩⟩)
        clear hz hz4 hg5 hb5 dj bb
        have MI := Aside0.mk (show Mine w5 W.heap.size (fun k => k < w3.heap.size) (.slice Ao l.length co) l.length from ⟨⟨l, Kd.S_lower S5.out HB.out.size, rfl, fun j => by
          by_cases hj : j < l.length
          · rw [rd27_at l j hj]
            exact HW2.out _ (List.getElem_mem hj)
          · have : rd_T27 l (j : Nat) = z27 := by simp [rd_T27, List.getElem?_eq_none (Nat.le_of_not_lt hj)]
            rw [this]
            exact Nat.zero_le _⟩⟩)
        clear M4 M5 R5 S3 S4 S5 C3 HB3 HB4 Z45
        generalize w3.heap.size = z3 at *
        generalize w5.heap.size = z5 at *
        go_loopw [11] (fun v11 wr => ∃ i : Nat, i ≤ l.length ∧ v11 = .int .i64 i ∧ Aside0 (Both W wr pb pb2 vr vr2 0 (fun k => z3 ≤ k ∧ k < z5)) ∧ Aside0 (Mine wr W.heap.size (fun k => k < z3) (.slice Ao l.length co) l.length)) (fun v11 _ => l.length - (intOf v11).toNat)
        case atStart => exact ⟨0, Nat.zero_le _, rfl, BO, MI⟩
        case round =>
          clear BO MI
          obtain ⟨i, hi2, rfl, BO, MI⟩ := hrel
          by_cases hlt2 : i < l.length
          case pos =>
            have hil : (i : Int) < (l.length : Int) := by omega
            have LT := Aside0.mk hlt2
            obtain ⟨lo, hs, hlo, h2k⟩ := MI.out.ex
            obtain ⟨N, hN⟩ : ∃ N, N = (rd_T27 lo i).f1.length := ⟨_, rfl⟩
            have M0 := Aside0.mk (show ∃ lo : List S27, Kd.S k27 27 wr W.heap.size (fun k => k < z3) (.slice Ao l.length co) lo ∧ lo.length = l.length ∧ (∀ j : Nat, (rd_T27 lo j).f1.length ≤ 2000) ∧ (rd_T27 lo i).f1.length = N from ⟨lo, hs, hlo, h2k, hN.symm⟩)
            have hN2 : N ≤ 2000 := by rw [hN]; exact h2k i
            have HN2 := Aside0.mk hN2
            clear hs hlo h2k hN MI hN2 hlt2
            go_wp2
            go_loopw [12] (fun v12 wk => ∃ k : Nat, k ≤ N ∧ v12 = .int .i64 k ∧ Aside0 (Both W wk pb pb2 vr vr2 0 (fun k => z3 ≤ k ∧ k < z5)) ∧ Aside0 (∃ lo : List S27, Kd.S k27 27 wk W.heap.size (fun k => k < z3) (.slice Ao l.length co) lo ∧ lo.length = l.length ∧ (∀ j : Nat, (rd_T27 lo j).f1.length ≤ 2000) ∧ (rd_T27 lo i).f1.length = N)) (fun v12 _ => N - (intOf v12).toNat)
            case atStart => exact ⟨0, Nat.zero_le _, rfl, BO, M0⟩
            case round =>
              clear BO M0
              obtain ⟨k, hk, rfl, BO, M0⟩ := hrel
              obtain ⟨lo, hs, hlo, h2k, hN⟩ := M0.out
              by_cases hlk : k < N
              case pos =>
                have hkN : (k : Int) < (N : Int) := by omega
                obtain ⟨ad, c', g, cg, sl, _⟩ := slot_of hs i (by have := LT.out; omega) (by omega)
                obtain ⟨rfl, rfl⟩ : Ao = some ad ∧ co = c' := by have h := sl.row; injection h with e1 e2 e3; exact ⟨e1, e3⟩
                have z1 := sl.z1
                rw [hN] at z1
                have z2 := sl.at_ k (by omega)
                have z4 : World.frozen? _ ⟨g, k, none⟩ = false := (by obtain ⟨cs, hcs⟩ := sl.typ; exact blk_frozen hcs k)
                have SS := Aside0.mk (S_store hs sl k (by omega) (-7))
                have LO := Aside0.mk (show i < lo.length by have := LT.out; omega)
                have HL0 := Aside0.mk (And.intro hlo (And.intro h2k hN))
                have LK := Aside0.mk hlk
                generalize rd (rd_T27 lo i).f1 (k : Nat) = vv at *
                clear sl hs hlo h2k hN M0 hlk
                go_wp2
                have hN3 := HN2.out
                have hk3 := LK.out
                refine ⟨⟨k + 1, LK.out, by rw [up1 k (by omega)], ?_, ?_⟩, ?_⟩
                · have hg := SS.out.2.1
                  exact ⟨BO.out.far ((Kept.refl _ (fun k => k = g)).setCell (p := ⟨g, k, none⟩) (.inl rfl) _) (fun j hj hb => by subst hj; have := hb.1; omega) (below_set BO.out.below SS.out.2.2)⟩
                · exact ⟨⟨_, SS.out.1, by rw [List.length_set]; exact HL0.out.1, mine_set (-7) LO.out HL0.out.2.1, by rw [mine_len (-7) LO.out]; exact HL0.out.2.2⟩⟩
                · rw [up1 k (by omega)]
                  simp [intOf]
                  omega
              case neg =>
                obtain rfl : k = N := by omega
                obtain ⟨ad, B1, d1, e, hx0, hx1, hx2, k1, r1⟩ := at_T27 (C_of_S hs).1 (i : Int) (by omega) (by have := LT.out; omega)
                cases e
                simp only [Int.toNat_natCast] at hx1
                rw [hN] at hx1
                have MI := Aside0.mk (show Mine _ W.heap.size (fun k => k < z3) (.slice (some ad) l.length co) l.length from ⟨⟨lo, hs, hlo, h2k⟩⟩)
                clear hs hlo h2k hN M0 hx0 hx2 k1 r1
                go_wp2
                refine ⟨⟨i + 1, LT.out, by first | rfl | go_num, BO, MI⟩, ?_⟩
                have := LT.out
                simp [intOf]
                omega
          case neg =>
            obtain rfl : i = l.length := by omega
            clear MI N1 N2 CP HB HS HW2 GG HCC HC
            go_wp2
            go_loopw [13] (fun v13 wk => ∃ i : Nat, i ≤ ops.length ∧ i ≤ 80 ∧ v13 = .int .i64 i ∧ Aside0 (Both W wk pb pb2 vr vr2 i (fun k => k < wk.heap.size))) (fun v13 _ => ops.length - (intOf v13).toNat)
            case atStart => exact ⟨0, Nat.zero_le _, Nat.zero_le _, rfl, ⟨BO.out.now⟩⟩
            case round =>
              clear BO
              obtain ⟨i, hi3, hi80, rfl, BO⟩ := hrel
              by_cases hlt3 : i < ops.length ∧ i < 80
              case pos =>
                obtain ⟨ad, e, hx0, hx1, hx2⟩ := at_T43 (Kd.C_below HOP.out BO.out.below) (i : Int) (by omega) (by omega)
                cases e
                simp only [Int.toNat_natCast] at hx0 hx1 hx2
                have hil : (i : Int) < (ops.length : Int) := by omega
                have hil80 : (i : Int) < 80 := by omega
                have LT := Aside0.mk hlt3
                have RO := Aside0.mk (show RG (ops.getD i z43).f0 ∧ RG (ops.getD i z43).f1 ∧ RG (ops.getD i z43).f2 from by
                  rw [List.getD_eq_getElem?_getD, List.getElem?_eq_getElem hlt3.1]
                  exact HOR.out _ (List.getElem_mem hlt3.1))
                clear hlt3
                generalize ops.getD i z43 = o at *
                obtain ⟨f0, f1, f2⟩ := o
                dsimp only at *
                have B5 := Aside0.mk (below_alloc (Below.refl wr.heap.size wr) (.cells #[.int .i64 f0, .int .i64 f1, .int .i64 f2] 43))
                have BG := Aside0.mk (blk_new wr (.cells #[.int .i64 f0, .int .i64 f1, .int .i64 f2] 43))
                by_cases d1 : f0 = 1
                case pos =>
                  subst d1
                  obtain ⟨g, Mid, hC1, hC2⟩ := both_store (BO.out.next (below_drew1 B5.out)) (by omega) f1 f2 RO.out.2.1
                  have C1 := Aside0.mk hC1
                  have C2 := Aside0.mk hC2
                  have BG5 := Aside0.mk (blk_drew BG.out)
                  clear hC1 hC2
                  go_wp2
                  refine start_ (n := 13) (S := fun w' => w'.cell? ⟨wr.heap.size, 1, none⟩ = some (.int .i64 f1) ∧ w'.cell? ⟨wr.heap.size, 2, none⟩ = some (.int .i64 f2)) (ds := []) #[false, false, false, false, false, false, false, false, false, false, false, false, false] (by kernel_rfl) rfl rfl ⟨(blk_cell BG5.out 1).trans rfl, (blk_cell BG5.out 2).trans rfl⟩ (fun hHeld => ?_)
                  refine with_tabW tb4.tab30 tb4.bits30 (fun HT_ HW_ => ?_)
                  refine pure_ (i := 0) (N := some 125) (v := ?_) (a' := ?_) #[true, false, false, false, false, false, false, false, false, false, false, false, false] rfl rfl (any_of HT_.out (by kernel_rfl)) (fun _ _ _ h => h) (Or.inl ⟨by rfl, ?_⟩) ?_ ?_
                  rotate_left
                  · intro w'
                    go_simp
                    with_reducible rfl
                  rotate_left
                  · simp only [Act.put, List.setIfInBounds_toArray, List.set_cons_zero, List.set_cons_succ, i64_w, i32_w]
                    rfl
                  refine pure_ (i := 1) (N := some 126) (v := ?_) (a' := ?_) #[true, true, false, false, false, false, false, false, false, false, false, false, false] rfl rfl (any_of HT_.out (by kernel_rfl)) (fun _ _ _ h => h) (Or.inl ⟨by rfl, ?_⟩) ?_ ?_
                  rotate_left
                  · intro w'
                    go_simp
                    with_reducible rfl
                  rotate_left
                  · simp only [Act.put, List.setIfInBounds_toArray, List.set_cons_zero, List.set_cons_succ, i64_w, i32_w]
                    rfl
                  refine pure_ (i := 3) (N := some 128) (v := ?_) (a' := ?_) #[true, true, false, true, false, false, false, false, false, false, false, false, false] rfl rfl (any_of HT_.out (by kernel_rfl)) (fun _ _ _ h => h) (Or.inl ⟨by rfl, ?_⟩) ?_ ?_
                  rotate_left
                  · intro w'
                    go_simp
                    with_reducible rfl
                  rotate_left
                  · simp only [Act.put, List.setIfInBounds_toArray, List.set_cons_zero, List.set_cons_succ, i64_w, i32_w]
                    rfl
                  refine pure_ (i := 6) (N := some 131) (v := ?_) (a' := ?_) #[true, true, false, true, false, false, true, false, false, false, false, false, false] rfl rfl (any_of HT_.out (by kernel_rfl)) (fun _ _ _ h => h) (Or.inl ⟨by rfl, ?_⟩) ?_ ?_
                  rotate_left
                  · intro w'
                    go_simp
                    with_reducible rfl
                  rotate_left
                  · simp only [Act.put, List.setIfInBounds_toArray, List.set_cons_zero, List.set_cons_succ, i64_w, i32_w]
                    rfl
                  refine pure_ (i := 7) (N := some 132) (v := ?_) (a' := ?_) #[true, true, false, true, false, false, true, true, false, false, false, false, false] rfl rfl (any_of HT_.out (by kernel_rfl)) (fun _ _ _ h => h) (Or.inl ⟨by rfl, ?_⟩) ?_ ?_
                  rotate_left
                  · intro w'
                    go_simp
                    with_reducible rfl
                  rotate_left
                  · simp only [Act.put, List.setIfInBounds_toArray, List.set_cons_zero, List.set_cons_succ, i64_w, i32_w]
                    rfl
                  refine pure_ (i := 9) (N := some 134) (v := ?_) (a' := ?_) #[true, true, false, true, false, false, true, true, false, true, false, false, false] rfl rfl (any_of HT_.out (by kernel_rfl)) (fun _ _ _ h => h) (Or.inl ⟨by rfl, ?_⟩) ?_ ?_
                  rotate_left
                  · intro w'
                    go_simp
                    with_reducible rfl
                  rotate_left
                  · simp only [Act.put, List.setIfInBounds_toArray, List.set_cons_zero, List.set_cons_succ, i64_w, i32_w]
                    rfl
                  refine take_ (i := 2) (N := some 127) (v := ?_) (a' := ?_) #[true, true, true, true, false, false, true, true, false, true, false, false, false] rfl rfl (take_ofW HT_.out HW_.out (by kernel_rfl)) (fun _ _ _ h => h) (Or.inl ⟨by rfl, ?_⟩) hHeld ?_ ?_
                  rotate_left
                  · rintro w' ⟨s0, s1⟩
                    go_simp
                    with_reducible rfl
                  rotate_left
                  · simp only [Act.put, List.setIfInBounds_toArray, List.set_cons_zero, List.set_cons_succ, i64_w, i32_w]
                    rfl
                  refine take_ (i := 4) (N := some 129) (v := ?_) (a' := ?_) #[true, true, true, true, true, false, true, true, false, true, false, false, false] rfl rfl (take_ofW HT_.out HW_.out (by kernel_rfl)) (fun _ _ _ h => h) (Or.inl ⟨by rfl, ?_⟩) hHeld ?_ ?_
                  rotate_left
                  · rintro w' ⟨s0, s1⟩
                    go_simp
                    with_reducible rfl
                  rotate_left
                  · simp only [Act.put, List.setIfInBounds_toArray, List.set_cons_zero, List.set_cons_succ, i64_w, i32_w]
                    rfl
                  refine take_ (i := 8) (N := some 133) (v := ?_) (a' := ?_) #[true, true, true, true, true, false, true, true, true, true, false, false, false] rfl rfl (take_ofW HT_.out HW_.out (by kernel_rfl)) (fun _ _ _ h => h) (Or.inl ⟨by rfl, ?_⟩) hHeld ?_ ?_
                  rotate_left
                  · rintro w' ⟨s0, s1⟩
                    go_simp
                    with_reducible rfl
                  rotate_left
                  · simp only [Act.put, List.setIfInBounds_toArray, List.set_cons_zero, List.set_cons_succ, i64_w, i32_w]
                    rfl
                  refine take_ (i := 10) (N := some 135) (v := ?_) (a' := ?_) #[true, true, true, true, true, false, true, true, true, true, true, false, false] rfl rfl (take_ofW HT_.out HW_.out (by kernel_rfl)) (fun _ _ _ h => h) (Or.inl ⟨by rfl, ?_⟩) hHeld ?_ ?_
                  rotate_left
                  · rintro w' ⟨s0, s1⟩
                    go_simp
                    with_reducible rfl
                  rotate_left
                  · simp only [Act.put, List.setIfInBounds_toArray, List.set_cons_zero, List.set_cons_succ, i64_w, i32_w]
                    rfl
                  refine one_ (i := 5) (N := some 130) #[true, true, true, true, true, true, true, true, true, true, true, false, false] rfl rfl (one_of HT_.out (by kernel_rfl)) (by decide) (fun K hK => ?_)
                  refine goes_ Try.func11 (by kernel_rfl) rfl #[.pointer (some ⟨pb, 0, none⟩), .int .i64 f1, .int .i64 f2] (by rfl) rfl rfl (by simp only [List.map_toArray, List.map_cons, List.map_nil]; rfl) ?_
                  with_reducible refine (C1.out).mono ?_
                  rintro eA wA ⟨rfl, md, kp⟩
                  refine ⟨_, rfl, ?_⟩
                  have MD := Aside0.mk md
                  have BGA := Aside0.mk (blk_kept BG5.out kp (Nat.lt_irrefl _))
                  clear md kp
                  refine hK.out _ _ ⟨(blk_cell BGA.out 1).trans rfl, (blk_cell BGA.out 2).trans rfl⟩ (fun hHeld => ?_)
                  clear hK K
                  refine norm_ (a' := ?_) ?_ ?_
                  rotate_left
                  · show Act.put _ (some 130) _ = _
                    simp only [Act.put, List.setIfInBounds_toArray, List.set_cons_zero, List.set_cons_succ, i64_w, i32_w]
                    rfl
                  refine one_ (i := 11) (N := some 136) #[true, true, true, true, true, true, true, true, true, true, true, true, false] rfl rfl (one_of HT_.out (by kernel_rfl)) (by decide) (fun K hK => ?_)
                  refine goes_ Try.func14 (by kernel_rfl) rfl #[.pointer (some ⟨pb2, 0, none⟩), .int .i64 f1, .int .i64 f2] (by rfl) rfl rfl (by simp only [List.map_toArray, List.map_cons, List.map_nil]; rfl) ?_
                  with_reducible refine (C2.out _ MD.out).mono ?_
                  rintro eB wB ⟨rfl, bo, kp⟩
                  refine ⟨_, rfl, ?_⟩
                  have BOB := Aside0.mk bo
                  have BGB := Aside0.mk (blk_kept BGA.out kp (Nat.lt_irrefl _))
                  clear bo kp
                  refine hK.out _ _ ⟨(blk_cell BGB.out 1).trans rfl, (blk_cell BGB.out 2).trans rfl⟩ (fun hHeld => ?_)
                  clear hK K
                  refine norm_ (a' := ?_) ?_ ?_
                  rotate_left
                  · show Act.put _ (some 136) _ = _
                    simp only [Act.put, List.setIfInBounds_toArray, List.set_cons_zero, List.set_cons_succ, i64_w, i32_w]
                    rfl
                  refine pure_ (i := 12) (N := some 137) (v := ?_) (a' := ?_) #[true, true, true, true, true, true, true, true, true, true, true, true, true] rfl rfl (any_of HT_.out (by kernel_rfl)) (fun _ _ _ h => h) (Or.inl ⟨by rfl, ?_⟩) ?_ ?_
                  rotate_left
                  · intro w'
                    go_simp
                    with_reducible rfl
                  rotate_left
                  · simp only [Act.put, List.setIfInBounds_toArray, List.set_cons_zero, List.set_cons_succ, i64_w, i32_w]
                    rfl
                  refine done_ (done_of HT_.out (by kernel_rfl)) ?_
                  have BON := Aside0.mk BOB.out.now
                  go_wp2
                  refine ⟨⟨i + 1, LT.out.1, LT.out.2, by first | rfl | go_num, BON⟩, ?_⟩
                  have := LT.out.1
                  simp [intOf]
                  omega
                by_cases d2 : f0 = 2
                case pos =>
                  subst d2
                  obtain ⟨us, vs, Mid, hu, hv, hC1, hC2⟩ := both_foot (BO.out.next B5.out) (fun k hk => by have := hk; simp; omega) (by omega)
                  have C1 := Aside0.mk hC1
                  have C2 := Aside0.mk hC2
                  have HU := Aside0.mk hu
                  have SF := Aside0.mk (fun w Aj cj Ak ck Al cl Am cm (j0 : Kd.C (Kd.int .i64) w Aj us.length us) j1 (j2 : Kd.C (Kd.int .i64) w Ak vs.length vs) j3 (k0 : Kd.C (Kd.int .i64) w Al us.length us) k1 (k2 : Kd.C (Kd.int .i64) w Am vs.length vs) k3 => cotterref02_SameFoot.calls 1000 Aj cj us Ak ck vs Al cl us Am cm vs _ w j0 j1 j2 j3 k0 k1 k2 k3 (sameFoot_f us vs us vs (by omega) (by omega) 1000 (by omega) (by omega)))
                  simp only [and_self, decide_true] at SF
                  clear hC1 hC2 hu hv
                  go_wp2_with (first
                    | (go_at_call 15; (with_reducible refine C1.out.mono ?_); rintro e w6 ⟨A0, c0, A1', c1', B', rfl, q0, q1, md, kp, hb, hB'⟩; have MD := Aside0.mk md; have HR6 := Aside0.mk q0; have HV6 := Aside0.mk q1; have HB6 := Aside0.mk hb; have NB6 := Aside0.mk hB'; clear q0 q1 md kp hb hB'))
                  have B67 := Aside0.mk (below_drew1 (below_alloc (Below.refl w6.heap.size w6) (.cells #[.slice A0 us.length c0, .slice A1' vs.length c1'] 45)))
                  have BF7 := Aside0.mk (blk_drew (blk_new w6 (.cells #[.slice A0 us.length c0, .slice A1' vs.length c1'] 45)))
                  have HR7 := Aside0.mk (Kd.R_drew (Kd.R_alloc HR6.out (.cells #[.slice A0 us.length c0, .slice A1' vs.length c1'] 45)))
                  have HV7 := Aside0.mk (Kd.R_drew (Kd.R_alloc HV6.out (.cells #[.slice A0 us.length c0, .slice A1' vs.length c1'] 45)))
                  have NF := Aside0.mk (show ¬ B' w6.heap.size from fun h => Nat.lt_irrefl _ (NB6.out _ h))
                  have ZB := Aside0.mk (show W.heap.size ≤ (wr.alloc (.cells #[.int .i64 2, .int .i64 f1, .int .i64 f2] 43)).heap.size by have := BO.out.below.size; simp; omega)
                  refine start_ (n := 5) (S := fun w' => w'.cell? ⟨w6.heap.size, 0, none⟩ = some (.slice A0 us.length c0) ∧ w'.cell? ⟨w6.heap.size, 1, none⟩ = some (.slice A1' vs.length c1')) (ds := []) #[false, false, false, false, false] (by kernel_rfl) rfl rfl ⟨(blk_cell BF7.out 0).trans rfl, (blk_cell BF7.out 1).trans rfl⟩ (fun hHeld => ?_)
                  refine pure_ (i := 1) (N := some 143) (v := ?_) (a' := ?_) #[false, true, false, false, false] rfl rfl (by kernel_rfl) (fun _ _ _ h => h) (Or.inl ⟨by rfl, ?_⟩) ?_ ?_
                  rotate_left
                  · intro w'
                    go_simp
                    with_reducible rfl
                  rotate_left
                  · simp only [Act.put, List.setIfInBounds_toArray, List.set_cons_zero, List.set_cons_succ, i64_w, i32_w]
                    rfl
                  refine take_ (i := 0) (N := some 142) (v := ?_) (a' := ?_) #[true, true, false, false, false] rfl rfl (by kernel_rfl) (fun _ _ _ h => h) (Or.inl ⟨by rfl, ?_⟩) hHeld ?_ ?_
                  rotate_left
                  · rintro w' ⟨s0, s1⟩
                    go_simp
                    with_reducible rfl
                  rotate_left
                  · simp only [Act.put, List.setIfInBounds_toArray, List.set_cons_zero, List.set_cons_succ, i64_w, i32_w]
                    rfl
                  refine one_ (i := 2) (N := some 144) #[true, true, true, false, false] rfl rfl (by kernel_rfl) (by decide) (fun K hK => ?_)
                  refine goes_ Try.func17 (by kernel_rfl) rfl #[.pointer (some ⟨pb2, 0, none⟩)] (by rfl) rfl rfl (by simp only [List.map_toArray, List.map_cons, List.map_nil]; rfl) ?_
                  with_reducible refine (C2.out _ _ _ MD.out B67.out).mono ?_
                  rintro eA w8 ⟨A2, c2, A3, c3, rfl, q0, g0, q1, g1, bo, kp⟩
                  refine ⟨_, rfl, ?_⟩
                  have BO8 := Aside0.mk bo
                  have BF8 := Aside0.mk (blk_kept BF7.out kp NF.out)
                  have RF := Aside0.mk (And.intro q0 (And.intro g0 (And.intro q1 g1)))
                  have HR8 := Aside0.mk (Kd.R_kept HR7.out kp (fun _ h => h))
                  have HV8 := Aside0.mk (Kd.R_kept HV7.out kp (fun _ h => h))
                  clear q0 g0 q1 g1 bo kp
                  refine hK.out _ _ ⟨(blk_cell BF8.out 0).trans rfl, (blk_cell BF8.out 1).trans rfl⟩ (fun hHeld => ?_)
                  clear hK K
                  refine norm_ (a' := ?_) ?_ ?_
                  rotate_left
                  · show Act.put _ (some 144) _ = _
                    simp only [Act.put, List.setIfInBounds_toArray, List.set_cons_zero, List.set_cons_succ, i64_w, i32_w]
                    rfl
                  refine one_ (i := 3) (N := some 145) #[true, true, true, true, false] rfl rfl (by kernel_rfl) (by decide) (fun K hK => ?_)
                  refine goes_ Try.func16 (by kernel_rfl) rfl #[.agg #[.slice A0 us.length c0, .slice A1' vs.length c1'], .agg #[.slice A2 us.length c2, .slice A3 vs.length c3]] (by rfl) rfl rfl (by simp only [List.map_toArray, List.map_cons, List.map_nil]; rfl) ?_
                  with_reducible refine (SF.out _ _ _ _ _ _ _ _ _ (Kd.R_reads' HR8.out).2.2 (Kd.R_reads' HR8.out).2.1 (Kd.R_reads' HV8.out).2.2 (Kd.R_reads' HV8.out).2.1 RF.out.1 RF.out.2.1 RF.out.2.2.1 RF.out.2.2.2).mono ?_
                  rintro eB w9 ⟨rfl, hb⟩
                  refine ⟨_, rfl, ?_⟩
                  have BO9 := Aside0.mk (BO8.out.next hb)
                  have BF9 := Aside0.mk (blk_below BF8.out hb)
                  have HR9 := Aside0.mk (Kd.R_below HR8.out hb)
                  clear hb RF
                  refine hK.out _ _ ⟨(blk_cell BF9.out 0).trans rfl, (blk_cell BF9.out 1).trans rfl⟩ (fun hHeld => ?_)
                  clear hK K
                  refine norm_ (a' := ?_) ?_ ?_
                  rotate_left
                  · show Act.put _ (some 145) _ = _
                    simp only [Act.put, List.setIfInBounds_toArray, List.set_cons_zero, List.set_cons_succ, i64_w, i32_w]
                    rfl
                  refine pure_ (i := 4) (N := some 146) (v := ?_) (a' := ?_) #[true, true, true, true, true] rfl rfl (by kernel_rfl) (fun _ _ _ h => h) (Or.inl ⟨by rfl, ?_⟩) ?_ ?_
                  rotate_left
                  · intro w'
                    go_simp
                    with_reducible rfl
                  rotate_left
                  · simp only [Act.put, List.setIfInBounds_toArray, List.set_cons_zero, List.set_cons_succ, i64_w, i32_w]
                    rfl
                  refine done_ (by kernel_rfl) ?_
                  have OKB := Aside0.mk (show ∀ k, (fun k => ¬ B' k) k → ¬ B' k from fun _ h => h)
                  obtain ⟨nn, hnn⟩ : ∃ nn : Nat, nn = 0 := ⟨_, rfl⟩
                  have NN := Aside0.mk (show nn ≤ i + 1 by omega)
                  rw [← hnn] at BO9
                  clear hnn C1 C2 SF MD HR6 HV6 HB6 NB6 B67 BF7 HR7 HV7 NF BO8 BF8 HR8 HV8 hHeld
                  generalize (wr.alloc (.cells #[.int .i64 2, .int .i64 f1, .int .i64 f2] 43)).heap.size = zb at *
                  generalize w6.heap.size = fb at *
                  generalize (fun k => ¬ B' k) = okp at *
                  generalize B' = BP at *
                  go_wp2
                  go_loopw [16] (fun vS wk => ∃ k : Nat, k ≤ us.length ∧ vS = .int .i64 k ∧ Aside0 (Both W wk pb pb2 vr vr2 nn BP) ∧ Aside0 (∃ us2 : List Int, us2.length = us.length ∧ Kd.R (Kd.int .i64) 2 wk zb okp (.slice A0 us.length c0) us2) ∧ Aside0 (wk.heap[fb]? = some (.cells #[.slice A0 us.length c0, .slice A1' vs.length c1'] 45 (0, 0)))) (fun vS _ => us.length - (intOf vS).toNat)
                  case atStart => exact ⟨0, Nat.zero_le _, rfl, BO9, ⟨⟨us, rfl, HR9.out⟩⟩, BF9⟩
                  case round =>
                    clear BO9 HR9 BF9
                    obtain ⟨k, hk, rfl, BO9, HR9, BF9⟩ := hrel
                    have kb0 : World.cell? _ ⟨fb, 0, none⟩ = some (.slice A0 us.length c0) := (blk_cell BF9.out 0).trans rfl
                    by_cases hlk : k < us.length
                    case pos =>
                      obtain ⟨us2, hl2, hr2⟩ := HR9.out
                      obtain ⟨g, cap, hv, hbase, hlt, cells, hgc⟩ := Kd.R_form hr2 (by omega)
                      obtain ⟨rfl, rfl⟩ : A0 = some ⟨g, 0, none⟩ ∧ c0 = cap := by injection hv with e1 e2 e3; exact ⟨e1, e3⟩
                      obtain ⟨adw, e, hxw⟩ := Kd.at_int (Kd.R_reads' hr2).2.2 (k : Int) (by omega) (by omega)
                      cases e
                      rw [Int.toNat_natCast, add_plain] at hxw
                      have hfw : World.frozen? _ ⟨g, k, none⟩ = false := blk_frozen hgc k
                      have hkN : (k : Int) < (us.length : Int) := by omega
                      have PUT := Aside0.mk (Kd.R_putg hr2 (k : Int) (-7)).1
                      have NBG := Aside0.mk (show ¬ BP g ∧ zb ≤ g from ⟨OKB.out g (hr2.1 g rfl), hbase⟩)
                      have NFB := Aside0.mk (show fb ≠ g from blk_ne BF9.out hgc (by decide))
                      have LK := Aside0.mk hlk
                      have HL2 := Aside0.mk hl2
                      generalize rd us2 (k : Int) = vv at *
                      clear hr2 hl2 hgc hbase hlt hv hlk HR9
                      go_wp2
                      have hk3 := LK.out
                      have hu3 := HU.out
                      refine ⟨⟨k + 1, LK.out, by rw [up1 k (by omega)], ?_, ?_, ⟨blk_far BF9.out NFB.out _⟩⟩, ?_⟩
                      · exact ⟨BO9.out.far ((Kept.refl _ (fun k => k = g)).setCell (p := ⟨g, k, none⟩) (.inl rfl) _) (fun j hj hb => by subst hj; exact NBG.out.1 hb) (below_set BO9.out.below (by have := ZB.out; have := NBG.out.2; omega))⟩
                      · exact ⟨⟨us2.set k (-7), by rw [List.length_set]; exact HL2.out, by have := PUT.out; simp only [Int.toNat_natCast] at this; exact this⟩⟩
                      · rw [up1 k (by omega)]
                        simp [intOf]
                        omega
                    case neg =>
                      obtain rfl : k = us.length := by omega
                      have BON := Aside0.mk (BO9.out.now.le (n' := i + 1) (by have := NN.out; omega))
                      clear BO9 HR9 BF9
                      go_wp2
                      refine ⟨⟨i + 1, LT.out.1, LT.out.2, by first | rfl | go_num, BON⟩, ?_⟩
                      have := LT.out.1
                      simp [intOf]
                      omega
                by_cases d3 : f0 = 3
                case pos =>
                  subst d3
                  obtain ⟨us, hu, hC1, hC2⟩ := both_words (BO.out.next B5.out) f2
                  have C1 := Aside0.mk (hC1 _ (Below.refl _ _))
                  have C2 := Aside0.mk hC2
                  have HU := Aside0.mk hu
                  have BO5 := Aside0.mk (BO.out.next B5.out)
                  have SM := Aside0.mk (fun w Aj cj Ak ck (j0 : Kd.C (Kd.int .i64) w Aj us.length us) j1 (j2 : Kd.C (Kd.int .i64) w Ak us.length us) j3 => cotterref02_Same.calls 100000 Aj cj us Ak ck us _ w j0 j1 j2 j3 (same_f us us (by omega) 100000 (by omega)))
                  simp only [decide_true] at SM
                  have kg2 : (wr.alloc (.cells #[.int .i64 3, .int .i64 f1, .int .i64 f2] 43)).cell? ⟨wr.heap.size, 2, none⟩ = some (.int .i64 f2) := (blk_cell BG.out 2).trans rfl
                  clear hC1 hC2 hu
                  go_wp2_with (first
                    | (go_at_call 18; (with_reducible refine C1.out.mono ?_); rintro e w6 ⟨A0, c0, rfl, q0, hb⟩; have HR6 := Aside0.mk (Kd.R_mono (ok' := fun k => (wr.alloc (.cells #[.int .i64 3, .int .i64 f1, .int .i64 f2] 43)).heap.size ≤ k) (Kd.R_bound q0) (fun k hk => hk.2.1)); have B6 := Aside0.mk hb; have kg6 : w6.cell? ⟨wr.heap.size, 2, none⟩ = some (.int .i64 f2) := (blk_cell (blk_below BG.out hb) 2).trans rfl; clear q0 hb)
                    | (go_at_call 20; (with_reducible refine (C2.out _ B6.out).mono ?_); rintro e w7 ⟨A2, c2, rfl, q0, hb⟩; have HR7 := Aside0.mk (Kd.R_below HR6.out hb); have RF := Aside0.mk (Kd.R_reads' q0).2; have B7 := Aside0.mk (below_then B6.out B6.out.size hb); clear q0 hb)
                    | (go_at_call 19; (with_reducible refine (SM.out _ _ _ _ _ (Kd.R_reads' HR7.out).2.2 (Kd.R_reads' HR7.out).2.1 RF.out.2 RF.out.1).mono ?_); rintro e w8 ⟨rfl, hd⟩; have HR9 := Aside0.mk (Kd.R_below HR7.out (drawn_below hd)); have BO9 := Aside0.mk ((BO5.out.next B7.out).next (drawn_below hd)); clear hd))
                  have OKB := Aside0.mk (show ∀ k, (fun k => (wr.alloc (.cells #[.int .i64 3, .int .i64 f1, .int .i64 f2] 43)).heap.size ≤ k) k → ¬ (fun k => k < wr.heap.size) k from fun k h h2 => by simp at h h2; omega)
                  have ZB := Aside0.mk (show W.heap.size ≤ (wr.alloc (.cells #[.int .i64 3, .int .i64 f1, .int .i64 f2] 43)).heap.size by have := BO.out.below.size; simp; omega)
                  obtain ⟨nn, hnn⟩ : ∃ nn : Nat, nn = i := ⟨_, rfl⟩
                  have NN := Aside0.mk (show nn ≤ i + 1 by omega)
                  rw [← hnn] at BO9
                  clear hnn C1 C2 SM HR6 B6 HR7 RF B7 BO5 kg2 kg6
                  generalize (fun k => (wr.alloc (.cells #[.int .i64 3, .int .i64 f1, .int .i64 f2] 43)).heap.size ≤ k) = okp at *
                  generalize (wr.alloc (.cells #[.int .i64 3, .int .i64 f1, .int .i64 f2] 43)).heap.size = zb at *
                  generalize (fun k => k < wr.heap.size) = BP at *
                  go_wp2
                  go_loopw [18] (fun vS wk => ∃ k : Nat, k ≤ us.length ∧ vS = .int .i64 k ∧ Aside0 (Both W wk pb pb2 vr vr2 nn BP) ∧ Aside0 (∃ us2 : List Int, us2.length = us.length ∧ Kd.R (Kd.int .i64) 2 wk zb okp (.slice A0 us.length c0) us2)) (fun vS _ => us.length - (intOf vS).toNat)
                  case atStart => exact ⟨0, Nat.zero_le _, rfl, BO9, ⟨⟨us, rfl, HR9.out⟩⟩⟩
                  case round =>
                    clear BO9 HR9
                    obtain ⟨k, hk, rfl, BO9, HR9⟩ := hrel
                    by_cases hlk : k < us.length
                    case pos =>
                      obtain ⟨us2, hl2, hr2⟩ := HR9.out
                      obtain ⟨g, cap, hv, hbase, hlt, cells, hgc⟩ := Kd.R_form hr2 (by omega)
                      obtain ⟨rfl, rfl⟩ : A0 = some ⟨g, 0, none⟩ ∧ c0 = cap := by injection hv with e1 e2 e3; exact ⟨e1, e3⟩
                      obtain ⟨adw, e, hxw⟩ := Kd.at_int (Kd.R_reads' hr2).2.2 (k : Int) (by omega) (by omega)
                      cases e
                      rw [Int.toNat_natCast, add_plain] at hxw
                      have hfw : World.frozen? _ ⟨g, k, none⟩ = false := blk_frozen hgc k
                      have hkN : (k : Int) < (us.length : Int) := by omega
                      have PUT := Aside0.mk (Kd.R_putg hr2 (k : Int) (-7)).1
                      have NBG := Aside0.mk (show ¬ BP g ∧ zb ≤ g from ⟨OKB.out g (hr2.1 g rfl), hbase⟩)
                      have LK := Aside0.mk hlk
                      have HL2 := Aside0.mk hl2
                      generalize rd us2 (k : Int) = vv at *
                      clear hr2 hl2 hgc hbase hlt hv hlk HR9
                      go_wp2
                      have hk3 := LK.out
                      have hu3 := HU.out
                      refine ⟨⟨k + 1, LK.out, by rw [up1 k (by omega)], ?_, ?_⟩, ?_⟩
                      · exact ⟨BO9.out.far ((Kept.refl _ (fun k => k = g)).setCell (p := ⟨g, k, none⟩) (.inl rfl) _) (fun j hj hb => by subst hj; exact NBG.out.1 hb) (below_set BO9.out.below (by have := ZB.out; have := NBG.out.2; omega))⟩
                      · exact ⟨⟨us2.set k (-7), by rw [List.length_set]; exact HL2.out, by have := PUT.out; simp only [Int.toNat_natCast] at this; exact this⟩⟩
                      · rw [up1 k (by omega)]
                        simp [intOf]
                        omega
                    case neg =>
                      obtain rfl : k = us.length := by omega
                      have BON := Aside0.mk (BO9.out.now.le (n' := i + 1) (by have := NN.out; omega))
                      clear BO9 HR9
                      go_wp2
                      refine ⟨⟨i + 1, LT.out.1, LT.out.2, by first | rfl | go_num, BON⟩, ?_⟩
                      have := LT.out.1
                      simp [intOf]
                      omega
                obtain ⟨u, g, Mid, hC1, hC2⟩ := both_load (BO.out.next B5.out) (by omega) f1 RO.out.2.1
                have C1 := Aside0.mk hC1
                have C2 := Aside0.mk hC2
                have kg1 : (wr.alloc (.cells #[.int .i64 f0, .int .i64 f1, .int .i64 f2] 43)).cell? ⟨wr.heap.size, 1, none⟩ = some (.int .i64 f1) := (blk_cell BG.out 1).trans rfl
                clear hC1 hC2
                go_wp2_with (first
                  | (go_at_call 10; (with_reducible refine C1.out.mono ?_); rintro e w6 ⟨rfl, md, kp⟩; have MD := Aside0.mk md; have kg6 : w6.cell? ⟨wr.heap.size, 1, none⟩ = some (.int .i64 f1) := (blk_cell (blk_kept BG.out kp (Nat.lt_irrefl _)) 1).trans rfl; clear md kp)
                  | (go_at_call 21; (with_reducible refine (C2.out _ MD.out).mono ?_); rintro e w7 ⟨rfl, bo, kp⟩; have BON := Aside0.mk bo.now; clear bo kp))
                refine ⟨⟨i + 1, LT.out.1, LT.out.2, by first | rfl | go_num, BON⟩, ?_⟩
                have := LT.out.1
                simp [intOf]
                omega
              case neg =>
                obtain ⟨us, vs, Mid, hu, hv, hC1, hC2⟩ := both_foot BO.out (fun k hk => hk) (by omega)
                have C1 := Aside0.mk hC1
                have C2 := Aside0.mk hC2
                have SF := Aside0.mk (fun w Aj cj Ak ck Al cl Am cm (j0 : Kd.C (Kd.int .i64) w Aj us.length us) j1 (j2 : Kd.C (Kd.int .i64) w Ak vs.length vs) j3 (k0 : Kd.C (Kd.int .i64) w Al us.length us) k1 (k2 : Kd.C (Kd.int .i64) w Am vs.length vs) k3 => cotterref02_SameFoot.calls 1000 Aj cj us Ak ck vs Al cl us Am cm vs _ w j0 j1 j2 j3 k0 k1 k2 k3 (sameFoot_f us vs us vs (by omega) (by omega) 1000 (by omega) (by omega)))
                simp only [and_self, decide_true] at SF
                clear hC1 hC2 hu hv
                by_cases hA : i < ops.length
                case pos =>
                  obtain rfl : i = 80 := by omega
                  have hA2 : (80 : Int) < (ops.length : Int) := by omega
                  clear hA hlt3
                  go_wp2_with (first
                    | (go_at_call 15; (with_reducible refine C1.out.mono ?_); rintro e w6 ⟨A0, c0, A1', c1', B', rfl, q0, q1, md, kp, hb, hB'⟩; have MD := Aside0.mk md; have HR6 := Aside0.mk q0; have HV6 := Aside0.mk q1; clear q0 q1 md kp hb hB')
                    | (go_at_call 17; (with_reducible refine (C2.out _ _ _ MD.out (Below.refl _ _)).mono ?_); rintro e w8 ⟨A2, c2, A3, c3, rfl, q0, g0, q1, g1, bo, kp⟩; have BO8 := Aside0.mk bo; have RF := Aside0.mk (And.intro q0 (And.intro g0 (And.intro q1 g1))); have HR8 := Aside0.mk (Kd.R_kept HR6.out kp (fun _ h => h)); have HV8 := Aside0.mk (Kd.R_kept HV6.out kp (fun _ h => h)); clear q0 g0 q1 g1 bo kp)
                    | (go_at_call 16; (with_reducible refine (SF.out _ _ _ _ _ _ _ _ _ (Kd.R_reads' HR8.out).2.2 (Kd.R_reads' HR8.out).2.1 (Kd.R_reads' HV8.out).2.2 (Kd.R_reads' HV8.out).2.1 RF.out.1 RF.out.2.1 RF.out.2.2.1 RF.out.2.2.2).mono ?_); rintro e w9 ⟨rfl, hb⟩; have HB9 := Aside0.mk (below_then BO8.out.below BO8.out.below.size hb); clear hb)
                    | (go_at_call 8; (with_reducible refine (LIVE.out _).mono ?_); rintro e w10 ⟨rfl, hb⟩; have HB10 := Aside0.mk (below_inL HB9.out hb); clear hb))
                  go_ret
                  exact ⟨rfl, HB10.out⟩
                case neg =>
                  obtain rfl : i = ops.length := by omega
                  clear hA hlt3
                  go_wp2_with (first
                    | (go_at_call 15; (with_reducible refine C1.out.mono ?_); rintro e w6 ⟨A0, c0, A1', c1', B', rfl, q0, q1, md, kp, hb, hB'⟩; have MD := Aside0.mk md; have HR6 := Aside0.mk q0; have HV6 := Aside0.mk q1; clear q0 q1 md kp hb hB')
                    | (go_at_call 17; (with_reducible refine (C2.out _ _ _ MD.out (Below.refl _ _)).mono ?_); rintro e w8 ⟨A2, c2, A3, c3, rfl, q0, g0, q1, g1, bo, kp⟩; have BO8 := Aside0.mk bo; have RF := Aside0.mk (And.intro q0 (And.intro g0 (And.intro q1 g1))); have HR8 := Aside0.mk (Kd.R_kept HR6.out kp (fun _ h => h)); have HV8 := Aside0.mk (Kd.R_kept HV6.out kp (fun _ h => h)); clear q0 g0 q1 g1 bo kp)
                    | (go_at_call 16; (with_reducible refine (SF.out _ _ _ _ _ _ _ _ _ (Kd.R_reads' HR8.out).2.2 (Kd.R_reads' HR8.out).2.1 (Kd.R_reads' HV8.out).2.2 (Kd.R_reads' HV8.out).2.1 RF.out.1 RF.out.2.1 RF.out.2.2.1 RF.out.2.2.2).mono ?_); rintro e w9 ⟨rfl, hb⟩; have HB9 := Aside0.mk (below_then BO8.out.below BO8.out.below.size hb); clear hb)
                    | (go_at_call 8; (with_reducible refine (LIVE.out _).mono ?_); rintro e w10 ⟨rfl, hb⟩; have HB10 := Aside0.mk (below_inL HB9.out hb); clear hb))
                  go_ret
                  exact ⟨rfl, HB10.out⟩
end Go.Proofs.Ytkanhnhagjopkaa.M

