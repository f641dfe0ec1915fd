/-
  Texts of the proofs of MemJoins, cut to what the proofs reach and packed by a program of this session (wip/packs.py). Each part begins with what it says; conditions: those told there.
-/
import Derived.Test.YtkanhnhagjopkaaPSA8
import Derived.Test.YtkanhnhagjopkaaPSB5n1
/-
  Layer 2: mem.Clash: the walks. Conditions: lengths that any memory can hold.
-/
namespace Go.Proofs.Ytkanhnhagjopkaa.M
open Go.RowKit Go.Proofs.YtkanhnhagjopkaaW.PrintWords Go.Proofs.YtkanhnhagjopkaaW.PrintLast Go.Proofs.Ytkanhnhagjopkaa.Num
set_option linter.unusedVariables false
set_option linter.unusedSimpArgs false
def hitB (r w : List Int) (n : Int) : Bool := (r.any fun y => decide (n = y)) || w.any fun y => decide (n = y)
theorem drawn_below {w w' : World} (h : Drawn0 w w') : Below w.heap.size w w' := by
  obtain ⟨m, rfl⟩ := h
  exact pw_below_drewN (Below.refl _ _) m
section
variable {W : World} {A0 : Option Addr} {c0 : Nat} {fr : List Int} {A1 : Option Addr} {c1 : Nat} {fw : List Int}
set_option maxHeartbeats 4000000 in
theorem hit_c {pb : Nat} (hb : W.heap[pb]? = some (.cells #[.slice A0 fr.length c0, .slice A1 fw.length c1] 45 (0, 0))) (h0 : Kd.C (Kd.int .i64) W A0 fr.length fr) (g0 : fr.length ≤ c0) (h1 : Kd.C (Kd.int .i64) W A1 fw.length fw) (g1 : fw.length ≤ c1) (m0 : fr.length ≤ 4000000000000) (m1 : fw.length ≤ 4000000000000) (n : Int) :
    Calls Try.prog 41 #[.int .i64 n, .pointer (some ⟨pb, 0, none⟩)] W fun e w' => e = .returned (.bool (hitB fr fw n)) ∧ Below W.heap.size W w' := by
  have C0 := Aside0.mk (fun w (h : Below W.heap.size W w) => slices_Contains_int64_int64.calls (fr.length + 1) A0 c0 fr n _ w (Kd.C_below h0 h) g0 (contains_f fr n m0 (fr.length + 1) (by omega)))
  have C1 := Aside0.mk (fun w (h : Below W.heap.size W w) => slices_Contains_int64_int64.calls (fw.length + 1) A1 c1 fw n _ w (Kd.C_below h1 h) g1 (contains_f fw n m1 (fw.length + 1) (by omega)))
  have B := Aside0.mk hb
  have k0 : W.cell? ⟨pb, 0, none⟩ = some (.slice A0 fr.length c0) := (blk_cell hb 0).trans rfl
  unfold hitB
  generalize (fr.any fun y => decide (n = y)) = x0 at *
  generalize (fw.any fun y => decide (n = y)) = x1 at *
  have T1 : True := trivial
  clear h0 h1 g0 g1 m0 m1 hb
  cases x0
  all_goals (go_enter Try.func41, Try.ntmps41)
  all_goals go_wp2_with (first
    | (clear T1; go_at_call 42; (with_reducible refine (C0.out _ (Below.refl _ _)).mono ?_); rintro e w1 ⟨rfl, hd⟩; have HB1 := Aside0.mk (drawn_below hd); have k1 : w1.cell? ⟨pb, 1, none⟩ = some (.slice A1 fw.length c1) := (blk_cell (blk_below B.out HB1.out) 1).trans rfl; clear hd)
    | (go_at_call 42; (with_reducible refine (C1.out _ HB1.out).mono ?_); rintro e w2 ⟨rfl, hd⟩; have HB2 := Aside0.mk (below_inL HB1.out (drawn_below hd)); clear hd))
  all_goals go_ret
  all_goals first | exact ⟨rfl, HB2.out⟩ | exact ⟨rfl, HB1.out⟩
set_option maxHeartbeats 4000000 in
theorem index_c {pb : Nat} (hb : W.heap[pb]? = some (.cells #[.slice A0 fr.length c0, .slice A1 fw.length c1] 45 (0, 0))) (h0 : Kd.C (Kd.int .i64) W A0 fr.length fr) (g0 : fr.length ≤ c0) (h1 : Kd.C (Kd.int .i64) W A1 fw.length fw) (g1 : fw.length ≤ c1) (m0 : fr.length ≤ 4000000000000) (m1 : fw.length ≤ 4000000000000)
    {A : Option Addr} {c : Nat} {l : List Int} (hr : Kd.C (Kd.int .i64) W A l.length l) (hm : l.length ≤ 4000000000000) :
    Calls Try.prog 47 #[.slice A l.length c, .func (.func 41) #[] #[.pointer (some ⟨pb, 0, none⟩)]] W fun e w' => ∃ r : Int, e = .returned (.int .i64 r) ∧ decide (r ≥ 0) = l.any (hitB fr fw) ∧ Below W.heap.size W w' := by
  have HC := Aside0.mk (fun w (h : Below W.heap.size W w) (n : Int) => hit_c (W := w) (blk_below hb h) (Kd.C_below h0 h) g0 (Kd.C_below h1 h) g1 m0 m1 n)
  have HR := Aside0.mk hr
  clear h0 h1 g0 g1 m0 m1 hb hr
  go_enter Try.func47, Try.ntmps47
  go_wp2
  go_loopw [8] (fun v8 wr => ∃ i : Nat, i ≤ l.length ∧ v8 = .int .i64 i ∧ Aside0 (l.any (hitB fr fw) = (l.drop i).any (hitB fr fw)) ∧ Aside0 (Below W.heap.size W wr)) (fun v8 _ => l.length - (intOf v8).toNat)
  case atStart => exact ⟨0, Nat.zero_le _, rfl, ⟨rfl⟩, ⟨Below.refl _ _⟩⟩
  case round =>
    obtain ⟨i, hi, rfl, HA, HB⟩ := hrel
    by_cases hlt : i < l.length
    case pos =>
      obtain ⟨ad, e, hx⟩ := Kd.at_int (Kd.C_below HR.out HB.out) (i : Int) (by omega) (by omega)
      cases e
      rw [rd_at l i hlt] at hx
      simp only [Int.toNat_natCast] at hx
      have HA1 := Aside0.mk (show l.any (hitB fr fw) = (hitB fr fw l[i] || (l.drop (i + 1)).any (hitB fr fw)) by rw [HA.out, List.drop_eq_getElem_cons hlt, List.any_cons])
      have hil : (i : Int) < (l.length : Int) := by omega
      generalize l[i] = n at *
      have C := Aside0.mk (HC.out _ HB.out n)
      cases hv : hitB fr fw n
      case true =>
        rw [hv] at C HA1
        go_wp2_with (first | (go_at_call 41; (with_reducible refine C.out.mono ?_); rintro e w1 ⟨rfl, hb⟩; have HB1 := Aside0.mk (below_inL HB.out hb); clear hb))
        go_ret
        exact ⟨_, rfl, by rw [HA1.out]; simp, HB1.out⟩
      case false =>
        rw [hv] at C HA1
        go_wp2_with (first | (go_at_call 41; (with_reducible refine C.out.mono ?_); rintro e w1 ⟨rfl, hb⟩; have HB1 := Aside0.mk (below_inL HB.out hb); clear hb))
        refine ⟨⟨i + 1, by omega, by first | rfl | go_num, ⟨by rw [HA1.out]; rfl⟩, HB1⟩, ?_⟩
        simp [intOf]
        omega
    case neg =>
      obtain rfl : i = l.length := by omega
      rw [List.drop_length] at HA
      go_wp2
      go_ret
      exact ⟨_, rfl, by rw [HA.out]; rfl, HB.out⟩
theorem containsFunc_c {pb : Nat} (hb : W.heap[pb]? = some (.cells #[.slice A0 fr.length c0, .slice A1 fw.length c1] 45 (0, 0))) (h0 : Kd.C (Kd.int .i64) W A0 fr.length fr) (g0 : fr.length ≤ c0) (h1 : Kd.C (Kd.int .i64) W A1 fw.length fw) (g1 : fw.length ≤ c1) (m0 : fr.length ≤ 4000000000000) (m1 : fw.length ≤ 4000000000000)
    {A : Option Addr} {c : Nat} {l : List Int} (hr : Kd.C (Kd.int .i64) W A l.length l) (hm : l.length ≤ 4000000000000) :
    Calls Try.prog 40 #[.slice A l.length c, .func (.func 41) #[] #[.pointer (some ⟨pb, 0, none⟩)]] W fun e w' => e = .returned (.bool (l.any (hitB fr fw))) ∧ Below W.heap.size W w' := by
  have C := Aside0.mk (index_c (c := c) hb h0 g0 h1 g1 m0 m1 hr hm)
  generalize l.any (hitB fr fw) = v at *
  clear h0 h1 g0 g1 m0 m1 hb hr hm
  go_enter Try.func40, Try.ntmps40
  go_wp2_with (first | (go_at_call 47; (with_reducible refine C.out.mono ?_); rintro e w1 ⟨r, rfl, hv, hb⟩; have HV := Aside0.mk hv; have HB := Aside0.mk hb; clear hv hb))
  go_ret
  exact ⟨by rw [← HV.out]; rfl, HB.out⟩
theorem hits_c (h0 : Kd.C (Kd.int .i64) W A0 fr.length fr) (g0 : fr.length ≤ c0) (h1 : Kd.C (Kd.int .i64) W A1 fw.length fw) (g1 : fw.length ≤ c1) (m0 : fr.length ≤ 4000000000000) (m1 : fw.length ≤ 4000000000000)
    {A : Option Addr} {c : Nat} {l : List Int} (hr : Kd.C (Kd.int .i64) W A l.length l) (hm : l.length ≤ 4000000000000) :
    Calls Try.prog 39 #[.slice A l.length c, .agg #[.slice A0 fr.length c0, .slice A1 fw.length c1]] W fun e w' => e = .returned (.bool (l.any (hitB fr fw))) ∧ Below W.heap.size W w' := by
  have HB := Aside0.mk (below_alloc (Below.refl W.heap.size W) (.cells #[.slice A0 fr.length c0, .slice A1 fw.length c1] 45))
  have C := Aside0.mk (containsFunc_c (c := c) (blk_new W (.cells #[.slice A0 fr.length c0, .slice A1 fw.length c1] 45)) (Kd.C_alloc h0 _) g0 (Kd.C_alloc h1 _) g1 m0 m1 (Kd.C_alloc hr _) hm)
  have hmf : ∀ (fn : Fn) (first cap : Array Value) (w : World), (Instr.makeFunc fn first cap).run Try.prog w = .ok (.func fn first cap) w := fun _ _ _ _ => rfl
  generalize l.any (hitB fr fw) = v at *
  clear h0 h1 g0 g1 m0 m1 hr hm
  go_enter Try.func39, Try.ntmps39
  go_wp2_with (first | (go_at_call 40; (with_reducible refine C.out.mono ?_); rintro e w1 ⟨rfl, hb⟩; have HB1 := Aside0.mk (below_inL HB.out hb); clear hb))
  go_ret
  exact ⟨rfl, HB1.out⟩
theorem any_hit (l r w : List Int) : l.any (hitB r w) = (meetF l r || meetF l w) := by
  unfold meetF hitB
  induction l with
  | nil => rfl
  | cons x l ih =>
    rw [List.any_cons, List.any_cons, List.any_cons, ih]
    generalize (r.any fun y => decide (x = y)) = a
    generalize (w.any fun y => decide (x = y)) = b
    generalize (l.any fun x => r.any fun y => decide (x = y)) = p
    generalize (l.any fun x => w.any fun y => decide (x = y)) = q
    cases a <;> cases b <;> cases p <;> cases q <;> rfl
end
/-- mem.Clash tells what the document's tells. -/
theorem clash_two (ar aw br bw : List Int) : (aw.any (hitB br bw) || bw.any (hitB ar aw)) = clashF ar aw br bw := by
  rw [any_hit, any_hit]
  unfold clashF
  rw [meetF_comm bw ar, meetF_comm bw aw]
  cases meetF aw br <;> cases meetF aw bw <;> cases meetF ar bw <;> rfl
set_option maxHeartbeats 4000000 in
theorem clash_c {W : World} {A0 : Option Addr} {c0 : Nat} {ar : List Int} {A1 : Option Addr} {c1 : Nat} {aw : List Int} {A2 : Option Addr} {c2 : Nat} {br : List Int} {A3 : Option Addr} {c3 : Nat} {bw : List Int}
    (h0 : Kd.C (Kd.int .i64) W A0 ar.length ar) (g0 : ar.length ≤ c0) (h1 : Kd.C (Kd.int .i64) W A1 aw.length aw) (g1 : aw.length ≤ c1) (h2 : Kd.C (Kd.int .i64) W A2 br.length br) (g2 : br.length ≤ c2) (h3 : Kd.C (Kd.int .i64) W A3 bw.length bw) (g3 : bw.length ≤ c3)
    (m0 : ar.length ≤ 4000000000000) (m1 : aw.length ≤ 4000000000000) (m2 : br.length ≤ 4000000000000) (m3 : bw.length ≤ 4000000000000) :
    Calls Try.prog 25 #[.agg #[.slice A0 ar.length c0, .slice A1 aw.length c1], .agg #[.slice A2 br.length c2, .slice A3 bw.length c3]] W fun e w' => e = .returned (.bool (clashF ar aw br bw)) ∧ Below W.heap.size W w' := by
  have P1 := Aside0.mk (fun w (h : Below W.heap.size W w) => hits_c (W := w) (c := c1) (Kd.C_below h2 h) g2 (Kd.C_below h3 h) g3 m2 m3 (Kd.C_below h1 h) m1)
  have P2 := Aside0.mk (fun w (h : Below W.heap.size W w) => hits_c (W := w) (c := c3) (Kd.C_below h0 h) g0 (Kd.C_below h1 h) g1 m0 m1 (Kd.C_below h3 h) m3)
  rw [← clash_two]
  have HB := Aside0.mk (below_alloc (below_alloc (Below.refl W.heap.size W) (.cells #[.slice A0 ar.length c0, .slice A1 aw.length c1] 45)) (.cells #[.slice A2 br.length c2, .slice A3 bw.length c3] 45))
  have BA := Aside0.mk (blk_alloc (blk_new W (.cells #[.slice A0 ar.length c0, .slice A1 aw.length c1] 45)) (.cells #[.slice A2 br.length c2, .slice A3 bw.length c3] 45))
  have hs : (W.alloc (.cells #[.slice A0 ar.length c0, .slice A1 aw.length c1] 45)).heap.size = W.heap.size + 1 := by simp
  have BB := Aside0.mk (show ((W.alloc (.cells #[.slice A0 ar.length c0, .slice A1 aw.length c1] 45)).alloc (.cells #[.slice A2 br.length c2, .slice A3 bw.length c3] 45)).heap[W.heap.size + 1]? = some (.cells #[.slice A2 br.length c2, .slice A3 bw.length c3] 45 (0, 0)) from hs ▸ blk_new (W.alloc (.cells #[.slice A0 ar.length c0, .slice A1 aw.length c1] 45)) (.cells #[.slice A2 br.length c2, .slice A3 bw.length c3] 45))
  generalize aw.any (hitB br bw) = x at *
  generalize bw.any (hitB ar aw) = y at *
  have T1 : True := trivial
  clear h0 h1 h2 h3 g0 g1 g2 g3 m0 m1 m2 m3 hs
  cases x
  all_goals (go_enter Try.func25, Try.ntmps25)
  all_goals go_wp2_with (first
    | (clear T1; go_at_call 39; (with_reducible refine (P1.out _ HB.out).mono ?_); rintro e w1 ⟨rfl, hb⟩; have HB1 := Aside0.mk (below_inL HB.out hb); have BA1 := Aside0.mk (blk_below BA.out hb); have BB1 := Aside0.mk (blk_below BB.out hb); have ka0 : w1.cell? ⟨W.heap.size, 0, none⟩ = some (.slice A0 ar.length c0) := (blk_cell BA1.out 0).trans rfl; have ka1 : w1.cell? ⟨W.heap.size, 1, none⟩ = some (.slice A1 aw.length c1) := (blk_cell BA1.out 1).trans rfl; have kb1 : w1.cell? ⟨W.heap.size + 1, 1, none⟩ = some (.slice A3 bw.length c3) := (blk_cell BB1.out 1).trans rfl; clear hb)
    | (go_at_call 39; (with_reducible refine (P2.out _ HB1.out).mono ?_); rintro e w2 ⟨rfl, hb⟩; have HB2 := Aside0.mk (below_inL HB1.out hb); clear hb))
  all_goals go_ret
  all_goals first | exact ⟨rfl, HB2.out⟩ | exact ⟨rfl, HB1.out⟩
end Go.Proofs.Ytkanhnhagjopkaa.M

/-
  Layer 2: mem.Join: the walk. Conditions: those told at it.
-/
namespace Go.Proofs.Ytkanhnhagjopkaa.M
open Go.RowKit Go.Proofs.YtkanhnhagjopkaaW.PrintWords Go.Proofs.YtkanhnhagjopkaaW.PrintLast Go.Proofs.Ytkanhnhagjopkaa.Num
set_option linter.unusedVariables false
set_option linter.unusedSimpArgs false
def rds (l : List S45) : List Int := l.flatMap (·.f0)
def wrs (l : List S45) : List Int := l.flatMap (·.f1)
theorem flat_take (g : S45 → List Int) (l : List S45) (i : Nat) (h : i < l.length) : (l.take (i + 1)).flatMap g = (l.take i).flatMap g ++ g l[i] := by
  rw [List.take_add_one, List.getElem?_eq_getElem h, List.flatMap_append]
  simp
theorem flat_len (g : S45 → List Int) (l : List S45) (i : Nat) (h : i < l.length) : ((l.take i).flatMap g).length + (g l[i]).length ≤ (l.flatMap g).length := by
  have e : l.flatMap g = (l.take (i + 1)).flatMap g ++ (l.drop (i + 1)).flatMap g := by rw [← List.flatMap_append, List.take_append_drop]
  rw [e, flat_take g l i h]
  simp
theorem rdT_at (l : List S45) (i : Nat) (h : i < l.length) : rd_T45 l (i : Int) = l[i] := by
  simp [rd_T45, h]
set_option maxHeartbeats 16000000 in
set_option maxRecDepth 100000 in
theorem join_d {W : World} {A : Option Addr} {c : Nat} {l : List S45} (h : Kd.C k45 W A l.length l) (hm : l.length ≤ 1000000) (lx : (rds l).length ≤ 1000000) (ly : (wrs l).length ≤ 1000000) (gx : ∀ f ∈ l, ∀ x ∈ f.f0, RG x) (gy : ∀ f ∈ l, ∀ x ∈ f.f1, RG x) :
    Calls Try.prog 23 #[.slice A l.length c] W fun e w' => ∃ (A0 : Option Addr) (c0 : Nat) (A1 : Option Addr) (c1 : Nat), e = .returned (.agg #[.slice A0 (putsF [] (rds l)).length c0, .slice A1 (putsF [] (wrs l)).length c1]) ∧ Kd.R (Kd.int .i64) 2 w' W.heap.size (fun _ => True) (.slice A0 (putsF [] (rds l)).length c0) (putsF [] (rds l)) ∧ Kd.R (Kd.int .i64) 2 w' W.heap.size (fun _ => True) (.slice A1 (putsF [] (wrs l)).length c1) (putsF [] (wrs l)) ∧ NeRow (.slice A0 (putsF [] (rds l)).length c0) (.slice A1 (putsF [] (wrs l)).length c1) ∧ Below W.heap.size W w' := by
  have HC := Aside0.mk h
  have LX := Aside0.mk lx
  have LY := Aside0.mk ly
  have GX := Aside0.mk gx
  have GY := Aside0.mk gy
  have B0 := Aside0.mk (blk_new W (.cells #[.slice none 0 0, .slice none 0 0] 45))
  have HB0 := Aside0.mk (below_alloc (Below.refl W.heap.size W) (.cells #[.slice none 0 0, .slice none 0 0] 45))
  have hs1 := Aside0.mk (show (W.alloc (.cells #[.slice none 0 0, .slice none 0 0] 45)).heap.size = W.heap.size + 1 by simp)
  clear h lx ly gx gy
  go_enter Try.func23, Try.ntmps23
  go_wp2_with (first | (go_at_call 27; (with_reducible refine (untouched_c _).mono ?_); rintro e w2 ⟨r, q, rfl, h1, h2, hr, hq, hne, hb⟩))
  have HT := Aside0.mk (show Tch W (w2.alloc (.cells #[.map (some r), .map (some q)] 60)) w2.heap.size r q [] [] from { below := below_alloc (below_inL HB0.out hb) _, blk := blk_new _ _, m1 := ⟨_, h1.alloc _, cnt_nil⟩, m2 := ⟨_, h2.alloc _, cnt_nil⟩, ge := ⟨by have := hb.size; have := hs1.out; omega, by have := hs1.out; omega, by have := hs1.out; omega⟩, ne := hne })
  have B2 := Aside0.mk (blk_alloc (blk_below B0.out hb) (.cells #[.map (some r), .map (some q)] 60))
  have NR := Aside0.mk (show W.heap.size ≠ r ∧ W.heap.size ≠ q from ⟨by have := hs1.out; omega, by have := hs1.out; omega⟩)
  generalize w2.heap.size = pb at *
  clear h1 h2 hr hq hne hb
  go_wp2
  go_loopw [13] (fun v13 wr => ∃ i : Nat, i ≤ l.length ∧ v13 = .int .i64 i ∧ Aside0 (Tch W wr pb r q (rds (l.take i)) (wrs (l.take i))) ∧ Aside0 (wr.heap[W.heap.size]? = some (.cells #[.slice none 0 0, .slice none 0 0] 45 (0, 0)))) (fun v13 _ => l.length - (intOf v13).toNat)
  case atStart => exact ⟨0, Nat.zero_le _, rfl, HT, B2⟩
  case round =>
    clear HT B2
    obtain ⟨i, hi, rfl, HTi, B2i⟩ := hrel
    by_cases hlt : i < l.length
    case pos =>
      obtain ⟨ad, A0, c0, A1, c1, e, hx0, hx1, k0, r0, k1, r1⟩ := at_T45 HC.out (i : Int) (by omega) (by omega)
      cases e
      have hil : (i : Int) < (l.length : Int) := by omega
      have GXi := Aside0.mk (GX.out l[i] (List.getElem_mem hlt))
      have GYi := Aside0.mk (GY.out l[i] (List.getElem_mem hlt))
      have EX := Aside0.mk (flat_take (·.f0) l i hlt)
      have EY := Aside0.mk (flat_take (·.f1) l i hlt)
      have LA := Aside0.mk (Nat.le_trans (flat_len (·.f0) l i hlt) LX.out)
      have LB := Aside0.mk (Nat.le_trans (flat_len (·.f1) l i hlt) LY.out)
      simp only [Int.toNat_natCast] at hx0 hx1
      rw [rdT_at l i hlt] at hx0 hx1 k0 r0 k1 r1
      replace hx0 := pw_cell_below HTi.out.below hx0
      replace hx1 := pw_cell_below HTi.out.below hx1
      have FX := Aside0.mk r0
      have FY := Aside0.mk r1
      clear r0 r1
      generalize l[i] = f at *
      obtain ⟨f0, f1⟩ := f
      dsimp only at *
      go_wp2
      have HN := Aside0.mk (HTi.out.next (below_alloc (Below.refl _ _) (.cells #[.slice A0 f0.length c0, .slice A1 f1.length c1] 45)))
      have B5 := Aside0.mk (blk_new wr (.cells #[.slice A0 f0.length c0, .slice A1 f1.length c1] 45))
      have B2 := Aside0.mk (blk_alloc B2i.out (.cells #[.slice A0 f0.length c0, .slice A1 f1.length c1] 45))
      have NG := Aside0.mk (show wr.heap.size ≠ r ∧ wr.heap.size ≠ q from by
        obtain ⟨D1, m1, -⟩ := HTi.out.m1
        obtain ⟨D2, m2, -⟩ := HTi.out.m2
        have := m1.lt
        have := m2.lt
        omega)
      generalize wr.heap.size = gb at *
      generalize wr.alloc (.cells #[.slice A0 f0.length c0, .slice A1 f1.length c1] 45) = wi at *
      have hf0 : f0.length ≤ 1000000 := by have := LA.out; omega
      have hf1 : f1.length ≤ 1000000 := by have := LB.out; omega
      clear hx0 hx1 HTi B2i
      go_wp2
      go_loopw [20] (fun vk wk => ∃ k : Nat, k ≤ f0.length ∧ vk = .int .i64 k ∧ Aside0 (Tch W wk pb r q (rds (l.take i) ++ f0.take k) (wrs (l.take i))) ∧ Aside0 (wk.heap[W.heap.size]? = some (.cells #[.slice none 0 0, .slice none 0 0] 45 (0, 0))) ∧ Aside0 (wk.heap[gb]? = some (.cells #[.slice A0 f0.length c0, .slice A1 f1.length c1] 45 (0, 0)))) (fun vk _ => f0.length - (intOf vk).toNat)
      case atStart => exact ⟨0, Nat.zero_le _, rfl, ⟨by rw [List.take_zero, List.append_nil]; exact HN.out⟩, B2, B5⟩
      case round =>
        clear B2 B5 HN
        obtain ⟨k, hk, rfl, HTk, B2k, B5k⟩ := hrel
        by_cases hlk : k < f0.length
        case pos =>
          obtain ⟨ad', e, hx⟩ := Kd.at_int (Kd.C_below FX.out HTk.out.below) (k : Int) (by omega) (by omega)
          cases e
          rw [rd_at f0 k hlk] at hx
          simp only [Int.toNat_natCast] at hx
          have hkl : (k : Int) < (f0.length : Int) := by omega
          have HK := Aside0.mk hlk
          have G := GXi.out f0[k] (List.getElem_mem hlk)
          have ET := Aside0.mk (show f0.take (k + 1) = f0.take k ++ [f0[k]] from (List.take_append_getElem hlk).symm)
          have LK : (rds (l.take i) ++ f0.take k).length ≤ 1000000 := by have := LA.out; rw [List.length_append, List.length_take]; unfold rds; omega
          generalize f0[k] = n at *
          have CC := Aside0.mk (read_c HTk.out n G.1 G.2 LK)
          clear G LK
          go_wp2_with (first | (go_at_call 33; refine CC.out.mono ?_; rintro e w1 ⟨rfl, ht, hg⟩; have HTn := Aside0.mk ht; have B2n := Aside0.mk (blk_grown B2k.out hg (fun e => by injection e with e; exact NR.out.1 e)); have B5n := Aside0.mk (blk_grown B5k.out hg (fun e => by injection e with e; exact NG.out.1 e)); clear ht hg))
          refine ⟨⟨k + 1, HK.out, by first | rfl | go_num, ⟨by rw [ET.out, ← List.append_assoc]; exact HTn.out⟩, B2n, B5n⟩, ?_⟩
          have := HK.out
          simp [intOf]
          omega
        case neg =>
          obtain rfl : k = f0.length := by omega
          rw [List.take_length] at HTk
          rw [show rds (l.take i) ++ f0 = rds (l.take (i + 1)) from EX.out.symm] at HTk
          have ka1 : wr.cell? ⟨gb, 1, none⟩ = some (.slice A1 f1.length c1) := (blk_cell B5k.out 1).trans rfl
          clear B5k
          go_wp2
          go_loopw [30] (fun vk wk => ∃ k : Nat, k ≤ f1.length ∧ vk = .int .i64 k ∧ Aside0 (Tch W wk pb r q (rds (l.take (i + 1))) (wrs (l.take i) ++ f1.take k)) ∧ Aside0 (wk.heap[W.heap.size]? = some (.cells #[.slice none 0 0, .slice none 0 0] 45 (0, 0)))) (fun vk _ => f1.length - (intOf vk).toNat)
          case atStart => exact ⟨0, Nat.zero_le _, rfl, ⟨by rw [List.take_zero, List.append_nil]; exact HTk.out⟩, B2k⟩
          case round =>
            clear B2k HTk
            obtain ⟨k, hk, rfl, HTk, B2k⟩ := hrel
            by_cases hlk : k < f1.length
            case pos =>
              obtain ⟨ad', e, hx⟩ := Kd.at_int (Kd.C_below FY.out HTk.out.below) (k : Int) (by omega) (by omega)
              cases e
              rw [rd_at f1 k hlk] at hx
              simp only [Int.toNat_natCast] at hx
              have hkl : (k : Int) < (f1.length : Int) := by omega
              have HK := Aside0.mk hlk
              have G := GYi.out f1[k] (List.getElem_mem hlk)
              have ET := Aside0.mk (show f1.take (k + 1) = f1.take k ++ [f1[k]] from (List.take_append_getElem hlk).symm)
              have LK : (wrs (l.take i) ++ f1.take k).length ≤ 1000000 := by have := LB.out; rw [List.length_append, List.length_take]; unfold wrs; omega
              generalize f1[k] = n at *
              have CC := Aside0.mk (wrote_c HTk.out n G.1 G.2 LK)
              clear G LK
              go_wp2_with (first | (go_at_call 34; refine CC.out.mono ?_; rintro e w1 ⟨rfl, ht, hg⟩; have HTn := Aside0.mk ht; have B2n := Aside0.mk (blk_grown B2k.out hg (fun e => by injection e with e; exact NR.out.2 e)); clear ht hg))
              refine ⟨⟨k + 1, HK.out, by first | rfl | go_num, ⟨by rw [ET.out, ← List.append_assoc]; exact HTn.out⟩, B2n⟩, ?_⟩
              have := HK.out
              simp [intOf]
              omega
            case neg =>
              obtain rfl : k = f1.length := by omega
              rw [List.take_length] at HTk
              rw [show wrs (l.take i) ++ f1 = wrs (l.take (i + 1)) from EY.out.symm] at HTk
              go_wp2
              refine ⟨⟨i + 1, hlt, by first | rfl | go_num, HTk, B2k⟩, ?_⟩
              simp [intOf]
              omega
    case neg =>
      obtain rfl : i = l.length := by omega
      rw [List.take_length] at HTi
      have HFC := Aside0.mk (foot_d HTi.out LX.out LY.out)
      have HSZ := Aside0.mk (blk_lt B2i.out)
      go_wp2_with (first | (go_at_call 38; refine HFC.out.mono ?_; rintro e w3 ⟨A0, c0, A1, c1, rfl, hr0, hr1, hne, hb⟩; have HNE := Aside0.mk hne; have R0 := Aside0.mk hr0; have R1 := Aside0.mk hr1; have B3 := Aside0.mk (blk_below B2i.out hb); have HB3 := Aside0.mk (below_inL HTi.out.below hb); have hz0 : w3.cell? ⟨W.heap.size, 0, none⟩ = some (.slice none 0 0) := (blk_cell B3.out 0).trans rfl; have hz1 : w3.cell? ⟨W.heap.size, 1, none⟩ = some (.slice none 0 0) := (blk_cell B3.out 1).trans rfl; have hf0 : w3.frozen? ⟨W.heap.size, 0, none⟩ = false := blk_frozen B3.out 0; have hf1 : w3.frozen? ⟨W.heap.size, 1, none⟩ = false := blk_frozen B3.out 1; clear hr0 hr1 hne hb))
      exact bodyPost_ret (results_cell_row rfl _ _ W.heap.size 45 #[.slice A0 (putsF [] (rds l)).length c0, .slice A1 (putsF [] (wrs l)).length c1] (0, 0) _ rfl (blk_put2 B3.out _ _) Try.underlying45 rfl (by kernel_rfl)) rfl ⟨A0, c0, A1, c1, rfl, R_put2 (Kd.R_lower R0.out (by have := HSZ.out; omega)) _ _, R_put2 (Kd.R_lower R1.out (by have := HSZ.out; omega)) _ _, HNE.out, below_set (below_set HB3.out (Nat.le_refl _)) (Nat.le_refl _)⟩
end Go.Proofs.Ytkanhnhagjopkaa.M

/-
  Layer 2: arguments: footprints, regions, a case, calls, as the reader reads them. No condition.
-/
namespace Go.Proofs.Ytkanhnhagjopkaa.M
open Go.RowKit Go.Proofs.YtkanhnhagjopkaaW.PrintWords Go.Proofs.Ytkanhnhagjopkaa.Num Go.Proofs.Ytkanhnhagjopkaa.Flat
open Go.ChangeShapes Go.WideShapes Go.Deep
open Go.ChangeMaps (open_string shut_string)
set_option linter.unusedVariables false
set_option maxRecDepth 100000
set_option linter.unusedSimpArgs false
section
variable {H : Type} {enc : TypeId × Value → H} {P : Program} {W : World} {spare : Nat → Bool} {held : Bool}
end
section
variable {H : Type} {enc : TypeId × Value → H} {P : Program} {W : World} {spare : Nat → Bool} {held : Bool}
theorem ts2 {t : TypeId} {f0 f1 : Field} {fuel : Nat} {cs : List Value} {x : DataW H × List MemPlace} (ht : P.underlying t = some (.struct #[f0, f1])) (h : DataW.trod enc P W 0 spare held fuel t cs = some x) :
    ∃ y0 y1 n, x = (.agg [y0.1, y1.1], y0.2 ++ y1.2) ∧ DataW.trod enc P W 0 spare held n f0.type ((cs.drop f0.offset).take (P.cellsOf f0.type)) = some y0 ∧ DataW.trod enc P W 0 spare held n f1.type ((cs.drop f1.offset).take (P.cellsOf f1.type)) = some y1 := by
  obtain ⟨xs, n, _, rfl, hl, hlen, hf⟩ := DataW.trod_struct ht h
  match xs, hlen with
  | [y0, y1], _ => exact ⟨y0, y1, n, by simp, by simpa using hf 0 f0 rfl, by simpa using hf 1 f1 rfl⟩
end
/-- A footprint. -/
def FootOk (x : S45) : Prop := (∀ n ∈ x.f0, RG n) ∧ (∀ n ∈ x.f1, RG n) ∧ x.f0.length * 8 ≤ 140737488351232 ∧ x.f1.length * 8 ≤ 140737488351232
theorem open_footK {H : Type} {enc : TypeId × Value → H} {W : World} {spare : Nat → Bool} {held : Bool} (n : Nat) (cs : List Value) (z : DataW H × List MemPlace) (hlen : cs.length = Try.prog.cellsOf 45) (h : DataW.trod enc Try.prog W 0 spare held n 45 cs = some z) :
    ∃ x : S45, k45.K W x cs ∧ ((∀ q ∈ z.1.weights Try.prog 45, q ≤ reachBytes) → FootOk x) := by
  obtain ⟨y0, y1, n', hx, h0, h1⟩ := ts2 Try.underlying45 h
  have hl2 : cs.length = 2 := hlen.trans (by kernel_rfl)
  match cs, hl2 with
  | [v0, v1], _ =>
    have c25 : Try.prog.cellsOf 25 = 1 := by kernel_rfl
    simp only [c25, List.drop_zero, List.drop_succ_cons, List.take_succ_cons, List.take_zero] at h0 h1
    obtain ⟨A0, c0, l0, rfl, k0, m0, q0, b0⟩ := open_ints h0
    obtain ⟨A1, c1, l1, rfl, k1, m1, q1, b1⟩ := open_ints h1
    refine ⟨⟨l0, l1⟩, k45_mk W ⟨l0, l1⟩ m0 k0 m1 k1, fun hz => ?_⟩
    have hw : ∀ q, q ∈ y0.1.weights Try.prog 25 ∨ q ∈ y1.1.weights Try.prog 25 → q ≤ reachBytes := by
      intro q hq
      apply hz
      rw [hx]
      simp only [DataW.weights, Try.underlying45, DataW.weightsEach, List.map, List.mem_append]
      rcases hq with h | h
      · exact .inl h
      · exact .inr (.inl h)
    exact ⟨q0, q1, b0 (fun q hq => hw q (.inl hq)), b1 (fun q hq => hw q (.inr hq))⟩
theorem open_foot {H : Type} {enc : TypeId × Value → H} {W : World} {spare : Nat → Bool} {held : Bool} {r : Reach} {b0 : Nat} {v : Value} {d : DataW H} {p : List MemPlace} (hv : Value.okWide Try.prog W r b0 45 v) (h : DataW.Trod enc Try.prog W 0 spare held 45 v d p)
    (hz : ∀ z ∈ d.weights Try.prog 45, z ≤ reachBytes) : ∃ (A0 : Option Addr) (c0 : Nat) (l0 : List Int) (A1 : Option Addr) (c1 : Nat) (l1 : List Int), v = .agg #[.slice A0 l0.length c0, .slice A1 l1.length c1] ∧ Kd.C (Kd.int .i64) W A0 l0.length l0 ∧ l0.length ≤ c0 ∧ Kd.C (Kd.int .i64) W A1 l1.length l1 ∧ l1.length ≤ c1 ∧ FootOk ⟨l0, l1⟩ := by
  obtain ⟨v0, v1, y0, y1, n, rfl, rfl, _, h0, h1⟩ := Go.Joins.open_agg2 Try.underlying45 (by kernel_rfl) (by kernel_rfl) hv h
  obtain ⟨A0, c0, l0, rfl, k0, m0, q0, b0⟩ := open_ints h0
  obtain ⟨A1, c1, l1, rfl, k1, m1, q1, b1⟩ := open_ints h1
  have hw : ∀ q, q ∈ y0.1.weights Try.prog 25 ∨ q ∈ y1.1.weights Try.prog 25 → q ≤ reachBytes := by
    intro q hq
    apply hz
    simp only [DataW.weights, Try.underlying45, DataW.weightsEach, List.map, List.mem_append]
    rcases hq with h | h
    · exact .inl h
    · exact .inr (.inl h)
  exact ⟨A0, c0, l0, A1, c1, l1, rfl, k0, m0, k1, m1, q0, q1, b0 (fun q hq => hw q (.inl hq)), b1 (fun q hq => hw q (.inr hq))⟩
theorem open_feet {H : Type} {enc : TypeId × Value → H} {W : World} {spare : Nat → Bool} {held : Bool} {r : Reach} {b0 : Nat} {v : Value} {d : DataW H} {p : List MemPlace} (hv : Value.okWide Try.prog W r b0 52 v) (h : DataW.Trod enc Try.prog W 0 spare held 52 v d p)
    (hz : ∀ z ∈ d.weights Try.prog 52, z ≤ reachBytes) : ∃ A c l0, v = .slice A l0.length c ∧ Kd.C k45 W A l0.length l0 ∧ l0.length ≤ c ∧ l0.length * 48 ≤ 140737488351232 ∧ ∀ x ∈ l0, FootOk x := by
  obtain ⟨a, len, cap, rfl⟩ := okWide_slice Try.underlying52 hv
  obtain ⟨fuel, hf⟩ := h
  have hf' : DataW.trod enc Try.prog W 0 spare held fuel 52 [.slice a len cap] = some (d, p) := by simpa [Value.cells] using hf
  obtain ⟨A, c, l0, hv, hC, hl, hq, hb⟩ := open_rowG (k := k45) (Q := fun (x : S45) d => (∀ q ∈ d.weights Try.prog 45, q ≤ reachBytes) → FootOk x) Try.underlying52 (e := 45) (by kernel_rfl) open_footK hf'
  refine ⟨A, c, l0, hv, hC, hl, hb hz, fun x hx => ?_⟩
  obtain ⟨d', hQ, hw⟩ := hq x hx
  exact hQ (fun q hq => hz q (hw q hq))
end Go.Proofs.Ytkanhnhagjopkaa.M

/-
  Layer 2: the contracts that MemJoins' printed walk asks for, and what the document's Join and Clash compute. Conditions: those told at each.
-/
set_option linter.unusedVariables false
namespace Go.Proofs.YtkanhnhagjopkaaW.PrintWords
open Go.RowKit
/-- What stood before a call: it does so behind it, and is none of what is new since. -/
theorem Kd.R_old {α : Type} {d : Kd α} {e : Nat} {W w1 : World} {base : Nat} {ok : Nat → Prop} {u : Value} {xs : List α} (h : d.R e W base ok u xs) (hb : Below W.heap.size W w1) : d.R e w1 base (fun k => ok k ∧ k < W.heap.size) u xs :=
  Kd.R_below (Kd.R_mono (Kd.R_bound h) (fun k hk => ⟨hk.1, hk.2.2.1⟩)) hb
theorem Kd.R_told {α : Type} {d : Kd α} {e : Nat} {w1 : World} {base N : Nat} {ok : Nat → Prop} {u v : Value} {xs : List α} (h : d.R e w1 base (fun k => ok k ∧ k < N) u xs) (hbase : ∀ k, v.ownBlock = some k → N ≤ k) : d.R e w1 base (fun k => (ok k ∧ some k ≠ v.ownBlock) ∧ k < N) u xs :=
  Kd.R_mono h (fun k hk => ⟨⟨hk.1, fun e => by have := hbase k e.symm; have := hk.2; omega⟩, hk.2⟩)
end Go.Proofs.YtkanhnhagjopkaaW.PrintWords
namespace Go.Proofs.Ytkanhnhagjopkaa.M
open Go.RowKit Go.Proofs.YtkanhnhagjopkaaW.PrintWords Go.Proofs.YtkanhnhagjopkaaW.PrintLast Go.Proofs.Ytkanhnhagjopkaa.Num
set_option linter.unusedVariables false
set_option linter.unusedSimpArgs false
theorem info45 : (Try.prog.info? 45).map (fun i => (i.zero, i.size, i.bytes)) = some (some (.agg #[(.slice none 0 0), (.slice none 0 0)]), 2, 48) := by kernel_rfl
def cotterlaw02_live.f : Option Bool := some true
theorem cotterlaw02_live.calls (r : Bool) (w : World) (h : cotterlaw02_live.f = some r) : Calls Try.prog 8 #[] w fun e w' => e = .returned (.bool r) ∧ Below w.heap.size w w' := by
  obtain rfl := Option.some.inj h
  exact live_c w
def mem_Clash.f (ar aw br bw : List Int) : Option Bool := if ar.length ≤ 40 ∧ aw.length ≤ 40 ∧ br.length ≤ 40 ∧ bw.length ≤ 40 then some (clashF ar aw br bw) else none
theorem mem_Clash.calls (A0 : Option Addr) (c0 : Nat) (ar : List Int) (A1 : Option Addr) (c1 : Nat) (aw : List Int) (A2 : Option Addr) (c2 : Nat) (br : List Int) (A3 : Option Addr) (c3 : Nat) (bw : List Int) (r : Bool) (w : World)
    (h0 : Kd.C (Kd.int .i64) w A0 ar.length ar) (g0 : ar.length ≤ c0) (h1 : Kd.C (Kd.int .i64) w A1 aw.length aw) (g1 : aw.length ≤ c1) (h2 : Kd.C (Kd.int .i64) w A2 br.length br) (g2 : br.length ≤ c2) (h3 : Kd.C (Kd.int .i64) w A3 bw.length bw) (g3 : bw.length ≤ c3) (h : mem_Clash.f ar aw br bw = some r) :
    Calls Try.prog 25 #[.agg #[.slice A0 ar.length c0, .slice A1 aw.length c1], .agg #[.slice A2 br.length c2, .slice A3 bw.length c3]] w fun e w' => e = .returned (.bool r) ∧ Below w.heap.size w w' := by
  unfold mem_Clash.f at h
  split at h
  · next hc =>
    obtain rfl := Option.some.inj h
    exact clash_c h0 g0 h1 g1 h2 g2 h3 g3 (by omega) (by omega) (by omega) (by omega)
  · cases h
def fitJ (l : List S45) : Bool := decide (l.length ≤ 8) && l.all fun f => decide (f.f0.length ≤ 40) && decide (f.f1.length ≤ 40) && (f.f0.all fun x => decide (RG x)) && (f.f1.all fun x => decide (RG x))
theorem fit_rows {l : List S45} (h : fitJ l = true) : l.length ≤ 8 ∧ ∀ f ∈ l, f.f0.length ≤ 40 ∧ f.f1.length ≤ 40 ∧ (∀ x ∈ f.f0, RG x) ∧ (∀ x ∈ f.f1, RG x) := by
  unfold fitJ at h
  simp only [Bool.and_eq_true, decide_eq_true_eq, List.all_eq_true] at h
  exact ⟨h.1, fun f hf => by have := h.2 f hf; exact ⟨this.1.1.1, this.1.1.2, this.1.2, this.2⟩⟩
theorem flat_le (g : S45 → List Int) : ∀ (l : List S45), (∀ f ∈ l, (g f).length ≤ 40) → (l.flatMap g).length ≤ 40 * l.length
  | [], _ => by simp
  | f :: l, h => by
    have h1 := h f (by simp)
    have h2 := flat_le g l (fun f hf => h f (by simp [hf]))
    simp only [List.flatMap_cons, List.length_append, List.length_cons]
    omega
def mem_Join.f (l : List S45) : Option (List Int × List Int) := if fitJ l then some (putsF [] (rds l), putsF [] (wrs l)) else none
theorem mem_Join.calls (A0 : Option Addr) (c0 : Nat) (l0 : List S45) (r1 r2 : List Int) (w : World) (hr0 : Kd.C k45 w A0 l0.length l0) (hc0 : l0.length ≤ c0) (h : mem_Join.f l0 = some (r1, r2)) :
    Calls Try.prog 23 #[.slice A0 l0.length c0] w fun e w' => ∃ v0_ v1_ : Value, e = .returned (.agg #[v0_, v1_]) ∧ Kd.R (Kd.int .i64) 2 w' w.heap.size (fun k_ => some k_ ≠ (v1_ : Value).ownBlock) v0_ r1 ∧ Kd.R (Kd.int .i64) 2 w' w.heap.size (fun k_ => some k_ ≠ (v0_ : Value).ownBlock) v1_ r2 ∧ Below w.heap.size w w' := by
  unfold mem_Join.f at h
  split at h
  · next hc =>
    have h2 := Option.some.inj h
    injection h2 with e1 e2
    subst e1 e2
    obtain ⟨hl, hf⟩ := fit_rows hc
    have f0 := flat_le (·.f0) l0 (fun f hh => (hf f hh).1)
    have f1 := flat_le (·.f1) l0 (fun f hh => (hf f hh).2.1)
    refine (join_d (c := c0) hr0 (by omega) (by unfold rds; omega) (by unfold wrs; omega) (fun f hh => (hf f hh).2.2.1) (fun f hh => (hf f hh).2.2.2)).mono ?_
    rintro e w' ⟨A, c, B, d, rfl, k1, k2, hne, hb⟩
    refine ⟨_, _, rfl, ⟨fun k hk e => hne k hk e.symm, k1.2.imp_ (fun _ _ hp => hp)⟩, ⟨fun k hk e => hne k e.symm hk, k2.2.imp_ (fun _ _ hp => hp)⟩, hb⟩
  · cases h
/-- The document's Join. -/
theorem joinR_l (l : List S45) (hl : l.length ≤ 8) (hf : ∀ f ∈ l, f.f0.length ≤ 40 ∧ f.f1.length ≤ 40) : ∀ k : Nat,
    (∀ i, i ≤ l.length → (l.length - i) * 90 + 2000 ≤ k → cotterref02_Join.l0 k l (i : Int) (putsF [] (rds (l.take i))) (putsF [] (wrs (l.take i))) = some (putsF [] (rds l), putsF [] (wrs l))) ∧
    (∀ i j, (hi : i < l.length) → j ≤ l[i].f0.length → (l.length - (i + 1)) * 90 + (40 - j) + 42 + 2000 ≤ k → cotterref02_Join.l1 k l (i : Int) (j : Int) (putsF [] (rds (l.take i) ++ l[i].f0.take j)) (putsF [] (wrs (l.take i))) = some (putsF [] (rds l), putsF [] (wrs l))) ∧
    (∀ i j, (hi : i < l.length) → j ≤ l[i].f1.length → (l.length - (i + 1)) * 90 + (40 - j) + 1 + 2000 ≤ k → cotterref02_Join.l2 k l (i : Int) (j : Int) (putsF [] (rds (l.take (i + 1)))) (putsF [] (wrs (l.take i) ++ l[i].f1.take j)) = some (putsF [] (rds l), putsF [] (wrs l)))
  | 0 => ⟨fun i hi hk => by omega, fun i j hi hj hk => by omega, fun i j hi hj hk => by omega⟩
  | k + 1 => by
    obtain ⟨ih0, ih1, ih2⟩ := joinR_l l hl hf k
    have tk : ∀ (i : Nat) (g : S45 → List Int) (hg : ∀ f ∈ l, (g f).length ≤ 40), ((l.take i).flatMap g).length ≤ 320 := fun i g hg => by
      have h1 := flat_le g (l.take i) (fun f hh => hg f (List.mem_of_mem_take hh))
      have h2 : (l.take i).length ≤ 8 := by rw [List.length_take]; omega
      omega
    refine ⟨fun i hi hk => ?_, fun i j hi hj hk => ?_, fun i j hi hj hk => ?_⟩
    · simp only [cotterref02_Join.l0]
      by_cases h : i < l.length
      · rw [if_pos (by omega)]
        have e : l.length - i = (l.length - (i + 1)) + 1 := by omega
        have h40 := (hf l[i] (List.getElem_mem h)).1
        have := ih1 i 0 h (by omega) (by omega)
        simpa using this
      · rw [if_neg (by omega), List.take_of_length_le (by omega)]
    · have h40 := hf l[i] (List.getElem_mem hi)
      simp only [cotterref02_Join.l1]
      rw [if_pos (by omega), if_pos (by omega), rdT_at l i hi]
      by_cases h : j < l[i].f0.length
      · rw [if_pos (by omega), if_pos (by omega), rd_at _ j h]
        have hlen := putsF_len (rds (l.take i) ++ l[i].f0.take j) []
        have ht := tk i (·.f0) (fun f hh => (hf f hh).1)
        have ht2 : (rds (l.take i)).length ≤ 320 := ht
        simp only [List.length_append, List.length_take, List.length_nil] at hlen
        rw [put_f (putsF [] (rds (l.take i) ++ l[i].f0.take j)) l[i].f0[j] (by omega) (putsF_up _ _ List.Pairwise.nil) k (by omega)]
        simp only [Option.bind_some]
        rw [up1 j (by omega)]
        have e : putF (putsF [] (rds (l.take i) ++ l[i].f0.take j)) l[i].f0[j] = putsF [] (rds (l.take i) ++ l[i].f0.take (j + 1)) := by
          rw [← List.take_append_getElem h, ← List.append_assoc, putsF_append _ (rds (l.take i) ++ l[i].f0.take j)]
          rfl
        rw [e]
        exact ih1 i (j + 1) hi (by omega) (by omega)
      · have et : l[i].f0.take j = l[i].f0 := List.take_of_length_le (by omega)
        rw [if_neg (by omega), et]
        have e : rds (l.take i) ++ l[i].f0 = rds (l.take (i + 1)) := (flat_take (·.f0) l i hi).symm
        rw [e]
        have := ih2 i 0 hi (by omega) (by omega)
        simpa using this
    · have h40 := hf l[i] (List.getElem_mem hi)
      simp only [cotterref02_Join.l2]
      rw [if_pos (by omega), if_pos (by omega), rdT_at l i hi]
      by_cases h : j < l[i].f1.length
      · rw [if_pos (by omega), if_pos (by omega), rd_at _ j h]
        have hlen := putsF_len (wrs (l.take i) ++ l[i].f1.take j) []
        have ht := tk i (·.f1) (fun f hh => (hf f hh).2)
        have ht2 : (wrs (l.take i)).length ≤ 320 := ht
        simp only [List.length_append, List.length_take, List.length_nil] at hlen
        rw [put_f (putsF [] (wrs (l.take i) ++ l[i].f1.take j)) l[i].f1[j] (by omega) (putsF_up _ _ List.Pairwise.nil) k (by omega)]
        simp only [Option.bind_some]
        rw [up1 j (by omega)]
        have e : putF (putsF [] (wrs (l.take i) ++ l[i].f1.take j)) l[i].f1[j] = putsF [] (wrs (l.take i) ++ l[i].f1.take (j + 1)) := by
          rw [← List.take_append_getElem h, ← List.append_assoc, putsF_append _ (wrs (l.take i) ++ l[i].f1.take j)]
          rfl
        rw [e]
        exact ih2 i (j + 1) hi (by omega) (by omega)
      · have et : l[i].f1.take j = l[i].f1 := List.take_of_length_le (by omega)
        rw [if_neg (by omega), et]
        have e : wrs (l.take i) ++ l[i].f1 = wrs (l.take (i + 1)) := (flat_take (·.f1) l i hi).symm
        rw [e, up1 i (by omega)]
        exact ih0 (i + 1) (by omega) (by omega)
theorem joinR_f (l : List S45) (hl : l.length ≤ 8) (hf : ∀ f ∈ l, f.f0.length ≤ 40 ∧ f.f1.length ≤ 40) (k : Nat) (hk : 4000 ≤ k) : cotterref02_Join.f k l = some (putsF [] (rds l), putsF [] (wrs l)) := by
  have := (joinR_l l hl hf k).1 0 (by omega) (by omega)
  simpa [cotterref02_Join.f, rds, wrs, putsF] using this
/-- The document's Clash. -/
theorem clashR_f (ar aw br bw : List Int) (h0 : ar.length ≤ 40) (h1 : aw.length ≤ 40) (h2 : br.length ≤ 40) (h3 : bw.length ≤ 40) (k : Nat) (hk : 4000 ≤ k) : cotterref02_Clash.f k ar aw br bw = some (clashF ar aw br bw) := by
  have b : ∀ a c : List Int, a.length ≤ 40 → c.length ≤ 40 → a.length * (c.length + 2) < k := fun a c ha hc => Nat.lt_of_le_of_lt (Nat.mul_le_mul ha (show c.length + 2 ≤ 42 by omega)) (by omega)
  unfold cotterref02_Clash.f clashF
  rw [meet_f aw br (by omega) (by omega) k (b _ _ h1 h2)]
  simp only [Option.bind_some]
  cases meetF aw br with
  | true => rfl
  | false =>
    rw [if_neg (by simp), meet_f aw bw (by omega) (by omega) k (b _ _ h1 h3)]
    simp only [Option.bind_some]
    cases meetF aw bw with
    | true => rfl
    | false =>
      rw [if_neg (by simp), meet_f ar bw (by omega) (by omega) k (b _ _ h0 h3)]
      rfl
end Go.Proofs.Ytkanhnhagjopkaa.M

