/-
  Texts of the proofs of MemEven, cut to what the proofs reach and packed by a program of this session (wip/packs.py). Each part begins with what it says; conditions: those told there.
-/
import Derived.Test.YtkanhnhagjopkaaPEA6
/-
  Layer 2: MemEven: the walk. Conditions: lengths that any memory can hold, numbers of 64 bits.
-/
namespace Go.Proofs.Ytkanhnhagjopkaa.M
open Go.RowKit Go.Proofs.YtkanhnhagjopkaaW.PrintWords Go.Proofs.YtkanhnhagjopkaaW.PrintLast Go.Proofs.Ytkanhnhagjopkaa.Num
set_option linter.unusedVariables false
set_option linter.unusedSimpArgs false
def fewF (a b : List Int) : Bool := decide (a.length ≤ 40) && decide (b.length ≤ 40)
theorem few_f (a b : List Int) : cotterlaw02_few.f a b = some (fewF a b) := by
  unfold cotterlaw02_few.f fewF
  by_cases h : a.length ≤ 40
  · rw [if_pos (by omega)]
    have e : decide ((b.length : Int) ≤ 40) = decide (b.length ≤ 40) := by
      rw [decide_eq_decide]
      omega
    rw [e]
    simp [h]
  · rw [if_neg (by omega)]
    simp [h]
theorem foot_row {W : World} {b : Nat} {A0 : Option Addr} {c0 : Nat} {ar : List Int} {A1 : Option Addr} {c1 : Nat} {aw : List Int} {A2 : Option Addr} {c2 : Nat} {br : List Int} {A3 : Option Addr} {c3 : Nat} {bw : List Int}
    (h0 : Kd.C (Kd.int .i64) W A0 ar.length ar) (g0 : ar.length ≤ c0) (h1 : Kd.C (Kd.int .i64) W A1 aw.length aw) (g1 : aw.length ≤ c1) (h2 : Kd.C (Kd.int .i64) W A2 br.length br) (g2 : br.length ≤ c2) (h3 : Kd.C (Kd.int .i64) W A3 bw.length bw) (g3 : bw.length ≤ c3)
    (hb : W.heap[b]? = some (.cells #[.slice A0 ar.length c0, .slice A1 aw.length c1, .slice A2 br.length c2, .slice A3 bw.length c3] 45 (0, 0))) : Kd.C k45 W (some ⟨b, 0, none⟩) 2 [⟨ar, aw⟩, ⟨br, bw⟩] := by
  refine ⟨rfl, by omega, fun _ => ⟨_, rfl, fun j p hj => ?_⟩⟩
  have hsz : k45.sz = 2 := rfl
  match j, hj with
  | 0, hj =>
    simp at hj
    subst hj
    refine ⟨_, rfl, k45_mk W (⟨ar, aw⟩ : S45) g0 h0 g1 h1, fun i u hi => ?_⟩
    rw [add_plain, blk_cell hb, hsz]
    match i, hi with
    | 0, hi => exact hi
    | 1, hi => exact hi
  | 1, hj =>
    simp at hj
    subst hj
    refine ⟨_, rfl, k45_mk W (⟨br, bw⟩ : S45) g2 h2 g3 h3, fun i u hi => ?_⟩
    rw [add_plain, blk_cell hb, hsz]
    match i, hi with
    | 0, hi => exact hi
    | 1, hi => exact hi
  | j + 2, hj => simp at hj
theorem rds_two (a b : S45) : rds [a, b] = a.f0 ++ b.f0 := by simp [rds]
theorem wrs_two (a b : S45) : wrs [a, b] = a.f1 ++ b.f1 := by simp [wrs]
/-- Two rows, read. -/
def JFp (w : World) (Aj : Option Addr) (cj : Nat) (Ak : Option Addr) (ck : Nat) (J0 J1 : List Int) : Prop := Kd.C (Kd.int .i64) w Aj J0.length J0 ∧ J0.length ≤ cj ∧ Kd.C (Kd.int .i64) w Ak J1.length J1 ∧ J1.length ≤ ck
theorem jf_below {w w' : World} {Aj : Option Addr} {cj : Nat} {Ak : Option Addr} {ck : Nat} {J0 J1 : List Int} (h : JFp w Aj cj Ak ck J0 J1) (hb : Below w.heap.size w w') : JFp w' Aj cj Ak ck J0 J1 := ⟨Kd.C_below h.1 hb, h.2.1, Kd.C_below h.2.2.1 hb, h.2.2.2⟩
theorem jf_alloc {w : World} {Aj : Option Addr} {cj : Nat} {Ak : Option Addr} {ck : Nat} {J0 J1 : List Int} (h : JFp w Aj cj Ak ck J0 J1) (o : Obj) : JFp (w.alloc o) Aj cj Ak ck J0 J1 := jf_below h (below_alloc (Below.refl _ _) o)
section
variable {W : World} {A0 : Option Addr} {c0 : Nat} {ar : List Int} {A1 : Option Addr} {c1 : Nat} {aw : List Int} {A2 : Option Addr} {c2 : Nat} {br : List Int} {A3 : Option Addr} {c3 : Nat} {bw : List Int} {A4 : Option Addr} {c4 : Nat} {cr : List Int} {A5 : Option Addr} {c5 : Nat} {cw : List Int}
theorem join_two (h0 : Kd.C (Kd.int .i64) W A0 ar.length ar) (g0 : ar.length ≤ c0) (h1 : Kd.C (Kd.int .i64) W A1 aw.length aw) (g1 : aw.length ≤ c1) (h2 : Kd.C (Kd.int .i64) W A2 br.length br) (g2 : br.length ≤ c2) (h3 : Kd.C (Kd.int .i64) W A3 bw.length bw) (g3 : bw.length ≤ c3)
    (m0 : ar.length ≤ 40) (m1 : aw.length ≤ 40) (m2 : br.length ≤ 40) (m3 : bw.length ≤ 40) (r0 : ∀ x ∈ ar, RG x) (r1 : ∀ x ∈ aw, RG x) (r2 : ∀ x ∈ br, RG x) (r3 : ∀ x ∈ bw, RG x)
    {b : Nat} (hb : W.heap[b]? = some (.cells #[.slice A0 ar.length c0, .slice A1 aw.length c1, .slice A2 br.length c2, .slice A3 bw.length c3] 45 (0, 0))) :
    Calls Try.prog 23 #[.slice (some ⟨b, 0, none⟩) 2 2] W fun e w' => ∃ (Aj : Option Addr) (cj : Nat) (Ak : Option Addr) (ck : Nat), e = .returned (.agg #[.slice Aj (putsF [] (ar ++ br)).length cj, .slice Ak (putsF [] (aw ++ bw)).length ck]) ∧
      JFp w' Aj cj Ak ck (putsF [] (ar ++ br)) (putsF [] (aw ++ bw)) ∧ Below W.heap.size W w' := by
  have hj := join_c (c := 2) (foot_row h0 g0 h1 g1 h2 g2 h3 g3 hb) (by simp) (by rw [rds_two]; simp; omega) (by rw [wrs_two]; simp; omega)
    (fun f hf x hx => by simp at hf; rcases hf with rfl | rfl; exact r0 x hx; exact r2 x hx) (fun f hf x hx => by simp at hf; rcases hf with rfl | rfl; exact r1 x hx; exact r3 x hx)
  rw [rds_two, wrs_two] at hj
  refine hj.mono ?_
  rintro e w' ⟨Aj, cj, Ak, ck, rfl, hr0, hr1, hb⟩
  exact ⟨Aj, cj, Ak, ck, rfl, ⟨(Kd.R_reads' hr0).2.2, (Kd.R_reads' hr0).2.1, (Kd.R_reads' hr1).2.2, (Kd.R_reads' hr1).2.1⟩, hb⟩
theorem len_puts (a b : List Int) (h0 : a.length ≤ 40) (h1 : b.length ≤ 40) : (putsF [] (a ++ b)).length ≤ 80 := by
  have := putsF_len (a ++ b) []
  simp at this
  omega
set_option maxHeartbeats 16000000 in
set_option maxRecDepth 100000 in
theorem even_c (h0 : Kd.C (Kd.int .i64) W A0 ar.length ar) (g0 : ar.length ≤ c0) (h1 : Kd.C (Kd.int .i64) W A1 aw.length aw) (g1 : aw.length ≤ c1) (h2 : Kd.C (Kd.int .i64) W A2 br.length br) (g2 : br.length ≤ c2) (h3 : Kd.C (Kd.int .i64) W A3 bw.length bw) (g3 : bw.length ≤ c3) (h4 : Kd.C (Kd.int .i64) W A4 cr.length cr) (g4 : cr.length ≤ c4) (h5 : Kd.C (Kd.int .i64) W A5 cw.length cw) (g5 : cw.length ≤ c5)
    (r0 : ∀ x ∈ ar, RG x) (r1 : ∀ x ∈ aw, RG x) (r2 : ∀ x ∈ br, RG x) (r3 : ∀ x ∈ bw, RG x) :
    Calls Try.prog 7 #[.agg #[.slice A0 ar.length c0, .slice A1 aw.length c1], .agg #[.slice A2 br.length c2, .slice A3 bw.length c3], .agg #[.slice A4 cr.length c4, .slice A5 cw.length c5]] W fun e w' => e = .returned (.bool true) ∧ Below W.heap.size W w' := by
  have FA := Aside0.mk (fun w (h : Below W.heap.size W w) => cotterlaw02_few.calls A0 c0 ar A1 c1 aw _ w (Kd.C_below h0 h) g0 (Kd.C_below h1 h) g1 (few_f ar aw))
  have FB := Aside0.mk (fun w (h : Below W.heap.size W w) => cotterlaw02_few.calls A2 c2 br A3 c3 bw _ w (Kd.C_below h2 h) g2 (Kd.C_below h3 h) g3 (few_f br bw))
  have FC := Aside0.mk (fun w (h : Below W.heap.size W w) => cotterlaw02_few.calls A4 c4 cr A5 c5 cw _ w (Kd.C_below h4 h) g4 (Kd.C_below h5 h) g5 (few_f cr cw))
  have hs0 : (W.alloc (.cells #[.slice A0 ar.length c0, .slice A1 aw.length c1] 45)).heap.size = W.heap.size + 1 := by simp
  have hs1 : ((W.alloc (.cells #[.slice A0 ar.length c0, .slice A1 aw.length c1] 45)).alloc (.cells #[.slice A2 br.length c2, .slice A3 bw.length c3] 45)).heap.size = W.heap.size + 1 + 1 := by simp
  have BA := Aside0.mk (blk_alloc (blk_alloc (blk_new W (.cells #[.slice A0 ar.length c0, .slice A1 aw.length c1] 45)) (.cells #[.slice A2 br.length c2, .slice A3 bw.length c3] 45)) (.cells #[.slice A4 cr.length c4, .slice A5 cw.length c5] 45))
  have BB := Aside0.mk (hs0 ▸ blk_alloc (blk_new (W.alloc (.cells #[.slice A0 ar.length c0, .slice A1 aw.length c1] 45)) (.cells #[.slice A2 br.length c2, .slice A3 bw.length c3] 45)) (.cells #[.slice A4 cr.length c4, .slice A5 cw.length c5] 45))
  have BC := Aside0.mk (hs1 ▸ blk_new ((W.alloc (.cells #[.slice A0 ar.length c0, .slice A1 aw.length c1] 45)).alloc (.cells #[.slice A2 br.length c2, .slice A3 bw.length c3] 45)) (.cells #[.slice A4 cr.length c4, .slice A5 cw.length c5] 45))
  have HB0 := Aside0.mk (below_alloc (below_alloc (below_alloc (Below.refl W.heap.size W) (.cells #[.slice A0 ar.length c0, .slice A1 aw.length c1] 45)) (.cells #[.slice A2 br.length c2, .slice A3 bw.length c3] 45)) (.cells #[.slice A4 cr.length c4, .slice A5 cw.length c5] 45))
  have LIVE := Aside0.mk live_c
  clear hs0 hs1
  have T1 : True := trivial
  have T2 : True := trivial
  have HT0 := Aside0.mk (Below.refl (((W.alloc (.cells #[.slice A0 ar.length c0, .slice A1 aw.length c1] 45)).alloc (.cells #[.slice A2 br.length c2, .slice A3 bw.length c3] 45)).alloc (.cells #[.slice A4 cr.length c4, .slice A5 cw.length c5] 45)).heap.size (((W.alloc (.cells #[.slice A0 ar.length c0, .slice A1 aw.length c1] 45)).alloc (.cells #[.slice A2 br.length c2, .slice A3 bw.length c3] 45)).alloc (.cells #[.slice A4 cr.length c4, .slice A5 cw.length c5] 45)))
  by_cases ha : fewF ar aw = true
  case neg =>
    rw [Bool.not_eq_true] at ha
    rw [ha] at FA
    clear h0 h1 h2 h3 h4 h5 g0 g1 g2 g3 g4 g5 r0 r1 r2 r3 ha
    go_enter Try.func7, Try.ntmps7
    go_wp2_with (first
      | (go_at_call 22; (with_reducible refine (FA.out _ HB0.out).mono ?_); rintro e w1 ⟨rfl, hb⟩; have HB1 := Aside0.mk (below_inL HB0.out hb); have HT1 := Aside0.mk (below_inL HT0.out hb); have k1_0 : w1.cell? ⟨W.heap.size, 0, none⟩ = some (.slice A0 ar.length c0) := (blk_cell (blk_below BA.out HT1.out) 0).trans rfl; have k1_1 : w1.cell? ⟨W.heap.size, 1, none⟩ = some (.slice A1 aw.length c1) := (blk_cell (blk_below BA.out HT1.out) 1).trans rfl; have k1_2 : w1.cell? ⟨W.heap.size + 1, 0, none⟩ = some (.slice A2 br.length c2) := (blk_cell (blk_below BB.out HT1.out) 0).trans rfl; have k1_3 : w1.cell? ⟨W.heap.size + 1, 1, none⟩ = some (.slice A3 bw.length c3) := (blk_cell (blk_below BB.out HT1.out) 1).trans rfl; have k1_4 : w1.cell? ⟨W.heap.size + 1 + 1, 0, none⟩ = some (.slice A4 cr.length c4) := (blk_cell (blk_below BC.out HT1.out) 0).trans rfl; have k1_5 : w1.cell? ⟨W.heap.size + 1 + 1, 1, none⟩ = some (.slice A5 cw.length c5) := (blk_cell (blk_below BC.out HT1.out) 1).trans rfl; clear hb)
      | (go_at_call 8; (with_reducible refine (LIVE.out _).mono ?_); rintro e w9 ⟨rfl, hb⟩; have HB9 := Aside0.mk (below_inL HB1.out hb); clear hb))
    go_ret
    exact ⟨rfl, HB9.out⟩
  by_cases hb : fewF br bw = true
  case neg =>
    rw [Bool.not_eq_true] at hb
    rw [ha] at FA
    rw [hb] at FB
    clear h0 h1 h2 h3 h4 h5 g0 g1 g2 g3 g4 g5 r0 r1 r2 r3 ha hb
    go_enter Try.func7, Try.ntmps7
    go_wp2_with (first
      | (go_at_call 22; (with_reducible refine (FA.out _ HB0.out).mono ?_); rintro e w1 ⟨rfl, hb⟩; have HB1 := Aside0.mk (below_inL HB0.out hb); have HT1 := Aside0.mk (below_inL HT0.out hb); have k1_0 : w1.cell? ⟨W.heap.size, 0, none⟩ = some (.slice A0 ar.length c0) := (blk_cell (blk_below BA.out HT1.out) 0).trans rfl; have k1_1 : w1.cell? ⟨W.heap.size, 1, none⟩ = some (.slice A1 aw.length c1) := (blk_cell (blk_below BA.out HT1.out) 1).trans rfl; have k1_2 : w1.cell? ⟨W.heap.size + 1, 0, none⟩ = some (.slice A2 br.length c2) := (blk_cell (blk_below BB.out HT1.out) 0).trans rfl; have k1_3 : w1.cell? ⟨W.heap.size + 1, 1, none⟩ = some (.slice A3 bw.length c3) := (blk_cell (blk_below BB.out HT1.out) 1).trans rfl; have k1_4 : w1.cell? ⟨W.heap.size + 1 + 1, 0, none⟩ = some (.slice A4 cr.length c4) := (blk_cell (blk_below BC.out HT1.out) 0).trans rfl; have k1_5 : w1.cell? ⟨W.heap.size + 1 + 1, 1, none⟩ = some (.slice A5 cw.length c5) := (blk_cell (blk_below BC.out HT1.out) 1).trans rfl; clear hb)
      | (go_at_call 22; (with_reducible refine (FB.out _ HB1.out).mono ?_); rintro e w2 ⟨rfl, hb⟩; have HB2 := Aside0.mk (below_inL HB1.out hb); have HT2 := Aside0.mk (below_inL HT1.out hb); have k2_0 : w2.cell? ⟨W.heap.size, 0, none⟩ = some (.slice A0 ar.length c0) := (blk_cell (blk_below BA.out HT2.out) 0).trans rfl; have k2_1 : w2.cell? ⟨W.heap.size, 1, none⟩ = some (.slice A1 aw.length c1) := (blk_cell (blk_below BA.out HT2.out) 1).trans rfl; have k2_2 : w2.cell? ⟨W.heap.size + 1, 0, none⟩ = some (.slice A2 br.length c2) := (blk_cell (blk_below BB.out HT2.out) 0).trans rfl; have k2_3 : w2.cell? ⟨W.heap.size + 1, 1, none⟩ = some (.slice A3 bw.length c3) := (blk_cell (blk_below BB.out HT2.out) 1).trans rfl; have k2_4 : w2.cell? ⟨W.heap.size + 1 + 1, 0, none⟩ = some (.slice A4 cr.length c4) := (blk_cell (blk_below BC.out HT2.out) 0).trans rfl; have k2_5 : w2.cell? ⟨W.heap.size + 1 + 1, 1, none⟩ = some (.slice A5 cw.length c5) := (blk_cell (blk_below BC.out HT2.out) 1).trans rfl; clear hb)
      | (go_at_call 8; (with_reducible refine (LIVE.out _).mono ?_); rintro e w9 ⟨rfl, hb⟩; have HB9 := Aside0.mk (below_inL HB2.out hb); clear hb))
    go_ret
    exact ⟨rfl, HB9.out⟩
  by_cases hc : fewF cr cw = true
  case neg =>
    rw [Bool.not_eq_true] at hc
    rw [ha] at FA
    rw [hb] at FB
    rw [hc] at FC
    clear h0 h1 h2 h3 h4 h5 g0 g1 g2 g3 g4 g5 r0 r1 r2 r3 ha hb hc
    go_enter Try.func7, Try.ntmps7
    go_wp2_with (first
      | (go_at_call 22; (with_reducible refine (FA.out _ HB0.out).mono ?_); rintro e w1 ⟨rfl, hb⟩; have HB1 := Aside0.mk (below_inL HB0.out hb); have HT1 := Aside0.mk (below_inL HT0.out hb); have k1_0 : w1.cell? ⟨W.heap.size, 0, none⟩ = some (.slice A0 ar.length c0) := (blk_cell (blk_below BA.out HT1.out) 0).trans rfl; have k1_1 : w1.cell? ⟨W.heap.size, 1, none⟩ = some (.slice A1 aw.length c1) := (blk_cell (blk_below BA.out HT1.out) 1).trans rfl; have k1_2 : w1.cell? ⟨W.heap.size + 1, 0, none⟩ = some (.slice A2 br.length c2) := (blk_cell (blk_below BB.out HT1.out) 0).trans rfl; have k1_3 : w1.cell? ⟨W.heap.size + 1, 1, none⟩ = some (.slice A3 bw.length c3) := (blk_cell (blk_below BB.out HT1.out) 1).trans rfl; have k1_4 : w1.cell? ⟨W.heap.size + 1 + 1, 0, none⟩ = some (.slice A4 cr.length c4) := (blk_cell (blk_below BC.out HT1.out) 0).trans rfl; have k1_5 : w1.cell? ⟨W.heap.size + 1 + 1, 1, none⟩ = some (.slice A5 cw.length c5) := (blk_cell (blk_below BC.out HT1.out) 1).trans rfl; clear hb)
      | (go_at_call 22; (with_reducible refine (FB.out _ HB1.out).mono ?_); rintro e w2 ⟨rfl, hb⟩; have HB2 := Aside0.mk (below_inL HB1.out hb); have HT2 := Aside0.mk (below_inL HT1.out hb); have k2_0 : w2.cell? ⟨W.heap.size, 0, none⟩ = some (.slice A0 ar.length c0) := (blk_cell (blk_below BA.out HT2.out) 0).trans rfl; have k2_1 : w2.cell? ⟨W.heap.size, 1, none⟩ = some (.slice A1 aw.length c1) := (blk_cell (blk_below BA.out HT2.out) 1).trans rfl; have k2_2 : w2.cell? ⟨W.heap.size + 1, 0, none⟩ = some (.slice A2 br.length c2) := (blk_cell (blk_below BB.out HT2.out) 0).trans rfl; have k2_3 : w2.cell? ⟨W.heap.size + 1, 1, none⟩ = some (.slice A3 bw.length c3) := (blk_cell (blk_below BB.out HT2.out) 1).trans rfl; have k2_4 : w2.cell? ⟨W.heap.size + 1 + 1, 0, none⟩ = some (.slice A4 cr.length c4) := (blk_cell (blk_below BC.out HT2.out) 0).trans rfl; have k2_5 : w2.cell? ⟨W.heap.size + 1 + 1, 1, none⟩ = some (.slice A5 cw.length c5) := (blk_cell (blk_below BC.out HT2.out) 1).trans rfl; clear hb)
      | (go_at_call 22; (with_reducible refine (FC.out _ HB2.out).mono ?_); rintro e w3 ⟨rfl, hb⟩; have HB3 := Aside0.mk (below_inL HB2.out hb); have HT3 := Aside0.mk (below_inL HT2.out hb); have k3_0 : w3.cell? ⟨W.heap.size, 0, none⟩ = some (.slice A0 ar.length c0) := (blk_cell (blk_below BA.out HT3.out) 0).trans rfl; have k3_1 : w3.cell? ⟨W.heap.size, 1, none⟩ = some (.slice A1 aw.length c1) := (blk_cell (blk_below BA.out HT3.out) 1).trans rfl; have k3_2 : w3.cell? ⟨W.heap.size + 1, 0, none⟩ = some (.slice A2 br.length c2) := (blk_cell (blk_below BB.out HT3.out) 0).trans rfl; have k3_3 : w3.cell? ⟨W.heap.size + 1, 1, none⟩ = some (.slice A3 bw.length c3) := (blk_cell (blk_below BB.out HT3.out) 1).trans rfl; have k3_4 : w3.cell? ⟨W.heap.size + 1 + 1, 0, none⟩ = some (.slice A4 cr.length c4) := (blk_cell (blk_below BC.out HT3.out) 0).trans rfl; have k3_5 : w3.cell? ⟨W.heap.size + 1 + 1, 1, none⟩ = some (.slice A5 cw.length c5) := (blk_cell (blk_below BC.out HT3.out) 1).trans rfl; clear hb)
      | (go_at_call 8; (with_reducible refine (LIVE.out _).mono ?_); rintro e w9 ⟨rfl, hb⟩; have HB9 := Aside0.mk (below_inL HB3.out hb); clear hb))
    go_ret
    exact ⟨rfl, HB9.out⟩
  rw [ha] at FA
  rw [hb] at FB
  rw [hc] at FC
  obtain ⟨m0, m1⟩ : ar.length ≤ 40 ∧ aw.length ≤ 40 := by unfold fewF at ha; simpa using ha
  obtain ⟨m2, m3⟩ : br.length ≤ 40 ∧ bw.length ≤ 40 := by unfold fewF at hb; simpa using hb
  obtain ⟨m4, m5⟩ : cr.length ≤ 40 ∧ cw.length ≤ 40 := by unfold fewF at hc; simpa using hc
  have q0 := Kd.C_below h0 HB0.out
  have q1 := Kd.C_below h1 HB0.out
  have q2 := Kd.C_below h2 HB0.out
  have q3 := Kd.C_below h3 HB0.out
  have q4 := Kd.C_below h4 HB0.out
  have q5 := Kd.C_below h5 HB0.out
  have n0 : ([] : List Int).length ≤ 0 := Nat.le_refl _
  have CAC := Aside0.mk (fun w (h : Below (((W.alloc (.cells #[.slice A0 ar.length c0, .slice A1 aw.length c1] 45)).alloc (.cells #[.slice A2 br.length c2, .slice A3 bw.length c3] 45)).alloc (.cells #[.slice A4 cr.length c4, .slice A5 cw.length c5] 45)).heap.size (((W.alloc (.cells #[.slice A0 ar.length c0, .slice A1 aw.length c1] 45)).alloc (.cells #[.slice A2 br.length c2, .slice A3 bw.length c3] 45)).alloc (.cells #[.slice A4 cr.length c4, .slice A5 cw.length c5] 45)) w) => clash_c (Kd.C_below q0 h) g0 (Kd.C_below q1 h) g1 (Kd.C_below q4 h) g4 (Kd.C_below q5 h) g5 (by omega) (by omega) (by omega) (by omega))
  have CBC := Aside0.mk (fun w (h : Below (((W.alloc (.cells #[.slice A0 ar.length c0, .slice A1 aw.length c1] 45)).alloc (.cells #[.slice A2 br.length c2, .slice A3 bw.length c3] 45)).alloc (.cells #[.slice A4 cr.length c4, .slice A5 cw.length c5] 45)).heap.size (((W.alloc (.cells #[.slice A0 ar.length c0, .slice A1 aw.length c1] 45)).alloc (.cells #[.slice A2 br.length c2, .slice A3 bw.length c3] 45)).alloc (.cells #[.slice A4 cr.length c4, .slice A5 cw.length c5] 45)) w) => clash_c (Kd.C_below q2 h) g2 (Kd.C_below q3 h) g3 (Kd.C_below q4 h) g4 (Kd.C_below q5 h) g5 (by omega) (by omega) (by omega) (by omega))
  have CAB := Aside0.mk (fun w (h : Below (((W.alloc (.cells #[.slice A0 ar.length c0, .slice A1 aw.length c1] 45)).alloc (.cells #[.slice A2 br.length c2, .slice A3 bw.length c3] 45)).alloc (.cells #[.slice A4 cr.length c4, .slice A5 cw.length c5] 45)).heap.size (((W.alloc (.cells #[.slice A0 ar.length c0, .slice A1 aw.length c1] 45)).alloc (.cells #[.slice A2 br.length c2, .slice A3 bw.length c3] 45)).alloc (.cells #[.slice A4 cr.length c4, .slice A5 cw.length c5] 45)) w) => clash_c (Kd.C_below q0 h) g0 (Kd.C_below q1 h) g1 (Kd.C_below q2 h) g2 (Kd.C_below q3 h) g3 (by omega) (by omega) (by omega) (by omega))
  have CBA := Aside0.mk (fun w (h : Below (((W.alloc (.cells #[.slice A0 ar.length c0, .slice A1 aw.length c1] 45)).alloc (.cells #[.slice A2 br.length c2, .slice A3 bw.length c3] 45)).alloc (.cells #[.slice A4 cr.length c4, .slice A5 cw.length c5] 45)).heap.size (((W.alloc (.cells #[.slice A0 ar.length c0, .slice A1 aw.length c1] 45)).alloc (.cells #[.slice A2 br.length c2, .slice A3 bw.length c3] 45)).alloc (.cells #[.slice A4 cr.length c4, .slice A5 cw.length c5] 45)) w) => clash_c (Kd.C_below q2 h) g2 (Kd.C_below q3 h) g3 (Kd.C_below q0 h) g0 (Kd.C_below q1 h) g1 (by omega) (by omega) (by omega) (by omega))
  rw [clashF_comm br bw ar aw] at CBA
  have CRR := Aside0.mk (fun w (h : Below (((W.alloc (.cells #[.slice A0 ar.length c0, .slice A1 aw.length c1] 45)).alloc (.cells #[.slice A2 br.length c2, .slice A3 bw.length c3] 45)).alloc (.cells #[.slice A4 cr.length c4, .slice A5 cw.length c5] 45)).heap.size (((W.alloc (.cells #[.slice A0 ar.length c0, .slice A1 aw.length c1] 45)).alloc (.cells #[.slice A2 br.length c2, .slice A3 bw.length c3] 45)).alloc (.cells #[.slice A4 cr.length c4, .slice A5 cw.length c5] 45)) w) => clash_c (Kd.C_below q0 h) g0 (Kd.C_nil (Kd.int .i64) w) n0 (Kd.C_below q2 h) g2 (Kd.C_nil (Kd.int .i64) w) n0 (by omega) (by simp) (by omega) (by simp))
  rw [clashF_none] at CRR
  simp only [List.length_nil] at CRR
  have JC := Aside0.mk (fun w b (h : Below (((W.alloc (.cells #[.slice A0 ar.length c0, .slice A1 aw.length c1] 45)).alloc (.cells #[.slice A2 br.length c2, .slice A3 bw.length c3] 45)).alloc (.cells #[.slice A4 cr.length c4, .slice A5 cw.length c5] 45)).heap.size (((W.alloc (.cells #[.slice A0 ar.length c0, .slice A1 aw.length c1] 45)).alloc (.cells #[.slice A2 br.length c2, .slice A3 bw.length c3] 45)).alloc (.cells #[.slice A4 cr.length c4, .slice A5 cw.length c5] 45)) w) hb => join_two (W := w) (b := b) (Kd.C_below q0 h) g0 (Kd.C_below q1 h) g1 (Kd.C_below q2 h) g2 (Kd.C_below q3 h) g3 m0 m1 m2 m3 r0 r1 r2 r3 hb)
  have JD := Aside0.mk (fun w b (h : Below (((W.alloc (.cells #[.slice A0 ar.length c0, .slice A1 aw.length c1] 45)).alloc (.cells #[.slice A2 br.length c2, .slice A3 bw.length c3] 45)).alloc (.cells #[.slice A4 cr.length c4, .slice A5 cw.length c5] 45)).heap.size (((W.alloc (.cells #[.slice A0 ar.length c0, .slice A1 aw.length c1] 45)).alloc (.cells #[.slice A2 br.length c2, .slice A3 bw.length c3] 45)).alloc (.cells #[.slice A4 cr.length c4, .slice A5 cw.length c5] 45)) w) hb => join_two (W := w) (b := b) (Kd.C_below q2 h) g2 (Kd.C_below q3 h) g3 (Kd.C_below q0 h) g0 (Kd.C_below q1 h) g1 m2 m3 m0 m1 r2 r3 r0 r1 hb)
  rw [putsF_comm br ar, putsF_comm bw aw] at JD
  have CJ := Aside0.mk (fun w (h : Below (((W.alloc (.cells #[.slice A0 ar.length c0, .slice A1 aw.length c1] 45)).alloc (.cells #[.slice A2 br.length c2, .slice A3 bw.length c3] 45)).alloc (.cells #[.slice A4 cr.length c4, .slice A5 cw.length c5] 45)).heap.size (((W.alloc (.cells #[.slice A0 ar.length c0, .slice A1 aw.length c1] 45)).alloc (.cells #[.slice A2 br.length c2, .slice A3 bw.length c3] 45)).alloc (.cells #[.slice A4 cr.length c4, .slice A5 cw.length c5] 45)) w) Aj cj Ak ck (jf : JFp w Aj cj Ak ck (putsF [] (ar ++ br)) (putsF [] (aw ++ bw))) => clash_c jf.1 jf.2.1 jf.2.2.1 jf.2.2.2 (Kd.C_below q4 h) g4 (Kd.C_below q5 h) g5 (by have := len_puts ar br m0 m2; omega) (by have := len_puts aw bw m1 m3; omega) (by omega) (by omega))
  rw [clashF_join] at CJ
  have SJ := Aside0.mk (fun w Aj cj Ak ck Al cl Am cm (jf : JFp w Aj cj Ak ck (putsF [] (ar ++ br)) (putsF [] (aw ++ bw))) (kf : JFp w Al cl Am cm (putsF [] (ar ++ br)) (putsF [] (aw ++ bw))) => cotterref02_SameFoot.calls 100 Aj cj _ Ak ck _ Al cl _ Am cm _ _ w jf.1 jf.2.1 jf.2.2.1 jf.2.2.2 kf.1 kf.2.1 kf.2.2.1 kf.2.2.2 (sameFoot_f _ _ _ _ (by have := len_puts ar br m0 m2; omega) (by have := len_puts aw bw m1 m3; omega) 100 (by have := len_puts ar br m0 m2; omega) (by have := len_puts aw bw m1 m3; omega)))
  simp only [and_self, decide_true] at SJ
  clear h0 h1 h2 h3 h4 h5 g0 g1 g2 g3 g4 g5 r0 r1 r2 r3 m0 m1 m2 m3 m4 m5 n0 ha hb hc q0 q1 q2 q3 q4 q5
  generalize putsF [] (ar ++ br) = J0 at *
  generalize putsF [] (aw ++ bw) = J1 at *
  generalize clashF ar aw br bw = xab at *
  generalize clashF br bw cr cw = xbc at *
  cases hx : clashF ar aw cr cw with
  | true =>
    rw [hx] at CAC CJ
    simp only [Bool.true_or] at CJ
    clear hx
    go_enter Try.func7, Try.ntmps7
    go_wp2_with (first
      | (go_at_call 22; (with_reducible refine (FA.out _ HB0.out).mono ?_); rintro e w1 ⟨rfl, hb⟩; have HB1 := Aside0.mk (below_inL HB0.out hb); have HT1 := Aside0.mk (below_inL HT0.out hb); have k1_0 : w1.cell? ⟨W.heap.size, 0, none⟩ = some (.slice A0 ar.length c0) := (blk_cell (blk_below BA.out HT1.out) 0).trans rfl; have k1_1 : w1.cell? ⟨W.heap.size, 1, none⟩ = some (.slice A1 aw.length c1) := (blk_cell (blk_below BA.out HT1.out) 1).trans rfl; have k1_2 : w1.cell? ⟨W.heap.size + 1, 0, none⟩ = some (.slice A2 br.length c2) := (blk_cell (blk_below BB.out HT1.out) 0).trans rfl; have k1_3 : w1.cell? ⟨W.heap.size + 1, 1, none⟩ = some (.slice A3 bw.length c3) := (blk_cell (blk_below BB.out HT1.out) 1).trans rfl; have k1_4 : w1.cell? ⟨W.heap.size + 1 + 1, 0, none⟩ = some (.slice A4 cr.length c4) := (blk_cell (blk_below BC.out HT1.out) 0).trans rfl; have k1_5 : w1.cell? ⟨W.heap.size + 1 + 1, 1, none⟩ = some (.slice A5 cw.length c5) := (blk_cell (blk_below BC.out HT1.out) 1).trans rfl; clear hb)
      | (go_at_call 22; (with_reducible refine (FB.out _ HB1.out).mono ?_); rintro e w2 ⟨rfl, hb⟩; have HB2 := Aside0.mk (below_inL HB1.out hb); have HT2 := Aside0.mk (below_inL HT1.out hb); have k2_0 : w2.cell? ⟨W.heap.size, 0, none⟩ = some (.slice A0 ar.length c0) := (blk_cell (blk_below BA.out HT2.out) 0).trans rfl; have k2_1 : w2.cell? ⟨W.heap.size, 1, none⟩ = some (.slice A1 aw.length c1) := (blk_cell (blk_below BA.out HT2.out) 1).trans rfl; have k2_2 : w2.cell? ⟨W.heap.size + 1, 0, none⟩ = some (.slice A2 br.length c2) := (blk_cell (blk_below BB.out HT2.out) 0).trans rfl; have k2_3 : w2.cell? ⟨W.heap.size + 1, 1, none⟩ = some (.slice A3 bw.length c3) := (blk_cell (blk_below BB.out HT2.out) 1).trans rfl; have k2_4 : w2.cell? ⟨W.heap.size + 1 + 1, 0, none⟩ = some (.slice A4 cr.length c4) := (blk_cell (blk_below BC.out HT2.out) 0).trans rfl; have k2_5 : w2.cell? ⟨W.heap.size + 1 + 1, 1, none⟩ = some (.slice A5 cw.length c5) := (blk_cell (blk_below BC.out HT2.out) 1).trans rfl; clear hb)
      | (go_at_call 22; (with_reducible refine (FC.out _ HB2.out).mono ?_); rintro e w3 ⟨rfl, hb⟩; have HB3 := Aside0.mk (below_inL HB2.out hb); have HT3 := Aside0.mk (below_inL HT2.out hb); have k3_0 : w3.cell? ⟨W.heap.size, 0, none⟩ = some (.slice A0 ar.length c0) := (blk_cell (blk_below BA.out HT3.out) 0).trans rfl; have k3_1 : w3.cell? ⟨W.heap.size, 1, none⟩ = some (.slice A1 aw.length c1) := (blk_cell (blk_below BA.out HT3.out) 1).trans rfl; have k3_2 : w3.cell? ⟨W.heap.size + 1, 0, none⟩ = some (.slice A2 br.length c2) := (blk_cell (blk_below BB.out HT3.out) 0).trans rfl; have k3_3 : w3.cell? ⟨W.heap.size + 1, 1, none⟩ = some (.slice A3 bw.length c3) := (blk_cell (blk_below BB.out HT3.out) 1).trans rfl; have k3_4 : w3.cell? ⟨W.heap.size + 1 + 1, 0, none⟩ = some (.slice A4 cr.length c4) := (blk_cell (blk_below BC.out HT3.out) 0).trans rfl; have k3_5 : w3.cell? ⟨W.heap.size + 1 + 1, 1, none⟩ = some (.slice A5 cw.length c5) := (blk_cell (blk_below BC.out HT3.out) 1).trans rfl; clear hb)
      | (go_at_call 25; (with_reducible refine (CAC.out _ HT3.out).mono ?_); rintro e w4 ⟨rfl, hb⟩; have HB4 := Aside0.mk (below_inL HB3.out hb); have HT4 := Aside0.mk (below_inL HT3.out hb); have k4_0 : w4.cell? ⟨W.heap.size, 0, none⟩ = some (.slice A0 ar.length c0) := (blk_cell (blk_below BA.out HT4.out) 0).trans rfl; have k4_1 : w4.cell? ⟨W.heap.size, 1, none⟩ = some (.slice A1 aw.length c1) := (blk_cell (blk_below BA.out HT4.out) 1).trans rfl; have k4_2 : w4.cell? ⟨W.heap.size + 1, 0, none⟩ = some (.slice A2 br.length c2) := (blk_cell (blk_below BB.out HT4.out) 0).trans rfl; have k4_3 : w4.cell? ⟨W.heap.size + 1, 1, none⟩ = some (.slice A3 bw.length c3) := (blk_cell (blk_below BB.out HT4.out) 1).trans rfl; have k4_4 : w4.cell? ⟨W.heap.size + 1 + 1, 0, none⟩ = some (.slice A4 cr.length c4) := (blk_cell (blk_below BC.out HT4.out) 0).trans rfl; have k4_5 : w4.cell? ⟨W.heap.size + 1 + 1, 1, none⟩ = some (.slice A5 cw.length c5) := (blk_cell (blk_below BC.out HT4.out) 1).trans rfl; clear hb))
    have HBd := Aside0.mk (below_drew1 HB4.out)
    have HTd := Aside0.mk (below_drew1 HT4.out)
    refine start_ (n := 42) (S := fun w' => w'.cell? ⟨W.heap.size, 0, none⟩ = some (.slice A0 ar.length c0) ∧ w'.cell? ⟨W.heap.size, 1, none⟩ = some (.slice A1 aw.length c1) ∧ w'.cell? ⟨W.heap.size + 1, 0, none⟩ = some (.slice A2 br.length c2) ∧ w'.cell? ⟨W.heap.size + 1, 1, none⟩ = some (.slice A3 bw.length c3) ∧ w'.cell? ⟨W.heap.size + 1 + 1, 0, none⟩ = some (.slice A4 cr.length c4) ∧ w'.cell? ⟨W.heap.size + 1 + 1, 1, none⟩ = some (.slice A5 cw.length c5)) (ds := []) #[false, false, false, false, false, false, false, false, false, false, false, false, false, false, false, false, false, false, false, false, false, false, false, false, false, false, false, false, false, false, false, false, false, false, false, false, false, false, false, false, false, false] (by kernel_rfl) rfl rfl ⟨(blk_cell (blk_below BA.out HTd.out) 0).trans rfl, (blk_cell (blk_below BA.out HTd.out) 1).trans rfl, (blk_cell (blk_below BB.out HTd.out) 0).trans rfl, (blk_cell (blk_below BB.out HTd.out) 1).trans rfl, (blk_cell (blk_below BC.out HTd.out) 0).trans rfl, (blk_cell (blk_below BC.out HTd.out) 1).trans rfl⟩ (fun hHeld => ?_)
    refine take_ (i := 0) (N := some 30) (v := ?_) (a' := ?_) #[true, false, false, false, false, false, false, false, false, false, false, false, false, false, false, false, false, false, false, false, false, false, false, false, false, false, false, false, false, false, false, false, false, false, false, false, false, false, false, false, false, false] rfl rfl (by kernel_rfl) (fun _ _ _ h => h) (Or.inl ⟨by rfl, ?_⟩) hHeld ?_ ?_
    rotate_left
    · rintro w' ⟨s0, s1, s2, s3, s4, s5⟩
      go_simp
      with_reducible rfl
    rotate_left
    · simp only [Act.put, List.setIfInBounds_toArray, List.set_cons_zero, List.set_cons_succ, i64_w, i32_w]
      rfl
    refine take_ (i := 1) (N := some 31) (v := ?_) (a' := ?_) #[true, true, false, false, false, false, false, false, false, false, false, false, false, false, false, false, false, false, false, false, false, false, false, false, false, false, false, false, false, false, false, false, false, false, false, false, false, false, false, false, false, false] rfl rfl (by kernel_rfl) (fun _ _ _ h => h) (Or.inl ⟨by rfl, ?_⟩) hHeld ?_ ?_
    rotate_left
    · rintro w' ⟨s0, s1, s2, s3, s4, s5⟩
      go_simp
      with_reducible rfl
    rotate_left
    · simp only [Act.put, List.setIfInBounds_toArray, List.set_cons_zero, List.set_cons_succ, i64_w, i32_w]
      rfl
    refine take_ (i := 3) (N := some 33) (v := ?_) (a' := ?_) #[true, true, false, true, false, false, false, false, false, false, false, false, false, false, false, false, false, false, false, false, false, false, false, false, false, false, false, false, false, false, false, false, false, false, false, false, false, false, false, false, false, false] rfl rfl (by kernel_rfl) (fun _ _ _ h => h) (Or.inl ⟨by rfl, ?_⟩) hHeld ?_ ?_
    rotate_left
    · rintro w' ⟨s0, s1, s2, s3, s4, s5⟩
      go_simp
      with_reducible rfl
    rotate_left
    · simp only [Act.put, List.setIfInBounds_toArray, List.set_cons_zero, List.set_cons_succ, i64_w, i32_w]
      rfl
    refine take_ (i := 4) (N := some 34) (v := ?_) (a' := ?_) #[true, true, false, true, true, false, false, false, false, false, false, false, false, false, false, false, false, false, false, false, false, false, false, false, false, false, false, false, false, false, false, false, false, false, false, false, false, false, false, false, false, false] rfl rfl (by kernel_rfl) (fun _ _ _ h => h) (Or.inl ⟨by rfl, ?_⟩) hHeld ?_ ?_
    rotate_left
    · rintro w' ⟨s0, s1, s2, s3, s4, s5⟩
      go_simp
      with_reducible rfl
    rotate_left
    · simp only [Act.put, List.setIfInBounds_toArray, List.set_cons_zero, List.set_cons_succ, i64_w, i32_w]
      rfl
    refine one_ (i := 2) (N := some 32) #[true, true, true, true, true, false, false, false, false, false, false, false, false, false, false, false, false, false, false, false, false, false, false, false, false, false, false, false, false, false, false, false, false, false, false, false, false, false, false, false, false, false] rfl rfl (by kernel_rfl) (by decide) (fun K hK => ?_)
    refine goes_ Try.func25 (by kernel_rfl) rfl #[.agg #[.slice A0 ar.length c0, .slice A1 aw.length c1], .agg #[.slice A2 br.length c2, .slice A3 bw.length c3]] (by rfl) rfl rfl (by simp only [List.map_toArray, List.map_cons, List.map_nil]; rfl) ?_
    with_reducible refine (CAB.out _ HTd.out).mono ?_
    rintro e we2 ⟨rfl, hb⟩
    refine ⟨_, rfl, ?_⟩
    have HBe2 := Aside0.mk (below_inL HBd.out hb)
    have HTe2 := Aside0.mk (below_inL HTd.out hb)
    clear hb
    refine hK.out _ _ ⟨(blk_cell (blk_below BA.out HTe2.out) 0).trans rfl, (blk_cell (blk_below BA.out HTe2.out) 1).trans rfl, (blk_cell (blk_below BB.out HTe2.out) 0).trans rfl, (blk_cell (blk_below BB.out HTe2.out) 1).trans rfl, (blk_cell (blk_below BC.out HTe2.out) 0).trans rfl, (blk_cell (blk_below BC.out HTe2.out) 1).trans rfl⟩ (fun hHeld => ?_)
    clear hK K
    refine norm_ (a' := ?_) ?_ ?_
    rotate_left
    · show Act.put _ (some 32) _ = _
      simp only [Act.put, List.setIfInBounds_toArray, List.set_cons_zero, List.set_cons_succ, i64_w, i32_w]
      rfl
    refine one_ (i := 5) (N := some 35) #[true, true, true, true, true, true, false, false, false, false, false, false, false, false, false, false, false, false, false, false, false, false, false, false, false, false, false, false, false, false, false, false, false, false, false, false, false, false, false, false, false, false] rfl rfl (by kernel_rfl) (by decide) (fun K hK => ?_)
    refine goes_ Try.func25 (by kernel_rfl) rfl #[.agg #[.slice A2 br.length c2, .slice A3 bw.length c3], .agg #[.slice A0 ar.length c0, .slice A1 aw.length c1]] (by rfl) rfl rfl (by simp only [List.map_toArray, List.map_cons, List.map_nil]; rfl) ?_
    with_reducible refine (CBA.out _ HTe2.out).mono ?_
    rintro e we5 ⟨rfl, hb⟩
    refine ⟨_, rfl, ?_⟩
    have HBe5 := Aside0.mk (below_inL HBe2.out hb)
    have HTe5 := Aside0.mk (below_inL HTe2.out hb)
    clear hb
    refine hK.out _ _ ⟨(blk_cell (blk_below BA.out HTe5.out) 0).trans rfl, (blk_cell (blk_below BA.out HTe5.out) 1).trans rfl, (blk_cell (blk_below BB.out HTe5.out) 0).trans rfl, (blk_cell (blk_below BB.out HTe5.out) 1).trans rfl, (blk_cell (blk_below BC.out HTe5.out) 0).trans rfl, (blk_cell (blk_below BC.out HTe5.out) 1).trans rfl⟩ (fun hHeld => ?_)
    clear hK K
    refine norm_ (a' := ?_) ?_ ?_
    rotate_left
    · show Act.put _ (some 35) _ = _
      simp only [Act.put, List.setIfInBounds_toArray, List.set_cons_zero, List.set_cons_succ, i64_w, i32_w]
      rfl
    refine pure_ (i := 6) (N := some 36) (v := ?_) (a' := ?_) #[true, true, true, true, true, true, true, false, false, false, false, false, false, false, false, false, false, false, false, false, false, false, false, false, false, false, false, false, false, false, false, false, false, false, false, false, false, false, false, false, false, false] rfl rfl (by kernel_rfl) (fun _ _ _ h => h) (Or.inl ⟨by rfl, ?_⟩) ?_ ?_
    rotate_left
    · intro w'
      go_simp
      with_reducible rfl
    rotate_left
    · simp only [Act.put, List.setIfInBounds_toArray, List.set_cons_zero, List.set_cons_succ, i64_w, i32_w]
      rfl
    refine pure_ (i := 7) (N := some 37) (v := ?_) (a' := ?_) #[true, true, true, true, true, true, true, true, false, false, false, false, false, false, false, false, false, false, false, false, false, false, false, false, false, false, false, false, false, false, false, false, false, false, false, false, false, false, false, false, false, false] rfl rfl (by kernel_rfl) (fun _ _ _ h => h) (Or.inl ⟨by rfl, ?_⟩) ?_ ?_
    rotate_left
    · intro w'
      go_simp
      with_reducible rfl
    rotate_left
    · simp only [Act.put, List.setIfInBounds_toArray, List.set_cons_zero, List.set_cons_succ, i64_w, i32_w]
      rfl
    refine pure_ (i := 14) (N := some 44) (v := ?_) (a' := ?_) #[true, true, true, true, true, true, true, true, false, false, false, false, false, false, true, false, false, false, false, false, false, false, false, false, false, false, false, false, false, false, false, false, false, false, false, false, false, false, false, false, false, false] rfl rfl (by kernel_rfl) (fun _ _ _ h => h) (Or.inl ⟨by rfl, ?_⟩) ?_ ?_
    rotate_left
    · intro w'
      go_simp
      with_reducible rfl
    rotate_left
    · simp only [Act.put, List.setIfInBounds_toArray, List.set_cons_zero, List.set_cons_succ, i64_w, i32_w]
      rfl
    refine take_ (i := 8) (N := some 38) (v := ?_) (a' := ?_) #[true, true, true, true, true, true, true, true, true, false, false, false, false, false, true, false, false, false, false, false, false, false, false, false, false, false, false, false, false, false, false, false, false, false, false, false, false, false, false, false, false, false] rfl rfl (by kernel_rfl) (fun _ _ _ h => h) (Or.inl ⟨by rfl, ?_⟩) hHeld ?_ ?_
    rotate_left
    · rintro w' ⟨s0, s1, s2, s3, s4, s5⟩
      go_simp
      with_reducible rfl
    rotate_left
    · simp only [Act.put, List.setIfInBounds_toArray, List.set_cons_zero, List.set_cons_succ, i64_w, i32_w]
      rfl
    refine take_ (i := 9) (N := some 39) (v := ?_) (a' := ?_) #[true, true, true, true, true, true, true, true, true, true, false, false, false, false, true, false, false, false, false, false, false, false, false, false, false, false, false, false, false, false, false, false, false, false, false, false, false, false, false, false, false, false] rfl rfl (by kernel_rfl) (fun _ _ _ h => h) (Or.inl ⟨by rfl, ?_⟩) hHeld ?_ ?_
    rotate_left
    · rintro w' ⟨s0, s1, s2, s3, s4, s5⟩
      go_simp
      with_reducible rfl
    rotate_left
    · simp only [Act.put, List.setIfInBounds_toArray, List.set_cons_zero, List.set_cons_succ, i64_w, i32_w]
      rfl
    refine take_ (i := 12) (N := some 42) (v := ?_) (a' := ?_) #[true, true, true, true, true, true, true, true, true, true, false, false, true, false, true, false, false, false, false, false, false, false, false, false, false, false, false, false, false, false, false, false, false, false, false, false, false, false, false, false, false, false] rfl rfl (by kernel_rfl) (fun _ _ _ h => h) (Or.inl ⟨by rfl, ?_⟩) hHeld ?_ ?_
    rotate_left
    · rintro w' ⟨s0, s1, s2, s3, s4, s5⟩
      go_simp
      with_reducible rfl
    rotate_left
    · simp only [Act.put, List.setIfInBounds_toArray, List.set_cons_zero, List.set_cons_succ, i64_w, i32_w]
      rfl
    refine one_ (i := 10) (N := some 40) #[true, true, true, true, true, true, true, true, true, true, true, false, true, false, true, false, false, false, false, false, false, false, false, false, false, false, false, false, false, false, false, false, false, false, false, false, false, false, false, false, false, false] rfl rfl (by kernel_rfl) (by decide) (fun K hK => ?_)
    refine value_ (w1 := ?_) (v := ?_) (by rfl) rfl ?_ ?_
    rotate_left 2
    · go_simp
      constructor
      · rfl
      · rfl
    have BX := Aside0.mk (blk_new we5 (.cells #[.slice A0 ar.length c0, .slice A1 aw.length c1, .slice A2 br.length c2, .slice A3 bw.length c3] 45))
    have HB10 := Aside0.mk (below_alloc HBe5.out (.cells #[.slice A0 ar.length c0, .slice A1 aw.length c1, .slice A2 br.length c2, .slice A3 bw.length c3] 45))
    have HT10 := Aside0.mk (below_alloc HTe5.out (.cells #[.slice A0 ar.length c0, .slice A1 aw.length c1, .slice A2 br.length c2, .slice A3 bw.length c3] 45))
    refine hK.out _ _ ⟨(blk_cell (blk_below BA.out HT10.out) 0).trans rfl, (blk_cell (blk_below BA.out HT10.out) 1).trans rfl, (blk_cell (blk_below BB.out HT10.out) 0).trans rfl, (blk_cell (blk_below BB.out HT10.out) 1).trans rfl, (blk_cell (blk_below BC.out HT10.out) 0).trans rfl, (blk_cell (blk_below BC.out HT10.out) 1).trans rfl⟩ (fun hHeld => ?_)
    clear hK K
    refine norm_ (a' := ?_) ?_ ?_
    rotate_left
    · show Act.put _ (some 40) _ = _
      simp only [Act.put, List.setIfInBounds_toArray, List.set_cons_zero, List.set_cons_succ, i64_w, i32_w]
      rfl
    refine one_ (i := 11) (N := some 41) #[true, true, true, true, true, true, true, true, true, true, true, true, true, false, true, false, false, false, false, false, false, false, false, false, false, false, false, false, false, false, false, false, false, false, false, false, false, false, false, false, false, false] rfl rfl (by kernel_rfl) (by decide) (fun K hK => ?_)
    refine goes_ Try.func23 (by kernel_rfl) rfl #[.slice (some ⟨we5.heap.size, 0, none⟩) 2 2] (by rfl) rfl rfl (by simp only [List.map_toArray, List.map_cons, List.map_nil]; rfl) ?_
    with_reducible refine (JC.out _ _ HT10.out BX.out).mono ?_
    rintro e we11 ⟨Aj, cj, Ak, ck, rfl, jf, hb⟩
    refine ⟨_, rfl, ?_⟩
    have HBe11 := Aside0.mk (below_inL HB10.out hb)
    have HTe11 := Aside0.mk (below_inL HT10.out hb)
    clear hb
    have JF := Aside0.mk jf
    clear jf BX
    refine hK.out _ _ ⟨(blk_cell (blk_below BA.out HTe11.out) 0).trans rfl, (blk_cell (blk_below BA.out HTe11.out) 1).trans rfl, (blk_cell (blk_below BB.out HTe11.out) 0).trans rfl, (blk_cell (blk_below BB.out HTe11.out) 1).trans rfl, (blk_cell (blk_below BC.out HTe11.out) 0).trans rfl, (blk_cell (blk_below BC.out HTe11.out) 1).trans rfl⟩ (fun hHeld => ?_)
    clear hK K
    refine norm_ (a' := ?_) ?_ ?_
    rotate_left
    · show Act.put _ (some 41) _ = _
      simp only [Act.put, List.setIfInBounds_toArray, List.set_cons_zero, List.set_cons_succ, i64_w, i32_w]
      rfl
    refine one_ (i := 13) (N := some 43) #[true, true, true, true, true, true, true, true, true, true, true, true, true, true, true, false, false, false, false, false, false, false, false, false, false, false, false, false, false, false, false, false, false, false, false, false, false, false, false, false, false, false] rfl rfl (by kernel_rfl) (by decide) (fun K hK => ?_)
    refine goes_ Try.func25 (by kernel_rfl) rfl #[.agg #[.slice Aj J0.length cj, .slice Ak J1.length ck], .agg #[.slice A4 cr.length c4, .slice A5 cw.length c5]] (by rfl) rfl rfl (by simp only [List.map_toArray, List.map_cons, List.map_nil]; rfl) ?_
    with_reducible refine (CJ.out _ HTe11.out _ _ _ _ JF.out).mono ?_
    rintro e we13 ⟨rfl, hb⟩
    refine ⟨_, rfl, ?_⟩
    have HBe13 := Aside0.mk (below_inL HBe11.out hb)
    have HTe13 := Aside0.mk (below_inL HTe11.out hb)
    clear hb
    clear JF
    refine hK.out _ _ ⟨(blk_cell (blk_below BA.out HTe13.out) 0).trans rfl, (blk_cell (blk_below BA.out HTe13.out) 1).trans rfl, (blk_cell (blk_below BB.out HTe13.out) 0).trans rfl, (blk_cell (blk_below BB.out HTe13.out) 1).trans rfl, (blk_cell (blk_below BC.out HTe13.out) 0).trans rfl, (blk_cell (blk_below BC.out HTe13.out) 1).trans rfl⟩ (fun hHeld => ?_)
    clear hK K
    refine norm_ (a' := ?_) ?_ ?_
    rotate_left
    · show Act.put _ (some 43) _ = _
      simp only [Act.put, List.setIfInBounds_toArray, List.set_cons_zero, List.set_cons_succ, i64_w, i32_w]
      rfl
    refine pure_ (i := 15) (N := some 45) (v := ?_) (a' := ?_) #[true, true, true, true, true, true, true, true, true, true, true, true, true, true, true, true, false, false, false, false, false, false, false, false, false, false, false, false, false, false, false, false, false, false, false, false, false, false, false, false, false, false] rfl rfl (by kernel_rfl) (fun _ _ _ h => h) (Or.inl ⟨by rfl, ?_⟩) ?_ ?_
    rotate_left
    · intro w'
      go_simp
      with_reducible rfl
    rotate_left
    · simp only [Act.put, List.setIfInBounds_toArray, List.set_cons_zero, List.set_cons_succ, i64_w, i32_w]
      rfl
    refine pure_ (i := 16) (N := some 46) (v := ?_) (a' := ?_) #[true, true, true, true, true, true, true, true, true, true, true, true, true, true, true, true, true, false, false, false, false, false, false, false, false, false, false, false, false, false, false, false, false, false, false, false, false, false, false, false, false, false] rfl rfl (by kernel_rfl) (fun _ _ _ h => h) (Or.inl ⟨by rfl, ?_⟩) ?_ ?_
    rotate_left
    · intro w'
      go_simp
      with_reducible rfl
    rotate_left
    · simp only [Act.put, List.setIfInBounds_toArray, List.set_cons_zero, List.set_cons_succ, i64_w, i32_w]
      rfl
    refine pure_ (i := 17) (N := some 47) (v := ?_) (a' := ?_) #[true, true, true, true, true, true, true, true, true, true, true, true, true, true, true, true, true, true, false, false, false, false, false, false, false, false, false, false, false, false, false, false, false, false, false, false, false, false, false, false, false, false] rfl rfl (by kernel_rfl) (fun _ _ _ h => h) (Or.inl ⟨by rfl, ?_⟩) ?_ ?_
    rotate_left
    · intro w'
      go_simp
      with_reducible rfl
    rotate_left
    · simp only [Act.put, List.setIfInBounds_toArray, List.set_cons_zero, List.set_cons_succ, i64_w, i32_w]
      rfl
    refine pure_ (i := 18) (N := some 48) (v := ?_) (a' := ?_) #[true, true, true, true, true, true, true, true, true, true, true, true, true, true, true, true, true, true, true, false, false, false, false, false, false, false, false, false, false, false, false, false, false, false, false, false, false, false, false, false, false, false] rfl rfl (by kernel_rfl) (fun _ _ _ h => h) (Or.inl ⟨by rfl, ?_⟩) ?_ ?_
    rotate_left
    · intro w'
      go_simp
      with_reducible rfl
    rotate_left
    · simp only [Act.put, List.setIfInBounds_toArray, List.set_cons_zero, List.set_cons_succ, i64_w, i32_w]
      rfl
    refine pure_ (i := 21) (N := some 51) (v := ?_) (a' := ?_) #[true, true, true, true, true, true, true, true, true, true, true, true, true, true, true, true, true, true, true, false, false, true, false, false, false, false, false, false, false, false, false, false, false, false, false, false, false, false, false, false, false, false] rfl rfl (by kernel_rfl) (fun _ _ _ h => h) (Or.inl ⟨by rfl, ?_⟩) ?_ ?_
    rotate_left
    · intro w'
      go_simp
      with_reducible rfl
    rotate_left
    · simp only [Act.put, List.setIfInBounds_toArray, List.set_cons_zero, List.set_cons_succ, i64_w, i32_w]
      rfl
    refine take_ (i := 19) (N := some 49) (v := ?_) (a' := ?_) #[true, true, true, true, true, true, true, true, true, true, true, true, true, true, true, true, true, true, true, true, false, true, false, false, false, false, false, false, false, false, false, false, false, false, false, false, false, false, false, false, false, false] rfl rfl (by kernel_rfl) (fun _ _ _ h => h) (Or.inl ⟨by rfl, ?_⟩) hHeld ?_ ?_
    rotate_left
    · rintro w' ⟨s0, s1, s2, s3, s4, s5⟩
      go_simp
      with_reducible rfl
    rotate_left
    · simp only [Act.put, List.setIfInBounds_toArray, List.set_cons_zero, List.set_cons_succ, i64_w, i32_w]
      rfl
    refine pure_ (i := 20) (N := some 50) (v := ?_) (a' := ?_) #[true, true, true, true, true, true, true, true, true, true, true, true, true, true, true, true, true, true, true, true, true, true, false, false, false, false, false, false, false, false, false, false, false, false, false, false, false, false, false, false, false, false] rfl rfl (by kernel_rfl) (fun _ _ _ h => h) (Or.inl ⟨by rfl, ?_⟩) ?_ ?_
    rotate_left
    · intro w'
      go_simp
      with_reducible rfl
    rotate_left
    · simp only [Act.put, List.setIfInBounds_toArray, List.set_cons_zero, List.set_cons_succ, i64_w, i32_w]
      rfl
    refine take_ (i := 22) (N := some 52) (v := ?_) (a' := ?_) #[true, true, true, true, true, true, true, true, true, true, true, true, true, true, true, true, true, true, true, true, true, true, true, false, false, false, false, false, false, false, false, false, false, false, false, false, false, false, false, false, false, false] rfl rfl (by kernel_rfl) (fun _ _ _ h => h) (Or.inl ⟨by rfl, ?_⟩) hHeld ?_ ?_
    rotate_left
    · rintro w' ⟨s0, s1, s2, s3, s4, s5⟩
      go_simp
      with_reducible rfl
    rotate_left
    · simp only [Act.put, List.setIfInBounds_toArray, List.set_cons_zero, List.set_cons_succ, i64_w, i32_w]
      rfl
    refine pure_ (i := 23) (N := some 53) (v := ?_) (a' := ?_) #[true, true, true, true, true, true, true, true, true, true, true, true, true, true, true, true, true, true, true, true, true, true, true, true, false, false, false, false, false, false, false, false, false, false, false, false, false, false, false, false, false, false] rfl rfl (by kernel_rfl) (fun _ _ _ h => h) (Or.inl ⟨by rfl, ?_⟩) ?_ ?_
    rotate_left
    · intro w'
      go_simp
      with_reducible rfl
    rotate_left
    · simp only [Act.put, List.setIfInBounds_toArray, List.set_cons_zero, List.set_cons_succ, i64_w, i32_w]
      rfl
    refine one_ (i := 24) (N := some 54) #[true, true, true, true, true, true, true, true, true, true, true, true, true, true, true, true, true, true, true, true, true, true, true, true, true, false, false, false, false, false, false, false, false, false, false, false, false, false, false, false, false, false] rfl rfl (by kernel_rfl) (by decide) (fun K hK => ?_)
    refine goes_ Try.func25 (by kernel_rfl) rfl #[.agg #[.slice A0 ar.length c0, .slice none 0 0], .agg #[.slice A2 br.length c2, .slice none 0 0]] (by rfl) rfl rfl (by simp only [List.map_toArray, List.map_cons, List.map_nil]; rfl) ?_
    with_reducible refine (CRR.out _ HTe13.out).mono ?_
    rintro e we24 ⟨rfl, hb⟩
    refine ⟨_, rfl, ?_⟩
    have HBe24 := Aside0.mk (below_inL HBe13.out hb)
    have HTe24 := Aside0.mk (below_inL HTe13.out hb)
    clear hb
    refine hK.out _ _ ⟨(blk_cell (blk_below BA.out HTe24.out) 0).trans rfl, (blk_cell (blk_below BA.out HTe24.out) 1).trans rfl, (blk_cell (blk_below BB.out HTe24.out) 0).trans rfl, (blk_cell (blk_below BB.out HTe24.out) 1).trans rfl, (blk_cell (blk_below BC.out HTe24.out) 0).trans rfl, (blk_cell (blk_below BC.out HTe24.out) 1).trans rfl⟩ (fun hHeld => ?_)
    clear hK K
    refine norm_ (a' := ?_) ?_ ?_
    rotate_left
    · show Act.put _ (some 54) _ = _
      simp only [Act.put, List.setIfInBounds_toArray, List.set_cons_zero, List.set_cons_succ, i64_w, i32_w]
      rfl
    refine pure_ (i := 25) (N := some 55) (v := ?_) (a' := ?_) #[true, true, true, true, true, true, true, true, true, true, true, true, true, true, true, true, true, true, true, true, true, true, true, true, true, true, false, false, false, false, false, false, false, false, false, false, false, false, false, false, false, false] rfl rfl (by kernel_rfl) (fun _ _ _ h => h) (Or.inl ⟨by rfl, ?_⟩) ?_ ?_
    rotate_left
    · intro w'
      go_simp
      with_reducible rfl
    rotate_left
    · simp only [Act.put, List.setIfInBounds_toArray, List.set_cons_zero, List.set_cons_succ, i64_w, i32_w]
      rfl
    refine pure_ (i := 26) (N := some 56) (v := ?_) (a' := ?_) #[true, true, true, true, true, true, true, true, true, true, true, true, true, true, true, true, true, true, true, true, true, true, true, true, true, true, true, false, false, false, false, false, false, false, false, false, false, false, false, false, false, false] rfl rfl (by kernel_rfl) (fun _ _ _ h => h) (Or.inl ⟨by rfl, ?_⟩) ?_ ?_
    rotate_left
    · intro w'
      go_simp
      with_reducible rfl
    rotate_left
    · simp only [Act.put, List.setIfInBounds_toArray, List.set_cons_zero, List.set_cons_succ, i64_w, i32_w]
      rfl
    refine pure_ (i := 27) (N := some 57) (v := ?_) (a' := ?_) #[true, true, true, true, true, true, true, true, true, true, true, true, true, true, true, true, true, true, true, true, true, true, true, true, true, true, true, true, false, false, false, false, false, false, false, false, false, false, false, false, false, false] rfl rfl (by kernel_rfl) (fun _ _ _ h => h) (Or.inl ⟨by rfl, ?_⟩) ?_ ?_
    rotate_left
    · intro w'
      go_simp
      with_reducible rfl
    rotate_left
    · simp only [Act.put, List.setIfInBounds_toArray, List.set_cons_zero, List.set_cons_succ, i64_w, i32_w]
      rfl
    refine take_ (i := 28) (N := some 58) (v := ?_) (a' := ?_) #[true, true, true, true, true, true, true, true, true, true, true, true, true, true, true, true, true, true, true, true, true, true, true, true, true, true, true, true, true, false, false, false, false, false, false, false, false, false, false, false, false, false] rfl rfl (by kernel_rfl) (fun _ _ _ h => h) (Or.inl ⟨by rfl, ?_⟩) hHeld ?_ ?_
    rotate_left
    · rintro w' ⟨s0, s1, s2, s3, s4, s5⟩
      go_simp
      with_reducible rfl
    rotate_left
    · simp only [Act.put, List.setIfInBounds_toArray, List.set_cons_zero, List.set_cons_succ, i64_w, i32_w]
      rfl
    refine take_ (i := 29) (N := some 59) (v := ?_) (a' := ?_) #[true, true, true, true, true, true, true, true, true, true, true, true, true, true, true, true, true, true, true, true, true, true, true, true, true, true, true, true, true, true, false, false, false, false, false, false, false, false, false, false, false, false] rfl rfl (by kernel_rfl) (fun _ _ _ h => h) (Or.inl ⟨by rfl, ?_⟩) hHeld ?_ ?_
    rotate_left
    · rintro w' ⟨s0, s1, s2, s3, s4, s5⟩
      go_simp
      with_reducible rfl
    rotate_left
    · simp only [Act.put, List.setIfInBounds_toArray, List.set_cons_zero, List.set_cons_succ, i64_w, i32_w]
      rfl
    refine take_ (i := 32) (N := some 62) (v := ?_) (a' := ?_) #[true, true, true, true, true, true, true, true, true, true, true, true, true, true, true, true, true, true, true, true, true, true, true, true, true, true, true, true, true, true, false, false, true, false, false, false, false, false, false, false, false, false] rfl rfl (by kernel_rfl) (fun _ _ _ h => h) (Or.inl ⟨by rfl, ?_⟩) hHeld ?_ ?_
    rotate_left
    · rintro w' ⟨s0, s1, s2, s3, s4, s5⟩
      go_simp
      with_reducible rfl
    rotate_left
    · simp only [Act.put, List.setIfInBounds_toArray, List.set_cons_zero, List.set_cons_succ, i64_w, i32_w]
      rfl
    refine take_ (i := 33) (N := some 63) (v := ?_) (a' := ?_) #[true, true, true, true, true, true, true, true, true, true, true, true, true, true, true, true, true, true, true, true, true, true, true, true, true, true, true, true, true, true, false, false, true, true, false, false, false, false, false, false, false, false] rfl rfl (by kernel_rfl) (fun _ _ _ h => h) (Or.inl ⟨by rfl, ?_⟩) hHeld ?_ ?_
    rotate_left
    · rintro w' ⟨s0, s1, s2, s3, s4, s5⟩
      go_simp
      with_reducible rfl
    rotate_left
    · simp only [Act.put, List.setIfInBounds_toArray, List.set_cons_zero, List.set_cons_succ, i64_w, i32_w]
      rfl
    refine join_ (σ := Nat × Nat × Option Addr × Nat × Option Addr × Nat) 7 #[true, true, true, true, true, true, true, true, true, true, true, true, true, true, true, true, true, true, true, true, true, true, true, true, true, true, true, true, true, true, true, true, true, true, true, false, false, false, false, false, false, false] (fun s => [(60, .slice (some ⟨s.1, 0, none⟩) 2 2), (61, .agg #[.slice s.2.2.1 J0.length s.2.2.2.1, .slice s.2.2.2.2.1 J1.length s.2.2.2.2.2]), (64, .slice (some ⟨s.2.1, 0, none⟩) 2 2)]) (fun s w' => Aside0 (Below W.heap.size W w') ∧ Aside0 (Below (((W.alloc (.cells #[.slice A0 ar.length c0, .slice A1 aw.length c1] 45)).alloc (.cells #[.slice A2 br.length c2, .slice A3 bw.length c3] 45)).alloc (.cells #[.slice A4 cr.length c4, .slice A5 cw.length c5] 45)).heap.size (((W.alloc (.cells #[.slice A0 ar.length c0, .slice A1 aw.length c1] 45)).alloc (.cells #[.slice A2 br.length c2, .slice A3 bw.length c3] 45)).alloc (.cells #[.slice A4 cr.length c4, .slice A5 cw.length c5] 45)) w') ∧ Aside0 (w'.heap[s.2.1]? = some (.cells #[.slice A2 br.length c2, .slice A3 bw.length c3, .slice A0 ar.length c0, .slice A1 aw.length c1] 45 (0, 0))) ∧ Aside0 (JFp w' s.2.2.1 s.2.2.2.1 s.2.2.2.2.1 s.2.2.2.2.2 J0 J1)) ?_ ?_
    rotate_left
    · intro hCont
      refine two_ (i := 30) (j := 34) (Ni := some 60) (Nj := some 64) #[true, true, true, true, true, true, true, true, true, true, true, true, true, true, true, true, true, true, true, true, true, true, true, true, true, true, true, true, true, true, true, false, true, true, false, false, false, false, false, false, false, false] #[true, true, true, true, true, true, true, true, true, true, true, true, true, true, true, true, true, true, true, true, true, true, true, true, true, true, true, true, true, true, false, false, true, true, true, false, false, false, false, false, false, false] rfl rfl rfl rfl (by kernel_rfl) (by decide) (by decide) (fun K hK => ?_) (fun K hK => ?_)
      · skip
        refine value_ (w1 := we24.alloc (.cells #[.slice A0 ar.length c0, .slice A1 aw.length c1, .slice A2 br.length c2, .slice A3 bw.length c3] 45)) (v := .slice (some ⟨we24.heap.size, 0, none⟩) 2 2) (by rfl) rfl ?_ ?_
        · go_simp
        have BY30 := Aside0.mk (blk_new we24 (.cells #[.slice A0 ar.length c0, .slice A1 aw.length c1, .slice A2 br.length c2, .slice A3 bw.length c3] 45))
        have HBf30 := Aside0.mk (below_alloc HBe24.out (.cells #[.slice A0 ar.length c0, .slice A1 aw.length c1, .slice A2 br.length c2, .slice A3 bw.length c3] 45))
        have HTf30 := Aside0.mk (below_alloc HTe24.out (.cells #[.slice A0 ar.length c0, .slice A1 aw.length c1, .slice A2 br.length c2, .slice A3 bw.length c3] 45))
        generalize hA_ : we24.alloc (.cells #[.slice A0 ar.length c0, .slice A1 aw.length c1, .slice A2 br.length c2, .slice A3 bw.length c3] 45) = wf30 at BY30 HBf30 HTf30  ⊢
        clear hA_
        refine hK.out _ _ ⟨(blk_cell (blk_below BA.out HTf30.out) 0).trans rfl, (blk_cell (blk_below BA.out HTf30.out) 1).trans rfl, (blk_cell (blk_below BB.out HTf30.out) 0).trans rfl, (blk_cell (blk_below BB.out HTf30.out) 1).trans rfl, (blk_cell (blk_below BC.out HTf30.out) 0).trans rfl, (blk_cell (blk_below BC.out HTf30.out) 1).trans rfl⟩ (fun hHeld => ?_)
        clear hK K
        refine norm_ (a' := ?_) ?_ ?_
        rotate_left
        · show Act.put _ (some 60) _ = _
          simp only [Act.put, List.setIfInBounds_toArray, List.set_cons_zero, List.set_cons_succ, i64_w, i32_w]
          rfl
        refine two_ (i := 31) (j := 34) (Ni := some 61) (Nj := some 64) #[true, true, true, true, true, true, true, true, true, true, true, true, true, true, true, true, true, true, true, true, true, true, true, true, true, true, true, true, true, true, true, true, true, true, false, false, false, false, false, false, false, false] #[true, true, true, true, true, true, true, true, true, true, true, true, true, true, true, true, true, true, true, true, true, true, true, true, true, true, true, true, true, true, true, false, true, true, true, false, false, false, false, false, false, false] rfl rfl rfl rfl (by kernel_rfl) (by decide) (by decide) (fun K hK => ?_) (fun K hK => ?_)
        · skip
          refine goes_ Try.func23 (by kernel_rfl) rfl #[.slice (some ⟨we24.heap.size, 0, none⟩) 2 2] (by rfl) rfl rfl (by simp only [List.map_toArray, List.map_cons, List.map_nil]; rfl) ?_
          with_reducible refine (JC.out _ _ HTf30.out BY30.out).mono ?_
          rintro e wf31 ⟨Aj, cj, Ak, ck, rfl, jf, hb⟩
          refine ⟨_, rfl, ?_⟩
          have HBf31 := Aside0.mk (below_inL HBf30.out hb)
          have HTf31 := Aside0.mk (below_inL HTf30.out hb)
          have JF := Aside0.mk jf
          clear hb jf BY30
          refine hK.out _ _ ⟨(blk_cell (blk_below BA.out HTf31.out) 0).trans rfl, (blk_cell (blk_below BA.out HTf31.out) 1).trans rfl, (blk_cell (blk_below BB.out HTf31.out) 0).trans rfl, (blk_cell (blk_below BB.out HTf31.out) 1).trans rfl, (blk_cell (blk_below BC.out HTf31.out) 0).trans rfl, (blk_cell (blk_below BC.out HTf31.out) 1).trans rfl⟩ (fun hHeld => ?_)
          clear hK K
          refine norm_ (a' := ?_) ?_ ?_
          rotate_left
          · show Act.put _ (some 61) _ = _
            simp only [Act.put, List.setIfInBounds_toArray, List.set_cons_zero, List.set_cons_succ, i64_w, i32_w]
            rfl
          refine one_ (i := 34) (N := some 64) #[true, true, true, true, true, true, true, true, true, true, true, true, true, true, true, true, true, true, true, true, true, true, true, true, true, true, true, true, true, true, true, true, true, true, true, false, false, false, false, false, false, false] rfl rfl (by kernel_rfl) (by decide) (fun K hK => ?_)
          refine value_ (w1 := wf31.alloc (.cells #[.slice A2 br.length c2, .slice A3 bw.length c3, .slice A0 ar.length c0, .slice A1 aw.length c1] 45)) (v := .slice (some ⟨wf31.heap.size, 0, none⟩) 2 2) (by rfl) rfl ?_ ?_
          · go_simp
          have BY34 := Aside0.mk (blk_new wf31 (.cells #[.slice A2 br.length c2, .slice A3 bw.length c3, .slice A0 ar.length c0, .slice A1 aw.length c1] 45))
          have HBf34 := Aside0.mk (below_alloc HBf31.out (.cells #[.slice A2 br.length c2, .slice A3 bw.length c3, .slice A0 ar.length c0, .slice A1 aw.length c1] 45))
          have HTf34 := Aside0.mk (below_alloc HTf31.out (.cells #[.slice A2 br.length c2, .slice A3 bw.length c3, .slice A0 ar.length c0, .slice A1 aw.length c1] 45))
          replace JF := Aside0.mk (jf_alloc JF.out (.cells #[.slice A2 br.length c2, .slice A3 bw.length c3, .slice A0 ar.length c0, .slice A1 aw.length c1] 45))
          generalize hA_ : wf31.alloc (.cells #[.slice A2 br.length c2, .slice A3 bw.length c3, .slice A0 ar.length c0, .slice A1 aw.length c1] 45) = wf34 at BY34 HBf34 HTf34 JF ⊢
          clear hA_
          refine hK.out _ _ ⟨(blk_cell (blk_below BA.out HTf34.out) 0).trans rfl, (blk_cell (blk_below BA.out HTf34.out) 1).trans rfl, (blk_cell (blk_below BB.out HTf34.out) 0).trans rfl, (blk_cell (blk_below BB.out HTf34.out) 1).trans rfl, (blk_cell (blk_below BC.out HTf34.out) 0).trans rfl, (blk_cell (blk_below BC.out HTf34.out) 1).trans rfl⟩ (fun hHeld => ?_)
          clear hK K
          refine norm_ (a' := ?_) ?_ ?_
          rotate_left
          · show Act.put _ (some 64) _ = _
            simp only [Act.put, List.setIfInBounds_toArray, List.set_cons_zero, List.set_cons_succ, i64_w, i32_w]
            rfl
          exact norm_ (by simp only [putAll, Act.put, List.setIfInBounds_toArray, List.set_cons_zero, List.set_cons_succ]) (hCont (we24.heap.size, wf31.heap.size, Aj, cj, Ak, ck) _ ⟨HBf34, HTf34, BY34, JF⟩)
        · skip
          refine value_ (w1 := wf30.alloc (.cells #[.slice A2 br.length c2, .slice A3 bw.length c3, .slice A0 ar.length c0, .slice A1 aw.length c1] 45)) (v := .slice (some ⟨wf30.heap.size, 0, none⟩) 2 2) (by rfl) rfl ?_ ?_
          · go_simp
          have BY34 := Aside0.mk (blk_new wf30 (.cells #[.slice A2 br.length c2, .slice A3 bw.length c3, .slice A0 ar.length c0, .slice A1 aw.length c1] 45))
          have HBf34 := Aside0.mk (below_alloc HBf30.out (.cells #[.slice A2 br.length c2, .slice A3 bw.length c3, .slice A0 ar.length c0, .slice A1 aw.length c1] 45))
          have HTf34 := Aside0.mk (below_alloc HTf30.out (.cells #[.slice A2 br.length c2, .slice A3 bw.length c3, .slice A0 ar.length c0, .slice A1 aw.length c1] 45))
          replace BY30 := Aside0.mk (blk_alloc BY30.out (.cells #[.slice A2 br.length c2, .slice A3 bw.length c3, .slice A0 ar.length c0, .slice A1 aw.length c1] 45))
          generalize hA_ : wf30.alloc (.cells #[.slice A2 br.length c2, .slice A3 bw.length c3, .slice A0 ar.length c0, .slice A1 aw.length c1] 45) = wf34 at BY34 HBf34 HTf34 BY30 ⊢
          clear hA_
          refine hK.out _ _ ⟨(blk_cell (blk_below BA.out HTf34.out) 0).trans rfl, (blk_cell (blk_below BA.out HTf34.out) 1).trans rfl, (blk_cell (blk_below BB.out HTf34.out) 0).trans rfl, (blk_cell (blk_below BB.out HTf34.out) 1).trans rfl, (blk_cell (blk_below BC.out HTf34.out) 0).trans rfl, (blk_cell (blk_below BC.out HTf34.out) 1).trans rfl⟩ (fun hHeld => ?_)
          clear hK K
          refine norm_ (a' := ?_) ?_ ?_
          rotate_left
          · show Act.put _ (some 64) _ = _
            simp only [Act.put, List.setIfInBounds_toArray, List.set_cons_zero, List.set_cons_succ, i64_w, i32_w]
            rfl
          refine one_ (i := 31) (N := some 61) #[true, true, true, true, true, true, true, true, true, true, true, true, true, true, true, true, true, true, true, true, true, true, true, true, true, true, true, true, true, true, true, true, true, true, true, false, false, false, false, false, false, false] rfl rfl (by kernel_rfl) (by decide) (fun K hK => ?_)
          refine goes_ Try.func23 (by kernel_rfl) rfl #[.slice (some ⟨we24.heap.size, 0, none⟩) 2 2] (by rfl) rfl rfl (by simp only [List.map_toArray, List.map_cons, List.map_nil]; rfl) ?_
          with_reducible refine (JC.out _ _ HTf34.out BY30.out).mono ?_
          rintro e wf31 ⟨Aj, cj, Ak, ck, rfl, jf, hb⟩
          refine ⟨_, rfl, ?_⟩
          replace BY34 := Aside0.mk (blk_below BY34.out hb)
          have HBf31 := Aside0.mk (below_inL HBf34.out hb)
          have HTf31 := Aside0.mk (below_inL HTf34.out hb)
          have JF := Aside0.mk jf
          clear hb jf BY30
          refine hK.out _ _ ⟨(blk_cell (blk_below BA.out HTf31.out) 0).trans rfl, (blk_cell (blk_below BA.out HTf31.out) 1).trans rfl, (blk_cell (blk_below BB.out HTf31.out) 0).trans rfl, (blk_cell (blk_below BB.out HTf31.out) 1).trans rfl, (blk_cell (blk_below BC.out HTf31.out) 0).trans rfl, (blk_cell (blk_below BC.out HTf31.out) 1).trans rfl⟩ (fun hHeld => ?_)
          clear hK K
          refine norm_ (a' := ?_) ?_ ?_
          rotate_left
          · show Act.put _ (some 61) _ = _
            simp only [Act.put, List.setIfInBounds_toArray, List.set_cons_zero, List.set_cons_succ, i64_w, i32_w]
            rfl
          exact norm_ (by simp only [putAll, Act.put, List.setIfInBounds_toArray, List.set_cons_zero, List.set_cons_succ]) (hCont (we24.heap.size, wf30.heap.size, Aj, cj, Ak, ck) _ ⟨HBf31, HTf31, BY34, JF⟩)
      · skip
        refine value_ (w1 := we24.alloc (.cells #[.slice A2 br.length c2, .slice A3 bw.length c3, .slice A0 ar.length c0, .slice A1 aw.length c1] 45)) (v := .slice (some ⟨we24.heap.size, 0, none⟩) 2 2) (by rfl) rfl ?_ ?_
        · go_simp
        have BY34 := Aside0.mk (blk_new we24 (.cells #[.slice A2 br.length c2, .slice A3 bw.length c3, .slice A0 ar.length c0, .slice A1 aw.length c1] 45))
        have HBf34 := Aside0.mk (below_alloc HBe24.out (.cells #[.slice A2 br.length c2, .slice A3 bw.length c3, .slice A0 ar.length c0, .slice A1 aw.length c1] 45))
        have HTf34 := Aside0.mk (below_alloc HTe24.out (.cells #[.slice A2 br.length c2, .slice A3 bw.length c3, .slice A0 ar.length c0, .slice A1 aw.length c1] 45))
        generalize hA_ : we24.alloc (.cells #[.slice A2 br.length c2, .slice A3 bw.length c3, .slice A0 ar.length c0, .slice A1 aw.length c1] 45) = wf34 at BY34 HBf34 HTf34  ⊢
        clear hA_
        refine hK.out _ _ ⟨(blk_cell (blk_below BA.out HTf34.out) 0).trans rfl, (blk_cell (blk_below BA.out HTf34.out) 1).trans rfl, (blk_cell (blk_below BB.out HTf34.out) 0).trans rfl, (blk_cell (blk_below BB.out HTf34.out) 1).trans rfl, (blk_cell (blk_below BC.out HTf34.out) 0).trans rfl, (blk_cell (blk_below BC.out HTf34.out) 1).trans rfl⟩ (fun hHeld => ?_)
        clear hK K
        refine norm_ (a' := ?_) ?_ ?_
        rotate_left
        · show Act.put _ (some 64) _ = _
          simp only [Act.put, List.setIfInBounds_toArray, List.set_cons_zero, List.set_cons_succ, i64_w, i32_w]
          rfl
        refine one_ (i := 30) (N := some 60) #[true, true, true, true, true, true, true, true, true, true, true, true, true, true, true, true, true, true, true, true, true, true, true, true, true, true, true, true, true, true, true, false, true, true, true, false, false, false, false, false, false, false] rfl rfl (by kernel_rfl) (by decide) (fun K hK => ?_)
        refine value_ (w1 := wf34.alloc (.cells #[.slice A0 ar.length c0, .slice A1 aw.length c1, .slice A2 br.length c2, .slice A3 bw.length c3] 45)) (v := .slice (some ⟨wf34.heap.size, 0, none⟩) 2 2) (by rfl) rfl ?_ ?_
        · go_simp
        have BY30 := Aside0.mk (blk_new wf34 (.cells #[.slice A0 ar.length c0, .slice A1 aw.length c1, .slice A2 br.length c2, .slice A3 bw.length c3] 45))
        have HBf30 := Aside0.mk (below_alloc HBf34.out (.cells #[.slice A0 ar.length c0, .slice A1 aw.length c1, .slice A2 br.length c2, .slice A3 bw.length c3] 45))
        have HTf30 := Aside0.mk (below_alloc HTf34.out (.cells #[.slice A0 ar.length c0, .slice A1 aw.length c1, .slice A2 br.length c2, .slice A3 bw.length c3] 45))
        replace BY34 := Aside0.mk (blk_alloc BY34.out (.cells #[.slice A0 ar.length c0, .slice A1 aw.length c1, .slice A2 br.length c2, .slice A3 bw.length c3] 45))
        generalize hA_ : wf34.alloc (.cells #[.slice A0 ar.length c0, .slice A1 aw.length c1, .slice A2 br.length c2, .slice A3 bw.length c3] 45) = wf30 at BY30 HBf30 HTf30 BY34 ⊢
        clear hA_
        refine hK.out _ _ ⟨(blk_cell (blk_below BA.out HTf30.out) 0).trans rfl, (blk_cell (blk_below BA.out HTf30.out) 1).trans rfl, (blk_cell (blk_below BB.out HTf30.out) 0).trans rfl, (blk_cell (blk_below BB.out HTf30.out) 1).trans rfl, (blk_cell (blk_below BC.out HTf30.out) 0).trans rfl, (blk_cell (blk_below BC.out HTf30.out) 1).trans rfl⟩ (fun hHeld => ?_)
        clear hK K
        refine norm_ (a' := ?_) ?_ ?_
        rotate_left
        · show Act.put _ (some 60) _ = _
          simp only [Act.put, List.setIfInBounds_toArray, List.set_cons_zero, List.set_cons_succ, i64_w, i32_w]
          rfl
        refine one_ (i := 31) (N := some 61) #[true, true, true, true, true, true, true, true, true, true, true, true, true, true, true, true, true, true, true, true, true, true, true, true, true, true, true, true, true, true, true, true, true, true, true, false, false, false, false, false, false, false] rfl rfl (by kernel_rfl) (by decide) (fun K hK => ?_)
        refine goes_ Try.func23 (by kernel_rfl) rfl #[.slice (some ⟨wf34.heap.size, 0, none⟩) 2 2] (by rfl) rfl rfl (by simp only [List.map_toArray, List.map_cons, List.map_nil]; rfl) ?_
        with_reducible refine (JC.out _ _ HTf30.out BY30.out).mono ?_
        rintro e wf31 ⟨Aj, cj, Ak, ck, rfl, jf, hb⟩
        refine ⟨_, rfl, ?_⟩
        replace BY34 := Aside0.mk (blk_below BY34.out hb)
        have HBf31 := Aside0.mk (below_inL HBf30.out hb)
        have HTf31 := Aside0.mk (below_inL HTf30.out hb)
        have JF := Aside0.mk jf
        clear hb jf BY30
        refine hK.out _ _ ⟨(blk_cell (blk_below BA.out HTf31.out) 0).trans rfl, (blk_cell (blk_below BA.out HTf31.out) 1).trans rfl, (blk_cell (blk_below BB.out HTf31.out) 0).trans rfl, (blk_cell (blk_below BB.out HTf31.out) 1).trans rfl, (blk_cell (blk_below BC.out HTf31.out) 0).trans rfl, (blk_cell (blk_below BC.out HTf31.out) 1).trans rfl⟩ (fun hHeld => ?_)
        clear hK K
        refine norm_ (a' := ?_) ?_ ?_
        rotate_left
        · show Act.put _ (some 61) _ = _
          simp only [Act.put, List.setIfInBounds_toArray, List.set_cons_zero, List.set_cons_succ, i64_w, i32_w]
          rfl
        exact norm_ (by simp only [putAll, Act.put, List.setIfInBounds_toArray, List.set_cons_zero, List.set_cons_succ]) (hCont (wf34.heap.size, we24.heap.size, Aj, cj, Ak, ck) _ ⟨HBf31, HTf31, BY34, JF⟩)
    rintro ⟨b1, b2, Aj, cj, Ak, ck⟩ wo ⟨HBo, HTo, BY, JF⟩
    have hHeld : wo.cell? ⟨W.heap.size, 0, none⟩ = some (.slice A0 ar.length c0) ∧ wo.cell? ⟨W.heap.size, 1, none⟩ = some (.slice A1 aw.length c1) ∧ wo.cell? ⟨W.heap.size + 1, 0, none⟩ = some (.slice A2 br.length c2) ∧ wo.cell? ⟨W.heap.size + 1, 1, none⟩ = some (.slice A3 bw.length c3) ∧ wo.cell? ⟨W.heap.size + 1 + 1, 0, none⟩ = some (.slice A4 cr.length c4) ∧ wo.cell? ⟨W.heap.size + 1 + 1, 1, none⟩ = some (.slice A5 cw.length c5) := ⟨(blk_cell (blk_below BA.out HTo.out) 0).trans rfl, (blk_cell (blk_below BA.out HTo.out) 1).trans rfl, (blk_cell (blk_below BB.out HTo.out) 0).trans rfl, (blk_cell (blk_below BB.out HTo.out) 1).trans rfl, (blk_cell (blk_below BC.out HTo.out) 0).trans rfl, (blk_cell (blk_below BC.out HTo.out) 1).trans rfl⟩
    refine norm_ (a' := ?_) ?_ ?_
    rotate_left
    · simp only [putAll, Act.put, List.setIfInBounds_toArray, List.set_cons_zero, List.set_cons_succ]
      rfl
    refine one_ (i := 35) (N := some 65) #[true, true, true, true, true, true, true, true, true, true, true, true, true, true, true, true, true, true, true, true, true, true, true, true, true, true, true, true, true, true, true, true, true, true, true, true, false, false, false, false, false, false] rfl rfl (by kernel_rfl) (by decide) (fun K hK => ?_)
    refine goes_ Try.func23 (by kernel_rfl) rfl #[.slice (some ⟨b2, 0, none⟩) 2 2] (by rfl) rfl rfl (by simp only [List.map_toArray, List.map_cons, List.map_nil]; rfl) ?_
    with_reducible refine (JD.out _ _ HTo.out BY.out).mono ?_
    rintro e we35 ⟨Al, cl, Am, cm, rfl, jf, hb⟩
    refine ⟨_, rfl, ?_⟩
    replace JF := Aside0.mk (jf_below JF.out hb)
    have HBe35 := Aside0.mk (below_inL HBo.out hb)
    have HTe35 := Aside0.mk (below_inL HTo.out hb)
    clear hb
    have KF := Aside0.mk jf
    clear jf BY
    refine hK.out _ _ ⟨(blk_cell (blk_below BA.out HTe35.out) 0).trans rfl, (blk_cell (blk_below BA.out HTe35.out) 1).trans rfl, (blk_cell (blk_below BB.out HTe35.out) 0).trans rfl, (blk_cell (blk_below BB.out HTe35.out) 1).trans rfl, (blk_cell (blk_below BC.out HTe35.out) 0).trans rfl, (blk_cell (blk_below BC.out HTe35.out) 1).trans rfl⟩ (fun hHeld => ?_)
    clear hK K
    refine norm_ (a' := ?_) ?_ ?_
    rotate_left
    · show Act.put _ (some 65) _ = _
      simp only [Act.put, List.setIfInBounds_toArray, List.set_cons_zero, List.set_cons_succ, i64_w, i32_w]
      rfl
    refine one_ (i := 36) (N := some 66) #[true, true, true, true, true, true, true, true, true, true, true, true, true, true, true, true, true, true, true, true, true, true, true, true, true, true, true, true, true, true, true, true, true, true, true, true, true, false, false, false, false, false] rfl rfl (by kernel_rfl) (by decide) (fun K hK => ?_)
    refine goes_ Try.func16 (by kernel_rfl) rfl #[.agg #[.slice Aj J0.length cj, .slice Ak J1.length ck], .agg #[.slice Al J0.length cl, .slice Am J1.length cm]] (by rfl) rfl rfl (by simp only [List.map_toArray, List.map_cons, List.map_nil]; rfl) ?_
    with_reducible refine (SJ.out _ _ _ _ _ _ _ _ _ JF.out KF.out).mono ?_
    rintro e we36 ⟨rfl, hb⟩
    refine ⟨_, rfl, ?_⟩
    have HBe36 := Aside0.mk (below_inL HBe35.out hb)
    have HTe36 := Aside0.mk (below_inL HTe35.out hb)
    clear hb
    clear JF KF
    refine hK.out _ _ ⟨(blk_cell (blk_below BA.out HTe36.out) 0).trans rfl, (blk_cell (blk_below BA.out HTe36.out) 1).trans rfl, (blk_cell (blk_below BB.out HTe36.out) 0).trans rfl, (blk_cell (blk_below BB.out HTe36.out) 1).trans rfl, (blk_cell (blk_below BC.out HTe36.out) 0).trans rfl, (blk_cell (blk_below BC.out HTe36.out) 1).trans rfl⟩ (fun hHeld => ?_)
    clear hK K
    refine norm_ (a' := ?_) ?_ ?_
    rotate_left
    · show Act.put _ (some 66) _ = _
      simp only [Act.put, List.setIfInBounds_toArray, List.set_cons_zero, List.set_cons_succ, i64_w, i32_w]
      rfl
    refine pure_ (i := 37) (N := some 67) (v := ?_) (a' := ?_) #[true, true, true, true, true, true, true, true, true, true, true, true, true, true, true, true, true, true, true, true, true, true, true, true, true, true, true, true, true, true, true, true, true, true, true, true, true, true, false, false, false, false] rfl rfl (by kernel_rfl) (fun _ _ _ h => h) (Or.inl ⟨by rfl, ?_⟩) ?_ ?_
    rotate_left
    · intro w'
      go_simp
      with_reducible rfl
    rotate_left
    · simp only [Act.put, List.setIfInBounds_toArray, List.set_cons_zero, List.set_cons_succ, i64_w, i32_w]
      rfl
    refine pure_ (i := 38) (N := some 68) (v := ?_) (a' := ?_) #[true, true, true, true, true, true, true, true, true, true, true, true, true, true, true, true, true, true, true, true, true, true, true, true, true, true, true, true, true, true, true, true, true, true, true, true, true, true, true, false, false, false] rfl rfl (by kernel_rfl) (fun _ _ _ h => h) (Or.inl ⟨by rfl, ?_⟩) ?_ ?_
    rotate_left
    · intro w'
      go_simp
      with_reducible rfl
    rotate_left
    · simp only [Act.put, List.setIfInBounds_toArray, List.set_cons_zero, List.set_cons_succ, i64_w, i32_w]
      rfl
    refine one_ (i := 39) (N := some 69) #[true, true, true, true, true, true, true, true, true, true, true, true, true, true, true, true, true, true, true, true, true, true, true, true, true, true, true, true, true, true, true, true, true, true, true, true, true, true, true, true, false, false] rfl rfl (by kernel_rfl) (by decide) (fun K hK => ?_)
    refine goes_ Try.func8 (by kernel_rfl) rfl #[] (by rfl) rfl rfl (by first | (simp only [List.map_toArray, List.map_nil]; done) | (simp only [List.map_toArray, List.map_nil]; rfl)) ?_
    with_reducible refine (LIVE.out _).mono ?_
    rintro e we39 ⟨rfl, hb⟩
    refine ⟨_, rfl, ?_⟩
    have HBe39 := Aside0.mk (below_inL HBe36.out hb)
    have HTe39 := Aside0.mk (below_inL HTe36.out hb)
    clear hb
    refine hK.out _ _ ⟨(blk_cell (blk_below BA.out HTe39.out) 0).trans rfl, (blk_cell (blk_below BA.out HTe39.out) 1).trans rfl, (blk_cell (blk_below BB.out HTe39.out) 0).trans rfl, (blk_cell (blk_below BB.out HTe39.out) 1).trans rfl, (blk_cell (blk_below BC.out HTe39.out) 0).trans rfl, (blk_cell (blk_below BC.out HTe39.out) 1).trans rfl⟩ (fun hHeld => ?_)
    clear hK K
    refine norm_ (a' := ?_) ?_ ?_
    rotate_left
    · show Act.put _ (some 69) _ = _
      simp only [Act.put, List.setIfInBounds_toArray, List.set_cons_zero, List.set_cons_succ, i64_w, i32_w]
      rfl
    refine pure_ (i := 40) (N := some 70) (v := ?_) (a' := ?_) #[true, true, true, true, true, true, true, true, true, true, true, true, true, true, true, true, true, true, true, true, true, true, true, true, true, true, true, true, true, true, true, true, true, true, true, true, true, true, true, true, true, false] rfl rfl (by kernel_rfl) (fun _ _ _ h => h) (Or.inl ⟨by rfl, ?_⟩) ?_ ?_
    rotate_left
    · intro w'
      go_simp
      with_reducible rfl
    rotate_left
    · simp only [Act.put, List.setIfInBounds_toArray, List.set_cons_zero, List.set_cons_succ, i64_w, i32_w]
      rfl
    refine pure_ (i := 41) (N := some 6) (v := ?_) (a' := ?_) #[true, true, true, true, true, true, true, true, true, true, true, true, true, true, true, true, true, true, true, true, true, true, true, true, true, true, true, true, true, true, true, true, true, true, true, true, true, true, true, true, true, true] rfl rfl (by kernel_rfl) (fun _ _ _ h => h) (Or.inl ⟨by rfl, ?_⟩) ?_ ?_
    rotate_left
    · intro w'
      go_simp
      with_reducible rfl
    rotate_left
    · simp only [Act.put, List.setIfInBounds_toArray, List.set_cons_zero, List.set_cons_succ, i64_w, i32_w]
      rfl
    refine done_ (by kernel_rfl) ?_
    go_wp2
    go_ret
    exact ⟨rfl, HBe39.out⟩
  | false =>
    rw [hx] at CAC CJ
    simp only [Bool.false_or] at CJ
    clear hx
    go_enter Try.func7, Try.ntmps7
    go_wp2_with (first
      | (go_at_call 22; (with_reducible refine (FA.out _ HB0.out).mono ?_); rintro e w1 ⟨rfl, hb⟩; have HB1 := Aside0.mk (below_inL HB0.out hb); have HT1 := Aside0.mk (below_inL HT0.out hb); have k1_0 : w1.cell? ⟨W.heap.size, 0, none⟩ = some (.slice A0 ar.length c0) := (blk_cell (blk_below BA.out HT1.out) 0).trans rfl; have k1_1 : w1.cell? ⟨W.heap.size, 1, none⟩ = some (.slice A1 aw.length c1) := (blk_cell (blk_below BA.out HT1.out) 1).trans rfl; have k1_2 : w1.cell? ⟨W.heap.size + 1, 0, none⟩ = some (.slice A2 br.length c2) := (blk_cell (blk_below BB.out HT1.out) 0).trans rfl; have k1_3 : w1.cell? ⟨W.heap.size + 1, 1, none⟩ = some (.slice A3 bw.length c3) := (blk_cell (blk_below BB.out HT1.out) 1).trans rfl; have k1_4 : w1.cell? ⟨W.heap.size + 1 + 1, 0, none⟩ = some (.slice A4 cr.length c4) := (blk_cell (blk_below BC.out HT1.out) 0).trans rfl; have k1_5 : w1.cell? ⟨W.heap.size + 1 + 1, 1, none⟩ = some (.slice A5 cw.length c5) := (blk_cell (blk_below BC.out HT1.out) 1).trans rfl; clear hb)
      | (go_at_call 22; (with_reducible refine (FB.out _ HB1.out).mono ?_); rintro e w2 ⟨rfl, hb⟩; have HB2 := Aside0.mk (below_inL HB1.out hb); have HT2 := Aside0.mk (below_inL HT1.out hb); have k2_0 : w2.cell? ⟨W.heap.size, 0, none⟩ = some (.slice A0 ar.length c0) := (blk_cell (blk_below BA.out HT2.out) 0).trans rfl; have k2_1 : w2.cell? ⟨W.heap.size, 1, none⟩ = some (.slice A1 aw.length c1) := (blk_cell (blk_below BA.out HT2.out) 1).trans rfl; have k2_2 : w2.cell? ⟨W.heap.size + 1, 0, none⟩ = some (.slice A2 br.length c2) := (blk_cell (blk_below BB.out HT2.out) 0).trans rfl; have k2_3 : w2.cell? ⟨W.heap.size + 1, 1, none⟩ = some (.slice A3 bw.length c3) := (blk_cell (blk_below BB.out HT2.out) 1).trans rfl; have k2_4 : w2.cell? ⟨W.heap.size + 1 + 1, 0, none⟩ = some (.slice A4 cr.length c4) := (blk_cell (blk_below BC.out HT2.out) 0).trans rfl; have k2_5 : w2.cell? ⟨W.heap.size + 1 + 1, 1, none⟩ = some (.slice A5 cw.length c5) := (blk_cell (blk_below BC.out HT2.out) 1).trans rfl; clear hb)
      | (go_at_call 22; (with_reducible refine (FC.out _ HB2.out).mono ?_); rintro e w3 ⟨rfl, hb⟩; have HB3 := Aside0.mk (below_inL HB2.out hb); have HT3 := Aside0.mk (below_inL HT2.out hb); have k3_0 : w3.cell? ⟨W.heap.size, 0, none⟩ = some (.slice A0 ar.length c0) := (blk_cell (blk_below BA.out HT3.out) 0).trans rfl; have k3_1 : w3.cell? ⟨W.heap.size, 1, none⟩ = some (.slice A1 aw.length c1) := (blk_cell (blk_below BA.out HT3.out) 1).trans rfl; have k3_2 : w3.cell? ⟨W.heap.size + 1, 0, none⟩ = some (.slice A2 br.length c2) := (blk_cell (blk_below BB.out HT3.out) 0).trans rfl; have k3_3 : w3.cell? ⟨W.heap.size + 1, 1, none⟩ = some (.slice A3 bw.length c3) := (blk_cell (blk_below BB.out HT3.out) 1).trans rfl; have k3_4 : w3.cell? ⟨W.heap.size + 1 + 1, 0, none⟩ = some (.slice A4 cr.length c4) := (blk_cell (blk_below BC.out HT3.out) 0).trans rfl; have k3_5 : w3.cell? ⟨W.heap.size + 1 + 1, 1, none⟩ = some (.slice A5 cw.length c5) := (blk_cell (blk_below BC.out HT3.out) 1).trans rfl; clear hb)
      | (go_at_call 25; (with_reducible refine (CAC.out _ HT3.out).mono ?_); rintro e w4 ⟨rfl, hb⟩; have HB4 := Aside0.mk (below_inL HB3.out hb); have HT4 := Aside0.mk (below_inL HT3.out hb); have k4_0 : w4.cell? ⟨W.heap.size, 0, none⟩ = some (.slice A0 ar.length c0) := (blk_cell (blk_below BA.out HT4.out) 0).trans rfl; have k4_1 : w4.cell? ⟨W.heap.size, 1, none⟩ = some (.slice A1 aw.length c1) := (blk_cell (blk_below BA.out HT4.out) 1).trans rfl; have k4_2 : w4.cell? ⟨W.heap.size + 1, 0, none⟩ = some (.slice A2 br.length c2) := (blk_cell (blk_below BB.out HT4.out) 0).trans rfl; have k4_3 : w4.cell? ⟨W.heap.size + 1, 1, none⟩ = some (.slice A3 bw.length c3) := (blk_cell (blk_below BB.out HT4.out) 1).trans rfl; have k4_4 : w4.cell? ⟨W.heap.size + 1 + 1, 0, none⟩ = some (.slice A4 cr.length c4) := (blk_cell (blk_below BC.out HT4.out) 0).trans rfl; have k4_5 : w4.cell? ⟨W.heap.size + 1 + 1, 1, none⟩ = some (.slice A5 cw.length c5) := (blk_cell (blk_below BC.out HT4.out) 1).trans rfl; clear hb)
      | (go_at_call 25; (with_reducible refine (CBC.out _ HT4.out).mono ?_); rintro e w5 ⟨rfl, hb⟩; have HB5 := Aside0.mk (below_inL HB4.out hb); have HT5 := Aside0.mk (below_inL HT4.out hb); have k5_0 : w5.cell? ⟨W.heap.size, 0, none⟩ = some (.slice A0 ar.length c0) := (blk_cell (blk_below BA.out HT5.out) 0).trans rfl; have k5_1 : w5.cell? ⟨W.heap.size, 1, none⟩ = some (.slice A1 aw.length c1) := (blk_cell (blk_below BA.out HT5.out) 1).trans rfl; have k5_2 : w5.cell? ⟨W.heap.size + 1, 0, none⟩ = some (.slice A2 br.length c2) := (blk_cell (blk_below BB.out HT5.out) 0).trans rfl; have k5_3 : w5.cell? ⟨W.heap.size + 1, 1, none⟩ = some (.slice A3 bw.length c3) := (blk_cell (blk_below BB.out HT5.out) 1).trans rfl; have k5_4 : w5.cell? ⟨W.heap.size + 1 + 1, 0, none⟩ = some (.slice A4 cr.length c4) := (blk_cell (blk_below BC.out HT5.out) 0).trans rfl; have k5_5 : w5.cell? ⟨W.heap.size + 1 + 1, 1, none⟩ = some (.slice A5 cw.length c5) := (blk_cell (blk_below BC.out HT5.out) 1).trans rfl; clear hb))
    have HBd := Aside0.mk (below_drew1 HB5.out)
    have HTd := Aside0.mk (below_drew1 HT5.out)
    refine start_ (n := 42) (S := fun w' => w'.cell? ⟨W.heap.size, 0, none⟩ = some (.slice A0 ar.length c0) ∧ w'.cell? ⟨W.heap.size, 1, none⟩ = some (.slice A1 aw.length c1) ∧ w'.cell? ⟨W.heap.size + 1, 0, none⟩ = some (.slice A2 br.length c2) ∧ w'.cell? ⟨W.heap.size + 1, 1, none⟩ = some (.slice A3 bw.length c3) ∧ w'.cell? ⟨W.heap.size + 1 + 1, 0, none⟩ = some (.slice A4 cr.length c4) ∧ w'.cell? ⟨W.heap.size + 1 + 1, 1, none⟩ = some (.slice A5 cw.length c5)) (ds := []) #[false, false, false, false, false, false, false, false, false, false, false, false, false, false, false, false, false, false, false, false, false, false, false, false, false, false, false, false, false, false, false, false, false, false, false, false, false, false, false, false, false, false] (by kernel_rfl) rfl rfl ⟨(blk_cell (blk_below BA.out HTd.out) 0).trans rfl, (blk_cell (blk_below BA.out HTd.out) 1).trans rfl, (blk_cell (blk_below BB.out HTd.out) 0).trans rfl, (blk_cell (blk_below BB.out HTd.out) 1).trans rfl, (blk_cell (blk_below BC.out HTd.out) 0).trans rfl, (blk_cell (blk_below BC.out HTd.out) 1).trans rfl⟩ (fun hHeld => ?_)
    refine take_ (i := 0) (N := some 30) (v := ?_) (a' := ?_) #[true, false, false, false, false, false, false, false, false, false, false, false, false, false, false, false, false, false, false, false, false, false, false, false, false, false, false, false, false, false, false, false, false, false, false, false, false, false, false, false, false, false] rfl rfl (by kernel_rfl) (fun _ _ _ h => h) (Or.inl ⟨by rfl, ?_⟩) hHeld ?_ ?_
    rotate_left
    · rintro w' ⟨s0, s1, s2, s3, s4, s5⟩
      go_simp
      with_reducible rfl
    rotate_left
    · simp only [Act.put, List.setIfInBounds_toArray, List.set_cons_zero, List.set_cons_succ, i64_w, i32_w]
      rfl
    refine take_ (i := 1) (N := some 31) (v := ?_) (a' := ?_) #[true, true, false, false, false, false, false, false, false, false, false, false, false, false, false, false, false, false, false, false, false, false, false, false, false, false, false, false, false, false, false, false, false, false, false, false, false, false, false, false, false, false] rfl rfl (by kernel_rfl) (fun _ _ _ h => h) (Or.inl ⟨by rfl, ?_⟩) hHeld ?_ ?_
    rotate_left
    · rintro w' ⟨s0, s1, s2, s3, s4, s5⟩
      go_simp
      with_reducible rfl
    rotate_left
    · simp only [Act.put, List.setIfInBounds_toArray, List.set_cons_zero, List.set_cons_succ, i64_w, i32_w]
      rfl
    refine take_ (i := 3) (N := some 33) (v := ?_) (a' := ?_) #[true, true, false, true, false, false, false, false, false, false, false, false, false, false, false, false, false, false, false, false, false, false, false, false, false, false, false, false, false, false, false, false, false, false, false, false, false, false, false, false, false, false] rfl rfl (by kernel_rfl) (fun _ _ _ h => h) (Or.inl ⟨by rfl, ?_⟩) hHeld ?_ ?_
    rotate_left
    · rintro w' ⟨s0, s1, s2, s3, s4, s5⟩
      go_simp
      with_reducible rfl
    rotate_left
    · simp only [Act.put, List.setIfInBounds_toArray, List.set_cons_zero, List.set_cons_succ, i64_w, i32_w]
      rfl
    refine take_ (i := 4) (N := some 34) (v := ?_) (a' := ?_) #[true, true, false, true, true, false, false, false, false, false, false, false, false, false, false, false, false, false, false, false, false, false, false, false, false, false, false, false, false, false, false, false, false, false, false, false, false, false, false, false, false, false] rfl rfl (by kernel_rfl) (fun _ _ _ h => h) (Or.inl ⟨by rfl, ?_⟩) hHeld ?_ ?_
    rotate_left
    · rintro w' ⟨s0, s1, s2, s3, s4, s5⟩
      go_simp
      with_reducible rfl
    rotate_left
    · simp only [Act.put, List.setIfInBounds_toArray, List.set_cons_zero, List.set_cons_succ, i64_w, i32_w]
      rfl
    refine one_ (i := 2) (N := some 32) #[true, true, true, true, true, false, false, false, false, false, false, false, false, false, false, false, false, false, false, false, false, false, false, false, false, false, false, false, false, false, false, false, false, false, false, false, false, false, false, false, false, false] rfl rfl (by kernel_rfl) (by decide) (fun K hK => ?_)
    refine goes_ Try.func25 (by kernel_rfl) rfl #[.agg #[.slice A0 ar.length c0, .slice A1 aw.length c1], .agg #[.slice A2 br.length c2, .slice A3 bw.length c3]] (by rfl) rfl rfl (by simp only [List.map_toArray, List.map_cons, List.map_nil]; rfl) ?_
    with_reducible refine (CAB.out _ HTd.out).mono ?_
    rintro e we2 ⟨rfl, hb⟩
    refine ⟨_, rfl, ?_⟩
    have HBe2 := Aside0.mk (below_inL HBd.out hb)
    have HTe2 := Aside0.mk (below_inL HTd.out hb)
    clear hb
    refine hK.out _ _ ⟨(blk_cell (blk_below BA.out HTe2.out) 0).trans rfl, (blk_cell (blk_below BA.out HTe2.out) 1).trans rfl, (blk_cell (blk_below BB.out HTe2.out) 0).trans rfl, (blk_cell (blk_below BB.out HTe2.out) 1).trans rfl, (blk_cell (blk_below BC.out HTe2.out) 0).trans rfl, (blk_cell (blk_below BC.out HTe2.out) 1).trans rfl⟩ (fun hHeld => ?_)
    clear hK K
    refine norm_ (a' := ?_) ?_ ?_
    rotate_left
    · show Act.put _ (some 32) _ = _
      simp only [Act.put, List.setIfInBounds_toArray, List.set_cons_zero, List.set_cons_succ, i64_w, i32_w]
      rfl
    refine one_ (i := 5) (N := some 35) #[true, true, true, true, true, true, false, false, false, false, false, false, false, false, false, false, false, false, false, false, false, false, false, false, false, false, false, false, false, false, false, false, false, false, false, false, false, false, false, false, false, false] rfl rfl (by kernel_rfl) (by decide) (fun K hK => ?_)
    refine goes_ Try.func25 (by kernel_rfl) rfl #[.agg #[.slice A2 br.length c2, .slice A3 bw.length c3], .agg #[.slice A0 ar.length c0, .slice A1 aw.length c1]] (by rfl) rfl rfl (by simp only [List.map_toArray, List.map_cons, List.map_nil]; rfl) ?_
    with_reducible refine (CBA.out _ HTe2.out).mono ?_
    rintro e we5 ⟨rfl, hb⟩
    refine ⟨_, rfl, ?_⟩
    have HBe5 := Aside0.mk (below_inL HBe2.out hb)
    have HTe5 := Aside0.mk (below_inL HTe2.out hb)
    clear hb
    refine hK.out _ _ ⟨(blk_cell (blk_below BA.out HTe5.out) 0).trans rfl, (blk_cell (blk_below BA.out HTe5.out) 1).trans rfl, (blk_cell (blk_below BB.out HTe5.out) 0).trans rfl, (blk_cell (blk_below BB.out HTe5.out) 1).trans rfl, (blk_cell (blk_below BC.out HTe5.out) 0).trans rfl, (blk_cell (blk_below BC.out HTe5.out) 1).trans rfl⟩ (fun hHeld => ?_)
    clear hK K
    refine norm_ (a' := ?_) ?_ ?_
    rotate_left
    · show Act.put _ (some 35) _ = _
      simp only [Act.put, List.setIfInBounds_toArray, List.set_cons_zero, List.set_cons_succ, i64_w, i32_w]
      rfl
    refine pure_ (i := 6) (N := some 36) (v := ?_) (a' := ?_) #[true, true, true, true, true, true, true, false, false, false, false, false, false, false, false, false, false, false, false, false, false, false, false, false, false, false, false, false, false, false, false, false, false, false, false, false, false, false, false, false, false, false] rfl rfl (by kernel_rfl) (fun _ _ _ h => h) (Or.inl ⟨by rfl, ?_⟩) ?_ ?_
    rotate_left
    · intro w'
      go_simp
      with_reducible rfl
    rotate_left
    · simp only [Act.put, List.setIfInBounds_toArray, List.set_cons_zero, List.set_cons_succ, i64_w, i32_w]
      rfl
    refine pure_ (i := 7) (N := some 37) (v := ?_) (a' := ?_) #[true, true, true, true, true, true, true, true, false, false, false, false, false, false, false, false, false, false, false, false, false, false, false, false, false, false, false, false, false, false, false, false, false, false, false, false, false, false, false, false, false, false] rfl rfl (by kernel_rfl) (fun _ _ _ h => h) (Or.inl ⟨by rfl, ?_⟩) ?_ ?_
    rotate_left
    · intro w'
      go_simp
      with_reducible rfl
    rotate_left
    · simp only [Act.put, List.setIfInBounds_toArray, List.set_cons_zero, List.set_cons_succ, i64_w, i32_w]
      rfl
    refine pure_ (i := 14) (N := some 44) (v := ?_) (a' := ?_) #[true, true, true, true, true, true, true, true, false, false, false, false, false, false, true, false, false, false, false, false, false, false, false, false, false, false, false, false, false, false, false, false, false, false, false, false, false, false, false, false, false, false] rfl rfl (by kernel_rfl) (fun _ _ _ h => h) (Or.inl ⟨by rfl, ?_⟩) ?_ ?_
    rotate_left
    · intro w'
      go_simp
      with_reducible rfl
    rotate_left
    · simp only [Act.put, List.setIfInBounds_toArray, List.set_cons_zero, List.set_cons_succ, i64_w, i32_w]
      rfl
    refine take_ (i := 8) (N := some 38) (v := ?_) (a' := ?_) #[true, true, true, true, true, true, true, true, true, false, false, false, false, false, true, false, false, false, false, false, false, false, false, false, false, false, false, false, false, false, false, false, false, false, false, false, false, false, false, false, false, false] rfl rfl (by kernel_rfl) (fun _ _ _ h => h) (Or.inl ⟨by rfl, ?_⟩) hHeld ?_ ?_
    rotate_left
    · rintro w' ⟨s0, s1, s2, s3, s4, s5⟩
      go_simp
      with_reducible rfl
    rotate_left
    · simp only [Act.put, List.setIfInBounds_toArray, List.set_cons_zero, List.set_cons_succ, i64_w, i32_w]
      rfl
    refine take_ (i := 9) (N := some 39) (v := ?_) (a' := ?_) #[true, true, true, true, true, true, true, true, true, true, false, false, false, false, true, false, false, false, false, false, false, false, false, false, false, false, false, false, false, false, false, false, false, false, false, false, false, false, false, false, false, false] rfl rfl (by kernel_rfl) (fun _ _ _ h => h) (Or.inl ⟨by rfl, ?_⟩) hHeld ?_ ?_
    rotate_left
    · rintro w' ⟨s0, s1, s2, s3, s4, s5⟩
      go_simp
      with_reducible rfl
    rotate_left
    · simp only [Act.put, List.setIfInBounds_toArray, List.set_cons_zero, List.set_cons_succ, i64_w, i32_w]
      rfl
    refine take_ (i := 12) (N := some 42) (v := ?_) (a' := ?_) #[true, true, true, true, true, true, true, true, true, true, false, false, true, false, true, false, false, false, false, false, false, false, false, false, false, false, false, false, false, false, false, false, false, false, false, false, false, false, false, false, false, false] rfl rfl (by kernel_rfl) (fun _ _ _ h => h) (Or.inl ⟨by rfl, ?_⟩) hHeld ?_ ?_
    rotate_left
    · rintro w' ⟨s0, s1, s2, s3, s4, s5⟩
      go_simp
      with_reducible rfl
    rotate_left
    · simp only [Act.put, List.setIfInBounds_toArray, List.set_cons_zero, List.set_cons_succ, i64_w, i32_w]
      rfl
    refine one_ (i := 10) (N := some 40) #[true, true, true, true, true, true, true, true, true, true, true, false, true, false, true, false, false, false, false, false, false, false, false, false, false, false, false, false, false, false, false, false, false, false, false, false, false, false, false, false, false, false] rfl rfl (by kernel_rfl) (by decide) (fun K hK => ?_)
    refine value_ (w1 := ?_) (v := ?_) (by rfl) rfl ?_ ?_
    rotate_left 2
    · go_simp
      constructor
      · rfl
      · rfl
    have BX := Aside0.mk (blk_new we5 (.cells #[.slice A0 ar.length c0, .slice A1 aw.length c1, .slice A2 br.length c2, .slice A3 bw.length c3] 45))
    have HB10 := Aside0.mk (below_alloc HBe5.out (.cells #[.slice A0 ar.length c0, .slice A1 aw.length c1, .slice A2 br.length c2, .slice A3 bw.length c3] 45))
    have HT10 := Aside0.mk (below_alloc HTe5.out (.cells #[.slice A0 ar.length c0, .slice A1 aw.length c1, .slice A2 br.length c2, .slice A3 bw.length c3] 45))
    refine hK.out _ _ ⟨(blk_cell (blk_below BA.out HT10.out) 0).trans rfl, (blk_cell (blk_below BA.out HT10.out) 1).trans rfl, (blk_cell (blk_below BB.out HT10.out) 0).trans rfl, (blk_cell (blk_below BB.out HT10.out) 1).trans rfl, (blk_cell (blk_below BC.out HT10.out) 0).trans rfl, (blk_cell (blk_below BC.out HT10.out) 1).trans rfl⟩ (fun hHeld => ?_)
    clear hK K
    refine norm_ (a' := ?_) ?_ ?_
    rotate_left
    · show Act.put _ (some 40) _ = _
      simp only [Act.put, List.setIfInBounds_toArray, List.set_cons_zero, List.set_cons_succ, i64_w, i32_w]
      rfl
    refine one_ (i := 11) (N := some 41) #[true, true, true, true, true, true, true, true, true, true, true, true, true, false, true, false, false, false, false, false, false, false, false, false, false, false, false, false, false, false, false, false, false, false, false, false, false, false, false, false, false, false] rfl rfl (by kernel_rfl) (by decide) (fun K hK => ?_)
    refine goes_ Try.func23 (by kernel_rfl) rfl #[.slice (some ⟨we5.heap.size, 0, none⟩) 2 2] (by rfl) rfl rfl (by simp only [List.map_toArray, List.map_cons, List.map_nil]; rfl) ?_
    with_reducible refine (JC.out _ _ HT10.out BX.out).mono ?_
    rintro e we11 ⟨Aj, cj, Ak, ck, rfl, jf, hb⟩
    refine ⟨_, rfl, ?_⟩
    have HBe11 := Aside0.mk (below_inL HB10.out hb)
    have HTe11 := Aside0.mk (below_inL HT10.out hb)
    clear hb
    have JF := Aside0.mk jf
    clear jf BX
    refine hK.out _ _ ⟨(blk_cell (blk_below BA.out HTe11.out) 0).trans rfl, (blk_cell (blk_below BA.out HTe11.out) 1).trans rfl, (blk_cell (blk_below BB.out HTe11.out) 0).trans rfl, (blk_cell (blk_below BB.out HTe11.out) 1).trans rfl, (blk_cell (blk_below BC.out HTe11.out) 0).trans rfl, (blk_cell (blk_below BC.out HTe11.out) 1).trans rfl⟩ (fun hHeld => ?_)
    clear hK K
    refine norm_ (a' := ?_) ?_ ?_
    rotate_left
    · show Act.put _ (some 41) _ = _
      simp only [Act.put, List.setIfInBounds_toArray, List.set_cons_zero, List.set_cons_succ, i64_w, i32_w]
      rfl
    refine one_ (i := 13) (N := some 43) #[true, true, true, true, true, true, true, true, true, true, true, true, true, true, true, false, false, false, false, false, false, false, false, false, false, false, false, false, false, false, false, false, false, false, false, false, false, false, false, false, false, false] rfl rfl (by kernel_rfl) (by decide) (fun K hK => ?_)
    refine goes_ Try.func25 (by kernel_rfl) rfl #[.agg #[.slice Aj J0.length cj, .slice Ak J1.length ck], .agg #[.slice A4 cr.length c4, .slice A5 cw.length c5]] (by rfl) rfl rfl (by simp only [List.map_toArray, List.map_cons, List.map_nil]; rfl) ?_
    with_reducible refine (CJ.out _ HTe11.out _ _ _ _ JF.out).mono ?_
    rintro e we13 ⟨rfl, hb⟩
    refine ⟨_, rfl, ?_⟩
    have HBe13 := Aside0.mk (below_inL HBe11.out hb)
    have HTe13 := Aside0.mk (below_inL HTe11.out hb)
    clear hb
    clear JF
    refine hK.out _ _ ⟨(blk_cell (blk_below BA.out HTe13.out) 0).trans rfl, (blk_cell (blk_below BA.out HTe13.out) 1).trans rfl, (blk_cell (blk_below BB.out HTe13.out) 0).trans rfl, (blk_cell (blk_below BB.out HTe13.out) 1).trans rfl, (blk_cell (blk_below BC.out HTe13.out) 0).trans rfl, (blk_cell (blk_below BC.out HTe13.out) 1).trans rfl⟩ (fun hHeld => ?_)
    clear hK K
    refine norm_ (a' := ?_) ?_ ?_
    rotate_left
    · show Act.put _ (some 43) _ = _
      simp only [Act.put, List.setIfInBounds_toArray, List.set_cons_zero, List.set_cons_succ, i64_w, i32_w]
      rfl
    refine pure_ (i := 15) (N := some 45) (v := ?_) (a' := ?_) #[true, true, true, true, true, true, true, true, true, true, true, true, true, true, true, true, false, false, false, false, false, false, false, false, false, false, false, false, false, false, false, false, false, false, false, false, false, false, false, false, false, false] rfl rfl (by kernel_rfl) (fun _ _ _ h => h) (Or.inl ⟨by rfl, ?_⟩) ?_ ?_
    rotate_left
    · intro w'
      go_simp
      with_reducible rfl
    rotate_left
    · simp only [Act.put, List.setIfInBounds_toArray, List.set_cons_zero, List.set_cons_succ, i64_w, i32_w]
      rfl
    refine pure_ (i := 16) (N := some 46) (v := ?_) (a' := ?_) #[true, true, true, true, true, true, true, true, true, true, true, true, true, true, true, true, true, false, false, false, false, false, false, false, false, false, false, false, false, false, false, false, false, false, false, false, false, false, false, false, false, false] rfl rfl (by kernel_rfl) (fun _ _ _ h => h) (Or.inl ⟨by rfl, ?_⟩) ?_ ?_
    rotate_left
    · intro w'
      go_simp
      with_reducible rfl
    rotate_left
    · simp only [Act.put, List.setIfInBounds_toArray, List.set_cons_zero, List.set_cons_succ, i64_w, i32_w]
      rfl
    refine pure_ (i := 17) (N := some 47) (v := ?_) (a' := ?_) #[true, true, true, true, true, true, true, true, true, true, true, true, true, true, true, true, true, true, false, false, false, false, false, false, false, false, false, false, false, false, false, false, false, false, false, false, false, false, false, false, false, false] rfl rfl (by kernel_rfl) (fun _ _ _ h => h) (Or.inl ⟨by rfl, ?_⟩) ?_ ?_
    rotate_left
    · intro w'
      go_simp
      with_reducible rfl
    rotate_left
    · simp only [Act.put, List.setIfInBounds_toArray, List.set_cons_zero, List.set_cons_succ, i64_w, i32_w]
      rfl
    refine pure_ (i := 18) (N := some 48) (v := ?_) (a' := ?_) #[true, true, true, true, true, true, true, true, true, true, true, true, true, true, true, true, true, true, true, false, false, false, false, false, false, false, false, false, false, false, false, false, false, false, false, false, false, false, false, false, false, false] rfl rfl (by kernel_rfl) (fun _ _ _ h => h) (Or.inl ⟨by rfl, ?_⟩) ?_ ?_
    rotate_left
    · intro w'
      go_simp
      with_reducible rfl
    rotate_left
    · simp only [Act.put, List.setIfInBounds_toArray, List.set_cons_zero, List.set_cons_succ, i64_w, i32_w]
      rfl
    refine pure_ (i := 21) (N := some 51) (v := ?_) (a' := ?_) #[true, true, true, true, true, true, true, true, true, true, true, true, true, true, true, true, true, true, true, false, false, true, false, false, false, false, false, false, false, false, false, false, false, false, false, false, false, false, false, false, false, false] rfl rfl (by kernel_rfl) (fun _ _ _ h => h) (Or.inl ⟨by rfl, ?_⟩) ?_ ?_
    rotate_left
    · intro w'
      go_simp
      with_reducible rfl
    rotate_left
    · simp only [Act.put, List.setIfInBounds_toArray, List.set_cons_zero, List.set_cons_succ, i64_w, i32_w]
      rfl
    refine take_ (i := 19) (N := some 49) (v := ?_) (a' := ?_) #[true, true, true, true, true, true, true, true, true, true, true, true, true, true, true, true, true, true, true, true, false, true, false, false, false, false, false, false, false, false, false, false, false, false, false, false, false, false, false, false, false, false] rfl rfl (by kernel_rfl) (fun _ _ _ h => h) (Or.inl ⟨by rfl, ?_⟩) hHeld ?_ ?_
    rotate_left
    · rintro w' ⟨s0, s1, s2, s3, s4, s5⟩
      go_simp
      with_reducible rfl
    rotate_left
    · simp only [Act.put, List.setIfInBounds_toArray, List.set_cons_zero, List.set_cons_succ, i64_w, i32_w]
      rfl
    refine pure_ (i := 20) (N := some 50) (v := ?_) (a' := ?_) #[true, true, true, true, true, true, true, true, true, true, true, true, true, true, true, true, true, true, true, true, true, true, false, false, false, false, false, false, false, false, false, false, false, false, false, false, false, false, false, false, false, false] rfl rfl (by kernel_rfl) (fun _ _ _ h => h) (Or.inl ⟨by rfl, ?_⟩) ?_ ?_
    rotate_left
    · intro w'
      go_simp
      with_reducible rfl
    rotate_left
    · simp only [Act.put, List.setIfInBounds_toArray, List.set_cons_zero, List.set_cons_succ, i64_w, i32_w]
      rfl
    refine take_ (i := 22) (N := some 52) (v := ?_) (a' := ?_) #[true, true, true, true, true, true, true, true, true, true, true, true, true, true, true, true, true, true, true, true, true, true, true, false, false, false, false, false, false, false, false, false, false, false, false, false, false, false, false, false, false, false] rfl rfl (by kernel_rfl) (fun _ _ _ h => h) (Or.inl ⟨by rfl, ?_⟩) hHeld ?_ ?_
    rotate_left
    · rintro w' ⟨s0, s1, s2, s3, s4, s5⟩
      go_simp
      with_reducible rfl
    rotate_left
    · simp only [Act.put, List.setIfInBounds_toArray, List.set_cons_zero, List.set_cons_succ, i64_w, i32_w]
      rfl
    refine pure_ (i := 23) (N := some 53) (v := ?_) (a' := ?_) #[true, true, true, true, true, true, true, true, true, true, true, true, true, true, true, true, true, true, true, true, true, true, true, true, false, false, false, false, false, false, false, false, false, false, false, false, false, false, false, false, false, false] rfl rfl (by kernel_rfl) (fun _ _ _ h => h) (Or.inl ⟨by rfl, ?_⟩) ?_ ?_
    rotate_left
    · intro w'
      go_simp
      with_reducible rfl
    rotate_left
    · simp only [Act.put, List.setIfInBounds_toArray, List.set_cons_zero, List.set_cons_succ, i64_w, i32_w]
      rfl
    refine one_ (i := 24) (N := some 54) #[true, true, true, true, true, true, true, true, true, true, true, true, true, true, true, true, true, true, true, true, true, true, true, true, true, false, false, false, false, false, false, false, false, false, false, false, false, false, false, false, false, false] rfl rfl (by kernel_rfl) (by decide) (fun K hK => ?_)
    refine goes_ Try.func25 (by kernel_rfl) rfl #[.agg #[.slice A0 ar.length c0, .slice none 0 0], .agg #[.slice A2 br.length c2, .slice none 0 0]] (by rfl) rfl rfl (by simp only [List.map_toArray, List.map_cons, List.map_nil]; rfl) ?_
    with_reducible refine (CRR.out _ HTe13.out).mono ?_
    rintro e we24 ⟨rfl, hb⟩
    refine ⟨_, rfl, ?_⟩
    have HBe24 := Aside0.mk (below_inL HBe13.out hb)
    have HTe24 := Aside0.mk (below_inL HTe13.out hb)
    clear hb
    refine hK.out _ _ ⟨(blk_cell (blk_below BA.out HTe24.out) 0).trans rfl, (blk_cell (blk_below BA.out HTe24.out) 1).trans rfl, (blk_cell (blk_below BB.out HTe24.out) 0).trans rfl, (blk_cell (blk_below BB.out HTe24.out) 1).trans rfl, (blk_cell (blk_below BC.out HTe24.out) 0).trans rfl, (blk_cell (blk_below BC.out HTe24.out) 1).trans rfl⟩ (fun hHeld => ?_)
    clear hK K
    refine norm_ (a' := ?_) ?_ ?_
    rotate_left
    · show Act.put _ (some 54) _ = _
      simp only [Act.put, List.setIfInBounds_toArray, List.set_cons_zero, List.set_cons_succ, i64_w, i32_w]
      rfl
    refine pure_ (i := 25) (N := some 55) (v := ?_) (a' := ?_) #[true, true, true, true, true, true, true, true, true, true, true, true, true, true, true, true, true, true, true, true, true, true, true, true, true, true, false, false, false, false, false, false, false, false, false, false, false, false, false, false, false, false] rfl rfl (by kernel_rfl) (fun _ _ _ h => h) (Or.inl ⟨by rfl, ?_⟩) ?_ ?_
    rotate_left
    · intro w'
      go_simp
      with_reducible rfl
    rotate_left
    · simp only [Act.put, List.setIfInBounds_toArray, List.set_cons_zero, List.set_cons_succ, i64_w, i32_w]
      rfl
    refine pure_ (i := 26) (N := some 56) (v := ?_) (a' := ?_) #[true, true, true, true, true, true, true, true, true, true, true, true, true, true, true, true, true, true, true, true, true, true, true, true, true, true, true, false, false, false, false, false, false, false, false, false, false, false, false, false, false, false] rfl rfl (by kernel_rfl) (fun _ _ _ h => h) (Or.inl ⟨by rfl, ?_⟩) ?_ ?_
    rotate_left
    · intro w'
      go_simp
      with_reducible rfl
    rotate_left
    · simp only [Act.put, List.setIfInBounds_toArray, List.set_cons_zero, List.set_cons_succ, i64_w, i32_w]
      rfl
    refine pure_ (i := 27) (N := some 57) (v := ?_) (a' := ?_) #[true, true, true, true, true, true, true, true, true, true, true, true, true, true, true, true, true, true, true, true, true, true, true, true, true, true, true, true, false, false, false, false, false, false, false, false, false, false, false, false, false, false] rfl rfl (by kernel_rfl) (fun _ _ _ h => h) (Or.inl ⟨by rfl, ?_⟩) ?_ ?_
    rotate_left
    · intro w'
      go_simp
      with_reducible rfl
    rotate_left
    · simp only [Act.put, List.setIfInBounds_toArray, List.set_cons_zero, List.set_cons_succ, i64_w, i32_w]
      rfl
    refine take_ (i := 28) (N := some 58) (v := ?_) (a' := ?_) #[true, true, true, true, true, true, true, true, true, true, true, true, true, true, true, true, true, true, true, true, true, true, true, true, true, true, true, true, true, false, false, false, false, false, false, false, false, false, false, false, false, false] rfl rfl (by kernel_rfl) (fun _ _ _ h => h) (Or.inl ⟨by rfl, ?_⟩) hHeld ?_ ?_
    rotate_left
    · rintro w' ⟨s0, s1, s2, s3, s4, s5⟩
      go_simp
      with_reducible rfl
    rotate_left
    · simp only [Act.put, List.setIfInBounds_toArray, List.set_cons_zero, List.set_cons_succ, i64_w, i32_w]
      rfl
    refine take_ (i := 29) (N := some 59) (v := ?_) (a' := ?_) #[true, true, true, true, true, true, true, true, true, true, true, true, true, true, true, true, true, true, true, true, true, true, true, true, true, true, true, true, true, true, false, false, false, false, false, false, false, false, false, false, false, false] rfl rfl (by kernel_rfl) (fun _ _ _ h => h) (Or.inl ⟨by rfl, ?_⟩) hHeld ?_ ?_
    rotate_left
    · rintro w' ⟨s0, s1, s2, s3, s4, s5⟩
      go_simp
      with_reducible rfl
    rotate_left
    · simp only [Act.put, List.setIfInBounds_toArray, List.set_cons_zero, List.set_cons_succ, i64_w, i32_w]
      rfl
    refine take_ (i := 32) (N := some 62) (v := ?_) (a' := ?_) #[true, true, true, true, true, true, true, true, true, true, true, true, true, true, true, true, true, true, true, true, true, true, true, true, true, true, true, true, true, true, false, false, true, false, false, false, false, false, false, false, false, false] rfl rfl (by kernel_rfl) (fun _ _ _ h => h) (Or.inl ⟨by rfl, ?_⟩) hHeld ?_ ?_
    rotate_left
    · rintro w' ⟨s0, s1, s2, s3, s4, s5⟩
      go_simp
      with_reducible rfl
    rotate_left
    · simp only [Act.put, List.setIfInBounds_toArray, List.set_cons_zero, List.set_cons_succ, i64_w, i32_w]
      rfl
    refine take_ (i := 33) (N := some 63) (v := ?_) (a' := ?_) #[true, true, true, true, true, true, true, true, true, true, true, true, true, true, true, true, true, true, true, true, true, true, true, true, true, true, true, true, true, true, false, false, true, true, false, false, false, false, false, false, false, false] rfl rfl (by kernel_rfl) (fun _ _ _ h => h) (Or.inl ⟨by rfl, ?_⟩) hHeld ?_ ?_
    rotate_left
    · rintro w' ⟨s0, s1, s2, s3, s4, s5⟩
      go_simp
      with_reducible rfl
    rotate_left
    · simp only [Act.put, List.setIfInBounds_toArray, List.set_cons_zero, List.set_cons_succ, i64_w, i32_w]
      rfl
    refine join_ (σ := Nat × Nat × Option Addr × Nat × Option Addr × Nat) 7 #[true, true, true, true, true, true, true, true, true, true, true, true, true, true, true, true, true, true, true, true, true, true, true, true, true, true, true, true, true, true, true, true, true, true, true, false, false, false, false, false, false, false] (fun s => [(60, .slice (some ⟨s.1, 0, none⟩) 2 2), (61, .agg #[.slice s.2.2.1 J0.length s.2.2.2.1, .slice s.2.2.2.2.1 J1.length s.2.2.2.2.2]), (64, .slice (some ⟨s.2.1, 0, none⟩) 2 2)]) (fun s w' => Aside0 (Below W.heap.size W w') ∧ Aside0 (Below (((W.alloc (.cells #[.slice A0 ar.length c0, .slice A1 aw.length c1] 45)).alloc (.cells #[.slice A2 br.length c2, .slice A3 bw.length c3] 45)).alloc (.cells #[.slice A4 cr.length c4, .slice A5 cw.length c5] 45)).heap.size (((W.alloc (.cells #[.slice A0 ar.length c0, .slice A1 aw.length c1] 45)).alloc (.cells #[.slice A2 br.length c2, .slice A3 bw.length c3] 45)).alloc (.cells #[.slice A4 cr.length c4, .slice A5 cw.length c5] 45)) w') ∧ Aside0 (w'.heap[s.2.1]? = some (.cells #[.slice A2 br.length c2, .slice A3 bw.length c3, .slice A0 ar.length c0, .slice A1 aw.length c1] 45 (0, 0))) ∧ Aside0 (JFp w' s.2.2.1 s.2.2.2.1 s.2.2.2.2.1 s.2.2.2.2.2 J0 J1)) ?_ ?_
    rotate_left
    · intro hCont
      refine two_ (i := 30) (j := 34) (Ni := some 60) (Nj := some 64) #[true, true, true, true, true, true, true, true, true, true, true, true, true, true, true, true, true, true, true, true, true, true, true, true, true, true, true, true, true, true, true, false, true, true, false, false, false, false, false, false, false, false] #[true, true, true, true, true, true, true, true, true, true, true, true, true, true, true, true, true, true, true, true, true, true, true, true, true, true, true, true, true, true, false, false, true, true, true, false, false, false, false, false, false, false] rfl rfl rfl rfl (by kernel_rfl) (by decide) (by decide) (fun K hK => ?_) (fun K hK => ?_)
      · skip
        refine value_ (w1 := we24.alloc (.cells #[.slice A0 ar.length c0, .slice A1 aw.length c1, .slice A2 br.length c2, .slice A3 bw.length c3] 45)) (v := .slice (some ⟨we24.heap.size, 0, none⟩) 2 2) (by rfl) rfl ?_ ?_
        · go_simp
        have BY30 := Aside0.mk (blk_new we24 (.cells #[.slice A0 ar.length c0, .slice A1 aw.length c1, .slice A2 br.length c2, .slice A3 bw.length c3] 45))
        have HBf30 := Aside0.mk (below_alloc HBe24.out (.cells #[.slice A0 ar.length c0, .slice A1 aw.length c1, .slice A2 br.length c2, .slice A3 bw.length c3] 45))
        have HTf30 := Aside0.mk (below_alloc HTe24.out (.cells #[.slice A0 ar.length c0, .slice A1 aw.length c1, .slice A2 br.length c2, .slice A3 bw.length c3] 45))
        generalize hA_ : we24.alloc (.cells #[.slice A0 ar.length c0, .slice A1 aw.length c1, .slice A2 br.length c2, .slice A3 bw.length c3] 45) = wf30 at BY30 HBf30 HTf30  ⊢
        clear hA_
        refine hK.out _ _ ⟨(blk_cell (blk_below BA.out HTf30.out) 0).trans rfl, (blk_cell (blk_below BA.out HTf30.out) 1).trans rfl, (blk_cell (blk_below BB.out HTf30.out) 0).trans rfl, (blk_cell (blk_below BB.out HTf30.out) 1).trans rfl, (blk_cell (blk_below BC.out HTf30.out) 0).trans rfl, (blk_cell (blk_below BC.out HTf30.out) 1).trans rfl⟩ (fun hHeld => ?_)
        clear hK K
        refine norm_ (a' := ?_) ?_ ?_
        rotate_left
        · show Act.put _ (some 60) _ = _
          simp only [Act.put, List.setIfInBounds_toArray, List.set_cons_zero, List.set_cons_succ, i64_w, i32_w]
          rfl
        refine two_ (i := 31) (j := 34) (Ni := some 61) (Nj := some 64) #[true, true, true, true, true, true, true, true, true, true, true, true, true, true, true, true, true, true, true, true, true, true, true, true, true, true, true, true, true, true, true, true, true, true, false, false, false, false, false, false, false, false] #[true, true, true, true, true, true, true, true, true, true, true, true, true, true, true, true, true, true, true, true, true, true, true, true, true, true, true, true, true, true, true, false, true, true, true, false, false, false, false, false, false, false] rfl rfl rfl rfl (by kernel_rfl) (by decide) (by decide) (fun K hK => ?_) (fun K hK => ?_)
        · skip
          refine goes_ Try.func23 (by kernel_rfl) rfl #[.slice (some ⟨we24.heap.size, 0, none⟩) 2 2] (by rfl) rfl rfl (by simp only [List.map_toArray, List.map_cons, List.map_nil]; rfl) ?_
          with_reducible refine (JC.out _ _ HTf30.out BY30.out).mono ?_
          rintro e wf31 ⟨Aj, cj, Ak, ck, rfl, jf, hb⟩
          refine ⟨_, rfl, ?_⟩
          have HBf31 := Aside0.mk (below_inL HBf30.out hb)
          have HTf31 := Aside0.mk (below_inL HTf30.out hb)
          have JF := Aside0.mk jf
          clear hb jf BY30
          refine hK.out _ _ ⟨(blk_cell (blk_below BA.out HTf31.out) 0).trans rfl, (blk_cell (blk_below BA.out HTf31.out) 1).trans rfl, (blk_cell (blk_below BB.out HTf31.out) 0).trans rfl, (blk_cell (blk_below BB.out HTf31.out) 1).trans rfl, (blk_cell (blk_below BC.out HTf31.out) 0).trans rfl, (blk_cell (blk_below BC.out HTf31.out) 1).trans rfl⟩ (fun hHeld => ?_)
          clear hK K
          refine norm_ (a' := ?_) ?_ ?_
          rotate_left
          · show Act.put _ (some 61) _ = _
            simp only [Act.put, List.setIfInBounds_toArray, List.set_cons_zero, List.set_cons_succ, i64_w, i32_w]
            rfl
          refine one_ (i := 34) (N := some 64) #[true, true, true, true, true, true, true, true, true, true, true, true, true, true, true, true, true, true, true, true, true, true, true, true, true, true, true, true, true, true, true, true, true, true, true, false, false, false, false, false, false, false] rfl rfl (by kernel_rfl) (by decide) (fun K hK => ?_)
          refine value_ (w1 := wf31.alloc (.cells #[.slice A2 br.length c2, .slice A3 bw.length c3, .slice A0 ar.length c0, .slice A1 aw.length c1] 45)) (v := .slice (some ⟨wf31.heap.size, 0, none⟩) 2 2) (by rfl) rfl ?_ ?_
          · go_simp
          have BY34 := Aside0.mk (blk_new wf31 (.cells #[.slice A2 br.length c2, .slice A3 bw.length c3, .slice A0 ar.length c0, .slice A1 aw.length c1] 45))
          have HBf34 := Aside0.mk (below_alloc HBf31.out (.cells #[.slice A2 br.length c2, .slice A3 bw.length c3, .slice A0 ar.length c0, .slice A1 aw.length c1] 45))
          have HTf34 := Aside0.mk (below_alloc HTf31.out (.cells #[.slice A2 br.length c2, .slice A3 bw.length c3, .slice A0 ar.length c0, .slice A1 aw.length c1] 45))
          replace JF := Aside0.mk (jf_alloc JF.out (.cells #[.slice A2 br.length c2, .slice A3 bw.length c3, .slice A0 ar.length c0, .slice A1 aw.length c1] 45))
          generalize hA_ : wf31.alloc (.cells #[.slice A2 br.length c2, .slice A3 bw.length c3, .slice A0 ar.length c0, .slice A1 aw.length c1] 45) = wf34 at BY34 HBf34 HTf34 JF ⊢
          clear hA_
          refine hK.out _ _ ⟨(blk_cell (blk_below BA.out HTf34.out) 0).trans rfl, (blk_cell (blk_below BA.out HTf34.out) 1).trans rfl, (blk_cell (blk_below BB.out HTf34.out) 0).trans rfl, (blk_cell (blk_below BB.out HTf34.out) 1).trans rfl, (blk_cell (blk_below BC.out HTf34.out) 0).trans rfl, (blk_cell (blk_below BC.out HTf34.out) 1).trans rfl⟩ (fun hHeld => ?_)
          clear hK K
          refine norm_ (a' := ?_) ?_ ?_
          rotate_left
          · show Act.put _ (some 64) _ = _
            simp only [Act.put, List.setIfInBounds_toArray, List.set_cons_zero, List.set_cons_succ, i64_w, i32_w]
            rfl
          exact norm_ (by simp only [putAll, Act.put, List.setIfInBounds_toArray, List.set_cons_zero, List.set_cons_succ]) (hCont (we24.heap.size, wf31.heap.size, Aj, cj, Ak, ck) _ ⟨HBf34, HTf34, BY34, JF⟩)
        · skip
          refine value_ (w1 := wf30.alloc (.cells #[.slice A2 br.length c2, .slice A3 bw.length c3, .slice A0 ar.length c0, .slice A1 aw.length c1] 45)) (v := .slice (some ⟨wf30.heap.size, 0, none⟩) 2 2) (by rfl) rfl ?_ ?_
          · go_simp
          have BY34 := Aside0.mk (blk_new wf30 (.cells #[.slice A2 br.length c2, .slice A3 bw.length c3, .slice A0 ar.length c0, .slice A1 aw.length c1] 45))
          have HBf34 := Aside0.mk (below_alloc HBf30.out (.cells #[.slice A2 br.length c2, .slice A3 bw.length c3, .slice A0 ar.length c0, .slice A1 aw.length c1] 45))
          have HTf34 := Aside0.mk (below_alloc HTf30.out (.cells #[.slice A2 br.length c2, .slice A3 bw.length c3, .slice A0 ar.length c0, .slice A1 aw.length c1] 45))
          replace BY30 := Aside0.mk (blk_alloc BY30.out (.cells #[.slice A2 br.length c2, .slice A3 bw.length c3, .slice A0 ar.length c0, .slice A1 aw.length c1] 45))
          generalize hA_ : wf30.alloc (.cells #[.slice A2 br.length c2, .slice A3 bw.length c3, .slice A0 ar.length c0, .slice A1 aw.length c1] 45) = wf34 at BY34 HBf34 HTf34 BY30 ⊢
          clear hA_
          refine hK.out _ _ ⟨(blk_cell (blk_below BA.out HTf34.out) 0).trans rfl, (blk_cell (blk_below BA.out HTf34.out) 1).trans rfl, (blk_cell (blk_below BB.out HTf34.out) 0).trans rfl, (blk_cell (blk_below BB.out HTf34.out) 1).trans rfl, (blk_cell (blk_below BC.out HTf34.out) 0).trans rfl, (blk_cell (blk_below BC.out HTf34.out) 1).trans rfl⟩ (fun hHeld => ?_)
          clear hK K
          refine norm_ (a' := ?_) ?_ ?_
          rotate_left
          · show Act.put _ (some 64) _ = _
            simp only [Act.put, List.setIfInBounds_toArray, List.set_cons_zero, List.set_cons_succ, i64_w, i32_w]
            rfl
          refine one_ (i := 31) (N := some 61) #[true, true, true, true, true, true, true, true, true, true, true, true, true, true, true, true, true, true, true, true, true, true, true, true, true, true, true, true, true, true, true, true, true, true, true, false, false, false, false, false, false, false] rfl rfl (by kernel_rfl) (by decide) (fun K hK => ?_)
          refine goes_ Try.func23 (by kernel_rfl) rfl #[.slice (some ⟨we24.heap.size, 0, none⟩) 2 2] (by rfl) rfl rfl (by simp only [List.map_toArray, List.map_cons, List.map_nil]; rfl) ?_
          with_reducible refine (JC.out _ _ HTf34.out BY30.out).mono ?_
          rintro e wf31 ⟨Aj, cj, Ak, ck, rfl, jf, hb⟩
          refine ⟨_, rfl, ?_⟩
          replace BY34 := Aside0.mk (blk_below BY34.out hb)
          have HBf31 := Aside0.mk (below_inL HBf34.out hb)
          have HTf31 := Aside0.mk (below_inL HTf34.out hb)
          have JF := Aside0.mk jf
          clear hb jf BY30
          refine hK.out _ _ ⟨(blk_cell (blk_below BA.out HTf31.out) 0).trans rfl, (blk_cell (blk_below BA.out HTf31.out) 1).trans rfl, (blk_cell (blk_below BB.out HTf31.out) 0).trans rfl, (blk_cell (blk_below BB.out HTf31.out) 1).trans rfl, (blk_cell (blk_below BC.out HTf31.out) 0).trans rfl, (blk_cell (blk_below BC.out HTf31.out) 1).trans rfl⟩ (fun hHeld => ?_)
          clear hK K
          refine norm_ (a' := ?_) ?_ ?_
          rotate_left
          · show Act.put _ (some 61) _ = _
            simp only [Act.put, List.setIfInBounds_toArray, List.set_cons_zero, List.set_cons_succ, i64_w, i32_w]
            rfl
          exact norm_ (by simp only [putAll, Act.put, List.setIfInBounds_toArray, List.set_cons_zero, List.set_cons_succ]) (hCont (we24.heap.size, wf30.heap.size, Aj, cj, Ak, ck) _ ⟨HBf31, HTf31, BY34, JF⟩)
      · skip
        refine value_ (w1 := we24.alloc (.cells #[.slice A2 br.length c2, .slice A3 bw.length c3, .slice A0 ar.length c0, .slice A1 aw.length c1] 45)) (v := .slice (some ⟨we24.heap.size, 0, none⟩) 2 2) (by rfl) rfl ?_ ?_
        · go_simp
        have BY34 := Aside0.mk (blk_new we24 (.cells #[.slice A2 br.length c2, .slice A3 bw.length c3, .slice A0 ar.length c0, .slice A1 aw.length c1] 45))
        have HBf34 := Aside0.mk (below_alloc HBe24.out (.cells #[.slice A2 br.length c2, .slice A3 bw.length c3, .slice A0 ar.length c0, .slice A1 aw.length c1] 45))
        have HTf34 := Aside0.mk (below_alloc HTe24.out (.cells #[.slice A2 br.length c2, .slice A3 bw.length c3, .slice A0 ar.length c0, .slice A1 aw.length c1] 45))
        generalize hA_ : we24.alloc (.cells #[.slice A2 br.length c2, .slice A3 bw.length c3, .slice A0 ar.length c0, .slice A1 aw.length c1] 45) = wf34 at BY34 HBf34 HTf34  ⊢
        clear hA_
        refine hK.out _ _ ⟨(blk_cell (blk_below BA.out HTf34.out) 0).trans rfl, (blk_cell (blk_below BA.out HTf34.out) 1).trans rfl, (blk_cell (blk_below BB.out HTf34.out) 0).trans rfl, (blk_cell (blk_below BB.out HTf34.out) 1).trans rfl, (blk_cell (blk_below BC.out HTf34.out) 0).trans rfl, (blk_cell (blk_below BC.out HTf34.out) 1).trans rfl⟩ (fun hHeld => ?_)
        clear hK K
        refine norm_ (a' := ?_) ?_ ?_
        rotate_left
        · show Act.put _ (some 64) _ = _
          simp only [Act.put, List.setIfInBounds_toArray, List.set_cons_zero, List.set_cons_succ, i64_w, i32_w]
          rfl
        refine one_ (i := 30) (N := some 60) #[true, true, true, true, true, true, true, true, true, true, true, true, true, true, true, true, true, true, true, true, true, true, true, true, true, true, true, true, true, true, true, false, true, true, true, false, false, false, false, false, false, false] rfl rfl (by kernel_rfl) (by decide) (fun K hK => ?_)
        refine value_ (w1 := wf34.alloc (.cells #[.slice A0 ar.length c0, .slice A1 aw.length c1, .slice A2 br.length c2, .slice A3 bw.length c3] 45)) (v := .slice (some ⟨wf34.heap.size, 0, none⟩) 2 2) (by rfl) rfl ?_ ?_
        · go_simp
        have BY30 := Aside0.mk (blk_new wf34 (.cells #[.slice A0 ar.length c0, .slice A1 aw.length c1, .slice A2 br.length c2, .slice A3 bw.length c3] 45))
        have HBf30 := Aside0.mk (below_alloc HBf34.out (.cells #[.slice A0 ar.length c0, .slice A1 aw.length c1, .slice A2 br.length c2, .slice A3 bw.length c3] 45))
        have HTf30 := Aside0.mk (below_alloc HTf34.out (.cells #[.slice A0 ar.length c0, .slice A1 aw.length c1, .slice A2 br.length c2, .slice A3 bw.length c3] 45))
        replace BY34 := Aside0.mk (blk_alloc BY34.out (.cells #[.slice A0 ar.length c0, .slice A1 aw.length c1, .slice A2 br.length c2, .slice A3 bw.length c3] 45))
        generalize hA_ : wf34.alloc (.cells #[.slice A0 ar.length c0, .slice A1 aw.length c1, .slice A2 br.length c2, .slice A3 bw.length c3] 45) = wf30 at BY30 HBf30 HTf30 BY34 ⊢
        clear hA_
        refine hK.out _ _ ⟨(blk_cell (blk_below BA.out HTf30.out) 0).trans rfl, (blk_cell (blk_below BA.out HTf30.out) 1).trans rfl, (blk_cell (blk_below BB.out HTf30.out) 0).trans rfl, (blk_cell (blk_below BB.out HTf30.out) 1).trans rfl, (blk_cell (blk_below BC.out HTf30.out) 0).trans rfl, (blk_cell (blk_below BC.out HTf30.out) 1).trans rfl⟩ (fun hHeld => ?_)
        clear hK K
        refine norm_ (a' := ?_) ?_ ?_
        rotate_left
        · show Act.put _ (some 60) _ = _
          simp only [Act.put, List.setIfInBounds_toArray, List.set_cons_zero, List.set_cons_succ, i64_w, i32_w]
          rfl
        refine one_ (i := 31) (N := some 61) #[true, true, true, true, true, true, true, true, true, true, true, true, true, true, true, true, true, true, true, true, true, true, true, true, true, true, true, true, true, true, true, true, true, true, true, false, false, false, false, false, false, false] rfl rfl (by kernel_rfl) (by decide) (fun K hK => ?_)
        refine goes_ Try.func23 (by kernel_rfl) rfl #[.slice (some ⟨wf34.heap.size, 0, none⟩) 2 2] (by rfl) rfl rfl (by simp only [List.map_toArray, List.map_cons, List.map_nil]; rfl) ?_
        with_reducible refine (JC.out _ _ HTf30.out BY30.out).mono ?_
        rintro e wf31 ⟨Aj, cj, Ak, ck, rfl, jf, hb⟩
        refine ⟨_, rfl, ?_⟩
        replace BY34 := Aside0.mk (blk_below BY34.out hb)
        have HBf31 := Aside0.mk (below_inL HBf30.out hb)
        have HTf31 := Aside0.mk (below_inL HTf30.out hb)
        have JF := Aside0.mk jf
        clear hb jf BY30
        refine hK.out _ _ ⟨(blk_cell (blk_below BA.out HTf31.out) 0).trans rfl, (blk_cell (blk_below BA.out HTf31.out) 1).trans rfl, (blk_cell (blk_below BB.out HTf31.out) 0).trans rfl, (blk_cell (blk_below BB.out HTf31.out) 1).trans rfl, (blk_cell (blk_below BC.out HTf31.out) 0).trans rfl, (blk_cell (blk_below BC.out HTf31.out) 1).trans rfl⟩ (fun hHeld => ?_)
        clear hK K
        refine norm_ (a' := ?_) ?_ ?_
        rotate_left
        · show Act.put _ (some 61) _ = _
          simp only [Act.put, List.setIfInBounds_toArray, List.set_cons_zero, List.set_cons_succ, i64_w, i32_w]
          rfl
        exact norm_ (by simp only [putAll, Act.put, List.setIfInBounds_toArray, List.set_cons_zero, List.set_cons_succ]) (hCont (wf34.heap.size, we24.heap.size, Aj, cj, Ak, ck) _ ⟨HBf31, HTf31, BY34, JF⟩)
    rintro ⟨b1, b2, Aj, cj, Ak, ck⟩ wo ⟨HBo, HTo, BY, JF⟩
    have hHeld : wo.cell? ⟨W.heap.size, 0, none⟩ = some (.slice A0 ar.length c0) ∧ wo.cell? ⟨W.heap.size, 1, none⟩ = some (.slice A1 aw.length c1) ∧ wo.cell? ⟨W.heap.size + 1, 0, none⟩ = some (.slice A2 br.length c2) ∧ wo.cell? ⟨W.heap.size + 1, 1, none⟩ = some (.slice A3 bw.length c3) ∧ wo.cell? ⟨W.heap.size + 1 + 1, 0, none⟩ = some (.slice A4 cr.length c4) ∧ wo.cell? ⟨W.heap.size + 1 + 1, 1, none⟩ = some (.slice A5 cw.length c5) := ⟨(blk_cell (blk_below BA.out HTo.out) 0).trans rfl, (blk_cell (blk_below BA.out HTo.out) 1).trans rfl, (blk_cell (blk_below BB.out HTo.out) 0).trans rfl, (blk_cell (blk_below BB.out HTo.out) 1).trans rfl, (blk_cell (blk_below BC.out HTo.out) 0).trans rfl, (blk_cell (blk_below BC.out HTo.out) 1).trans rfl⟩
    refine norm_ (a' := ?_) ?_ ?_
    rotate_left
    · simp only [putAll, Act.put, List.setIfInBounds_toArray, List.set_cons_zero, List.set_cons_succ]
      rfl
    refine one_ (i := 35) (N := some 65) #[true, true, true, true, true, true, true, true, true, true, true, true, true, true, true, true, true, true, true, true, true, true, true, true, true, true, true, true, true, true, true, true, true, true, true, true, false, false, false, false, false, false] rfl rfl (by kernel_rfl) (by decide) (fun K hK => ?_)
    refine goes_ Try.func23 (by kernel_rfl) rfl #[.slice (some ⟨b2, 0, none⟩) 2 2] (by rfl) rfl rfl (by simp only [List.map_toArray, List.map_cons, List.map_nil]; rfl) ?_
    with_reducible refine (JD.out _ _ HTo.out BY.out).mono ?_
    rintro e we35 ⟨Al, cl, Am, cm, rfl, jf, hb⟩
    refine ⟨_, rfl, ?_⟩
    replace JF := Aside0.mk (jf_below JF.out hb)
    have HBe35 := Aside0.mk (below_inL HBo.out hb)
    have HTe35 := Aside0.mk (below_inL HTo.out hb)
    clear hb
    have KF := Aside0.mk jf
    clear jf BY
    refine hK.out _ _ ⟨(blk_cell (blk_below BA.out HTe35.out) 0).trans rfl, (blk_cell (blk_below BA.out HTe35.out) 1).trans rfl, (blk_cell (blk_below BB.out HTe35.out) 0).trans rfl, (blk_cell (blk_below BB.out HTe35.out) 1).trans rfl, (blk_cell (blk_below BC.out HTe35.out) 0).trans rfl, (blk_cell (blk_below BC.out HTe35.out) 1).trans rfl⟩ (fun hHeld => ?_)
    clear hK K
    refine norm_ (a' := ?_) ?_ ?_
    rotate_left
    · show Act.put _ (some 65) _ = _
      simp only [Act.put, List.setIfInBounds_toArray, List.set_cons_zero, List.set_cons_succ, i64_w, i32_w]
      rfl
    refine one_ (i := 36) (N := some 66) #[true, true, true, true, true, true, true, true, true, true, true, true, true, true, true, true, true, true, true, true, true, true, true, true, true, true, true, true, true, true, true, true, true, true, true, true, true, false, false, false, false, false] rfl rfl (by kernel_rfl) (by decide) (fun K hK => ?_)
    refine goes_ Try.func16 (by kernel_rfl) rfl #[.agg #[.slice Aj J0.length cj, .slice Ak J1.length ck], .agg #[.slice Al J0.length cl, .slice Am J1.length cm]] (by rfl) rfl rfl (by simp only [List.map_toArray, List.map_cons, List.map_nil]; rfl) ?_
    with_reducible refine (SJ.out _ _ _ _ _ _ _ _ _ JF.out KF.out).mono ?_
    rintro e we36 ⟨rfl, hb⟩
    refine ⟨_, rfl, ?_⟩
    have HBe36 := Aside0.mk (below_inL HBe35.out hb)
    have HTe36 := Aside0.mk (below_inL HTe35.out hb)
    clear hb
    clear JF KF
    refine hK.out _ _ ⟨(blk_cell (blk_below BA.out HTe36.out) 0).trans rfl, (blk_cell (blk_below BA.out HTe36.out) 1).trans rfl, (blk_cell (blk_below BB.out HTe36.out) 0).trans rfl, (blk_cell (blk_below BB.out HTe36.out) 1).trans rfl, (blk_cell (blk_below BC.out HTe36.out) 0).trans rfl, (blk_cell (blk_below BC.out HTe36.out) 1).trans rfl⟩ (fun hHeld => ?_)
    clear hK K
    refine norm_ (a' := ?_) ?_ ?_
    rotate_left
    · show Act.put _ (some 66) _ = _
      simp only [Act.put, List.setIfInBounds_toArray, List.set_cons_zero, List.set_cons_succ, i64_w, i32_w]
      rfl
    refine pure_ (i := 37) (N := some 67) (v := ?_) (a' := ?_) #[true, true, true, true, true, true, true, true, true, true, true, true, true, true, true, true, true, true, true, true, true, true, true, true, true, true, true, true, true, true, true, true, true, true, true, true, true, true, false, false, false, false] rfl rfl (by kernel_rfl) (fun _ _ _ h => h) (Or.inl ⟨by rfl, ?_⟩) ?_ ?_
    rotate_left
    · intro w'
      go_simp
      with_reducible rfl
    rotate_left
    · simp only [Act.put, List.setIfInBounds_toArray, List.set_cons_zero, List.set_cons_succ, i64_w, i32_w]
      rfl
    refine pure_ (i := 38) (N := some 68) (v := ?_) (a' := ?_) #[true, true, true, true, true, true, true, true, true, true, true, true, true, true, true, true, true, true, true, true, true, true, true, true, true, true, true, true, true, true, true, true, true, true, true, true, true, true, true, false, false, false] rfl rfl (by kernel_rfl) (fun _ _ _ h => h) (Or.inl ⟨by rfl, ?_⟩) ?_ ?_
    rotate_left
    · intro w'
      go_simp
      with_reducible rfl
    rotate_left
    · simp only [Act.put, List.setIfInBounds_toArray, List.set_cons_zero, List.set_cons_succ, i64_w, i32_w]
      rfl
    refine one_ (i := 39) (N := some 69) #[true, true, true, true, true, true, true, true, true, true, true, true, true, true, true, true, true, true, true, true, true, true, true, true, true, true, true, true, true, true, true, true, true, true, true, true, true, true, true, true, false, false] rfl rfl (by kernel_rfl) (by decide) (fun K hK => ?_)
    refine goes_ Try.func8 (by kernel_rfl) rfl #[] (by rfl) rfl rfl (by first | (simp only [List.map_toArray, List.map_nil]; done) | (simp only [List.map_toArray, List.map_nil]; rfl)) ?_
    with_reducible refine (LIVE.out _).mono ?_
    rintro e we39 ⟨rfl, hb⟩
    refine ⟨_, rfl, ?_⟩
    have HBe39 := Aside0.mk (below_inL HBe36.out hb)
    have HTe39 := Aside0.mk (below_inL HTe36.out hb)
    clear hb
    refine hK.out _ _ ⟨(blk_cell (blk_below BA.out HTe39.out) 0).trans rfl, (blk_cell (blk_below BA.out HTe39.out) 1).trans rfl, (blk_cell (blk_below BB.out HTe39.out) 0).trans rfl, (blk_cell (blk_below BB.out HTe39.out) 1).trans rfl, (blk_cell (blk_below BC.out HTe39.out) 0).trans rfl, (blk_cell (blk_below BC.out HTe39.out) 1).trans rfl⟩ (fun hHeld => ?_)
    clear hK K
    refine norm_ (a' := ?_) ?_ ?_
    rotate_left
    · show Act.put _ (some 69) _ = _
      simp only [Act.put, List.setIfInBounds_toArray, List.set_cons_zero, List.set_cons_succ, i64_w, i32_w]
      rfl
    refine pure_ (i := 40) (N := some 70) (v := ?_) (a' := ?_) #[true, true, true, true, true, true, true, true, true, true, true, true, true, true, true, true, true, true, true, true, true, true, true, true, true, true, true, true, true, true, true, true, true, true, true, true, true, true, true, true, true, false] rfl rfl (by kernel_rfl) (fun _ _ _ h => h) (Or.inl ⟨by rfl, ?_⟩) ?_ ?_
    rotate_left
    · intro w'
      go_simp
      with_reducible rfl
    rotate_left
    · simp only [Act.put, List.setIfInBounds_toArray, List.set_cons_zero, List.set_cons_succ, i64_w, i32_w]
      rfl
    refine pure_ (i := 41) (N := some 6) (v := ?_) (a' := ?_) #[true, true, true, true, true, true, true, true, true, true, true, true, true, true, true, true, true, true, true, true, true, true, true, true, true, true, true, true, true, true, true, true, true, true, true, true, true, true, true, true, true, true] rfl rfl (by kernel_rfl) (fun _ _ _ h => h) (Or.inl ⟨by rfl, ?_⟩) ?_ ?_
    rotate_left
    · intro w'
      go_simp
      with_reducible rfl
    rotate_left
    · simp only [Act.put, List.setIfInBounds_toArray, List.set_cons_zero, List.set_cons_succ, i64_w, i32_w]
      rfl
    refine done_ (by kernel_rfl) ?_
    go_wp2
    go_ret
    exact ⟨rfl, HBe39.out⟩
end
end Go.Proofs.Ytkanhnhagjopkaa.M

