/-
  Texts of the proofs of MemWords, cut to what the proofs reach and packed by a program of this session (wip/packs.py). Each part begins with what it says; conditions: those told there.
-/
import Derived.Test.YtkanhnhagjopkaaPSB1n1
import Derived.Test.YtkanhnhagjopkaaPSB2n1
-- lines of print.sh's words, cut to what these proofs reach by a program of this session
/-! ### 45. What a call keeps: all but the blocks of S (the rows that it was given to write) and what is new since -/
namespace Go.Proofs.YtkanhnhagjopkaaW.PrintWords
open Go.RowKit
section
variable {w W W2 : World} {S S2 S' : Nat → Prop}
end
namespace Kd
section
variable {α : Type} {d : Kd α} {e base n c : Nat} {ok oki S S2 : Nat → Prop} {w w0 W W1 W2 : World} {v : Value} {A : Option Addr} {xs : List α} {i : Int} {cs : List Value}
theorem R_kept (h : d.R e W base ok v xs) (hk : Kept W W2 S) (hne : ∀ k, ok k → ¬ S k) : d.R e W2 base ok v xs := R_step h (fun k ho hlt => hk.2 k hlt (hne k ho))
end
end Kd
end Go.Proofs.YtkanhnhagjopkaaW.PrintWords

/-
  Layer 2, plain: rising lists of numbers: one more put in, two with the same members are one. No condition.
-/
namespace Go.Proofs.Ytkanhnhagjopkaa.M
set_option linter.unusedVariables false
theorem up_ext : ∀ (l m : List Int), Up l → Up m → (∀ x, x ∈ l ↔ x ∈ m) → l = m
  | [], [], _, _, _ => rfl
  | [], y :: m, _, _, h => by have := (h y).2 (by simp); cases this
  | x :: l, [], _, _, h => by have := (h x).1 (by simp); cases this
  | x :: l, y :: m, hl, hm, h => by
    obtain ⟨l1, l2⟩ := List.pairwise_cons.1 hl
    obtain ⟨m1, m2⟩ := List.pairwise_cons.1 hm
    have e : x = y := by
      have a := (h x).1 (by simp)
      have b := (h y).2 (by simp)
      rcases List.mem_cons.1 a with a | a
      · exact a
      · rcases List.mem_cons.1 b with b | b
        · exact b.symm
        · have := m1 x a; have := l1 y b; omega
    subst e
    rw [up_ext l m l2 m2 fun z => ?_]
    constructor
    · intro hz
      rcases List.mem_cons.1 ((h z).1 (by simp [hz])) with e | e
      · have := l1 z hz; omega
      · exact e
    · intro hz
      rcases List.mem_cons.1 ((h z).2 (by simp [hz])) with e | e
      · have := m1 z hz; omega
      · exact e
end Go.Proofs.Ytkanhnhagjopkaa.M

/-
  Layer 2: Words and Foot of a memory: the walks. Conditions: a memory that may be.
-/
namespace Go.Proofs.Ytkanhnhagjopkaa.M
open Go.RowKit Go.Proofs.YtkanhnhagjopkaaW.PrintWords Go.Proofs.YtkanhnhagjopkaaW.PrintLast Go.Proofs.Ytkanhnhagjopkaa.Num
set_option linter.unusedVariables false
set_option linter.unusedSimpArgs false
def wordsF (l : List S27) (n : Int) : List Int := if n < 0 then [] else if (l.length : Int) ≤ n then [] else (rd_T27 l n).f1
section
variable {O : Nat → Prop} {w W : World} {pb r q : Nat} {vr : Value} {xs ys : List Int} {l : List S27}
set_option maxHeartbeats 4000000 in
theorem words_c (H : MemG O w W pb r q vr xs ys l) (G : ∀ o ∈ l, goodR o) (hm : l.length ≤ 1000) (n : Int) :
    Calls Try.prog 18 #[.pointer (some ⟨pb, 0, none⟩), .int .i64 n] W fun e w' => ∃ (A' : Option Addr) (c' : Nat), e = .returned (.slice A' (wordsF l n).length c') ∧ Kd.R (Kd.int .i64) 2 w' W.heap.size (fun _ => True) (.slice A' (wordsF l n).length c') (wordsF l n) ∧ Below W.heap.size W w' := by
  obtain ⟨A, c, rfl⟩ := Kd.S_slice H.reg
  obtain ⟨hC, -, hcc⟩ := C_of_S H.reg
  have hcc' : (l.length : Int) ≤ (c : Int) := by omega
  have k2 : W.cell? ⟨pb, 2, none⟩ = some (.slice A l.length c) := (blk_cell H.tch.blk 2).trans rfl
  unfold wordsF
  by_cases h0 : n < 0
  case pos =>
    clear H G hC hcc hcc' k2
    rw [if_pos h0]
    go_enter Try.func18, Try.ntmps18
    go_wp2
    go_ret
    exact ⟨none, 0, rfl, Kd.R_nil _ _ _ _ _, Below.refl _ _⟩
  by_cases h1 : (l.length : Int) ≤ n
  case pos =>
    clear H G hC hcc
    rw [if_neg h0, if_pos h1]
    go_enter Try.func18, Try.ntmps18
    go_wp2
    go_ret
    exact ⟨none, 0, rfl, Kd.R_nil _ _ _ _ _, Below.refl _ _⟩
  rw [if_neg h0, if_neg h1]
  obtain ⟨ad, A1, c1, e, hx0, hx1, hx2, k1, r1⟩ := at_T27 hC n (by omega) (by omega)
  cases e
  have C := Aside0.mk (clone_c (c := c1) r1 (by
    have hg : goodR (rd_T27 l n) := by
      have e : n = ((n.toNat : Nat) : Int) := by omega
      rw [e, rd27_at l n.toNat (by omega)]
      exact G _ (List.getElem_mem _)
    have := hg.2.2.2
    omega))
  have h2 : (n : Int) < (l.length : Int) := by omega
  generalize rd_T27 l n = o at *
  clear H G hC hcc r1
  go_enter Try.func18, Try.ntmps18
  go_wp2_with (first | (go_at_call 31; (with_reducible refine C.out.mono ?_); rintro e w1 ⟨A', c', rfl, hr, hb⟩; have HR := Aside0.mk hr; have HB := Aside0.mk hb; clear hr hb))
  go_ret
  exact ⟨A', c', rfl, HR.out, HB.out⟩
end
end Go.Proofs.Ytkanhnhagjopkaa.M

/-
  Layer 2: arguments: footprints, regions, a case, calls, as the reader reads them. No condition.
-/
namespace Go.Proofs.Ytkanhnhagjopkaa.M
open Go.RowKit Go.Proofs.YtkanhnhagjopkaaW.PrintWords Go.Proofs.Ytkanhnhagjopkaa.Num Go.Proofs.Ytkanhnhagjopkaa.Flat
open Go.ChangeShapes Go.WideShapes Go.Deep
open Go.ChangeMaps (open_string shut_string)
set_option linter.unusedVariables false
set_option maxRecDepth 100000
set_option linter.unusedSimpArgs false
section
variable {H : Type} {enc : TypeId × Value → H} {P : Program} {W : World} {spare : Nat → Bool} {held : Bool}
end
section
variable {H : Type} {enc : TypeId × Value → H} {P : Program} {W : World} {spare : Nat → Bool} {held : Bool}
end
theorem open_regions {H : Type} {enc : TypeId × Value → H} {W : World} {spare : Nat → Bool} {held : Bool} {r : Reach} {b0 : Nat} {v : Value} {d : DataW H} {p : List MemPlace} (hv : Value.okWide Try.prog W r b0 22 v) (h : DataW.Trod enc Try.prog W 0 spare held 22 v d p)
    (hz : ∀ z ∈ d.weights Try.prog 22, z ≤ reachBytes) : ∃ A c l0, v = .slice A l0.length c ∧ Kd.C k27 W A l0.length l0 ∧ l0.length ≤ c ∧ l0.length * 40 ≤ 140737488351232 ∧ ∀ x ∈ l0, RegOk x := by
  obtain ⟨a, len, cap, rfl⟩ := okWide_slice Try.underlying22 hv
  obtain ⟨fuel, hf⟩ := h
  have hf' : DataW.trod enc Try.prog W 0 spare held fuel 22 [.slice a len cap] = some (d, p) := by simpa [Value.cells] using hf
  exact open_regs hf' hz
end Go.Proofs.Ytkanhnhagjopkaa.M

/-
  Layer 2: MemWords: plain, and the walk. Conditions: lengths that any memory can hold, numbers of 64 bits.
-/
namespace Go.Proofs.Ytkanhnhagjopkaa.M
open Go.RowKit Go.Proofs.YtkanhnhagjopkaaW.PrintWords Go.Proofs.YtkanhnhagjopkaaW.PrintLast Go.Proofs.Ytkanhnhagjopkaa.Num
set_option linter.unusedVariables false
set_option linter.unusedSimpArgs false
theorem mayF_apart : ∀ (l d : List S27), mayF d l = true → ∀ i, (hi : i < l.length) → (d ++ l.take i).any (meetsR l[i]) = false
  | [], d, _, i, hi => by simp at hi
  | r :: l, d, h, 0, hi => by
    unfold mayF at h
    simp only [Bool.and_eq_true, Bool.not_eq_true'] at h
    simpa using h.1.2
  | r :: l, d, h, i + 1, hi => by
    unfold mayF at h
    simp only [Bool.and_eq_true] at h
    have := mayF_apart l (d ++ [r]) h.2 i (by simpa using hi)
    simpa using this
theorem apart_of {l : List S27} (h : newOk l = true) {i k : Nat} (hk : k < i) (hi : i < l.length) : meetsR l[i] l[k] = false := by
  unfold newOk at h
  simp only [Bool.and_eq_true] at h
  have := mayF_apart l [] h.2 i hi
  rw [List.nil_append, List.any_eq_false] at this
  have h2 := this l[k] (List.mem_take_iff_getElem.2 ⟨k, by omega, rfl⟩)
  simpa using h2
theorem find_word {l : List S27} (h : newOk l = true) {r i : Nat} (hr : r < l.length) (hi : i < (rd_T27 l r).f1.length) : findI l ((rd_T27 l r).f0 + 8 * (i : Int)) = some r ∧ nth l r ((rd_T27 l r).f0 + 8 * (i : Int)) = i := by
  obtain ⟨G, _⟩ := newOk_good h
  have hg := G l[r] (List.getElem_mem hr)
  rw [rd27_at l r hr] at hi ⊢
  constructor
  · refine find_some ?_ hr ?_ (fun j hj hjr => ?_)
    · unfold goodR at hg
      unfold okA
      simp only [Bool.and_eq_true, decide_eq_true_eq]
      omega
    · unfold inR
      simp only [Bool.and_eq_true, decide_eq_true_eq]
      omega
    · have ha := apart_of h hjr hr
      have hgj := G l[j] (List.getElem_mem hj)
      unfold meetsR at ha
      rw [endv_good hg, endv_good hgj] at ha
      unfold inR
      simp only [Bool.and_eq_false_iff, decide_eq_false_iff_not] at ha ⊢
      omega
  · unfold nth
    rw [rd27_at l r hr]
    omega
def addrs (b : Int) (i : Nat) : List Int := (List.range i).map fun j : Nat => b + 8 * (j : Int)
theorem addrs_succ (b : Int) (i : Nat) : addrs b (i + 1) = addrs b i ++ [b + 8 * (i : Int)] := by
  unfold addrs
  rw [List.range_succ, List.map_append]
  rfl
theorem addrs_len (b : Int) (i : Nat) : (addrs b i).length = i := by simp [addrs]
theorem addrs_up (b : Int) (i : Nat) : Up (addrs b i) := by
  induction i with
  | zero => exact List.Pairwise.nil
  | succ i ih =>
    rw [addrs_succ]
    refine List.pairwise_append.2 ⟨ih, List.pairwise_singleton _ _, fun x hx y hy => ?_⟩
    rw [List.mem_singleton] at hy
    subst hy
    unfold addrs at hx
    obtain ⟨j, hj, rfl⟩ := List.mem_map.1 hx
    have := List.mem_range.1 hj
    omega
theorem puts_up (l : List Int) (h : Up l) : putsF [] l = l := up_ext _ _ (putsF_up _ _ List.Pairwise.nil) h (fun x => by rw [putsF_mem]; simp)
theorem load_word {l : List S27} (h : newOk l = true) {r i : Nat} (hr : r < l.length) (hi : i < (rd_T27 l r).f1.length) (xs : List Int) : loadV l ((rd_T27 l r).f0 + 8 * (i : Int)) = (rd (rd_T27 l r).f1 (i : Nat), 0) ∧ touchF l ((rd_T27 l r).f0 + 8 * (i : Int)) xs = xs ++ [(rd_T27 l r).f0 + 8 * (i : Int)] := by
  obtain ⟨h1, h2⟩ := find_word h hr hi
  unfold loadV touchF
  rw [h1]
  dsimp only
  rw [h2]
  exact ⟨rfl, rfl⟩
theorem wordsF_out {l : List S27} {n : Int} (h : n < 0 ∨ (l.length : Int) ≤ n) : wordsF l n = [] := by
  unfold wordsF
  split
  · rfl
  · rw [if_pos (by omega)]
theorem wordsF_in {l : List S27} {r : Nat} (h : r < l.length) : wordsF l (r : Int) = (rd_T27 l r).f1 := by
  unfold wordsF
  rw [if_neg (by omega), if_neg (by omega)]
set_option maxHeartbeats 16000000 in
set_option maxRecDepth 100000 in
theorem memWords_c {W : World} {A : Option Addr} {c : Nat} {l : List S27} {n : Int} (h : Kd.C k27 W A l.length l) (hm : l.length ≤ 4000000000000) (hn : RG n) :
    Calls Try.prog 5 #[.slice A l.length c, .int .i64 n] W fun e w' => e = .returned (.bool true) ∧ Below W.heap.size W w' := by
  have LIVE := Aside0.mk live_c
  have HC := Aside0.mk h
  have HN0 := Aside0.mk hn
  clear h hn
  go_enter Try.func5, Try.ntmps5
  go_wp2
  go_loopw [5] (fun v5 wr => ∃ i : Nat, i ≤ l.length ∧ v5 = .int .i64 i ∧ Aside0 (Below W.heap.size W wr) ∧ Aside0 (∀ j, (hj : j < l.length) → j < i → l[j].f1.length ≤ 2000)) (fun v5 _ => l.length - (intOf v5).toNat)
  case atStart => exact ⟨0, Nat.zero_le _, rfl, ⟨Below.refl _ _⟩, ⟨fun j _ h => by omega⟩⟩
  case round =>
    obtain ⟨i, hi, rfl, HB, HS⟩ := hrel
    by_cases hlt : i < l.length
    case pos =>
      obtain ⟨ad, A1, c1, e, hx0, hx1, hx2, k1, r1⟩ := at_T27 (Kd.C_below HC.out HB.out) (i : Int) (by omega) (by omega)
      cases e
      have hil : (i : Int) < (l.length : Int) := by omega
      simp only [Int.toNat_natCast] at hx0 hx1 hx2
      have HN := Aside0.mk (fun h : (rd_T27 l i).f1.length ≤ 2000 => show ∀ j, (hj : j < l.length) → j < i + 1 → l[j].f1.length ≤ 2000 from fun j hj hji => by
        by_cases e : j = i
        · subst e
          rw [← rd27_at l j hj]; exact h
        · exact HS.out j hj (by omega))
      clear r1 hx0 hx2
      generalize rd_T27 l i = o at *
      by_cases hb : (o.f1.length : Int) > 2000
      case pos =>
        go_wp2_with (first | (go_at_call 8; (with_reducible refine (LIVE.out _).mono ?_); rintro e w2 ⟨rfl, hb⟩; have HB2 := Aside0.mk (below_inL HB.out hb); clear hb))
        go_ret
        exact ⟨rfl, HB2.out⟩
      case neg =>
        have LT := Aside0.mk hlt
        have HN2 := Aside0.mk (HN.out (by omega))
        clear HN
        go_wp2
        refine ⟨⟨i + 1, LT.out, by first | rfl | go_num, HB, HN2⟩, ?_⟩
        have := LT.out
        simp [intOf]
        omega
    case neg =>
      obtain rfl : i = l.length := by omega
      have HW2 := Aside0.mk (show ∀ o ∈ l, o.f1.length ≤ 2000 from fun o ho => by
        obtain ⟨j, hj, rfl⟩ := List.getElem_of_mem ho
        exact HS.out j hj hj)
      have NC := Aside0.mk (new_c (c := c) (Kd.C_below HC.out HB.out) hm (fun o ho => by have := HW2.out o ho; omega))
      cases hok : newOk l with
      | false =>
        rw [hok] at NC
        go_wp2_with (first
          | (go_at_call 9; (with_reducible refine NC.out.mono ?_); rintro e w3 ⟨-, he, hb⟩; obtain rfl := he rfl; have HB3 := Aside0.mk (below_inL HB.out hb); clear he hb)
          | (go_at_call 8; (with_reducible refine (LIVE.out _).mono ?_); rintro e w4 ⟨rfl, hb⟩; have HB4 := Aside0.mk (below_inL HB3.out hb); clear hb))
        go_ret
        exact ⟨rfl, HB4.out⟩
      | true =>
        obtain ⟨G, hle⟩ := newOk_good hok
        rw [hok] at NC
        have OK := Aside0.mk hok
        have GG := Aside0.mk G
        have hle2 := Aside0.mk (show l.length ≤ 1000 by omega)
        have WC := Aside0.mk (fun (O : Nat → Prop) (w W' : World) pb r q vr (H : MemG O w W' pb r q vr [] [] l) => words_c H G hle2.out n)
        clear G hok hle
        by_cases hout : n < 0 ∨ (l.length : Int) ≤ n
        case pos =>
          rw [wordsF_out hout] at WC
          have HO := Aside0.mk hout
          clear hout
          by_cases hn0 : n < 0
          case pos =>
            go_wp2_with (first
              | (go_at_call 9; (with_reducible refine NC.out.mono ?_); rintro e w3 ⟨he, -, hb⟩; obtain ⟨pb, r, q, vr, rfl, hm⟩ := he rfl; have HM3 := Aside0.mk hm; clear he hb hm)
              | (go_at_call 18; (with_reducible refine (WC.out _ _ _ _ _ _ _ HM3.out).mono ?_); rintro e w4 ⟨Aw, cw, rfl, hr, hb⟩; have HM4 := Aside0.mk (HM3.out.next hb); clear hr hb)
              | (go_at_call 15; (with_reducible refine (footM_c HM4.out (by simp) (by simp)).mono ?_); rintro e w5 ⟨A0, c0, A1, c1, r', q', he, hr0, hr1, hm, -, -, -⟩; replace he : e = .returned (.agg #[.slice A0 0 c0, .slice A1 0 c1]) := he; subst he; have HM5 := Aside0.mk hm; have HB5 := Aside0.mk (below_alloc hm.tch.below (.cells #[.slice A0 0 c0, .slice A1 0 c1] 45)); clear hr0 hr1 hm)
              | (go_at_call 8; (with_reducible refine (LIVE.out _).mono ?_); rintro e w8 ⟨rfl, hb⟩; have HB8 := Aside0.mk (below_inL (below_inL HB.out HB5.out) hb); clear hb))
            go_ret
            exact ⟨rfl, HB8.out⟩
          case neg =>
            have hn1 : (l.length : Int) ≤ n := by have := HO.out; omega
            go_wp2_with (first
              | (go_at_call 9; (with_reducible refine NC.out.mono ?_); rintro e w3 ⟨he, -, hb⟩; obtain ⟨pb, r, q, vr, rfl, hm⟩ := he rfl; have HM3 := Aside0.mk hm; clear he hb hm)
              | (go_at_call 18; (with_reducible refine (WC.out _ _ _ _ _ _ _ HM3.out).mono ?_); rintro e w4 ⟨Aw, cw, rfl, hr, hb⟩; have HM4 := Aside0.mk (HM3.out.next hb); clear hr hb)
              | (go_at_call 15; (with_reducible refine (footM_c HM4.out (by simp) (by simp)).mono ?_); rintro e w5 ⟨A0, c0, A1, c1, r', q', he, hr0, hr1, hm, -, -, -⟩; replace he : e = .returned (.agg #[.slice A0 0 c0, .slice A1 0 c1]) := he; subst he; have HM5 := Aside0.mk hm; have HB5 := Aside0.mk (below_alloc hm.tch.below (.cells #[.slice A0 0 c0, .slice A1 0 c1] 45)); clear hr0 hr1 hm)
              | (go_at_call 8; (with_reducible refine (LIVE.out _).mono ?_); rintro e w8 ⟨rfl, hb⟩; have HB8 := Aside0.mk (below_inL (below_inL HB.out HB5.out) hb); clear hb))
            go_ret
            exact ⟨rfl, HB8.out⟩
        case neg =>
          obtain ⟨r0, rfl⟩ : ∃ r0 : Nat, n = (r0 : Int) := ⟨n.toNat, by omega⟩
          have hr0 : r0 < l.length := by omega
          rw [wordsF_in hr0] at WC
          clear hout
          obtain ⟨ad, A1, c1, e, hx0, hx1, hx2, k1, r1⟩ := at_T27 (Kd.C_below HC.out HB.out) (r0 : Int) (by omega) (by omega)
          cases e
          have hil : (r0 : Int) < (l.length : Int) := by omega
          simp only [Int.toNat_natCast] at hx0 hx1 hx2
          have HX0 := Aside0.mk hx0
          have HX1 := Aside0.mk hx1
          have LW := Aside0.mk (fun i (hi : i < (rd_T27 l r0).f1.length) xs => load_word OK.out hr0 hi xs)
          have GO := Aside0.mk (show goodR (rd_T27 l r0) by rw [rd27_at l r0 hr0]; exact GG.out _ (List.getElem_mem hr0))
          have G2 := Aside0.mk (show (rd_T27 l r0).f1.length ≤ 2000 by rw [rd27_at l r0 hr0]; exact HW2.out _ (List.getElem_mem hr0))
          have RR := Aside0.mk hr0
          have hzz1 : (l.length ≤ r0) = False := eq_false (by omega)
          have hzz2 : ((r0 : Int) < 0) = False := eq_false (by omega)
          clear hx0 hx1 hx2 r1 k1 hr0
          generalize rd_T27 l r0 = o at *
          obtain ⟨f0, f1, f2⟩ := o
          dsimp only at *
          go_wp2_with (first
            | (go_at_call 9; (with_reducible refine NC.out.mono ?_); rintro e w3 ⟨he, -, hb⟩; obtain ⟨pb, r, q, vr, rfl, hm⟩ := he rfl; have HM3 := Aside0.mk hm; clear he hb hm)
            | (go_at_call 18; (with_reducible refine (WC.out _ _ _ _ _ _ _ HM3.out).mono ?_); rintro e w4 ⟨Aw, cw, rfl, hr, hb⟩; have HM4 := Aside0.mk (HM3.out.next hb); have HSZ := Aside0.mk hb.size; have HR4 := Aside0.mk (Kd.R_mono (ok' := fun k => w3.heap.size ≤ k ∧ k < w4.heap.size) (Kd.R_bound hr) (fun k hk => ⟨hk.2.1, hk.2.2.1⟩)); clear hr hb)
            | (go_at_call 15; (with_reducible refine (footM_c HM4.out (by simp) (by simp)).mono ?_); rintro e w5 ⟨A0, c0, A1', c1', r', q', he, hr0, hr1, hm, hk, hr', hq'⟩; replace he : e = .returned (.agg #[.slice A0 0 c0, .slice A1' 0 c1']) := he; subst he; have HR5 := Aside0.mk (Kd.R_kept HR4.out hk (fun k h1 h2 => by have := h1.1; have := h2.2; omega)); have HM5 := Aside0.mk hm; have HQ5 := Aside0.mk (And.intro hr' hq'); have S34 := Aside0.mk (show w3.heap.size ≤ w4.heap.size from HSZ.out); have kx1 : (w5.alloc (.cells #[.slice A0 0 c0, .slice A1' 0 c1'] 45)).cell? ⟨(ad.add (r0 * 3)).block, (ad.add (r0 * 3)).off + 1, none⟩ = some (.slice A1 f1.length c1) := pw_cell_below (below_alloc hm.tch.below _) HX1.out; clear hr0 hr1 hm hk hr' hq')
            | (go_at_call 8; (with_reducible refine (LIVE.out _).mono ?_); rintro e w8 ⟨rfl, hb⟩; have HB8 := Aside0.mk (below_inL (below_inL HB.out HB5.out) hb); clear hb))
          have O5 := HM5.out.lt
          have HFB := Aside0.mk (show W.heap.size ≤ w5.heap.size by have := HB.out.size; have := HM5.out.tch.below.size; omega)
          have HM6 := Aside0.mk (HM5.out.next (below_alloc (Below.refl _ _) (.cells #[.slice A0 0 c0, .slice A1' 0 c1'] 45)))
          have HR6 := Aside0.mk (Kd.R_alloc HR5.out (.cells #[.slice A0 0 c0, .slice A1' 0 c1'] 45))
          have B6 := Aside0.mk (blk_new w5 (.cells #[.slice A0 0 c0, .slice A1' 0 c1'] 45))
          obtain ⟨OW, okw, HM7, HR7, DJ, NF⟩ : ∃ (OW okw : Nat → Prop), Aside0 (MemG OW wr (w5.alloc (.cells #[.slice A0 0 c0, .slice A1' 0 c1'] 45)) pb r' q' vr [] [] l) ∧ Aside0 (Kd.R (Kd.int .i64) 2 (w5.alloc (.cells #[.slice A0 0 c0, .slice A1' 0 c1'] 45)) w3.heap.size okw (.slice Aw f1.length cw) f1) ∧ Aside0 (∀ k, okw k → ¬ OW k) ∧ Aside0 (∀ k, OW k → k < w5.heap.size) := by
            refine ⟨_, _, HM6, HR6, ⟨fun k h1 h2 => ?_⟩, ⟨O5⟩⟩
            have h3 := HQ5.out
            have h4 := S34.out
            rcases h2 with h2 | h2 | h2 <;> omega
          clear HM3 HM4 HR4 HR5 HM5 HQ5 S34 O5 HM6 HR6 kx1 HSZ
          generalize w5.alloc (.cells #[.slice A0 0 c0, .slice A1' 0 c1'] 45) = w6 at *
          generalize w5.heap.size = fb at *
          generalize w3.heap.size = wb at *
          go_loopw [10] (fun v10 wk => ∃ k : Nat, k ≤ f1.length ∧ v10 = .int .i64 k ∧ Aside0 (MemG OW wr wk pb r' q' vr (addrs f0 k) [] l) ∧ Aside0 (Kd.R (Kd.int .i64) 2 wk wb okw (.slice Aw f1.length cw) f1) ∧ Aside0 (wk.heap[fb]? = some (.cells #[.slice A0 0 c0, .slice A1' 0 c1'] 45 (0, 0)))) (fun v10 _ => f1.length - (intOf v10).toNat)
          case atStart => exact ⟨0, Nat.zero_le _, rfl, HM7, HR7, B6⟩
          case round =>
            clear HM7 HR7 B6
            obtain ⟨k, hk, rfl, HMk, HRk, BK⟩ := hrel
            have hk2 := G2.out
            have hn2 := HMk.out
            by_cases hlk : k < f1.length
            case pos =>
              obtain ⟨adw, e, hxw⟩ := Kd.at_int (Kd.R_reads' HRk.out).2.2 (k : Int) (by omega) (by omega)
              cases e
              obtain ⟨a, ha⟩ : ∃ a : Int, a = f0 + 8 * (k : Int) := ⟨_, rfl⟩
              have hg := GO.out
              unfold goodR at hg
              dsimp only at hg
              have hwr : wrap64 (f0 + wrap64 (8 * (k : Int))) = a := by rw [wrap64_id (n := 8 * (k : Int)) (by omega) (by omega), wrap64_id (by omega) (by omega), ha]
              obtain ⟨lw1, lw2⟩ := LW.out k hlk (addrs f0 k)
              have hrw : (rd f1 (k : Int)) = rd f1 ((k : Nat) : Int) := rfl
              rw [← ha] at lw1 lw2
              have LC := Aside0.mk (load_c HMk.out GG.out hle2.out (by rw [addrs_len]; omega) a (by omega) (by omega))
              rw [lw1, lw2, ha, ← addrs_succ, ← ha] at LC
              dsimp only at LC
              have KW := Aside0.mk (fun W' (h : Kept _ W' OW) => (Kd.at_int (Kd.R_reads' (Kd.R_kept HRk.out h DJ.out)).2.2 (k : Int) (by omega) (by omega)))
              have kl0 : wr.cell? ⟨(ad.add (r0 * 3)).block, (ad.add (r0 * 3)).off, none⟩ = wr.cell? ⟨(ad.add (r0 * 3)).block, (ad.add (r0 * 3)).off, none⟩ := rfl
              clear kl0
              have kx0 := pw_cell_below HMk.out.tch.below HX0.out
              have LK := Aside0.mk hlk
              have hlk2 : (k : Int) < (f1.length : Int) := by omega
              clear lw1 lw2 hg ha hrw hn2 hk2 hlk hxw
              generalize rd f1 (k : Int) = v at *
              go_wp2_with (first
                | (go_at_call 10; (with_reducible refine LC.out.mono ?_); rintro e w7 ⟨rfl, hm, hk⟩; have HM8 := Aside0.mk hm; have HR8 := Aside0.mk (Kd.R_kept HRk.out hk DJ.out); have BK8 := Aside0.mk (blk_kept BK.out hk (fun h => by have := NF.out _ h; omega)); have kw : w7.cell? (adw.add k) = some (.int .i64 v) := (by obtain ⟨adx, e, hx⟩ := KW.out _ hk; injection e with e; subst e; simpa using hx); clear hm hk))
              have hk2 := G2.out
              have hk3 := LK.out
              refine ⟨⟨k + 1, LK.out, by rw [up1 k (by omega)], HM8, HR8, BK8⟩, ?_⟩
              rw [up1 k (by omega)]
              simp [intOf]
              omega
            case neg =>
              obtain rfl : k = f1.length := by omega
              have FT := Aside0.mk (footM_c HMk.out (by rw [addrs_len]; omega) (by simp))
              rw [puts_up _ (addrs_up f0 f1.length), addrs_len] at FT
              have NB := Aside0.mk (fun h : OW fb => Nat.lt_irrefl _ (NF.out _ h))
              clear hn2
              go_wp2_with (first
                | (go_at_call 15; (with_reducible refine FT.out.mono ?_); rintro e w9 ⟨A2, c2, A3, c3, r2, q2, rfl, hr0, hr1, hm, hk, hr', hq'⟩; have HM9 := Aside0.mk hm; have BK9 := Aside0.mk (blk_kept BK.out hk NB.out); have hz0 : w9.cell? ⟨fb, 0, none⟩ = some (.slice A0 0 c0) := (blk_cell BK9.out 0).trans rfl; have hz1 : w9.cell? ⟨fb, 1, none⟩ = some (.slice A1' 0 c1') := (blk_cell BK9.out 1).trans rfl; have hf0 := blk_frozen BK9.out 0; have hf1 := blk_frozen BK9.out 1; clear hr0 hr1 hm hk hr' hq')
                | (go_at_call 8; (with_reducible refine (LIVE.out _).mono ?_); rintro e w8 ⟨rfl, hb⟩; have HB8 := Aside0.mk (below_inL (below_set (below_set (below_inL HB.out HM9.out.tch.below) HFB.out) HFB.out) hb); clear hb))
              go_ret
              exact ⟨rfl, HB8.out⟩
end Go.Proofs.Ytkanhnhagjopkaa.M

