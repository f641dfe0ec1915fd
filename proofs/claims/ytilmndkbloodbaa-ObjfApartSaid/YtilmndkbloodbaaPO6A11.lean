/-
  Texts of the proofs of ObjfWrites, ObjfReads, ObjfBack, ObjfCuts, ObjfApart, cut to what the proofs reach and packed by a program of this session (wip/packs.py). Each part begins with what it says; conditions: those told there.
-/
import Derived.Lib.SlBytesConst
import Derived.Test.YtilmndkbloodbaaPO6A10
/-
  Layer 6: the walk of objf.Write. Condition: the words of data are of 64 bits.
-/
namespace Go.Proofs.Ytilmndkbloodbaa.M
open Go.RowKit Go.Proofs.YtilmndkbloodbaaW.PrintWords Go.Proofs.YtilmndkbloodbaaW.PrintLast Go.Proofs.Ytilmndkbloodbaa.Num Go.Proofs.Ytilmndkbloodbaa.Seven Go.Proofs.Ytilmndkbloodbaa.Word1 Go.Proofs.Ytilmndkbloodbaa.Obj
set_option linter.unusedVariables false
set_option linter.unusedSimpArgs false
theorem wr_eq {w0 w : World} {wb : Nat} {xs ys : List Int} (h : Wr w0 w wb xs) (e : xs = ys) : Wr w0 w wb ys := e ▸ h
theorem wr_end {w0 w : World} {wb : Nat} {xs : List Int} {t : ByteArray} (h : Wr w0 w wb xs) (ht : strOfNums xs = t) : ∃ A n c, w.cell? ⟨wb, 0, none⟩ = some (.slice A n c) ∧ (∀ n_, (convert 45 9 (.slice A n c)).run Try.prog (w.drewN n_) = .ok (.string t) (w.drewN n_)) ∧ (convert 45 9 (.slice A n c)).run Try.prog w = .ok (.string t) w := by
  obtain ⟨_, ⟨v, h2, h3⟩, _⟩ := h
  obtain ⟨A, c, rfl⟩ := own_slice h3
  subst ht
  refine ⟨A, _, c, (blk_cell h2 0).trans rfl, fun n_ => own_string Try.underlying45 Try.underlying5 Try.underlying9 (w := w.drewN n_) h3, own_string Try.underlying45 Try.underlying5 Try.underlying9 h3⟩
set_option maxHeartbeats 16000000 in
set_option maxRecDepth 100000 in
theorem objf_Write.calls (a0_0 : ByteArray) (A0_1 : Option Addr) (c0_1 : Nat) (l0_1 : List Int) (A0_2 : Option Addr) (c0_2 : Nat) (l0_2 : List (S41)) (A0_3 : Option Addr) (c0_3 : Nat) (l0_3 : List (S43)) (r1 : ByteArray) (r2 : Int) (w : World) (hr0_1 : Kd.C (Kd.int .i64) w A0_1 l0_1.length l0_1) (hc0_1 : l0_1.length ≤ c0_1) (hr0_2 : Kd.C k41 w A0_2 l0_2.length l0_2) (hc0_2 : l0_2.length ≤ c0_2) (hr0_3 : Kd.C k43 w A0_3 l0_3.length l0_3) (hc0_3 : l0_3.length ≤ c0_3) (h : objf_Write.f a0_0 l0_1 l0_2 l0_3 = some (r1, r2)) :
    Calls Try.prog 11 #[.agg #[.string a0_0, .slice A0_1 l0_1.length c0_1, .slice A0_2 l0_2.length c0_2, .slice A0_3 l0_3.length c0_3]] w fun e w' => e = .returned (.tuple #[.string r1, .int .i64 r2]) ∧ Below w.heap.size w w' := by
  unfold objf_Write.f at h
  by_cases hw : wordsOk l0_1
  case neg => rw [if_neg hw] at h; cases h
  rw [if_pos hw] at h
  have hck := check_f a0_0 l0_1 l0_2 l0_3 hr0_3.2.1 (2 * l0_3.length + 2) (by omega)
  have HR1 := Aside0.mk hr0_1
  have HR2 := Aside0.mk hr0_2
  have HR3 := Aside0.mk hr0_3
  have HC1 := Aside0.mk hc0_1
  have HC2 := Aside0.mk hc0_2
  have HC3 := Aside0.mk hc0_3
  by_cases hm : may a0_0 l0_1 l0_2 l0_3 = true
  case neg =>
    rw [if_neg hm] at h hck
    have CK := Aside0.mk hck
    obtain ⟨rfl, rfl⟩ := Prod.mk.inj (Option.some.inj h)
    clear h hck hm hw hr0_1 hc0_1 hr0_2 hc0_2 hr0_3 hc0_3
    go_enter Try.func11, Try.ntmps11
    go_wp2_with (first | (go_at_call 13; (with_reducible refine (objf_Check.calls (2 * l0_3.length + 2) a0_0 A0_1 c0_1 l0_1 A0_2 c0_2 l0_2 A0_3 c0_3 l0_3 1 _ (Kd.C_below HR1.out (below_alloc (Below.refl _ _) _)) HC1.out (Kd.C_below HR2.out (below_alloc (Below.refl _ _) _)) HC2.out (Kd.C_below HR3.out (below_alloc (Below.refl _ _) _)) HC3.out CK.out).mono ?_); rintro e w1 ⟨rfl, hb_⟩; have BOw1 := Aside0.mk (blk_below (blk_new w (.cells #[.string a0_0, .slice A0_1 l0_1.length c0_1, .slice A0_2 l0_2.length c0_2, .slice A0_3 l0_3.length c0_3] 26)) hb_); have HB1 := Aside0.mk (below_step (below_alloc (Below.refl _ _) _) hb_); clear hb_; have cbw1_0 : w1.cell? ⟨w.heap.size, 0, none⟩ = some (.string a0_0) := (blk_cell BOw1.out 0).trans rfl; have cbw1_1 : w1.cell? ⟨w.heap.size, 1, none⟩ = some (.slice A0_1 l0_1.length c0_1) := (blk_cell BOw1.out 1).trans rfl; have cbw1_2 : w1.cell? ⟨w.heap.size, 2, none⟩ = some (.slice A0_2 l0_2.length c0_2) := (blk_cell BOw1.out 2).trans rfl; have cbw1_3 : w1.cell? ⟨w.heap.size, 3, none⟩ = some (.slice A0_3 l0_3.length c0_3) := (blk_cell BOw1.out 3).trans rfl; have hzw1 : w.heap.size < w1.heap.size := blk_lt BOw1.out))
    go_ret2
    exact ⟨rfl, HB1.out⟩
  case pos =>
    rw [if_pos hm] at h hck
    have CK := Aside0.mk hck
    obtain ⟨m1, m2, m3, m4, m5, m6⟩ := may_parts hm
    obtain ⟨hr1, rfl⟩ := Prod.mk.inj (Option.some.inj h)
    have HRES := Aside0.mk hr1
    have M5 := Aside0.mk m5
    have M6 := Aside0.mk m6
    have HW0 := Aside0.mk hw
    have hl1 := hr0_1.2.1
    have hl2 := hr0_2.2.1
    have hl3 := hr0_3.2.1
    have SD := fun k => (show (dataL (l0_1.take k)).length ≤ 32768 by rw [dataL_len, List.length_take]; omega)
    have SY := fun k => (show (symsL (l0_2.take k)).length ≤ 49000 by
      have := symsL_len (l0_2.take k) (fun s hs => ⟨(m5 s (List.mem_of_mem_take hs)).1, by have := (m5 s (List.mem_of_mem_take hs)).2.2.1; omega⟩)
      rw [List.length_take] at this; omega)
    have SR := fun k => (show (relsL (l0_3.take k)).length ≤ 456000 by
      have := relsL_len (l0_3.take k) (fun s hs => ⟨(m6 s (List.mem_of_mem_take hs)).1, by have := (m6 s (List.mem_of_mem_take hs)).2.2.1; omega⟩)
      rw [List.length_take] at this; omega)
    have TX := textL_len a0_0 (by omega)
    have P1 := put_small (n := l0_1.length) (by omega)
    have P2 := put_small (n := l0_2.length) (by omega)
    have P3 := put_small (n := l0_3.length) (by omega)
    have P0 := put_small (n := a0_0.size) (by omega)
    have L0 := Aside0.mk (show (front0 COT1 a0_0 l0_1).length ≤ 70000 by simp only [front0, List.length_append, COT1, List.length_cons, List.length_nil]; omega)
    have LT := Aside0.mk (show (COT1 ++ textL a0_0).length ≤ 69000 by simp only [List.length_append, COT1, List.length_cons, List.length_nil]; omega)
    have L1 := Aside0.mk (show (front1 COT1 a0_0 l0_1 l0_2).length ≤ 110000 by simp only [front1, List.length_append]; have := SD l0_1.length; rw [List.take_length] at this; have := L0.out; omega)
    have L2 := Aside0.mk (show (front COT1 a0_0 l0_1 l0_2).length ≤ 160000 by simp only [front, List.length_append]; have := SY l0_2.length; rw [List.take_length] at this; have := L1.out; omega)
    have L3 := Aside0.mk (show (front COT1 a0_0 l0_1 l0_2 ++ putL l0_3.length).length ≤ 160010 by rw [List.length_append]; have := L2.out; omega)
    have SDA := Aside0.mk SD
    have SYA := Aside0.mk SY
    have SRA := Aside0.mk SR
    have PT0 := Aside0.mk (put8 a0_0.size (by omega))
    have PT1 := Aside0.mk (put8 l0_1.length (by omega))
    have PT2 := Aside0.mk (put8 l0_2.length (by omega))
    have PT3 := Aside0.mk (put8 l0_3.length (by omega))
    have PB0 := Aside0.mk (show (strOfNums (putL a0_0.size)).size ≤ 10 by rw [str_size _ (putL_bs _)]; exact P0)
    have PB1 := Aside0.mk (show (strOfNums (putL l0_1.length)).size ≤ 10 by rw [str_size _ (putL_bs _)]; exact P1)
    have PB2 := Aside0.mk (show (strOfNums (putL l0_2.length)).size ≤ 10 by rw [str_size _ (putL_bs _)]; exact P2)
    have PB3 := Aside0.mk (show (strOfNums (putL l0_3.length)).size ≤ 10 by rw [str_size _ (putL_bs _)]; exact P3)
    have PP0 := Aside0.mk (show 0 < (strOfNums (putL a0_0.size)).size by rw [str_size _ (putL_bs _)]; exact putL_pos _)
    have M1 := Aside0.mk m1
    have kc := fun (w : World) (C : Array Value) (n c : Nat) => Lib.run_convert_bytes_const (P := Try.prog) w 45 5 C n c Try.underlying45 Try.underlying5
    clear h hck hm hw hr0_1 hc0_1 hr0_2 hc0_2 hr0_3 hc0_3 m1 m2 m3 m4 m5 m6 SD SY SR TX P0 P1 P2 P3 hr1
    go_enter Try.func11, Try.ntmps11
    go_wp2_with (first | (go_at_call 13; (with_reducible refine (objf_Check.calls (2 * l0_3.length + 2) a0_0 A0_1 c0_1 l0_1 A0_2 c0_2 l0_2 A0_3 c0_3 l0_3 0 _ (Kd.C_below HR1.out (below_alloc (Below.refl _ _) _)) HC1.out (Kd.C_below HR2.out (below_alloc (Below.refl _ _) _)) HC2.out (Kd.C_below HR3.out (below_alloc (Below.refl _ _) _)) HC3.out CK.out).mono ?_); rintro e w1 ⟨rfl, hb_⟩; have BOw1 := Aside0.mk (blk_below (blk_new w (.cells #[.string a0_0, .slice A0_1 l0_1.length c0_1, .slice A0_2 l0_2.length c0_2, .slice A0_3 l0_3.length c0_3] 26)) hb_); have HB1 := Aside0.mk (below_step (below_alloc (Below.refl _ _) _) hb_); clear hb_; have cbw1_0 : w1.cell? ⟨w.heap.size, 0, none⟩ = some (.string a0_0) := (blk_cell BOw1.out 0).trans rfl; have cbw1_1 : w1.cell? ⟨w.heap.size, 1, none⟩ = some (.slice A0_1 l0_1.length c0_1) := (blk_cell BOw1.out 1).trans rfl; have cbw1_2 : w1.cell? ⟨w.heap.size, 2, none⟩ = some (.slice A0_2 l0_2.length c0_2) := (blk_cell BOw1.out 2).trans rfl; have cbw1_3 : w1.cell? ⟨w.heap.size, 3, none⟩ = some (.slice A0_3 l0_3.length c0_3) := (blk_cell BOw1.out 3).trans rfl; have hzw1 : w.heap.size < w1.heap.size := blk_lt BOw1.out) | (go_at_call 18; (with_reducible refine (writer_text0 w _ (w1.heap.size + 1) COT1 a0_0 10 _ PT0.out PP0.out (Nat.le_trans PB0.out (by decide)) (wr_new HB1.out) (by have h1 := PB0.out; have h2 := M1.out; have h3 : COT1.length = 4 := rfl; omega)).mono ?_); rintro e w2 ⟨rfl, hw_, hk_⟩; have HWw2 := Aside0.mk (show Wr w w2 (w1.heap.size + 1) (COT1 ++ textL a0_0) from wr_eq hw_ (by rw [of_strPut, textL, List.append_assoc])); have BOw2 := Aside0.mk (hk_.2 _ _ (blk_alloc (blk_alloc BOw1.out _) _) (Nat.ne_of_lt (Nat.lt_succ_of_lt hzw1)) (by intro cs fr h_; cases h_)); clear hw_ hk_; have cbw2_0 : w2.cell? ⟨w.heap.size, 0, none⟩ = some (.string a0_0) := (blk_cell BOw2.out 0).trans rfl; have cbw2_1 : w2.cell? ⟨w.heap.size, 1, none⟩ = some (.slice A0_1 l0_1.length c0_1) := (blk_cell BOw2.out 1).trans rfl; have cbw2_2 : w2.cell? ⟨w.heap.size, 2, none⟩ = some (.slice A0_2 l0_2.length c0_2) := (blk_cell BOw2.out 2).trans rfl; have cbw2_3 : w2.cell? ⟨w.heap.size, 3, none⟩ = some (.slice A0_3 l0_3.length c0_3) := (blk_cell BOw2.out 3).trans rfl; have hzw2 : w.heap.size < w2.heap.size := blk_lt BOw2.out) | (go_at_call 19; (with_reducible refine (writer_number w _ (w1.heap.size + 1) (COT1 ++ textL a0_0) _ 10 _ PT1.out HWw2.out (by have h1 := PB1.out; have h2 := LT.out; omega)).mono ?_); rintro e w3 ⟨rfl, hw_, hk_⟩; have HWw3 := Aside0.mk (show Wr w w3 (w1.heap.size + 1) (front0 COT1 a0_0 l0_1) from wr_eq hw_ (by rw [of_strPut, front0])); have BOw3 := Aside0.mk (hk_.2 _ _ (BOw2.out) (Nat.ne_of_lt (Nat.lt_succ_of_lt hzw1)) (by intro cs fr h_; cases h_)); clear hw_ hk_; have cbw3_0 : w3.cell? ⟨w.heap.size, 0, none⟩ = some (.string a0_0) := (blk_cell BOw3.out 0).trans rfl; have cbw3_1 : w3.cell? ⟨w.heap.size, 1, none⟩ = some (.slice A0_1 l0_1.length c0_1) := (blk_cell BOw3.out 1).trans rfl; have cbw3_2 : w3.cell? ⟨w.heap.size, 2, none⟩ = some (.slice A0_2 l0_2.length c0_2) := (blk_cell BOw3.out 2).trans rfl; have cbw3_3 : w3.cell? ⟨w.heap.size, 3, none⟩ = some (.slice A0_3 l0_3.length c0_3) := (blk_cell BOw3.out 3).trans rfl; have hzw3 : w.heap.size < w3.heap.size := blk_lt BOw3.out))
    go_loopw [33] (fun v wr => ∃ k : Nat, k ≤ l0_1.length ∧ v = .int .i64 k ∧ Aside0 (Wr w wr (w1.heap.size + 1) (front0 COT1 a0_0 l0_1 ++ dataL (l0_1.take k))) ∧ Aside0 (wr.heap[w.heap.size]? = some (.cells #[.string a0_0, .slice A0_1 l0_1.length c0_1, .slice A0_2 l0_2.length c0_2, .slice A0_3 l0_3.length c0_3] 26))) (fun v _ => l0_1.length - (intOf v).toNat)
    case atStart => exact ⟨0, Nat.zero_le _, rfl, ⟨wr_eq HWw3.out (by simp [dataL])⟩, BOw3⟩
    case round =>
      obtain ⟨k, hk, rfl, HW, BO⟩ := hrel
      by_cases hlt : k < l0_1.length
      case pos =>
        obtain ⟨ad, he, hx0⟩ := Kd.at_int HR1.out (k : Int) (by omega) (by omega)
        cases he
        replace hx0 := (HW.out.2.2.cell (World.block_lt_of_cell? w _ hx0)).trans hx0
        have hrd : rd l0_1 (k : Int) = l0_1[k] := by simp [rd, List.getD_eq_getElem?_getD, List.getElem?_eq_getElem hlt]
        rw [hrd] at hx0
        simp only [Int.toNat_natCast] at hx0
        have BY := Aside0.mk (bytes8 l0_1[k] (HW0.out _ (List.getElem_mem hlt)))
        have SN := Aside0.mk (dataL_snoc l0_1 k hlt)
        have SZ := Aside0.mk (show (strOfNums (leL l0_1[k] 8)).size = 8 by rw [str_size _ (leL_bs _ _), leL_len])
        clear hrd
        generalize l0_1[k] = n at hx0 BY SN SZ
        go_wp2_with (first | (go_at_call 20; (with_reducible refine (writer_wide w _ (w1.heap.size + 1) _ n 10 _ 0 BY.out HW.out (by have h1 := L0.out; have h2 := SDA.out k; have h3 := SZ.out; rw [List.length_append]; omega)).mono ?_); rintro e w4 ⟨rfl, hw_, hk_⟩; have HWw4 := Aside0.mk (show Wr w w4 (w1.heap.size + 1) (front0 COT1 a0_0 l0_1 ++ dataL (l0_1.take (k + 1))) from wr_eq hw_ (by rw [of_strLe, SN.out, List.append_assoc])); have BOw4 := Aside0.mk (hk_.2 _ _ (BO.out) (Nat.ne_of_lt (Nat.lt_succ_of_lt hzw1)) (by intro cs fr h_; cases h_)); clear hw_ hk_; have cbw4_0 : w4.cell? ⟨w.heap.size, 0, none⟩ = some (.string a0_0) := (blk_cell BOw4.out 0).trans rfl; have cbw4_1 : w4.cell? ⟨w.heap.size, 1, none⟩ = some (.slice (some ad) l0_1.length c0_1) := (blk_cell BOw4.out 1).trans rfl; have cbw4_2 : w4.cell? ⟨w.heap.size, 2, none⟩ = some (.slice A0_2 l0_2.length c0_2) := (blk_cell BOw4.out 2).trans rfl; have cbw4_3 : w4.cell? ⟨w.heap.size, 3, none⟩ = some (.slice A0_3 l0_3.length c0_3) := (blk_cell BOw4.out 3).trans rfl; have hzw4 : w.heap.size < w4.heap.size := blk_lt BOw4.out))
        go_roundw
        case rel => exact ⟨k + 1, by omega, by first | rfl | go_num, HWw4, BOw4⟩
        case measure => simp [intOf]; omega
      case neg =>
        obtain rfl : k = l0_1.length := by omega
        rw [List.take_length] at HW
        clear hlt hk
        have cbwr_0 : wr.cell? ⟨w.heap.size, 0, none⟩ = some (.string a0_0) := (blk_cell BO.out 0).trans rfl
        have cbwr_1 : wr.cell? ⟨w.heap.size, 1, none⟩ = some (.slice A0_1 l0_1.length c0_1) := (blk_cell BO.out 1).trans rfl
        have cbwr_2 : wr.cell? ⟨w.heap.size, 2, none⟩ = some (.slice A0_2 l0_2.length c0_2) := (blk_cell BO.out 2).trans rfl
        have cbwr_3 : wr.cell? ⟨w.heap.size, 3, none⟩ = some (.slice A0_3 l0_3.length c0_3) := (blk_cell BO.out 3).trans rfl
        have hzwr : w.heap.size < wr.heap.size := blk_lt BO.out
        go_wp2_with (first | (go_at_call 19; (with_reducible refine (writer_number w _ (w1.heap.size + 1) _ _ 10 _ PT2.out HW.out (by have h1 := PB2.out; have h2 := L0.out; have h3 := SDA.out l0_1.length; rw [List.take_length] at h3; rw [List.length_append]; omega)).mono ?_); rintro e w5 ⟨rfl, hw_, hk_⟩; have HWw5 := Aside0.mk (show Wr w w5 (w1.heap.size + 1) (front1 COT1 a0_0 l0_1 l0_2) from wr_eq hw_ (by rw [of_strPut, front1])); have BOw5 := Aside0.mk (hk_.2 _ _ (BO.out) (Nat.ne_of_lt (Nat.lt_succ_of_lt hzw1)) (by intro cs fr h_; cases h_)); clear hw_ hk_; have cbw5_0 : w5.cell? ⟨w.heap.size, 0, none⟩ = some (.string a0_0) := (blk_cell BOw5.out 0).trans rfl; have cbw5_1 : w5.cell? ⟨w.heap.size, 1, none⟩ = some (.slice A0_1 l0_1.length c0_1) := (blk_cell BOw5.out 1).trans rfl; have cbw5_2 : w5.cell? ⟨w.heap.size, 2, none⟩ = some (.slice A0_2 l0_2.length c0_2) := (blk_cell BOw5.out 2).trans rfl; have cbw5_3 : w5.cell? ⟨w.heap.size, 3, none⟩ = some (.slice A0_3 l0_3.length c0_3) := (blk_cell BOw5.out 3).trans rfl; have hzw5 : w.heap.size < w5.heap.size := blk_lt BOw5.out))
        go_loopw [49] (fun v wr => ∃ k : Nat, k ≤ l0_2.length ∧ v = .int .i64 k ∧ Aside0 (Wr w wr (w1.heap.size + 1) (front1 COT1 a0_0 l0_1 l0_2 ++ symsL (l0_2.take k))) ∧ Aside0 (wr.heap[w.heap.size]? = some (.cells #[.string a0_0, .slice A0_1 l0_1.length c0_1, .slice A0_2 l0_2.length c0_2, .slice A0_3 l0_3.length c0_3] 26))) (fun v _ => l0_2.length - (intOf v).toNat)
        case atStart => exact ⟨0, Nat.zero_le _, rfl, ⟨wr_eq HWw5.out (by simp [symsL])⟩, BOw5⟩
        case round =>
          clear HW BO cbwr_0 cbwr_1 cbwr_2 cbwr_3 hzwr
          obtain ⟨k, hk, rfl, HW, BO⟩ := hrel
          by_cases hlt : k < l0_2.length
          case pos =>
            obtain ⟨ad, he, hx0, hx1, hx2⟩ := at_T41 HR2.out (k : Int) (by omega) (by omega)
            cases he
            replace hx0 := (HW.out.2.2.cell (World.block_lt_of_cell? w _ hx0)).trans hx0
            replace hx1 := (HW.out.2.2.cell (World.block_lt_of_cell? w _ hx1)).trans hx1
            replace hx2 := (HW.out.2.2.cell (World.block_lt_of_cell? w _ hx2)).trans hx2
            have hrd : rd_T41 l0_2 (k : Int) = l0_2[k] := by simp [rd_T41, List.getD_eq_getElem?_getD, List.getElem?_eq_getElem hlt]
            rw [hrd] at hx0 hx1 hx2
            simp only [Int.toNat_natCast] at hx0 hx1 hx2
            have MM := M5.out _ (List.getElem_mem hlt)
            have SN := Aside0.mk (symsL_snoc l0_2 k hlt)
            clear hrd
            generalize l0_2[k] = s at hx0 hx1 hx2 SN MM
            obtain ⟨s0, s1, s2⟩ := s
            dsimp only at hx0 hx1 hx2 MM
            have N1 := Aside0.mk (put8 s0.size (by have := MM.1.2; omega))
            have N2 := Aside0.mk (put8' s2 MM.2.1 (by have := MM.2.2.1; omega))
            have Z1 := Aside0.mk (show (strOfNums (putL s0.size)).size ≤ 10 ∧ s0.size ≤ 28 from ⟨by rw [str_size _ (putL_bs _)]; exact put_small (by have := MM.1.2; omega), MM.1.2⟩)
            have Z2 := Aside0.mk (show (strOfNums (putL s2.toNat)).size ≤ 10 by rw [str_size _ (putL_bs _)]; exact put_small (by have := MM.2.2.1; omega))
            have LX := Aside0.mk (show (front1 COT1 a0_0 l0_1 l0_2 ++ symsL (l0_2.take k)).length ≤ 160000 by rw [List.length_append]; have h1 := L1.out; have h2 := SYA.out k; omega)
            clear MM
            have HSZ := Aside0.mk (show w1.heap.size + 1 < wr.heap.size from (by obtain ⟨_, ⟨v, h2, _⟩, _⟩ := HW.out; exact blk_lt h2))
            have cbwr_0 : wr.cell? ⟨w.heap.size, 0, none⟩ = some (.string a0_0) := (blk_cell BO.out 0).trans rfl
            have cbwr_1 : wr.cell? ⟨w.heap.size, 1, none⟩ = some (.slice A0_1 l0_1.length c0_1) := (blk_cell BO.out 1).trans rfl
            have cbwr_2 : wr.cell? ⟨w.heap.size, 2, none⟩ = some (.slice (some ad) l0_2.length c0_2) := (blk_cell BO.out 2).trans rfl
            have cbwr_3 : wr.cell? ⟨w.heap.size, 3, none⟩ = some (.slice A0_3 l0_3.length c0_3) := (blk_cell BO.out 3).trans rfl
            have hzwr : w.heap.size < wr.heap.size := blk_lt BO.out
            go_wp2_with (first | (go_at_call 18; (with_reducible refine (writer_text w _ (w1.heap.size + 1) _ s0 10 _ N1.out (HW.out.below (below_alloc (Below.refl _ _) _)) (by have h1 := LX.out; have h2 := Z1.out.1; have h3 := Z1.out.2; omega)).mono ?_); rintro e w6 ⟨rfl, hw_, hk_⟩; have HWw6 := Aside0.mk hw_; have BOw6 := Aside0.mk (hk_.2 _ _ (blk_alloc BO.out _) (Nat.ne_of_lt (Nat.lt_succ_of_lt hzw1)) (by intro cs fr h_; cases h_)); have SBw6 := Aside0.mk (hk_.2 wr.heap.size (.cells #[.string s0, .int .i64 s1, .int .i64 s2] 41 (0, 0)) (blk_new _ _) (Nat.ne_of_gt HSZ.out) (by intro cs fr h_; cases h_)); have scw6_0 : w6.cell? ⟨wr.heap.size, 0, none⟩ = some (.string s0) := (blk_cell SBw6.out 0).trans rfl; have scw6_1 : w6.cell? ⟨wr.heap.size, 1, none⟩ = some (.int .i64 s1) := (blk_cell SBw6.out 1).trans rfl; have scw6_2 : w6.cell? ⟨wr.heap.size, 2, none⟩ = some (.int .i64 s2) := (blk_cell SBw6.out 2).trans rfl; clear hw_ hk_; clear cbwr_0 cbwr_1 cbwr_2 cbwr_3 hzwr; have cbw6_0 : w6.cell? ⟨w.heap.size, 0, none⟩ = some (.string a0_0) := (blk_cell BOw6.out 0).trans rfl; have cbw6_1 : w6.cell? ⟨w.heap.size, 1, none⟩ = some (.slice A0_1 l0_1.length c0_1) := (blk_cell BOw6.out 1).trans rfl; have cbw6_2 : w6.cell? ⟨w.heap.size, 2, none⟩ = some (.slice (some ad) l0_2.length c0_2) := (blk_cell BOw6.out 2).trans rfl; have cbw6_3 : w6.cell? ⟨w.heap.size, 3, none⟩ = some (.slice A0_3 l0_3.length c0_3) := (blk_cell BOw6.out 3).trans rfl; have hzw6 : w.heap.size < w6.heap.size := blk_lt BOw6.out) | (go_at_call 21; (with_reducible refine (writer_one w _ (w1.heap.size + 1) _ s1 HWw6.out (by have h1 := LX.out; have h2 := Z1.out.1; have h3 := Z1.out.2; simp only [List.length_append, bytesOf_length] at h1 ⊢; omega)).mono ?_); rintro e w7 ⟨rfl, hw_, hk_⟩; have HWw7 := Aside0.mk hw_; have BOw7 := Aside0.mk (hk_.2 _ _ (BOw6.out) (Nat.ne_of_lt (Nat.lt_succ_of_lt hzw1)) (by intro cs fr h_; cases h_)); have SBw7 := Aside0.mk (hk_.2 wr.heap.size (.cells #[.string s0, .int .i64 s1, .int .i64 s2] 41 (0, 0)) (SBw6.out) (Nat.ne_of_gt HSZ.out) (by intro cs fr h_; cases h_)); have scw7_0 : w7.cell? ⟨wr.heap.size, 0, none⟩ = some (.string s0) := (blk_cell SBw7.out 0).trans rfl; have scw7_1 : w7.cell? ⟨wr.heap.size, 1, none⟩ = some (.int .i64 s1) := (blk_cell SBw7.out 1).trans rfl; have scw7_2 : w7.cell? ⟨wr.heap.size, 2, none⟩ = some (.int .i64 s2) := (blk_cell SBw7.out 2).trans rfl; clear hw_ hk_; clear cbw6_0 cbw6_1 cbw6_2 cbw6_3 hzw6 scw6_0 scw6_1 scw6_2; have cbw7_0 : w7.cell? ⟨w.heap.size, 0, none⟩ = some (.string a0_0) := (blk_cell BOw7.out 0).trans rfl; have cbw7_1 : w7.cell? ⟨w.heap.size, 1, none⟩ = some (.slice A0_1 l0_1.length c0_1) := (blk_cell BOw7.out 1).trans rfl; have cbw7_2 : w7.cell? ⟨w.heap.size, 2, none⟩ = some (.slice (some ad) l0_2.length c0_2) := (blk_cell BOw7.out 2).trans rfl; have cbw7_3 : w7.cell? ⟨w.heap.size, 3, none⟩ = some (.slice A0_3 l0_3.length c0_3) := (blk_cell BOw7.out 3).trans rfl; have hzw7 : w.heap.size < w7.heap.size := blk_lt BOw7.out) | (go_at_call 19; (with_reducible refine (writer_number w _ (w1.heap.size + 1) _ s2 10 _ N2.out HWw7.out (by have h1 := LX.out; have h2 := Z1.out.1; have h3 := Z1.out.2; have h4 := Z2.out; simp only [List.length_append, bytesOf_length, List.length_cons, List.length_nil] at h1 ⊢; omega)).mono ?_); rintro e w8 ⟨rfl, hw_, hk_⟩; have HWw8 := Aside0.mk (show Wr w w8 (w1.heap.size + 1) (front1 COT1 a0_0 l0_1 l0_2 ++ symsL (l0_2.take (k + 1))) from wr_eq hw_ (by rw [of_strPut, of_strPut, SN.out]; simp only [symL, textL, List.append_assoc])); have BOw8 := Aside0.mk (hk_.2 _ _ (BOw7.out) (Nat.ne_of_lt (Nat.lt_succ_of_lt hzw1)) (by intro cs fr h_; cases h_)); have SBw8 := Aside0.mk (hk_.2 wr.heap.size (.cells #[.string s0, .int .i64 s1, .int .i64 s2] 41 (0, 0)) (SBw7.out) (Nat.ne_of_gt HSZ.out) (by intro cs fr h_; cases h_)); have scw8_0 : w8.cell? ⟨wr.heap.size, 0, none⟩ = some (.string s0) := (blk_cell SBw8.out 0).trans rfl; have scw8_1 : w8.cell? ⟨wr.heap.size, 1, none⟩ = some (.int .i64 s1) := (blk_cell SBw8.out 1).trans rfl; have scw8_2 : w8.cell? ⟨wr.heap.size, 2, none⟩ = some (.int .i64 s2) := (blk_cell SBw8.out 2).trans rfl; clear hw_ hk_; clear cbw7_0 cbw7_1 cbw7_2 cbw7_3 hzw7 scw7_0 scw7_1 scw7_2; have cbw8_0 : w8.cell? ⟨w.heap.size, 0, none⟩ = some (.string a0_0) := (blk_cell BOw8.out 0).trans rfl; have cbw8_1 : w8.cell? ⟨w.heap.size, 1, none⟩ = some (.slice A0_1 l0_1.length c0_1) := (blk_cell BOw8.out 1).trans rfl; have cbw8_2 : w8.cell? ⟨w.heap.size, 2, none⟩ = some (.slice (some ad) l0_2.length c0_2) := (blk_cell BOw8.out 2).trans rfl; have cbw8_3 : w8.cell? ⟨w.heap.size, 3, none⟩ = some (.slice A0_3 l0_3.length c0_3) := (blk_cell BOw8.out 3).trans rfl; have hzw8 : w.heap.size < w8.heap.size := blk_lt BOw8.out))
            go_roundw
            case rel => exact ⟨k + 1, by omega, by first | rfl | go_num, HWw8, BOw8⟩
            case measure => simp [intOf]; omega
          case neg =>
            obtain rfl : k = l0_2.length := by omega
            rw [List.take_length] at HW
            clear hlt hk
            have cbwr_0 : wr.cell? ⟨w.heap.size, 0, none⟩ = some (.string a0_0) := (blk_cell BO.out 0).trans rfl
            have cbwr_1 : wr.cell? ⟨w.heap.size, 1, none⟩ = some (.slice A0_1 l0_1.length c0_1) := (blk_cell BO.out 1).trans rfl
            have cbwr_2 : wr.cell? ⟨w.heap.size, 2, none⟩ = some (.slice A0_2 l0_2.length c0_2) := (blk_cell BO.out 2).trans rfl
            have cbwr_3 : wr.cell? ⟨w.heap.size, 3, none⟩ = some (.slice A0_3 l0_3.length c0_3) := (blk_cell BO.out 3).trans rfl
            have hzwr : w.heap.size < wr.heap.size := blk_lt BO.out
            go_wp2_with (first | (go_at_call 19; (with_reducible refine (writer_number w _ (w1.heap.size + 1) _ _ 10 _ PT3.out HW.out (by have h1 := PB3.out; have h2 := L1.out; have h3 := SYA.out l0_2.length; rw [List.take_length] at h3; rw [List.length_append]; omega)).mono ?_); rintro e w9 ⟨rfl, hw_, hk_⟩; have HWw9 := Aside0.mk (show Wr w w9 (w1.heap.size + 1) (front COT1 a0_0 l0_1 l0_2 ++ putL l0_3.length) from wr_eq hw_ (by rw [of_strPut, front])); have BOw9 := Aside0.mk (hk_.2 _ _ (BO.out) (Nat.ne_of_lt (Nat.lt_succ_of_lt hzw1)) (by intro cs fr h_; cases h_)); clear hw_ hk_; have cbw9_0 : w9.cell? ⟨w.heap.size, 0, none⟩ = some (.string a0_0) := (blk_cell BOw9.out 0).trans rfl; have cbw9_1 : w9.cell? ⟨w.heap.size, 1, none⟩ = some (.slice A0_1 l0_1.length c0_1) := (blk_cell BOw9.out 1).trans rfl; have cbw9_2 : w9.cell? ⟨w.heap.size, 2, none⟩ = some (.slice A0_2 l0_2.length c0_2) := (blk_cell BOw9.out 2).trans rfl; have cbw9_3 : w9.cell? ⟨w.heap.size, 3, none⟩ = some (.slice A0_3 l0_3.length c0_3) := (blk_cell BOw9.out 3).trans rfl; have hzw9 : w.heap.size < w9.heap.size := blk_lt BOw9.out))
            go_loopw [74] (fun v wr => ∃ k : Nat, k ≤ l0_3.length ∧ v = .int .i64 k ∧ Aside0 (Wr w wr (w1.heap.size + 1) ((front COT1 a0_0 l0_1 l0_2 ++ putL l0_3.length) ++ relsL (l0_3.take k))) ∧ Aside0 (wr.heap[w.heap.size]? = some (.cells #[.string a0_0, .slice A0_1 l0_1.length c0_1, .slice A0_2 l0_2.length c0_2, .slice A0_3 l0_3.length c0_3] 26))) (fun v _ => l0_3.length - (intOf v).toNat)
            case atStart => exact ⟨0, Nat.zero_le _, rfl, ⟨wr_eq HWw9.out (by simp [relsL])⟩, BOw9⟩
            case round =>
              clear HW BO cbwr_0 cbwr_1 cbwr_2 cbwr_3 hzwr
              obtain ⟨k, hk, rfl, HW, BO⟩ := hrel
              by_cases hlt : k < l0_3.length
              case pos =>
                obtain ⟨ad, he, hx0, hx1, hx2, hx3⟩ := at_T43 HR3.out (k : Int) (by omega) (by omega)
                cases he
                replace hx0 := (HW.out.2.2.cell (World.block_lt_of_cell? w _ hx0)).trans hx0
                replace hx1 := (HW.out.2.2.cell (World.block_lt_of_cell? w _ hx1)).trans hx1
                replace hx2 := (HW.out.2.2.cell (World.block_lt_of_cell? w _ hx2)).trans hx2
                replace hx3 := (HW.out.2.2.cell (World.block_lt_of_cell? w _ hx3)).trans hx3
                have hrd : rd_T43 l0_3 (k : Int) = l0_3[k] := by simp [rd_T43, List.getD_eq_getElem?_getD, List.getElem?_eq_getElem hlt]
                rw [hrd] at hx0 hx1 hx2 hx3
                simp only [Int.toNat_natCast] at hx0 hx1 hx2 hx3
                have MM := M6.out _ (List.getElem_mem hlt)
                have SN := Aside0.mk (relsL_snoc l0_3 k hlt)
                clear hrd
                generalize l0_3[k] = s at hx0 hx1 hx2 hx3 SN MM
                obtain ⟨s0, s1, s2, s3⟩ := s
                dsimp only at hx0 hx1 hx2 hx3 MM
                have N1 := Aside0.mk (put8' s0 MM.2.1 (by have := MM.2.2.1; omega))
                have N2 := Aside0.mk (put8 s2.size (by have := MM.1.2; omega))
                have BY := Aside0.mk (bytes8 s3 MM.2.2.2.2)
                have Z1 := Aside0.mk (show (strOfNums (putL s2.size)).size ≤ 10 ∧ s2.size ≤ 28 from ⟨by rw [str_size _ (putL_bs _)]; exact put_small (by have := MM.1.2; omega), MM.1.2⟩)
                have Z2 := Aside0.mk (show (strOfNums (putL s0.toNat)).size ≤ 10 by rw [str_size _ (putL_bs _)]; exact put_small (by have := MM.2.2.1; omega))
                have Z3 := Aside0.mk (show (strOfNums (leL s3 8)).size = 8 by rw [str_size _ (leL_bs _ _), leL_len])
                have LX := Aside0.mk (show ((front COT1 a0_0 l0_1 l0_2 ++ putL l0_3.length) ++ relsL (l0_3.take k)).length ≤ 700000 by rw [List.length_append]; have h1 := L3.out; have h2 := SRA.out k; omega)
                clear MM
                have HSZ := Aside0.mk (show w1.heap.size + 1 < wr.heap.size from (by obtain ⟨_, ⟨v, h2, _⟩, _⟩ := HW.out; exact blk_lt h2))
                clear HR1 HR2 HC1 HC2 HC3 SDA SYA PT0 PT1 PT2 PT3 PB0 PB1 PB2 PB3 L0 LT L1 L2 M1 M5 HW0 PP0 CK HB1 kc HR3 M6 HRES
                have cbwr_0 : wr.cell? ⟨w.heap.size, 0, none⟩ = some (.string a0_0) := (blk_cell BO.out 0).trans rfl
                have cbwr_1 : wr.cell? ⟨w.heap.size, 1, none⟩ = some (.slice A0_1 l0_1.length c0_1) := (blk_cell BO.out 1).trans rfl
                have cbwr_2 : wr.cell? ⟨w.heap.size, 2, none⟩ = some (.slice A0_2 l0_2.length c0_2) := (blk_cell BO.out 2).trans rfl
                have cbwr_3 : wr.cell? ⟨w.heap.size, 3, none⟩ = some (.slice (some ad) l0_3.length c0_3) := (blk_cell BO.out 3).trans rfl
                have hzwr : w.heap.size < wr.heap.size := blk_lt BO.out
                go_wp2_with (first | (go_at_call 19; (with_reducible refine (writer_number w _ (w1.heap.size + 1) _ s0 10 _ N1.out (HW.out.below (below_alloc (Below.refl _ _) _)) (by have h1 := LX.out; have h2 := Z2.out; omega)).mono ?_); rintro e wa ⟨rfl, hw_, hk_⟩; have HWwa := Aside0.mk hw_; have BOwa := Aside0.mk (hk_.2 _ _ (blk_alloc BO.out _) (Nat.ne_of_lt (Nat.lt_succ_of_lt hzw1)) (by intro cs fr h_; cases h_)); have SBwa := Aside0.mk (hk_.2 wr.heap.size (.cells #[.int .i64 s0, .int .i64 s1, .string s2, .int .i64 s3] 43 (0, 0)) (blk_new _ _) (Nat.ne_of_gt HSZ.out) (by intro cs fr h_; cases h_)); have scwa_0 : wa.cell? ⟨wr.heap.size, 0, none⟩ = some (.int .i64 s0) := (blk_cell SBwa.out 0).trans rfl; have scwa_1 : wa.cell? ⟨wr.heap.size, 1, none⟩ = some (.int .i64 s1) := (blk_cell SBwa.out 1).trans rfl; have scwa_2 : wa.cell? ⟨wr.heap.size, 2, none⟩ = some (.string s2) := (blk_cell SBwa.out 2).trans rfl; have scwa_3 : wa.cell? ⟨wr.heap.size, 3, none⟩ = some (.int .i64 s3) := (blk_cell SBwa.out 3).trans rfl; clear hw_ hk_; clear cbwr_0 cbwr_1 cbwr_2 cbwr_3 hzwr; have cbwa_0 : wa.cell? ⟨w.heap.size, 0, none⟩ = some (.string a0_0) := (blk_cell BOwa.out 0).trans rfl; have cbwa_1 : wa.cell? ⟨w.heap.size, 1, none⟩ = some (.slice A0_1 l0_1.length c0_1) := (blk_cell BOwa.out 1).trans rfl; have cbwa_2 : wa.cell? ⟨w.heap.size, 2, none⟩ = some (.slice A0_2 l0_2.length c0_2) := (blk_cell BOwa.out 2).trans rfl; have cbwa_3 : wa.cell? ⟨w.heap.size, 3, none⟩ = some (.slice (some ad) l0_3.length c0_3) := (blk_cell BOwa.out 3).trans rfl; have hzwa : w.heap.size < wa.heap.size := blk_lt BOwa.out) | (go_at_call 21; (with_reducible refine (writer_one w _ (w1.heap.size + 1) _ s1 HWwa.out (by have h1 := LX.out; have h2 := Z2.out; simp only [List.length_append, bytesOf_length, List.length_cons, List.length_nil] at h1 ⊢; omega)).mono ?_); rintro e wb ⟨rfl, hw_, hk_⟩; have HWwb := Aside0.mk hw_; have BOwb := Aside0.mk (hk_.2 _ _ (BOwa.out) (Nat.ne_of_lt (Nat.lt_succ_of_lt hzw1)) (by intro cs fr h_; cases h_)); have SBwb := Aside0.mk (hk_.2 wr.heap.size (.cells #[.int .i64 s0, .int .i64 s1, .string s2, .int .i64 s3] 43 (0, 0)) (SBwa.out) (Nat.ne_of_gt HSZ.out) (by intro cs fr h_; cases h_)); have scwb_0 : wb.cell? ⟨wr.heap.size, 0, none⟩ = some (.int .i64 s0) := (blk_cell SBwb.out 0).trans rfl; have scwb_1 : wb.cell? ⟨wr.heap.size, 1, none⟩ = some (.int .i64 s1) := (blk_cell SBwb.out 1).trans rfl; have scwb_2 : wb.cell? ⟨wr.heap.size, 2, none⟩ = some (.string s2) := (blk_cell SBwb.out 2).trans rfl; have scwb_3 : wb.cell? ⟨wr.heap.size, 3, none⟩ = some (.int .i64 s3) := (blk_cell SBwb.out 3).trans rfl; clear hw_ hk_; clear cbwa_0 cbwa_1 cbwa_2 cbwa_3 hzwa scwa_0 scwa_1 scwa_2 scwa_3; have cbwb_0 : wb.cell? ⟨w.heap.size, 0, none⟩ = some (.string a0_0) := (blk_cell BOwb.out 0).trans rfl; have cbwb_1 : wb.cell? ⟨w.heap.size, 1, none⟩ = some (.slice A0_1 l0_1.length c0_1) := (blk_cell BOwb.out 1).trans rfl; have cbwb_2 : wb.cell? ⟨w.heap.size, 2, none⟩ = some (.slice A0_2 l0_2.length c0_2) := (blk_cell BOwb.out 2).trans rfl; have cbwb_3 : wb.cell? ⟨w.heap.size, 3, none⟩ = some (.slice (some ad) l0_3.length c0_3) := (blk_cell BOwb.out 3).trans rfl; have hzwb : w.heap.size < wb.heap.size := blk_lt BOwb.out) | (go_at_call 18; (with_reducible refine (writer_text w _ (w1.heap.size + 1) _ s2 10 _ N2.out HWwb.out (by have h1 := LX.out; have h2 := Z2.out; have h3 := Z1.out.1; have h4 := Z1.out.2; simp only [List.length_append, bytesOf_length, List.length_cons, List.length_nil] at h1 ⊢; omega)).mono ?_); rintro e wc ⟨rfl, hw_, hk_⟩; have HWwc := Aside0.mk hw_; have BOwc := Aside0.mk (hk_.2 _ _ (BOwb.out) (Nat.ne_of_lt (Nat.lt_succ_of_lt hzw1)) (by intro cs fr h_; cases h_)); have SBwc := Aside0.mk (hk_.2 wr.heap.size (.cells #[.int .i64 s0, .int .i64 s1, .string s2, .int .i64 s3] 43 (0, 0)) (SBwb.out) (Nat.ne_of_gt HSZ.out) (by intro cs fr h_; cases h_)); have scwc_0 : wc.cell? ⟨wr.heap.size, 0, none⟩ = some (.int .i64 s0) := (blk_cell SBwc.out 0).trans rfl; have scwc_1 : wc.cell? ⟨wr.heap.size, 1, none⟩ = some (.int .i64 s1) := (blk_cell SBwc.out 1).trans rfl; have scwc_2 : wc.cell? ⟨wr.heap.size, 2, none⟩ = some (.string s2) := (blk_cell SBwc.out 2).trans rfl; have scwc_3 : wc.cell? ⟨wr.heap.size, 3, none⟩ = some (.int .i64 s3) := (blk_cell SBwc.out 3).trans rfl; clear hw_ hk_; clear cbwb_0 cbwb_1 cbwb_2 cbwb_3 hzwb scwb_0 scwb_1 scwb_2 scwb_3; have cbwc_0 : wc.cell? ⟨w.heap.size, 0, none⟩ = some (.string a0_0) := (blk_cell BOwc.out 0).trans rfl; have cbwc_1 : wc.cell? ⟨w.heap.size, 1, none⟩ = some (.slice A0_1 l0_1.length c0_1) := (blk_cell BOwc.out 1).trans rfl; have cbwc_2 : wc.cell? ⟨w.heap.size, 2, none⟩ = some (.slice A0_2 l0_2.length c0_2) := (blk_cell BOwc.out 2).trans rfl; have cbwc_3 : wc.cell? ⟨w.heap.size, 3, none⟩ = some (.slice (some ad) l0_3.length c0_3) := (blk_cell BOwc.out 3).trans rfl; have hzwc : w.heap.size < wc.heap.size := blk_lt BOwc.out) | (go_at_call 20; (with_reducible refine (writer_wide w _ (w1.heap.size + 1) _ s3 10 _ 0 BY.out HWwc.out (by have h1 := LX.out; have h2 := Z2.out; have h3 := Z1.out.1; have h4 := Z1.out.2; have h5 := Z3.out; simp only [List.length_append, bytesOf_length, List.length_cons, List.length_nil] at h1 ⊢; omega)).mono ?_); rintro e wd ⟨rfl, hw_, hk_⟩; have HWwd := Aside0.mk (show Wr w wd (w1.heap.size + 1) ((front COT1 a0_0 l0_1 l0_2 ++ putL l0_3.length) ++ relsL (l0_3.take (k + 1))) from wr_eq hw_ (by rw [of_strPut, of_strPut, of_strLe, SN.out]; simp only [relL, textL, List.append_assoc])); have BOwd := Aside0.mk (hk_.2 _ _ (BOwc.out) (Nat.ne_of_lt (Nat.lt_succ_of_lt hzw1)) (by intro cs fr h_; cases h_)); clear hw_ hk_ cbwc_0 scwc_0 cbwc_1 scwc_1 cbwc_2 scwc_2 cbwc_3 scwc_3 hzwc hx0 hx1 hx2 hx3 N1 N2 BY Z1 Z2 Z3 LX SN HWwa HWwb HWwc BOwa BOwb BOwc SBwa SBwb SBwc HSZ HW BO))
                go_roundw
                case rel => exact ⟨k + 1, by omega, by first | rfl | go_num, HWwd, BOwd⟩
                case measure => simp [intOf]; omega
              case neg =>
                obtain rfl : k = l0_3.length := by omega
                rw [List.take_length] at HW
                clear hlt hk
                have cbwr_0 : wr.cell? ⟨w.heap.size, 0, none⟩ = some (.string a0_0) := (blk_cell BO.out 0).trans rfl
                have cbwr_1 : wr.cell? ⟨w.heap.size, 1, none⟩ = some (.slice A0_1 l0_1.length c0_1) := (blk_cell BO.out 1).trans rfl
                have cbwr_2 : wr.cell? ⟨w.heap.size, 2, none⟩ = some (.slice A0_2 l0_2.length c0_2) := (blk_cell BO.out 2).trans rfl
                have cbwr_3 : wr.cell? ⟨w.heap.size, 3, none⟩ = some (.slice A0_3 l0_3.length c0_3) := (blk_cell BO.out 3).trans rfl
                have hzwr : w.heap.size < wr.heap.size := blk_lt BO.out
                obtain ⟨A1, n1, c1, hc1, hcv, hcv0⟩ := wr_end HW.out HRES.out
                have HBZ := Aside0.mk HW.out.2.2
                go_wp2_with fail
                go_ret2
                exact ⟨rfl, HBZ.out⟩
end Go.Proofs.Ytilmndkbloodbaa.M

/-
  Layer 6: plain: what is written reads as it was. (Of the object's form with anything behind it.)
-/
namespace Go.Proofs.Ytilmndkbloodbaa.M
open Go.RowKit Go.Proofs.YtilmndkbloodbaaW.PrintWords Go.Proofs.Ytilmndkbloodbaa.Num Go.Proofs.Ytilmndkbloodbaa.Seven Go.Proofs.Ytilmndkbloodbaa.Word1 Go.Proofs.Ytilmndkbloodbaa.Obj
set_option linter.unusedVariables false
set_option linter.unusedSimpArgs false
theorem drop_len {s : ByteArray} {p : Nat} {a r : List Int} (h : (bytesOf s).drop p = a ++ r) (ha : 0 < a.length) : p + a.length ≤ s.size ∧ (bytesOf s).drop (p + a.length) = r := by
  have h1 := congrArg List.length h
  rw [List.length_drop, bytesOf_length, List.length_append] at h1
  refine ⟨by omega, ?_⟩
  rw [← List.drop_drop, h, List.drop_left]
theorem drop_len' {s : ByteArray} {p : Nat} {a r : List Int} (hp : p ≤ s.size) (h : (bytesOf s).drop p = a ++ r) : p + a.length ≤ s.size ∧ (bytesOf s).drop (p + a.length) = r := by
  have h1 := congrArg List.length h
  rw [List.length_drop, bytesOf_length, List.length_append] at h1
  refine ⟨by omega, ?_⟩
  rw [← List.drop_drop, h, List.drop_left]
theorem numA_put {s : ByteArray} {most : Int} {p u : Nat} {r : List Int} (h : (bytesOf s).drop p = putL u ++ r) (hm : (u : Int) ≤ most) (hu : u < 18446744073709551616) : numA s most p = some ((u : Int), p + (putL u).length) := by
  have hp := (drop_len h (putL_pos u)).1
  have e : takeR s p = ((u : Int), (p : Int) + ((putL u).length : Nat), 0) := by
    unfold takeR
    rw [if_neg (by omega), Int.toNat_natCast, h, takeL_putL u u 0 r (Nat.le_refl _) (by simpa using hu) (Or.inl rfl)]
  unfold numA
  rw [e]
  dsimp only
  rw [if_pos ⟨rfl, hm⟩, show ((p : Int) + ((putL u).length : Nat)).toNat = p + (putL u).length by omega]
theorem bytesOf_extract (s : ByteArray) (p n : Nat) : bytesOf (s.extract p (p + n)) = ((bytesOf s).drop p).take n := by
  simp [bytesOf, ByteArray.data_extract, List.map_take, List.map_drop]
theorem bytesA_put {s x : ByteArray} {p : Nat} {r : List Int} (hp : p ≤ s.size) (h : (bytesOf s).drop p = bytesOf x ++ r) : bytesA s x.size p = some (x, p + x.size) := by
  have h1 := drop_len' hp h
  rw [bytesOf_length] at h1
  unfold bytesA
  rw [if_pos h1.1]
  have e : s.extract p (p + x.size) = x := by
    apply bytesOf_inj
    rw [bytesOf_extract, h, ← bytesOf_length x, List.take_left]
  rw [e]
theorem oneA_put {s : ByteArray} {p : Nat} {b : Int} {r : List Int} (h : (bytesOf s).drop p = b :: r) : oneA s p = some (b, p + 1) := by
  have h1 := (drop_len (a := [b]) (r := r) h (by simp)).1
  simp only [List.length_singleton] at h1
  have h2 := bt_drop s p (by omega)
  rw [h] at h2
  unfold oneA
  rw [if_pos (by omega), ← (List.cons.inj h2).1]
theorem wideA_put {s : ByteArray} {p : Nat} {n : Int} {r : List Int} (h : (bytesOf s).drop p = leL n 8 ++ r) (h0 : -9223372036854775808 ≤ n) (h1 : n < 9223372036854775808) : wideA s p = some (n, p + 8) := by
  have hl := (drop_len h (by rw [leL_len]; omega)).1
  rw [leL_len] at hl
  have hb : bytesA s 8 p = some (strOfNums (leL n 8), p + 8) := by
    have hz : (strOfNums (leL n 8)).size = 8 := by rw [str_size _ (leL_bs _ _), leL_len]
    have := bytesA_put (s := s) (x := strOfNums (leL n 8)) (p := p) (r := r) (by omega) (by rw [bytesOf_str (leL_bs _ _)]; exact h)
    rw [hz] at this
    exact this
  unfold wideA
  rw [hb]
  have hn := num_bytes n 8 h0 h1 (Or.inr (Or.inr rfl))
  have e : (bytesR n 8).1 = strOfNums (leL n 8) := by
    unfold bytesR
    rw [if_pos (Or.inr (Or.inr rfl))]
    rfl
  rw [e] at hn
  simp [hn]
theorem textA_put {s x : ByteArray} {most : Int} {p : Nat} {r : List Int} (h : (bytesOf s).drop p = textL x ++ r) (hm : (x.size : Int) ≤ most) (hx : x.size < 18446744073709551616) : textA s most p = some (x, p + (textL x).length) := by
  unfold textL at *
  rw [List.append_assoc] at h
  have h1 := drop_len h (putL_pos _)
  unfold textA
  rw [numA_put h hm hx, Option.bind_some]
  dsimp only
  rw [Int.toNat_natCast, bytesA_put h1.1 h1.2, List.length_append, bytesOf_length, Nat.add_assoc]
theorem textL_pos (x : ByteArray) : 0 < (textL x).length := by
  unfold textL
  rw [List.length_append]
  have := putL_pos x.size
  omega
theorem symA_put {s : ByteArray} {y : S41} {p : Nat} {r : List Int} (h : (bytesOf s).drop p = symL y ++ r) (hn : named y.f0) (h0 : 0 ≤ y.f2) (h1 : y.f2 < 65536) (hk : y.f1 = 1 ∨ y.f1 = 2 ∨ y.f1 = 3) : symA s p = some (y, p + (symL y).length) := by
  obtain ⟨y0, y1, y2⟩ := y
  dsimp only at *
  unfold symL at *
  dsimp only at *
  rw [List.append_assoc, List.append_assoc] at h
  have a1 := drop_len h (textL_pos _)
  have a2 := drop_len a1.2 (by simp)
  simp only [List.length_singleton] at *
  have hkk : y1 % 256 = y1 := by omega
  unfold symA
  rw [textA_put h (by have := hn.2; omega) (by have := hn.2; omega), Option.bind_some]
  dsimp only
  have a3 := a1.2
  rw [List.singleton_append] at a3
  rw [oneA_put a3, Option.bind_some]
  dsimp only
  rw [numA_put a2.2 (by omega) (by omega), Option.bind_some, hkk, Int.toNat_of_nonneg h0]
  simp [Nat.add_assoc]
  omega
theorem relA_put {s : ByteArray} {y : S43} {p : Nat} {r : List Int} (h : (bytesOf s).drop p = relL y ++ r) (hn : named y.f2) (h0 : 0 ≤ y.f0) (h1 : y.f0 < 65536) (hk : y.f1 = 1 ∨ y.f1 = 2) (h2 : -9223372036854775808 ≤ y.f3) (h3 : y.f3 < 9223372036854775808) : relA s p = some (y, p + (relL y).length) := by
  obtain ⟨y0, y1, y2, y3⟩ := y
  dsimp only at *
  unfold relL at *
  dsimp only at *
  rw [List.append_assoc, List.append_assoc, List.append_assoc] at h
  have a1 := drop_len h (putL_pos _)
  have a2 := drop_len a1.2 (by simp)
  have a3 := drop_len a2.2 (textL_pos _)
  simp only [List.length_singleton] at *
  have hkk : y1 % 256 = y1 := by omega
  unfold relA
  rw [numA_put h (by omega) (by omega), Option.bind_some]
  dsimp only
  have a4 := a1.2
  rw [List.singleton_append] at a4
  rw [oneA_put a4, Option.bind_some]
  dsimp only
  rw [textA_put a2.2 (by have := hn.2; omega) (by have := hn.2; omega), Option.bind_some]
  dsimp only
  rw [wideA_put a3.2 h2 h3, Option.bind_some, hkk, Int.toNat_of_nonneg h0]
  simp [Nat.add_assoc, leL_len]
  omega
theorem manyA_put {α : Type} {s : ByteArray} {q : Nat → Option (α × Nat)} {enc : α → List Int} {ok : α → Prop} (hq : ∀ x p r, ok x → p ≤ s.size → (bytesOf s).drop p = enc x ++ r → q p = some (x, p + (enc x).length)) : ∀ (l : List α) (p : Nat) (r : List Int), (∀ x ∈ l, ok x) → p ≤ s.size → (bytesOf s).drop p = l.flatMap enc ++ r → manyA q l.length p = some (l, p + (l.flatMap enc).length) := by
  intro l
  induction l with
  | nil => intro p r _ _ _; simp [manyA]
  | cons x l ih =>
    intro p r hok hp h
    rw [List.flatMap_cons, List.append_assoc] at h
    have h1 := drop_len' hp h
    rw [List.length_cons, manyA, hq x p _ (hok x (by simp)) hp h, Option.bind_some]
    dsimp only
    rw [ih _ r (fun y hy => hok y (by simp [hy])) h1.1 h1.2]
    simp [Nat.add_assoc]
theorem listA_put {α : Type} {s : ByteArray} {q : Nat → Option (α × Nat)} {enc : α → List Int} {ok : α → Prop} (hq : ∀ x p r, ok x → p ≤ s.size → (bytesOf s).drop p = enc x ++ r → q p = some (x, p + (enc x).length)) {most : Int} {p : Nat} {l : List α} {r : List Int} (h : (bytesOf s).drop p = putL l.length ++ (l.flatMap enc ++ r)) (hl : (l.length : Int) ≤ most) (hm : most < 18446744073709551616) (hok : ∀ x ∈ l, ok x) :
    listA s most q p = some (l, p + (putL l.length).length + (l.flatMap enc).length) := by
  have h1 := drop_len h (putL_pos _)
  unfold listA
  rw [numA_put h hl (by omega), Option.bind_some]
  dsimp only
  rw [Int.toNat_natCast, manyA_put hq l _ r hok h1.1 h1.2]
theorem parse_form {s code : ByteArray} {data : List Int} {syms : List S41} {rels : List S43} {rest : List Int} (h : bytesOf s = form COT1 code data syms rels ++ rest) (hm : may code data syms rels = true) (hw : wordsOk data) :
    frontA s COT1s 0 = some (code, data, syms, (front COT1 code data syms).length) ∧ listA s 8000 (relA s) (front COT1 code data syms).length = some (rels, (form COT1 code data syms rels).length) := by
  obtain ⟨m1, m2, m3, m4, m5, m6⟩ := may_parts hm
  have h0 : (bytesOf s).drop 0 = bytesOf COT1s ++ (textL code ++ (putL data.length ++ (dataL data ++ (putL syms.length ++ (symsL syms ++ (putL rels.length ++ (relsL rels ++ rest))))))) := by
    rw [List.drop_zero, h]
    unfold form front front1 front0
    rw [show bytesOf COT1s = COT1 from bytesOf_str cot_bs]
    simp only [List.append_assoc]
  have a0 := drop_len' (Nat.zero_le _) h0
  have b0 := bytesA_put (Nat.zero_le _) h0
  rw [bytesOf_length] at a0
  rw [show COT1s.size = 4 from rfl] at a0 b0
  have a1 := drop_len' a0.1 a0.2
  have b1 := textA_put (most := 65536) a0.2 (by omega) (by omega)
  have a2 := drop_len' a1.1 a1.2
  have b2 := listA_put (q := wideA s) (enc := fun n => leL n 8) (ok := fun n => -9223372036854775808 ≤ n ∧ n < 9223372036854775808) (fun x p r hx hp h => by rw [leL_len]; exact wideA_put h hx.1 hx.2) (most := 4096) a1.2 (by omega) (by omega) hw
  have a3 := drop_len' a2.1 a2.2
  have a4 := drop_len' a3.1 a3.2
  have b4 := listA_put (q := symA s) (enc := symL) (ok := fun y => named y.f0 ∧ 0 ≤ y.f2 ∧ y.f2 < 65536 ∧ (y.f1 = 1 ∨ y.f1 = 2 ∨ y.f1 = 3)) (fun x p r hx hp h => symA_put h hx.1 hx.2.1 hx.2.2.1 hx.2.2.2) (most := 1000) a3.2 (by omega) (by omega) m5
  have a5 := drop_len' a4.1 a4.2
  have b5 := listA_put (q := relA s) (enc := relL) (ok := fun y => named y.f2 ∧ 0 ≤ y.f0 ∧ y.f0 < 65536 ∧ (y.f1 = 1 ∨ y.f1 = 2) ∧ -9223372036854775808 ≤ y.f3 ∧ y.f3 < 9223372036854775808) (fun x p r hx hp h => relA_put h hx.1 hx.2.1 hx.2.2.1 hx.2.2.2.1 hx.2.2.2.2.1 hx.2.2.2.2.2) (most := 8000) a5.2 (by omega) (by omega) m6
  have e1 : (front COT1 code data syms).length = 0 + 4 + (textL code).length + (putL data.length).length + (dataL data).length + (putL syms.length).length + (symsL syms).length := by
    unfold front front1 front0
    simp only [List.length_append, show COT1.length = 4 from rfl]
    try omega
  have e2 : (form COT1 code data syms rels).length = (front COT1 code data syms).length + (putL rels.length).length + (relsL rels).length := by
    unfold form
    simp only [List.length_append]
  refine ⟨?_, ?_⟩
  · unfold frontA
    rw [b0, Option.bind_some]
    dsimp only
    rw [if_pos rfl, b1, Option.bind_some]
    dsimp only
    rw [b2, Option.bind_some]
    dsimp only
    rw [show (data.flatMap fun n => leL n 8) = dataL data from rfl, b4, e1]
    rfl
  · rw [e2, e1]
    exact b5
/-- A form, with anything behind it. -/
theorem read_form {s code : ByteArray} {data : List Int} {syms : List S41} {rels : List S43} {rest : List Int} (h : bytesOf s = form COT1 code data syms rels ++ rest) (hm : may code data syms rels = true) (hw : wordsOk data) :
    readA s = if rest = [] then some (code, data, syms, rels) else none := by
  obtain ⟨h1, h2⟩ := parse_form h hm hw
  have hl := congrArg List.length h
  rw [bytesOf_length, List.length_append] at hl
  unfold readA
  rw [h1, Option.bind_some]
  dsimp only
  rw [h2, Option.bind_some]
  dsimp only
  by_cases hr : rest = []
  · subst hr
    rw [if_pos ⟨by simpa using hl.symm, hm⟩, if_pos rfl]
  · have : 0 < rest.length := List.length_pos_iff.mpr hr
    rw [if_neg (by omega), if_neg hr]
/-! ### What is read was written so -/
theorem numA_back {s : ByteArray} {most : Int} {p : Nat} {n : Int} {q : Nat} (h : numA s most p = some (n, q)) (hp : p ≤ s.size) : q ≤ s.size ∧ 0 ≤ n ∧ n ≤ most ∧ (bytesOf s).drop p = putL n.toNat ++ (bytesOf s).drop q := by
  have := numA_ok h hp
  exact ⟨this.2.1, this.2.2.1, this.2.2.2.1, this.2.2.2.2.2.1⟩
theorem bytesA_back {s x : ByteArray} {n p q : Nat} (h : bytesA s n p = some (x, q)) : q ≤ s.size ∧ x.size = n ∧ (bytesOf s).drop p = bytesOf x ++ (bytesOf s).drop q := by
  obtain ⟨rfl, h2, rfl, h4⟩ := bytesA_ok h
  refine ⟨h2, h4, ?_⟩
  rw [bytesOf_extract, ← List.drop_drop, List.take_append_drop]
theorem oneA_back {s : ByteArray} {p : Nat} {n : Int} {q : Nat} (h : oneA s p = some (n, q)) : q ≤ s.size ∧ (bytesOf s).drop p = [n % 256] ++ (bytesOf s).drop q := by
  obtain ⟨rfl, h2, h3, h4, h5⟩ := oneA_ok h
  refine ⟨h2, ?_⟩
  rw [bt_drop s p (by omega), h3, show bt s p % 256 = bt s p by rw [← h3]; omega]
  rfl
theorem leL_wrap (u : Int) : leL (wrap64 u) 8 = leL u 8 := by
  have e : wrap64 u % 18446744073709551616 = u % 18446744073709551616 := by unfold wrap64; omega
  have h1 := leL_mod' (wrap64 u) 8 (by omega)
  have h2 := leL_mod' u 8 (by omega)
  rw [← h1, ← h2, e]
theorem wideA_back {s : ByteArray} {p : Nat} {n : Int} {q : Nat} (h : wideA s p = some (n, q)) : q ≤ s.size ∧ -9223372036854775808 ≤ n ∧ n < 9223372036854775808 ∧ (bytesOf s).drop p = leL n 8 ++ (bytesOf s).drop q := by
  obtain ⟨rfl, h2, h3, h4⟩ := wideA_ok h
  have hb := bytesA_back (s := s) (x := s.extract p (p + 8)) (n := 8) (p := p) (q := p + 8) (by unfold bytesA; rw [if_pos h2])
  have e : (numR (s.extract p (p + 8))).1 = wrap64 (unleL (bytesOf (s.extract p (p + 8)))) := by
    unfold numR
    rw [if_neg (by omega), if_neg (by omega), if_pos h4]
  rw [e] at h3
  subst h3
  have hl := leL_unleL _ (bytesOf_Bs (s.extract p (p + 8)))
  rw [bytesOf_length, h4] at hl
  have hr := wrap64_range (unleL (bytesOf (s.extract p (p + 8))))
  exact ⟨h2, hr.1, hr.2, by rw [leL_wrap, hl]; exact hb.2.2⟩
theorem textA_back {s x : ByteArray} {most : Int} {p q : Nat} (h : textA s most p = some (x, q)) (hp : p ≤ s.size) : q ≤ s.size ∧ (bytesOf s).drop p = textL x ++ (bytesOf s).drop q := by
  unfold textA at h
  obtain ⟨⟨n, r⟩, h1, h2⟩ := Option.bind_eq_some_iff.1 h
  have a := numA_back h1 hp
  have b := bytesA_back h2
  refine ⟨b.1, ?_⟩
  rw [a.2.2.2, b.2.2, ← b.2.1]
  unfold textL
  rw [List.append_assoc]
theorem symA_back {s : ByteArray} {p q : Nat} {y : S41} (h : symA s p = some (y, q)) (hp : p ≤ s.size) : q ≤ s.size ∧ (bytesOf s).drop p = symL y ++ (bytesOf s).drop q := by
  unfold symA at h
  obtain ⟨⟨x1, q1⟩, h1, h⟩ := Option.bind_eq_some_iff.1 h
  obtain ⟨⟨x2, q2⟩, h2, h⟩ := Option.bind_eq_some_iff.1 h
  obtain ⟨⟨x3, q3⟩, h3, h⟩ := Option.bind_eq_some_iff.1 h
  obtain ⟨rfl, rfl⟩ := Prod.mk.inj (Option.some.inj h)
  have a1 := textA_back h1 hp
  have a2 := oneA_back h2
  have a3 := numA_back h3 a2.1
  refine ⟨a3.1, ?_⟩
  rw [a1.2, a2.2, a3.2.2.2]
  simp only [symL, List.append_assoc]
theorem relA_back {s : ByteArray} {p q : Nat} {y : S43} (h : relA s p = some (y, q)) (hp : p ≤ s.size) : q ≤ s.size ∧ (bytesOf s).drop p = relL y ++ (bytesOf s).drop q := by
  unfold relA at h
  obtain ⟨⟨x1, q1⟩, h1, h⟩ := Option.bind_eq_some_iff.1 h
  obtain ⟨⟨x2, q2⟩, h2, h⟩ := Option.bind_eq_some_iff.1 h
  obtain ⟨⟨x3, q3⟩, h3, h⟩ := Option.bind_eq_some_iff.1 h
  obtain ⟨⟨x4, q4⟩, h4, h⟩ := Option.bind_eq_some_iff.1 h
  obtain ⟨rfl, rfl⟩ := Prod.mk.inj (Option.some.inj h)
  have a1 := numA_back h1 hp
  have a2 := oneA_back h2
  have a3 := textA_back h3 a2.1
  have a4 := wideA_back h4
  refine ⟨a4.1, ?_⟩
  rw [a1.2.2.2, a2.2, a3.2, a4.2.2.2]
  simp only [relL, List.append_assoc]
theorem manyA_back {α : Type} {s : ByteArray} {q : Nat → Option (α × Nat)} {enc : α → List Int} {ok : α → Prop} (hq : ∀ x p r, p ≤ s.size → q p = some (x, r) → r ≤ s.size ∧ (bytesOf s).drop p = enc x ++ (bytesOf s).drop r ∧ ok x) : ∀ (n : Nat) (l : List α) (p r : Nat), p ≤ s.size → manyA q n p = some (l, r) → l.length = n ∧ r ≤ s.size ∧ (bytesOf s).drop p = l.flatMap enc ++ (bytesOf s).drop r ∧ ∀ x ∈ l, ok x := by
  intro n
  induction n with
  | zero =>
    intro l p r hp h
    unfold manyA at h
    obtain ⟨rfl, rfl⟩ := Prod.mk.inj (Option.some.inj h)
    exact ⟨rfl, hp, rfl, fun x hx => by cases hx⟩
  | succ n ih =>
    intro l p r hp h
    rw [manyA] at h
    obtain ⟨⟨x, p1⟩, h1, h⟩ := Option.bind_eq_some_iff.1 h
    obtain ⟨⟨l1, p2⟩, h2, h⟩ := Option.map_eq_some_iff.1 h
    obtain ⟨rfl, rfl⟩ := Prod.mk.inj h
    have a := hq x p p1 hp h1
    have b := ih l1 p1 p2 a.1 h2
    refine ⟨by simp [b.1], b.2.1, ?_, ?_⟩
    · rw [a.2.1, b.2.2.1, List.flatMap_cons, List.append_assoc]
    · intro z hz
      rcases List.mem_cons.1 hz with rfl | hz
      · exact a.2.2
      · exact b.2.2.2 z hz
theorem listA_back {α : Type} {s : ByteArray} {q : Nat → Option (α × Nat)} {enc : α → List Int} {ok : α → Prop} (hq : ∀ x p r, p ≤ s.size → q p = some (x, r) → r ≤ s.size ∧ (bytesOf s).drop p = enc x ++ (bytesOf s).drop r ∧ ok x) {most : Int} {l : List α} {p r : Nat} (hp : p ≤ s.size) (h : listA s most q p = some (l, r)) : r ≤ s.size ∧ (bytesOf s).drop p = putL l.length ++ (l.flatMap enc ++ (bytesOf s).drop r) ∧ ∀ x ∈ l, ok x := by
  unfold listA at h
  obtain ⟨⟨n, p1⟩, h1, h2⟩ := Option.bind_eq_some_iff.1 h
  have a := numA_back h1 hp
  have b := manyA_back hq _ _ _ _ a.1 h2
  refine ⟨b.2.1, ?_, b.2.2.2⟩
  rw [a.2.2.2, b.2.2.1, b.1]
theorem read_back {s code : ByteArray} {data : List Int} {syms : List S41} {rels : List S43} (h : readA s = some (code, data, syms, rels)) : bytesOf s = form COT1 code data syms rels ∧ may code data syms rels = true ∧ wordsOk data := by
  unfold readA frontA at h
  obtain ⟨⟨c, d, y, p3⟩, h1, h⟩ := Option.bind_eq_some_iff.1 h
  obtain ⟨⟨r, p4⟩, h2, h⟩ := Option.bind_eq_some_iff.1 h
  obtain ⟨⟨mk, p0⟩, h0, h1⟩ := Option.bind_eq_some_iff.1 h1
  dsimp only at h h1 h2
  split at h
  case isFalse => cases h
  next hc =>
  simp only [Option.some.injEq, Prod.mk.injEq] at h
  obtain ⟨rfl, rfl, rfl, rfl⟩ := h
  split at h1
  case isFalse => cases h1
  next hmk =>
  obtain ⟨⟨c1, p1⟩, e1, h1⟩ := Option.bind_eq_some_iff.1 h1
  obtain ⟨⟨d1, p2⟩, e2, h1⟩ := Option.bind_eq_some_iff.1 h1
  obtain ⟨⟨y1, p3'⟩, e3, h1⟩ := Option.bind_eq_some_iff.1 h1
  simp only [Option.some.injEq, Prod.mk.injEq] at h1
  obtain ⟨rfl, rfl, rfl, rfl⟩ := h1
  subst hmk
  have a0 := bytesA_back h0
  have a1 := textA_back e1 a0.1
  have a2 := listA_back (enc := fun n => leL n 8) (ok := fun n => -9223372036854775808 ≤ n ∧ n < 9223372036854775808) (fun x p r hp h => ⟨(wideA_back h).1, (wideA_back h).2.2.2, (wideA_back h).2.1, (wideA_back h).2.2.1⟩) a1.1 e2
  have a3 := listA_back (enc := symL) (ok := fun _ => True) (fun x p r hp h => ⟨(symA_back h hp).1, (symA_back h hp).2, trivial⟩) a2.1 e3
  have a4 := listA_back (enc := relL) (ok := fun _ => True) (fun x p r hp h => ⟨(relA_back h hp).1, (relA_back h hp).2, trivial⟩) a3.1 h2
  refine ⟨?_, hc.2, a2.2.2⟩
  have hd : (bytesOf s).drop p4 = [] := List.drop_eq_nil_of_le (by rw [bytesOf_length, hc.1]; exact Nat.le_refl _)
  have e0 := a0.2.2
  rw [List.drop_zero] at e0
  rw [e0, a1.2, a2.2.1, a3.2.1, a4.2.1, hd, show bytesOf COT1s = COT1 from bytesOf_str cot_bs]
  unfold form front front1 front0 dataL symsL relsL
  simp only [List.append_assoc, List.append_nil]
end Go.Proofs.Ytilmndkbloodbaa.M

/-
  Layer 6: the contracts once more, over objects as values (Ob): for the laws' walks. Conditions: the words of data are of 64 bits; texts of at most 2^48 bytes.
-/
namespace Go.Proofs.Ytilmndkbloodbaa.M
open Go.RowKit Go.Proofs.YtilmndkbloodbaaW.PrintWords Go.Proofs.Ytilmndkbloodbaa.Num Go.Proofs.Ytilmndkbloodbaa.Seven Go.Proofs.Ytilmndkbloodbaa.Word1 Go.Proofs.Ytilmndkbloodbaa.Obj
set_option linter.unusedVariables false
set_option linter.unusedSimpArgs false
/-- An object: its code, data, symbols and relocations. -/
abbrev Obj6 : Type := ByteArray × List Int × List S41 × List S43
/-- A value that is an object in this world. -/
def Ob (w : World) (v : Value) (o : Obj6) : Prop := ∃ A1 c1 A2 c2 A3 c3, v = .agg #[.string o.1, .slice A1 o.2.1.length c1, .slice A2 o.2.2.1.length c2, .slice A3 o.2.2.2.length c3] ∧ Kd.C (Kd.int .i64) w A1 o.2.1.length o.2.1 ∧ o.2.1.length ≤ c1 ∧ Kd.C k41 w A2 o.2.2.1.length o.2.2.1 ∧ o.2.2.1.length ≤ c2 ∧ Kd.C k43 w A3 o.2.2.2.length o.2.2.2 ∧ o.2.2.2.length ≤ c3
theorem Ob.below {w w' : World} {v : Value} {o : Obj6} (h : Ob w v o) (hb : Below w.heap.size w w') : Ob w' v o := by
  obtain ⟨A1, c1, A2, c2, A3, c3, rfl, h1, l1, h2, l2, h3, l3⟩ := h
  exact ⟨A1, c1, A2, c2, A3, c3, rfl, Kd.C_below h1 hb, l1, Kd.C_below h2 hb, l2, Kd.C_below h3 hb, l3⟩
theorem Ob.of_R {w : World} {v1 v2 v3 : Value} {b : Nat} {ok1 ok2 ok3 : Nat → Prop} {o : Obj6} (h1 : Kd.R (Kd.int .i64) 2 w b ok1 v1 o.2.1) (h2 : Kd.R k41 41 w b ok2 v2 o.2.2.1) (h3 : Kd.R k43 43 w b ok3 v3 o.2.2.2) : Ob w (.agg #[.string o.1, v1, v2, v3]) o := by
  obtain ⟨A1, c1, rfl, l1, k1⟩ := Kd.R_reads h1
  obtain ⟨A2, c2, rfl, l2, k2⟩ := Kd.R_reads h2
  obtain ⟨A3, c3, rfl, l3, k3⟩ := Kd.R_reads h3
  exact ⟨A1, c1, A2, c2, A3, c3, rfl, k1, l1, k2, l2, k3, l3⟩
def mayO (o : Obj6) : Bool := may o.1 o.2.1 o.2.2.1 o.2.2.2
def formO (o : Obj6) : ByteArray := strOfNums (form COT1 o.1 o.2.1 o.2.2.1 o.2.2.2)
def wrO (o : Obj6) : ByteArray × Int := if mayO o = true then (formO o, 0) else (⟨#[]⟩, 1)
theorem write_f {o : Obj6} (hw : wordsOk o.2.1) : objf_Write.f o.1 o.2.1 o.2.2.1 o.2.2.2 = some ((wrO o).1, (wrO o).2) := by
  unfold objf_Write.f wrO mayO formO
  rw [if_pos hw]
theorem write_c {w : World} {v : Value} {o : Obj6} (h : Ob w v o) (hw : wordsOk o.2.1) : Calls Try.prog 11 #[v] w fun e w' => e = .returned (.tuple #[.string (wrO o).1, .int .i64 (wrO o).2]) ∧ Below w.heap.size w w' := by
  obtain ⟨A1, c1, A2, c2, A3, c3, rfl, h1, l1, h2, l2, h3, l3⟩ := h
  exact objf_Write.calls o.1 A1 c1 o.2.1 A2 c2 o.2.2.1 A3 c3 o.2.2.2 _ _ w h1 l1 h2 l2 h3 l3 (write_f hw)
/-- What a text reads as: an object, and a number. -/
def rdO (s : ByteArray) : Obj6 × Int := match readA s with | some x => (x, 0) | none => ((⟨#[]⟩, [], [], []), 9)
theorem readF_rd (s : ByteArray) : readF s = ((rdO s).1.1, (rdO s).1.2.1, (rdO s).1.2.2.1, (rdO s).1.2.2.2, (rdO s).2) := by
  unfold readF rdO
  cases readA s <;> rfl
theorem read_c (s : ByteArray) (hs : s.size ≤ 281474976710656) (w : World) : Calls Try.prog 16 #[.string s] w fun e w' => ∃ v, e = .returned (.tuple #[v, .int .i64 (rdO s).2]) ∧ Ob w' v (rdO s).1 ∧ Below w.heap.size w w' := by
  refine (objf_Read.calls_ s hs w).mono fun e w' h => ?_
  obtain ⟨v1, v2, v3, rfl, h1, h2, h3, hb⟩ := h
  rw [readF_rd] at h1 h2 h3 ⊢
  exact ⟨_, rfl, Ob.of_R (o := (rdO s).1) h1 h2 h3, hb⟩
/-! ### What the laws lean on -/
theorem rd_form {o : Obj6} (hm : mayO o = true) (hw : wordsOk o.2.1) (x : ByteArray) : rdO (formO o ++ x) = if x.size = 0 then (o, 0) else ((⟨#[]⟩, [], [], []), 9) := by
  have hb : Bs (form COT1 o.1 o.2.1 o.2.2.1 o.2.2.2) := Bs.append (Bs.append (Bs.append (Bs.append (Bs.append (Bs.append (Bs.append cot_bs (textL_bs _)) (putL_bs _)) (flat_bs _ (fun n => leL_bs n 8) _)) (putL_bs _)) (flat_bs _ symL_bs _)) (putL_bs _)) (flat_bs _ relL_bs _)
  have h := read_form (s := formO o ++ x) (rest := bytesOf x) (by rw [bytesOf_append]; unfold formO; rw [of_str hb]) hm hw
  have hl := bytesOf_length x
  unfold rdO
  rw [h]
  by_cases hx : x.size = 0
  · rw [if_pos (List.length_eq_zero_iff.mp (by omega)), if_pos hx]
  · rw [if_neg (fun e => hx (by rw [e] at hl; simpa using hl.symm)), if_neg hx]
end Go.Proofs.Ytilmndkbloodbaa.M

-- Written by a program of this session (wip/ownprint.py) over the translation. Lean checks it.
namespace Go.Proofs.Ytilmndkbloodbaa.M
open Go.RowKit Go.Proofs.YtilmndkbloodbaaW.PrintWords Go.Proofs.YtilmndkbloodbaaW.PrintLast
set_option linter.unusedVariables false
set_option linter.unusedSimpArgs false

theorem eqA43 (d : Nat) (w : World) (x0 y0 : Int) (x1 y1 : Int) (x2 y2 : ByteArray) (x3 y3 : Int) :
    (Op.equalIn (d + 2) 43 (.agg #[.int .i64 x0, .int .i64 x1, .string x2, .int .i64 x3]) (.agg #[.int .i64 y0, .int .i64 y1, .string y2, .int .i64 y3])).run Try.prog w = .ok (x0 == y0 && (x1 == y1 && (x2.toList == y2.toList && (x3 == y3)))) w := by
  refine eqA_of Try.underlying43 (by kernel_rfl) ?_
  refine eqf_cons (by rfl) (by go_simp; rfl) (by go_simp; rfl) (by go_simp) ?_
  refine eqf_cons (by rfl) (by go_simp; rfl) (by go_simp; rfl) (by go_simp) ?_
  refine eqf_cons (by rfl) (by go_simp; rfl) (by go_simp; rfl) (by go_simp) ?_
  exact eqf_last (by rfl) (by go_simp; rfl) (by go_simp; rfl) (by go_simp)
end Go.Proofs.Ytilmndkbloodbaa.M

-- Written by a program of this session (wip/ownprint.py) over the translation. Lean checks it.
namespace Go.Proofs.Ytilmndkbloodbaa.M
open Go.RowKit Go.Proofs.YtilmndkbloodbaaW.PrintWords Go.Proofs.YtilmndkbloodbaaW.PrintLast
set_option linter.unusedVariables false
set_option linter.unusedSimpArgs false

attribute [local go_sem high] eqA43
/-! ### cotterref06_Same: function 15 -/
mutual
def cotterref06_Same.j0 : Nat → Bool → ByteArray → List Int → List (S41) → List (S43) → ByteArray → List Int → List (S41) → List (S43) → Option (Bool)
  | 0, _, _, _, _, _, _, _, _, _ => none
  | k + 1, x35, x232000, x232001, x232002, x232003, x233000, x233001, x233002, x233003 => if x35 = true then (some false) else (cotterref06_Same.l0 k 0 x232000 x232001 x232002 x232003 x233000 x233001 x233002 x233003)
def cotterref06_Same.l0 : Nat → Int → ByteArray → List Int → List (S41) → List (S43) → ByteArray → List Int → List (S41) → List (S43) → Option (Bool)
  | 0, _, _, _, _, _, _, _, _, _ => none
  | k + 1, x5, x232000, x232001, x232002, x232003, x233000, x233001, x233002, x233003 => if x5 < (x232003.length : Int) then (if 0 ≤ x5 then (if x5 < (x233003.length : Int) then (if (!(((rd_T43 x232003 x5).f0) == ((rd_T43 x233003 x5).f0)) || (!(((rd_T43 x232003 x5).f1) == ((rd_T43 x233003 x5).f1)) || (!((((rd_T43 x232003 x5).f2).toList) == (((rd_T43 x233003 x5).f2).toList)) || (!(((rd_T43 x232003 x5).f3) == ((rd_T43 x233003 x5).f3)))))) = true then (some false) else (cotterref06_Same.l0 k (wrap64 (x5 + 1)) x232000 x232001 x232002 x232003 x233000 x233001 x233002 x233003)) else (none)) else (none)) else (some true)
end
def cotterref06_Same.f (k : Nat) (a0_0 : ByteArray) (l0_1 : List Int) (l0_2 : List (S41)) (l0_3 : List (S43)) (a1_0 : ByteArray) (l1_1 : List Int) (l1_2 : List (S41)) (l1_3 : List (S43)) : Option (Bool) := if a0_0.toList = a1_0.toList then ((cotterref06_SameData.f k l0_1 l1_1).bind fun t233 => (if t233 = true then ((cotterref06_SameSyms.f k l0_2 l1_2).bind fun t234 => (if t234 = true then (cotterref06_Same.j0 k ((l0_3.length : Int) != (l1_3.length : Int)) a0_0 l0_1 l0_2 l0_3 a1_0 l1_1 l1_2 l1_3) else (cotterref06_Same.j0 k true a0_0 l0_1 l0_2 l0_3 a1_0 l1_1 l1_2 l1_3))) else (cotterref06_Same.j0 k true a0_0 l0_1 l0_2 l0_3 a1_0 l1_1 l1_2 l1_3))) else (cotterref06_Same.j0 k true a0_0 l0_1 l0_2 l0_3 a1_0 l1_1 l1_2 l1_3)
set_option maxHeartbeats 8000000 in
set_option maxRecDepth 100000 in
theorem cotterref06_Same.calls (k : Nat) (a0_0 : ByteArray) (A0_1 : Option Addr) (c0_1 : Nat) (l0_1 : List Int) (A0_2 : Option Addr) (c0_2 : Nat) (l0_2 : List (S41)) (A0_3 : Option Addr) (c0_3 : Nat) (l0_3 : List (S43)) (a1_0 : ByteArray) (A1_1 : Option Addr) (c1_1 : Nat) (l1_1 : List Int) (A1_2 : Option Addr) (c1_2 : Nat) (l1_2 : List (S41)) (A1_3 : Option Addr) (c1_3 : Nat) (l1_3 : List (S43)) (r : Bool) (w : World) (hr0_1 : Kd.C (Kd.int .i64) w A0_1 l0_1.length l0_1) (hc0_1 : l0_1.length ≤ c0_1) (hr0_2 : Kd.C k41 w A0_2 l0_2.length l0_2) (hc0_2 : l0_2.length ≤ c0_2) (hr0_3 : Kd.C k43 w A0_3 l0_3.length l0_3) (hc0_3 : l0_3.length ≤ c0_3) (hr1_1 : Kd.C (Kd.int .i64) w A1_1 l1_1.length l1_1) (hc1_1 : l1_1.length ≤ c1_1) (hr1_2 : Kd.C k41 w A1_2 l1_2.length l1_2) (hc1_2 : l1_2.length ≤ c1_2) (hr1_3 : Kd.C k43 w A1_3 l1_3.length l1_3) (hc1_3 : l1_3.length ≤ c1_3) (h : cotterref06_Same.f k a0_0 l0_1 l0_2 l0_3 a1_0 l1_1 l1_2 l1_3 = some r) :
    Calls Try.prog 15 #[.agg #[.string a0_0, .slice A0_1 l0_1.length c0_1, .slice A0_2 l0_2.length c0_2, .slice A0_3 l0_3.length c0_3], .agg #[.string a1_0, .slice A1_1 l1_1.length c1_1, .slice A1_2 l1_2.length c1_2, .slice A1_3 l1_3.length c1_3]] w fun e w' => e = .returned (.bool r) ∧ Below w.heap.size w w' := by
  have hu26 := Try.underlying26
  have hu43 := Try.underlying43
  have HR0_1 := Aside0.mk hr0_1
  have HC0_1 := Aside0.mk hc0_1
  clear hr0_1 hc0_1
  have HR0_2 := Aside0.mk hr0_2
  have HC0_2 := Aside0.mk hc0_2
  clear hr0_2 hc0_2
  have HR0_3 := Aside0.mk hr0_3
  have HC0_3 := Aside0.mk hc0_3
  clear hr0_3 hc0_3
  have HR1_1 := Aside0.mk hr1_1
  have HC1_1 := Aside0.mk hc1_1
  clear hr1_1 hc1_1
  have HR1_2 := Aside0.mk hr1_2
  have HC1_2 := Aside0.mk hc1_2
  clear hr1_2 hc1_2
  have HR1_3 := Aside0.mk hr1_3
  have HC1_3 := Aside0.mk hc1_3
  clear hr1_3 hc1_3
  have HB := Aside0.mk (Below.refl w.heap.size w)
  have H : (if a0_0.toList = a1_0.toList then ((cotterref06_SameData.f k l0_1 l1_1).bind fun t233 => (if t233 = true then ((cotterref06_SameSyms.f k l0_2 l1_2).bind fun t234 => (if t234 = true then (cotterref06_Same.j0 k ((l0_3.length : Int) != (l1_3.length : Int)) a0_0 l0_1 l0_2 l0_3 a1_0 l1_1 l1_2 l1_3) else (cotterref06_Same.j0 k true a0_0 l0_1 l0_2 l0_3 a1_0 l1_1 l1_2 l1_3))) else (cotterref06_Same.j0 k true a0_0 l0_1 l0_2 l0_3 a1_0 l1_1 l1_2 l1_3))) else (cotterref06_Same.j0 k true a0_0 l0_1 l0_2 l0_3 a1_0 l1_1 l1_2 l1_3)) = some r := h
  clear h
  have HC3 := Aside0.mk H
  clear H
  go_enter Try.func15, Try.ntmps15
  go_upto_region 1 with (first | ((with_reducible refine gate_dst (N := 2) rfl ?_); (try (refine gate_guard (by rfl) ?_; dsimp only)); refine box_event ?hg (N := 2) ?hd (cs := #[.string a0_0, .slice A0_1 l0_1.length c0_1, .slice A0_2 l0_2.length c0_2, .slice A0_3 l0_3.length c0_3]) (t := 26) ?hr ?_; (case hd => rfl); (case hg => rfl); (case hr => first | (go_simp; done) | (go_simp; rfl)); intro gb231 hg w4 hbox hb; have n0_ := Aside0.mk (below_step (by repeat (first | (with_reducible first | exact HB.out | apply below_alloc | apply pw_below_drewN | apply below_drew1) | exact HB.out)) hb); have n1_ := Aside0.mk (hbox); have n2_ := Aside0.mk ((by rw [hg]; exact (below_size (by repeat (first | (with_reducible first | exact HB.out | apply below_alloc | apply pw_below_drewN | apply below_drew1) | exact HB.out))) : w.heap.size ≤ gb231)); have n3_ := Aside0.mk ((by rw [hg]; exact (below_size (by repeat (first | (with_reducible first | exact HB.out | apply below_alloc | apply pw_below_drewN | apply below_drew1) | exact HB.out))) : w.heap.size ≤ gb231)); clear HB; have HB := n0_; have BK231 := n1_; have GW231 := n2_; have GE231 := n3_; clear n0_ n1_ n2_ n3_; clear hb hbox hg) | ((with_reducible refine gate_dst (N := 3) rfl ?_); (try (refine gate_guard (by rfl) ?_; dsimp only)); refine box_event ?hg (N := 3) ?hd (cs := #[.string a1_0, .slice A1_1 l1_1.length c1_1, .slice A1_2 l1_2.length c1_2, .slice A1_3 l1_3.length c1_3]) (t := 26) ?hr ?_; (case hd => rfl); (case hg => rfl); (case hr => first | (go_simp; done) | (go_simp; rfl)); intro gb232 hg w5 hbox hb; have n0_ := Aside0.mk (blk_below (g := gb231) (o := .cells #[.string a0_0, .slice A0_1 l0_1.length c0_1, .slice A0_2 l0_2.length c0_2, .slice A0_3 l0_3.length c0_3] 26 (0, 0)) (by (with_reducible repeat (first | refine blk_drewN ?_ _ | refine blk_drew ?_ | refine blk_alloc ?_ _)); exact BK231.out) hb); have n1_ := Aside0.mk (below_step (by repeat (first | (with_reducible first | exact HB.out | apply below_alloc | apply pw_below_drewN | apply below_drew1 | refine below_set ?_ GE231.out) | exact HB.out)) hb); have n2_ := Aside0.mk (hbox); have n3_ := Aside0.mk ((by rw [hg]; exact (below_size (by repeat (first | (with_reducible first | exact HB.out | apply below_alloc | apply pw_below_drewN | apply below_drew1 | refine below_set ?_ GE231.out) | exact HB.out))) : w.heap.size ≤ gb232)); have n4_ := Aside0.mk ((by rw [hg]; exact (below_size (by repeat (first | (with_reducible first | exact HB.out | apply below_alloc | apply pw_below_drewN | apply below_drew1 | refine below_set ?_ GE231.out) | exact HB.out))) : w.heap.size ≤ gb232)); have n5_ := Aside0.mk ((by rw [hg]; exact Nat.ne_of_lt (blk_lt (g := gb231) (o := .cells #[.string a0_0, .slice A0_1 l0_1.length c0_1, .slice A0_2 l0_2.length c0_2, .slice A0_3 l0_3.length c0_3] 26 (0, 0)) (by (with_reducible repeat (first | refine blk_drewN ?_ _ | refine blk_drew ?_ | refine blk_alloc ?_ _)); exact BK231.out)) : gb231 ≠ gb232)); have n6_ := Aside0.mk ((by rw [hg]; exact Nat.ne_of_gt (blk_lt (g := gb231) (o := .cells #[.string a0_0, .slice A0_1 l0_1.length c0_1, .slice A0_2 l0_2.length c0_2, .slice A0_3 l0_3.length c0_3] 26 (0, 0)) (by (with_reducible repeat (first | refine blk_drewN ?_ _ | refine blk_drew ?_ | refine blk_alloc ?_ _)); exact BK231.out)) : gb232 ≠ gb231)); clear BK231; clear HB; have BK231 := n0_; have HB := n1_; have BK232 := n2_; have GW232 := n3_; have GE232 := n4_; have NB231_232 := n5_; have NB232_231 := n6_; clear n0_ n1_ n2_ n3_ n4_ n5_ n6_; clear hb hbox hg))
  repeat (go_quiet (first | ((with_reducible refine gate_dst (N := 2) rfl ?_); (try (refine gate_guard (by rfl) ?_; dsimp only)); refine box_event ?hg (N := 2) ?hd (cs := #[.string a0_0, .slice A0_1 l0_1.length c0_1, .slice A0_2 l0_2.length c0_2, .slice A0_3 l0_3.length c0_3]) (t := 26) ?hr ?_; (case hd => rfl); (case hg => rfl); (case hr => first | (go_simp; done) | (go_simp; rfl)); intro gb231 hg w4 hbox hb; have n0_ := Aside0.mk (below_step (by repeat (first | (with_reducible first | exact HB.out | apply below_alloc | apply pw_below_drewN | apply below_drew1) | exact HB.out)) hb); have n1_ := Aside0.mk (hbox); have n2_ := Aside0.mk ((by rw [hg]; exact (below_size (by repeat (first | (with_reducible first | exact HB.out | apply below_alloc | apply pw_below_drewN | apply below_drew1) | exact HB.out))) : w.heap.size ≤ gb231)); have n3_ := Aside0.mk ((by rw [hg]; exact (below_size (by repeat (first | (with_reducible first | exact HB.out | apply below_alloc | apply pw_below_drewN | apply below_drew1) | exact HB.out))) : w.heap.size ≤ gb231)); clear HB; have HB := n0_; have BK231 := n1_; have GW231 := n2_; have GE231 := n3_; clear n0_ n1_ n2_ n3_; clear hb hbox hg) | ((with_reducible refine gate_dst (N := 3) rfl ?_); (try (refine gate_guard (by rfl) ?_; dsimp only)); refine box_event ?hg (N := 3) ?hd (cs := #[.string a1_0, .slice A1_1 l1_1.length c1_1, .slice A1_2 l1_2.length c1_2, .slice A1_3 l1_3.length c1_3]) (t := 26) ?hr ?_; (case hd => rfl); (case hg => rfl); (case hr => first | (go_simp; done) | (go_simp; rfl)); intro gb232 hg w5 hbox hb; have n0_ := Aside0.mk (blk_below (g := gb231) (o := .cells #[.string a0_0, .slice A0_1 l0_1.length c0_1, .slice A0_2 l0_2.length c0_2, .slice A0_3 l0_3.length c0_3] 26 (0, 0)) (by (with_reducible repeat (first | refine blk_drewN ?_ _ | refine blk_drew ?_ | refine blk_alloc ?_ _)); exact BK231.out) hb); have n1_ := Aside0.mk (below_step (by repeat (first | (with_reducible first | exact HB.out | apply below_alloc | apply pw_below_drewN | apply below_drew1 | refine below_set ?_ GE231.out) | exact HB.out)) hb); have n2_ := Aside0.mk (hbox); have n3_ := Aside0.mk ((by rw [hg]; exact (below_size (by repeat (first | (with_reducible first | exact HB.out | apply below_alloc | apply pw_below_drewN | apply below_drew1 | refine below_set ?_ GE231.out) | exact HB.out))) : w.heap.size ≤ gb232)); have n4_ := Aside0.mk ((by rw [hg]; exact (below_size (by repeat (first | (with_reducible first | exact HB.out | apply below_alloc | apply pw_below_drewN | apply below_drew1 | refine below_set ?_ GE231.out) | exact HB.out))) : w.heap.size ≤ gb232)); have n5_ := Aside0.mk ((by rw [hg]; exact Nat.ne_of_lt (blk_lt (g := gb231) (o := .cells #[.string a0_0, .slice A0_1 l0_1.length c0_1, .slice A0_2 l0_2.length c0_2, .slice A0_3 l0_3.length c0_3] 26 (0, 0)) (by (with_reducible repeat (first | refine blk_drewN ?_ _ | refine blk_drew ?_ | refine blk_alloc ?_ _)); exact BK231.out)) : gb231 ≠ gb232)); have n6_ := Aside0.mk ((by rw [hg]; exact Nat.ne_of_gt (blk_lt (g := gb231) (o := .cells #[.string a0_0, .slice A0_1 l0_1.length c0_1, .slice A0_2 l0_2.length c0_2, .slice A0_3 l0_3.length c0_3] 26 (0, 0)) (by (with_reducible repeat (first | refine blk_drewN ?_ _ | refine blk_drew ?_ | refine blk_alloc ?_ _)); exact BK231.out)) : gb232 ≠ gb231)); clear BK231; clear HB; have BK231 := n0_; have HB := n1_; have BK232 := n2_; have GW232 := n3_; have GE232 := n4_; have NB231_232 := n5_; have NB232_231 := n6_; clear n0_ n1_ n2_ n3_ n4_ n5_ n6_; clear hb hbox hg)); go_upto_region 1 with (first | ((with_reducible refine gate_dst (N := 2) rfl ?_); (try (refine gate_guard (by rfl) ?_; dsimp only)); refine box_event ?hg (N := 2) ?hd (cs := #[.string a0_0, .slice A0_1 l0_1.length c0_1, .slice A0_2 l0_2.length c0_2, .slice A0_3 l0_3.length c0_3]) (t := 26) ?hr ?_; (case hd => rfl); (case hg => rfl); (case hr => first | (go_simp; done) | (go_simp; rfl)); intro gb231 hg w4 hbox hb; have n0_ := Aside0.mk (below_step (by repeat (first | (with_reducible first | exact HB.out | apply below_alloc | apply pw_below_drewN | apply below_drew1) | exact HB.out)) hb); have n1_ := Aside0.mk (hbox); have n2_ := Aside0.mk ((by rw [hg]; exact (below_size (by repeat (first | (with_reducible first | exact HB.out | apply below_alloc | apply pw_below_drewN | apply below_drew1) | exact HB.out))) : w.heap.size ≤ gb231)); have n3_ := Aside0.mk ((by rw [hg]; exact (below_size (by repeat (first | (with_reducible first | exact HB.out | apply below_alloc | apply pw_below_drewN | apply below_drew1) | exact HB.out))) : w.heap.size ≤ gb231)); clear HB; have HB := n0_; have BK231 := n1_; have GW231 := n2_; have GE231 := n3_; clear n0_ n1_ n2_ n3_; clear hb hbox hg) | ((with_reducible refine gate_dst (N := 3) rfl ?_); (try (refine gate_guard (by rfl) ?_; dsimp only)); refine box_event ?hg (N := 3) ?hd (cs := #[.string a1_0, .slice A1_1 l1_1.length c1_1, .slice A1_2 l1_2.length c1_2, .slice A1_3 l1_3.length c1_3]) (t := 26) ?hr ?_; (case hd => rfl); (case hg => rfl); (case hr => first | (go_simp; done) | (go_simp; rfl)); intro gb232 hg w5 hbox hb; have n0_ := Aside0.mk (blk_below (g := gb231) (o := .cells #[.string a0_0, .slice A0_1 l0_1.length c0_1, .slice A0_2 l0_2.length c0_2, .slice A0_3 l0_3.length c0_3] 26 (0, 0)) (by (with_reducible repeat (first | refine blk_drewN ?_ _ | refine blk_drew ?_ | refine blk_alloc ?_ _)); exact BK231.out) hb); have n1_ := Aside0.mk (below_step (by repeat (first | (with_reducible first | exact HB.out | apply below_alloc | apply pw_below_drewN | apply below_drew1 | refine below_set ?_ GE231.out) | exact HB.out)) hb); have n2_ := Aside0.mk (hbox); have n3_ := Aside0.mk ((by rw [hg]; exact (below_size (by repeat (first | (with_reducible first | exact HB.out | apply below_alloc | apply pw_below_drewN | apply below_drew1 | refine below_set ?_ GE231.out) | exact HB.out))) : w.heap.size ≤ gb232)); have n4_ := Aside0.mk ((by rw [hg]; exact (below_size (by repeat (first | (with_reducible first | exact HB.out | apply below_alloc | apply pw_below_drewN | apply below_drew1 | refine below_set ?_ GE231.out) | exact HB.out))) : w.heap.size ≤ gb232)); have n5_ := Aside0.mk ((by rw [hg]; exact Nat.ne_of_lt (blk_lt (g := gb231) (o := .cells #[.string a0_0, .slice A0_1 l0_1.length c0_1, .slice A0_2 l0_2.length c0_2, .slice A0_3 l0_3.length c0_3] 26 (0, 0)) (by (with_reducible repeat (first | refine blk_drewN ?_ _ | refine blk_drew ?_ | refine blk_alloc ?_ _)); exact BK231.out)) : gb231 ≠ gb232)); have n6_ := Aside0.mk ((by rw [hg]; exact Nat.ne_of_gt (blk_lt (g := gb231) (o := .cells #[.string a0_0, .slice A0_1 l0_1.length c0_1, .slice A0_2 l0_2.length c0_2, .slice A0_3 l0_3.length c0_3] 26 (0, 0)) (by (with_reducible repeat (first | refine blk_drewN ?_ _ | refine blk_drew ?_ | refine blk_alloc ?_ _)); exact BK231.out)) : gb232 ≠ gb231)); clear BK231; clear HB; have BK231 := n0_; have HB := n1_; have BK232 := n2_; have GW232 := n3_; have GE232 := n4_; have NB231_232 := n5_; have NB232_231 := n6_; clear n0_ n1_ n2_ n3_ n4_ n5_ n6_; clear hb hbox hg)))
  (try simp only [Act.put, List.setIfInBounds_toArray, List.set_cons_zero, List.set_cons_succ])
  go_cut [35] (fun v35 wc => ∃ (kq : Nat) (x35_2 : Bool), v35 = .bool x35_2 ∧ Aside0 (cotterref06_Same.j0 kq x35_2 a0_0 l0_1 l0_2 l0_3 a1_0 l1_1 l1_2 l1_3 = some r) ∧ Aside0 (kq ≤ k) ∧ Aside0 (wc.heap[gb231]? = some (.cells #[.string a0_0, (.slice A0_1 l0_1.length c0_1), (.slice A0_2 l0_2.length c0_2), (.slice A0_3 l0_3.length c0_3)] 26 (0, 0))) ∧ Aside0 (wc.heap[gb232]? = some (.cells #[.string a1_0, (.slice A1_1 l1_1.length c1_1), (.slice A1_2 l1_2.length c1_2), (.slice A1_3 l1_3.length c1_3)] 26 (0, 0))) ∧ Aside0 (Below w.heap.size w wc))
  case first =>
    have H := HC3.out
    clear HC3
    by_cases c6 : a0_0.toList = a1_0.toList
    · rw [if_pos c6] at H
      have c6b0 : (a0_0.toList == a1_0.toList) = true := beq_iff_eq.mpr c6
      have c6b1 : (a0_0.toList != a1_0.toList) = false := bne_eq_false_iff_eq.mpr c6
      clear c6
      (first | rw [c6b0] | (simp only [i64_w, i32_w]; rw [c6b0]) | skip)
      replace H := Option.bind_eq_some_iff.mp H
      obtain ⟨t233, A70, H⟩ := H
      replace H : (if t233 = true then ((cotterref06_SameSyms.f k l0_2 l1_2).bind fun t234 => (if t234 = true then (cotterref06_Same.j0 k ((l0_3.length : Int) != (l1_3.length : Int)) a0_0 l0_1 l0_2 l0_3 a1_0 l1_1 l1_2 l1_3) else (cotterref06_Same.j0 k true a0_0 l0_1 l0_2 l0_3 a1_0 l1_1 l1_2 l1_3))) else (cotterref06_Same.j0 k true a0_0 l0_1 l0_2 l0_3 a1_0 l1_1 l1_2 l1_3)) = some r := H
      have A7 := Aside0.mk A70
      clear A70
      by_cases c8 : t233 = true
      · subst c8
        have H1 : ((cotterref06_SameSyms.f k l0_2 l1_2).bind fun t234 => (if t234 = true then (cotterref06_Same.j0 k ((l0_3.length : Int) != (l1_3.length : Int)) a0_0 l0_1 l0_2 l0_3 a1_0 l1_1 l1_2 l1_3) else (cotterref06_Same.j0 k true a0_0 l0_1 l0_2 l0_3 a1_0 l1_1 l1_2 l1_3))) = some r := by rw [if_pos rfl] at H; exact H
        clear H
        have H := H1
        clear H1
        replace H := Option.bind_eq_some_iff.mp H
        obtain ⟨t234, A90, H⟩ := H
        replace H : (if t234 = true then (cotterref06_Same.j0 k ((l0_3.length : Int) != (l1_3.length : Int)) a0_0 l0_1 l0_2 l0_3 a1_0 l1_1 l1_2 l1_3) else (cotterref06_Same.j0 k true a0_0 l0_1 l0_2 l0_3 a1_0 l1_1 l1_2 l1_3)) = some r := H
        have A9 := Aside0.mk A90
        clear A90
        by_cases c10 : t234 = true
        · subst c10
          have H1 : (cotterref06_Same.j0 k ((l0_3.length : Int) != (l1_3.length : Int)) a0_0 l0_1 l0_2 l0_3 a1_0 l1_1 l1_2 l1_3) = some r := by rw [if_pos rfl] at H; exact H
          clear H
          have H := H1
          clear H1
          have H' := Aside0.mk H
          clear H
          have hnb11 := NB231_232.out
          have hnc11 := NB232_231.out
          have hcz12_0 : w5.cell? ⟨gb231, 0, none⟩ = some (.string a0_0) := (blk_cell BK231.out 0).trans rfl
          have hcz12_1 : w5.cell? ⟨gb231, 1, none⟩ = some (.slice A0_1 l0_1.length c0_1) := (blk_cell BK231.out 1).trans rfl
          have hcz12_2 : w5.cell? ⟨gb231, 2, none⟩ = some (.slice A0_2 l0_2.length c0_2) := (blk_cell BK231.out 2).trans rfl
          have hcz12_3 : w5.cell? ⟨gb231, 3, none⟩ = some (.slice A0_3 l0_3.length c0_3) := (blk_cell BK231.out 3).trans rfl
          have hfz12_0 := blk_frozen BK231.out 0
          have hfz12_1 := blk_frozen BK231.out 1
          have hfz12_2 := blk_frozen BK231.out 2
          have hfz12_3 := blk_frozen BK231.out 3
          have hcz13_0 : w5.cell? ⟨gb232, 0, none⟩ = some (.string a1_0) := (blk_cell BK232.out 0).trans rfl
          have hcz13_1 : w5.cell? ⟨gb232, 1, none⟩ = some (.slice A1_1 l1_1.length c1_1) := (blk_cell BK232.out 1).trans rfl
          have hcz13_2 : w5.cell? ⟨gb232, 2, none⟩ = some (.slice A1_2 l1_2.length c1_2) := (blk_cell BK232.out 2).trans rfl
          have hcz13_3 : w5.cell? ⟨gb232, 3, none⟩ = some (.slice A1_3 l1_3.length c1_3) := (blk_cell BK232.out 3).trans rfl
          have hfz13_0 := blk_frozen BK232.out 0
          have hfz13_1 := blk_frozen BK232.out 1
          have hfz13_2 := blk_frozen BK232.out 2
          have hfz13_3 := blk_frozen BK232.out 3
          go_wp2_with (first | (go_at_call 29; (with_reducible refine (cotterref06_SameData.calls k _ _ l0_1 _ _ l1_1 true _ ?side1 ?side2 ?side3 ?side4 A7.out).mono ?_); (case side1 => repeat (first | exact (Kd.C_below HR0_1.out HB.out) | (with_reducible refine Kd.C_alloc ?_ _) | (with_reducible refine Kd.C_drewN ?_ _) | (with_reducible refine Kd.C_drew ?_))); (case side2 => exact HC0_1.out); (case side3 => repeat (first | exact (Kd.C_below HR1_1.out HB.out) | (with_reducible refine Kd.C_alloc ?_ _) | (with_reducible refine Kd.C_drewN ?_ _) | (with_reducible refine Kd.C_drew ?_))); (case side4 => exact HC1_1.out); rintro e w' ⟨rfl, ⟨nd, rfl⟩⟩; (try first | exact ⟨rfl, _, World.drewN_drewN _ _ _⟩ | exact ⟨rfl, _, Eq.trans (World.drewN_drewN _ _ _) (congrArg (World.drewN _) (Nat.add_assoc _ _ _))⟩)) | (go_at_call 30; (with_reducible refine (cotterref06_SameSyms.calls k _ _ l0_2 _ _ l1_2 true _ ?side1 ?side2 ?side3 ?side4 A9.out).mono ?_); (case side1 => repeat (first | exact (Kd.C_below HR0_2.out (by repeat (first | (with_reducible first | exact HB.out | apply below_alloc | apply pw_below_drewN | apply below_drew1 | refine below_set ?_ GE231.out | refine below_set ?_ GE232.out) | exact HB.out))) | (with_reducible refine Kd.C_alloc ?_ _) | (with_reducible refine Kd.C_drewN ?_ _) | (with_reducible refine Kd.C_drew ?_))); (case side2 => exact HC0_2.out); (case side3 => repeat (first | exact (Kd.C_below HR1_2.out (by repeat (first | (with_reducible first | exact HB.out | apply below_alloc | apply pw_below_drewN | apply below_drew1 | refine below_set ?_ GE231.out | refine below_set ?_ GE232.out) | exact HB.out))) | (with_reducible refine Kd.C_alloc ?_ _) | (with_reducible refine Kd.C_drewN ?_ _) | (with_reducible refine Kd.C_drew ?_))); (case side4 => exact HC1_2.out); rintro e w' ⟨rfl, ⟨nd, rfl⟩⟩; (try first | exact ⟨rfl, _, World.drewN_drewN _ _ _⟩ | exact ⟨rfl, _, Eq.trans (World.drewN_drewN _ _ _) (congrArg (World.drewN _) (Nat.add_assoc _ _ _))⟩)))
          repeat (go_quiet (first | (go_at_call 29; (with_reducible refine (cotterref06_SameData.calls k _ _ l0_1 _ _ l1_1 true _ ?side1 ?side2 ?side3 ?side4 A7.out).mono ?_); (case side1 => repeat (first | exact (Kd.C_below HR0_1.out HB.out) | (with_reducible refine Kd.C_alloc ?_ _) | (with_reducible refine Kd.C_drewN ?_ _) | (with_reducible refine Kd.C_drew ?_))); (case side2 => exact HC0_1.out); (case side3 => repeat (first | exact (Kd.C_below HR1_1.out HB.out) | (with_reducible refine Kd.C_alloc ?_ _) | (with_reducible refine Kd.C_drewN ?_ _) | (with_reducible refine Kd.C_drew ?_))); (case side4 => exact HC1_1.out); rintro e w' ⟨rfl, ⟨nd, rfl⟩⟩; (try first | exact ⟨rfl, _, World.drewN_drewN _ _ _⟩ | exact ⟨rfl, _, Eq.trans (World.drewN_drewN _ _ _) (congrArg (World.drewN _) (Nat.add_assoc _ _ _))⟩)) | (go_at_call 30; (with_reducible refine (cotterref06_SameSyms.calls k _ _ l0_2 _ _ l1_2 true _ ?side1 ?side2 ?side3 ?side4 A9.out).mono ?_); (case side1 => repeat (first | exact (Kd.C_below HR0_2.out (by repeat (first | (with_reducible first | exact HB.out | apply below_alloc | apply pw_below_drewN | apply below_drew1 | refine below_set ?_ GE231.out | refine below_set ?_ GE232.out) | exact HB.out))) | (with_reducible refine Kd.C_alloc ?_ _) | (with_reducible refine Kd.C_drewN ?_ _) | (with_reducible refine Kd.C_drew ?_))); (case side2 => exact HC0_2.out); (case side3 => repeat (first | exact (Kd.C_below HR1_2.out (by repeat (first | (with_reducible first | exact HB.out | apply below_alloc | apply pw_below_drewN | apply below_drew1 | refine below_set ?_ GE231.out | refine below_set ?_ GE232.out) | exact HB.out))) | (with_reducible refine Kd.C_alloc ?_ _) | (with_reducible refine Kd.C_drewN ?_ _) | (with_reducible refine Kd.C_drew ?_))); (case side4 => exact HC1_2.out); rintro e w' ⟨rfl, ⟨nd, rfl⟩⟩; (try first | exact ⟨rfl, _, World.drewN_drewN _ _ _⟩ | exact ⟨rfl, _, Eq.trans (World.drewN_drewN _ _ _) (congrArg (World.drewN _) (Nat.add_assoc _ _ _))⟩))); try go_wp2_with (first | (go_at_call 29; (with_reducible refine (cotterref06_SameData.calls k _ _ l0_1 _ _ l1_1 true _ ?side1 ?side2 ?side3 ?side4 A7.out).mono ?_); (case side1 => repeat (first | exact (Kd.C_below HR0_1.out HB.out) | (with_reducible refine Kd.C_alloc ?_ _) | (with_reducible refine Kd.C_drewN ?_ _) | (with_reducible refine Kd.C_drew ?_))); (case side2 => exact HC0_1.out); (case side3 => repeat (first | exact (Kd.C_below HR1_1.out HB.out) | (with_reducible refine Kd.C_alloc ?_ _) | (with_reducible refine Kd.C_drewN ?_ _) | (with_reducible refine Kd.C_drew ?_))); (case side4 => exact HC1_1.out); rintro e w' ⟨rfl, ⟨nd, rfl⟩⟩; (try first | exact ⟨rfl, _, World.drewN_drewN _ _ _⟩ | exact ⟨rfl, _, Eq.trans (World.drewN_drewN _ _ _) (congrArg (World.drewN _) (Nat.add_assoc _ _ _))⟩)) | (go_at_call 30; (with_reducible refine (cotterref06_SameSyms.calls k _ _ l0_2 _ _ l1_2 true _ ?side1 ?side2 ?side3 ?side4 A9.out).mono ?_); (case side1 => repeat (first | exact (Kd.C_below HR0_2.out (by repeat (first | (with_reducible first | exact HB.out | apply below_alloc | apply pw_below_drewN | apply below_drew1 | refine below_set ?_ GE231.out | refine below_set ?_ GE232.out) | exact HB.out))) | (with_reducible refine Kd.C_alloc ?_ _) | (with_reducible refine Kd.C_drewN ?_ _) | (with_reducible refine Kd.C_drew ?_))); (case side2 => exact HC0_2.out); (case side3 => repeat (first | exact (Kd.C_below HR1_2.out (by repeat (first | (with_reducible first | exact HB.out | apply below_alloc | apply pw_below_drewN | apply below_drew1 | refine below_set ?_ GE231.out | refine below_set ?_ GE232.out) | exact HB.out))) | (with_reducible refine Kd.C_alloc ?_ _) | (with_reducible refine Kd.C_drewN ?_ _) | (with_reducible refine Kd.C_drew ?_))); (case side4 => exact HC1_2.out); rintro e w' ⟨rfl, ⟨nd, rfl⟩⟩; (try first | exact ⟨rfl, _, World.drewN_drewN _ _ _⟩ | exact ⟨rfl, _, Eq.trans (World.drewN_drewN _ _ _) (congrArg (World.drewN _) (Nat.add_assoc _ _ _))⟩))))
          go_meet
          case rel => exact ⟨_, (((l0_3.length : Int) != (l1_3.length : Int))), (by first | rfl | (simp; done) | (simp [*]; done)), H', ⟨by first | omega | exact Nat.le_refl _⟩, ⟨by (with_reducible repeat (first | refine blk_drewN ?_ _ | refine blk_drew ?_ | refine blk_alloc ?_ _)); exact BK231.out⟩, ⟨by (with_reducible repeat (first | refine blk_drewN ?_ _ | refine blk_drew ?_ | refine blk_alloc ?_ _)); exact BK232.out⟩, ⟨by repeat (first | (with_reducible first | exact HB.out | apply below_alloc | apply pw_below_drewN | apply below_drew1 | refine below_set ?_ GE231.out | refine below_set ?_ GE232.out) | exact HB.out)⟩⟩
        · replace c10 := Bool.eq_false_iff.mpr c10
          subst c10
          have H1 : (cotterref06_Same.j0 k true a0_0 l0_1 l0_2 l0_3 a1_0 l1_1 l1_2 l1_3) = some r := by rw [if_neg (show ¬ (false = true) by decide)] at H; exact H
          clear H
          have H := H1
          clear H1
          have H' := Aside0.mk H
          clear H
          have hnb14 := NB231_232.out
          have hnc14 := NB232_231.out
          have hcz15_0 : w5.cell? ⟨gb231, 0, none⟩ = some (.string a0_0) := (blk_cell BK231.out 0).trans rfl
          have hcz15_1 : w5.cell? ⟨gb231, 1, none⟩ = some (.slice A0_1 l0_1.length c0_1) := (blk_cell BK231.out 1).trans rfl
          have hcz15_2 : w5.cell? ⟨gb231, 2, none⟩ = some (.slice A0_2 l0_2.length c0_2) := (blk_cell BK231.out 2).trans rfl
          have hcz15_3 : w5.cell? ⟨gb231, 3, none⟩ = some (.slice A0_3 l0_3.length c0_3) := (blk_cell BK231.out 3).trans rfl
          have hfz15_0 := blk_frozen BK231.out 0
          have hfz15_1 := blk_frozen BK231.out 1
          have hfz15_2 := blk_frozen BK231.out 2
          have hfz15_3 := blk_frozen BK231.out 3
          have hcz16_0 : w5.cell? ⟨gb232, 0, none⟩ = some (.string a1_0) := (blk_cell BK232.out 0).trans rfl
          have hcz16_1 : w5.cell? ⟨gb232, 1, none⟩ = some (.slice A1_1 l1_1.length c1_1) := (blk_cell BK232.out 1).trans rfl
          have hcz16_2 : w5.cell? ⟨gb232, 2, none⟩ = some (.slice A1_2 l1_2.length c1_2) := (blk_cell BK232.out 2).trans rfl
          have hcz16_3 : w5.cell? ⟨gb232, 3, none⟩ = some (.slice A1_3 l1_3.length c1_3) := (blk_cell BK232.out 3).trans rfl
          have hfz16_0 := blk_frozen BK232.out 0
          have hfz16_1 := blk_frozen BK232.out 1
          have hfz16_2 := blk_frozen BK232.out 2
          have hfz16_3 := blk_frozen BK232.out 3
          go_wp2_with (first | (go_at_call 29; (with_reducible refine (cotterref06_SameData.calls k _ _ l0_1 _ _ l1_1 true _ ?side1 ?side2 ?side3 ?side4 A7.out).mono ?_); (case side1 => repeat (first | exact (Kd.C_below HR0_1.out HB.out) | (with_reducible refine Kd.C_alloc ?_ _) | (with_reducible refine Kd.C_drewN ?_ _) | (with_reducible refine Kd.C_drew ?_))); (case side2 => exact HC0_1.out); (case side3 => repeat (first | exact (Kd.C_below HR1_1.out HB.out) | (with_reducible refine Kd.C_alloc ?_ _) | (with_reducible refine Kd.C_drewN ?_ _) | (with_reducible refine Kd.C_drew ?_))); (case side4 => exact HC1_1.out); rintro e w' ⟨rfl, ⟨nd, rfl⟩⟩; (try first | exact ⟨rfl, _, World.drewN_drewN _ _ _⟩ | exact ⟨rfl, _, Eq.trans (World.drewN_drewN _ _ _) (congrArg (World.drewN _) (Nat.add_assoc _ _ _))⟩)) | (go_at_call 30; (with_reducible refine (cotterref06_SameSyms.calls k _ _ l0_2 _ _ l1_2 false _ ?side1 ?side2 ?side3 ?side4 A9.out).mono ?_); (case side1 => repeat (first | exact (Kd.C_below HR0_2.out (by repeat (first | (with_reducible first | exact HB.out | apply below_alloc | apply pw_below_drewN | apply below_drew1 | refine below_set ?_ GE231.out | refine below_set ?_ GE232.out) | exact HB.out))) | (with_reducible refine Kd.C_alloc ?_ _) | (with_reducible refine Kd.C_drewN ?_ _) | (with_reducible refine Kd.C_drew ?_))); (case side2 => exact HC0_2.out); (case side3 => repeat (first | exact (Kd.C_below HR1_2.out (by repeat (first | (with_reducible first | exact HB.out | apply below_alloc | apply pw_below_drewN | apply below_drew1 | refine below_set ?_ GE231.out | refine below_set ?_ GE232.out) | exact HB.out))) | (with_reducible refine Kd.C_alloc ?_ _) | (with_reducible refine Kd.C_drewN ?_ _) | (with_reducible refine Kd.C_drew ?_))); (case side4 => exact HC1_2.out); rintro e w' ⟨rfl, ⟨nd, rfl⟩⟩; (try first | exact ⟨rfl, _, World.drewN_drewN _ _ _⟩ | exact ⟨rfl, _, Eq.trans (World.drewN_drewN _ _ _) (congrArg (World.drewN _) (Nat.add_assoc _ _ _))⟩)))
          repeat (go_quiet (first | (go_at_call 29; (with_reducible refine (cotterref06_SameData.calls k _ _ l0_1 _ _ l1_1 true _ ?side1 ?side2 ?side3 ?side4 A7.out).mono ?_); (case side1 => repeat (first | exact (Kd.C_below HR0_1.out HB.out) | (with_reducible refine Kd.C_alloc ?_ _) | (with_reducible refine Kd.C_drewN ?_ _) | (with_reducible refine Kd.C_drew ?_))); (case side2 => exact HC0_1.out); (case side3 => repeat (first | exact (Kd.C_below HR1_1.out HB.out) | (with_reducible refine Kd.C_alloc ?_ _) | (with_reducible refine Kd.C_drewN ?_ _) | (with_reducible refine Kd.C_drew ?_))); (case side4 => exact HC1_1.out); rintro e w' ⟨rfl, ⟨nd, rfl⟩⟩; (try first | exact ⟨rfl, _, World.drewN_drewN _ _ _⟩ | exact ⟨rfl, _, Eq.trans (World.drewN_drewN _ _ _) (congrArg (World.drewN _) (Nat.add_assoc _ _ _))⟩)) | (go_at_call 30; (with_reducible refine (cotterref06_SameSyms.calls k _ _ l0_2 _ _ l1_2 false _ ?side1 ?side2 ?side3 ?side4 A9.out).mono ?_); (case side1 => repeat (first | exact (Kd.C_below HR0_2.out (by repeat (first | (with_reducible first | exact HB.out | apply below_alloc | apply pw_below_drewN | apply below_drew1 | refine below_set ?_ GE231.out | refine below_set ?_ GE232.out) | exact HB.out))) | (with_reducible refine Kd.C_alloc ?_ _) | (with_reducible refine Kd.C_drewN ?_ _) | (with_reducible refine Kd.C_drew ?_))); (case side2 => exact HC0_2.out); (case side3 => repeat (first | exact (Kd.C_below HR1_2.out (by repeat (first | (with_reducible first | exact HB.out | apply below_alloc | apply pw_below_drewN | apply below_drew1 | refine below_set ?_ GE231.out | refine below_set ?_ GE232.out) | exact HB.out))) | (with_reducible refine Kd.C_alloc ?_ _) | (with_reducible refine Kd.C_drewN ?_ _) | (with_reducible refine Kd.C_drew ?_))); (case side4 => exact HC1_2.out); rintro e w' ⟨rfl, ⟨nd, rfl⟩⟩; (try first | exact ⟨rfl, _, World.drewN_drewN _ _ _⟩ | exact ⟨rfl, _, Eq.trans (World.drewN_drewN _ _ _) (congrArg (World.drewN _) (Nat.add_assoc _ _ _))⟩))); try go_wp2_with (first | (go_at_call 29; (with_reducible refine (cotterref06_SameData.calls k _ _ l0_1 _ _ l1_1 true _ ?side1 ?side2 ?side3 ?side4 A7.out).mono ?_); (case side1 => repeat (first | exact (Kd.C_below HR0_1.out HB.out) | (with_reducible refine Kd.C_alloc ?_ _) | (with_reducible refine Kd.C_drewN ?_ _) | (with_reducible refine Kd.C_drew ?_))); (case side2 => exact HC0_1.out); (case side3 => repeat (first | exact (Kd.C_below HR1_1.out HB.out) | (with_reducible refine Kd.C_alloc ?_ _) | (with_reducible refine Kd.C_drewN ?_ _) | (with_reducible refine Kd.C_drew ?_))); (case side4 => exact HC1_1.out); rintro e w' ⟨rfl, ⟨nd, rfl⟩⟩; (try first | exact ⟨rfl, _, World.drewN_drewN _ _ _⟩ | exact ⟨rfl, _, Eq.trans (World.drewN_drewN _ _ _) (congrArg (World.drewN _) (Nat.add_assoc _ _ _))⟩)) | (go_at_call 30; (with_reducible refine (cotterref06_SameSyms.calls k _ _ l0_2 _ _ l1_2 false _ ?side1 ?side2 ?side3 ?side4 A9.out).mono ?_); (case side1 => repeat (first | exact (Kd.C_below HR0_2.out (by repeat (first | (with_reducible first | exact HB.out | apply below_alloc | apply pw_below_drewN | apply below_drew1 | refine below_set ?_ GE231.out | refine below_set ?_ GE232.out) | exact HB.out))) | (with_reducible refine Kd.C_alloc ?_ _) | (with_reducible refine Kd.C_drewN ?_ _) | (with_reducible refine Kd.C_drew ?_))); (case side2 => exact HC0_2.out); (case side3 => repeat (first | exact (Kd.C_below HR1_2.out (by repeat (first | (with_reducible first | exact HB.out | apply below_alloc | apply pw_below_drewN | apply below_drew1 | refine below_set ?_ GE231.out | refine below_set ?_ GE232.out) | exact HB.out))) | (with_reducible refine Kd.C_alloc ?_ _) | (with_reducible refine Kd.C_drewN ?_ _) | (with_reducible refine Kd.C_drew ?_))); (case side4 => exact HC1_2.out); rintro e w' ⟨rfl, ⟨nd, rfl⟩⟩; (try first | exact ⟨rfl, _, World.drewN_drewN _ _ _⟩ | exact ⟨rfl, _, Eq.trans (World.drewN_drewN _ _ _) (congrArg (World.drewN _) (Nat.add_assoc _ _ _))⟩))))
          go_meet
          case rel => exact ⟨_, (true), (by first | rfl | (simp; done) | (simp [*]; done)), H', ⟨by first | omega | exact Nat.le_refl _⟩, ⟨by (with_reducible repeat (first | refine blk_drewN ?_ _ | refine blk_drew ?_ | refine blk_alloc ?_ _)); exact BK231.out⟩, ⟨by (with_reducible repeat (first | refine blk_drewN ?_ _ | refine blk_drew ?_ | refine blk_alloc ?_ _)); exact BK232.out⟩, ⟨by repeat (first | (with_reducible first | exact HB.out | apply below_alloc | apply pw_below_drewN | apply below_drew1 | refine below_set ?_ GE231.out | refine below_set ?_ GE232.out) | exact HB.out)⟩⟩
      · replace c8 := Bool.eq_false_iff.mpr c8
        subst c8
        have H1 : (cotterref06_Same.j0 k true a0_0 l0_1 l0_2 l0_3 a1_0 l1_1 l1_2 l1_3) = some r := by rw [if_neg (show ¬ (false = true) by decide)] at H; exact H
        clear H
        have H := H1
        clear H1
        have H' := Aside0.mk H
        clear H
        have hnb17 := NB231_232.out
        have hnc17 := NB232_231.out
        have hcz18_0 : w5.cell? ⟨gb231, 0, none⟩ = some (.string a0_0) := (blk_cell BK231.out 0).trans rfl
        have hcz18_1 : w5.cell? ⟨gb231, 1, none⟩ = some (.slice A0_1 l0_1.length c0_1) := (blk_cell BK231.out 1).trans rfl
        have hcz18_2 : w5.cell? ⟨gb231, 2, none⟩ = some (.slice A0_2 l0_2.length c0_2) := (blk_cell BK231.out 2).trans rfl
        have hcz18_3 : w5.cell? ⟨gb231, 3, none⟩ = some (.slice A0_3 l0_3.length c0_3) := (blk_cell BK231.out 3).trans rfl
        have hfz18_0 := blk_frozen BK231.out 0
        have hfz18_1 := blk_frozen BK231.out 1
        have hfz18_2 := blk_frozen BK231.out 2
        have hfz18_3 := blk_frozen BK231.out 3
        have hcz19_0 : w5.cell? ⟨gb232, 0, none⟩ = some (.string a1_0) := (blk_cell BK232.out 0).trans rfl
        have hcz19_1 : w5.cell? ⟨gb232, 1, none⟩ = some (.slice A1_1 l1_1.length c1_1) := (blk_cell BK232.out 1).trans rfl
        have hcz19_2 : w5.cell? ⟨gb232, 2, none⟩ = some (.slice A1_2 l1_2.length c1_2) := (blk_cell BK232.out 2).trans rfl
        have hcz19_3 : w5.cell? ⟨gb232, 3, none⟩ = some (.slice A1_3 l1_3.length c1_3) := (blk_cell BK232.out 3).trans rfl
        have hfz19_0 := blk_frozen BK232.out 0
        have hfz19_1 := blk_frozen BK232.out 1
        have hfz19_2 := blk_frozen BK232.out 2
        have hfz19_3 := blk_frozen BK232.out 3
        go_wp2_with (first | (go_at_call 29; (with_reducible refine (cotterref06_SameData.calls k _ _ l0_1 _ _ l1_1 false _ ?side1 ?side2 ?side3 ?side4 A7.out).mono ?_); (case side1 => repeat (first | exact (Kd.C_below HR0_1.out HB.out) | (with_reducible refine Kd.C_alloc ?_ _) | (with_reducible refine Kd.C_drewN ?_ _) | (with_reducible refine Kd.C_drew ?_))); (case side2 => exact HC0_1.out); (case side3 => repeat (first | exact (Kd.C_below HR1_1.out HB.out) | (with_reducible refine Kd.C_alloc ?_ _) | (with_reducible refine Kd.C_drewN ?_ _) | (with_reducible refine Kd.C_drew ?_))); (case side4 => exact HC1_1.out); rintro e w' ⟨rfl, ⟨nd, rfl⟩⟩; (try first | exact ⟨rfl, _, World.drewN_drewN _ _ _⟩ | exact ⟨rfl, _, Eq.trans (World.drewN_drewN _ _ _) (congrArg (World.drewN _) (Nat.add_assoc _ _ _))⟩)))
        repeat (go_quiet (first | (go_at_call 29; (with_reducible refine (cotterref06_SameData.calls k _ _ l0_1 _ _ l1_1 false _ ?side1 ?side2 ?side3 ?side4 A7.out).mono ?_); (case side1 => repeat (first | exact (Kd.C_below HR0_1.out HB.out) | (with_reducible refine Kd.C_alloc ?_ _) | (with_reducible refine Kd.C_drewN ?_ _) | (with_reducible refine Kd.C_drew ?_))); (case side2 => exact HC0_1.out); (case side3 => repeat (first | exact (Kd.C_below HR1_1.out HB.out) | (with_reducible refine Kd.C_alloc ?_ _) | (with_reducible refine Kd.C_drewN ?_ _) | (with_reducible refine Kd.C_drew ?_))); (case side4 => exact HC1_1.out); rintro e w' ⟨rfl, ⟨nd, rfl⟩⟩; (try first | exact ⟨rfl, _, World.drewN_drewN _ _ _⟩ | exact ⟨rfl, _, Eq.trans (World.drewN_drewN _ _ _) (congrArg (World.drewN _) (Nat.add_assoc _ _ _))⟩))); try go_wp2_with (first | (go_at_call 29; (with_reducible refine (cotterref06_SameData.calls k _ _ l0_1 _ _ l1_1 false _ ?side1 ?side2 ?side3 ?side4 A7.out).mono ?_); (case side1 => repeat (first | exact (Kd.C_below HR0_1.out HB.out) | (with_reducible refine Kd.C_alloc ?_ _) | (with_reducible refine Kd.C_drewN ?_ _) | (with_reducible refine Kd.C_drew ?_))); (case side2 => exact HC0_1.out); (case side3 => repeat (first | exact (Kd.C_below HR1_1.out HB.out) | (with_reducible refine Kd.C_alloc ?_ _) | (with_reducible refine Kd.C_drewN ?_ _) | (with_reducible refine Kd.C_drew ?_))); (case side4 => exact HC1_1.out); rintro e w' ⟨rfl, ⟨nd, rfl⟩⟩; (try first | exact ⟨rfl, _, World.drewN_drewN _ _ _⟩ | exact ⟨rfl, _, Eq.trans (World.drewN_drewN _ _ _) (congrArg (World.drewN _) (Nat.add_assoc _ _ _))⟩))))
        go_meet
        case rel => exact ⟨_, (true), (by first | rfl | (simp; done) | (simp [*]; done)), H', ⟨by first | omega | exact Nat.le_refl _⟩, ⟨by (with_reducible repeat (first | refine blk_drewN ?_ _ | refine blk_drew ?_ | refine blk_alloc ?_ _)); exact BK231.out⟩, ⟨by (with_reducible repeat (first | refine blk_drewN ?_ _ | refine blk_drew ?_ | refine blk_alloc ?_ _)); exact BK232.out⟩, ⟨by repeat (first | (with_reducible first | exact HB.out | apply below_alloc | apply pw_below_drewN | apply below_drew1 | refine below_set ?_ GE231.out | refine below_set ?_ GE232.out) | exact HB.out)⟩⟩
    · rw [if_neg c6] at H
      have c6b0 : (a0_0.toList == a1_0.toList) = false := beq_eq_false_iff_ne.mpr c6
      have c6b1 : (a0_0.toList != a1_0.toList) = true := bne_iff_ne.mpr c6
      (first | rw [c6b0] | (simp only [i64_w, i32_w]; rw [c6b0]) | skip)
      have H' := Aside0.mk H
      clear H
      have hnb20 := NB231_232.out
      have hnc20 := NB232_231.out
      have hcz21_0 : w5.cell? ⟨gb231, 0, none⟩ = some (.string a0_0) := (blk_cell BK231.out 0).trans rfl
      have hcz21_1 : w5.cell? ⟨gb231, 1, none⟩ = some (.slice A0_1 l0_1.length c0_1) := (blk_cell BK231.out 1).trans rfl
      have hcz21_2 : w5.cell? ⟨gb231, 2, none⟩ = some (.slice A0_2 l0_2.length c0_2) := (blk_cell BK231.out 2).trans rfl
      have hcz21_3 : w5.cell? ⟨gb231, 3, none⟩ = some (.slice A0_3 l0_3.length c0_3) := (blk_cell BK231.out 3).trans rfl
      have hfz21_0 := blk_frozen BK231.out 0
      have hfz21_1 := blk_frozen BK231.out 1
      have hfz21_2 := blk_frozen BK231.out 2
      have hfz21_3 := blk_frozen BK231.out 3
      have hcz22_0 : w5.cell? ⟨gb232, 0, none⟩ = some (.string a1_0) := (blk_cell BK232.out 0).trans rfl
      have hcz22_1 : w5.cell? ⟨gb232, 1, none⟩ = some (.slice A1_1 l1_1.length c1_1) := (blk_cell BK232.out 1).trans rfl
      have hcz22_2 : w5.cell? ⟨gb232, 2, none⟩ = some (.slice A1_2 l1_2.length c1_2) := (blk_cell BK232.out 2).trans rfl
      have hcz22_3 : w5.cell? ⟨gb232, 3, none⟩ = some (.slice A1_3 l1_3.length c1_3) := (blk_cell BK232.out 3).trans rfl
      have hfz22_0 := blk_frozen BK232.out 0
      have hfz22_1 := blk_frozen BK232.out 1
      have hfz22_2 := blk_frozen BK232.out 2
      have hfz22_3 := blk_frozen BK232.out 3
      go_wp2
      repeat (go_quiet (fail); try go_wp2)
      go_meet
      case rel => exact ⟨_, (true), (by first | rfl | (simp; done) | (simp [*]; done)), H', ⟨by first | omega | exact Nat.le_refl _⟩, ⟨by (with_reducible repeat (first | refine blk_drewN ?_ _ | refine blk_drew ?_ | refine blk_alloc ?_ _)); exact BK231.out⟩, ⟨by (with_reducible repeat (first | refine blk_drewN ?_ _ | refine blk_drew ?_ | refine blk_alloc ?_ _)); exact BK232.out⟩, ⟨by repeat (first | (with_reducible first | exact HB.out | apply below_alloc | apply pw_below_drewN | apply below_drew1 | refine below_set ?_ GE231.out | refine below_set ?_ GE232.out) | exact HB.out)⟩⟩
  case rest =>
    clear HC3
    try clear c1
    try clear c2
    try clear p2
    try clear c6
    try clear c6b0
    try clear c6b1
    try clear c8
    try clear c10
    try clear c11
    try clear c14
    try clear c15
    try clear c17
    try clear c20
    try clear hcz12_0
    try clear hcz12_1
    try clear hcz12_2
    try clear hcz12_3
    try clear hcz13_0
    try clear hcz13_1
    try clear hcz13_2
    try clear hcz13_3
    try clear hcz15_0
    try clear hcz15_1
    try clear hcz15_2
    try clear hcz15_3
    try clear hcz16_0
    try clear hcz16_1
    try clear hcz16_2
    try clear hcz16_3
    try clear hcz18_0
    try clear hcz18_1
    try clear hcz18_2
    try clear hcz18_3
    try clear hcz19_0
    try clear hcz19_1
    try clear hcz19_2
    try clear hcz19_3
    try clear hcz21_0
    try clear hcz21_1
    try clear hcz21_2
    try clear hcz21_3
    try clear hcz22_0
    try clear hcz22_1
    try clear hcz22_2
    try clear hcz22_3
    try clear hfz12_0
    try clear hfz12_1
    try clear hfz12_2
    try clear hfz12_3
    try clear hfz13_0
    try clear hfz13_1
    try clear hfz13_2
    try clear hfz13_3
    try clear hfz15_0
    try clear hfz15_1
    try clear hfz15_2
    try clear hfz15_3
    try clear hfz16_0
    try clear hfz16_1
    try clear hfz16_2
    try clear hfz16_3
    try clear hfz18_0
    try clear hfz18_1
    try clear hfz18_2
    try clear hfz18_3
    try clear hfz19_0
    try clear hfz19_1
    try clear hfz19_2
    try clear hfz19_3
    try clear hfz21_0
    try clear hfz21_1
    try clear hfz21_2
    try clear hfz21_3
    try clear hfz22_0
    try clear hfz22_1
    try clear hfz22_2
    try clear hfz22_3
    obtain ⟨kq, x35_2, rfl, HA, HJ2, BK231, BK232, HB⟩ := hcut
    cases kq with
    | zero => exact absurd HA.out (by simp [cotterref06_Same.j0])
    | succ kj2 =>
      have H := HA.out
      clear HA
      simp only [cotterref06_Same.j0] at H
      by_cases c23 : x35_2 = true
      · subst c23
        have H1 : (some false) = some r := by rw [if_pos rfl] at H; exact H
        clear H
        have H := H1
        clear H1
        obtain rfl := Option.some.inj H
        go_wp2
        repeat (go_quiet (fail); try go_wp2)
        go_ret
        exact ⟨by first | rfl | (simp [errW_none, errW_some] <;> rfl) | (simp [*, errW_none, errW_some] <;> rfl), by repeat (first | (with_reducible first | exact HB.out | apply below_alloc | apply pw_below_drewN | apply below_drew1 | refine below_set ?_ GE231.out | refine below_set ?_ GE232.out) | exact HB.out)⟩
      · replace c23 := Bool.eq_false_iff.mpr c23
        subst c23
        have H1 : (cotterref06_Same.l0 kj2 0 a0_0 l0_1 l0_2 l0_3 a1_0 l1_1 l1_2 l1_3) = some r := by rw [if_neg (show ¬ (false = true) by decide)] at H; exact H
        clear H
        have H := H1
        clear H1
        have H' := Aside0.mk H
        clear H
        go_wp2
        repeat (go_quiet (fail); try go_wp2)
        go_loopg [5] kj2 (fun kq v5 w' => ∃ (x5_2 : Int), v5 = .int .i64 x5_2 ∧ Aside0 (cotterref06_Same.l0 kq x5_2 a0_0 l0_1 l0_2 l0_3 a1_0 l1_1 l1_2 l1_3 = some r) ∧ Aside0 (kq ≤ kj2) ∧ Aside0 (w'.heap[gb231]? = some (.cells #[.string a0_0, (.slice A0_1 l0_1.length c0_1), (.slice A0_2 l0_2.length c0_2), (.slice A0_3 l0_3.length c0_3)] 26 (0, 0))) ∧ Aside0 (w'.heap[gb232]? = some (.cells #[.string a1_0, (.slice A1_1 l1_1.length c1_1), (.slice A1_2 l1_2.length c1_2), (.slice A1_3 l1_3.length c1_3)] 26 (0, 0))) ∧ Aside0 (Below w.heap.size w w'))
        case atStart => exact ⟨(0), (by first | rfl | (simp; done) | (simp [*]; done)), H', ⟨Nat.le_refl _⟩, ⟨by (with_reducible repeat (first | refine blk_drewN ?_ _ | refine blk_drew ?_ | refine blk_alloc ?_ _)); exact BK231.out⟩, ⟨by (with_reducible repeat (first | refine blk_drewN ?_ _ | refine blk_drew ?_ | refine blk_alloc ?_ _)); exact BK232.out⟩, ⟨by repeat (first | (with_reducible first | exact HB.out | apply below_alloc | apply pw_below_drewN | apply below_drew1 | refine below_set ?_ GE231.out | refine below_set ?_ GE232.out) | exact HB.out)⟩⟩
        case round =>
          clear H'
          try clear c1
          try clear c2
          try clear p2
          try clear c6
          try clear c6b0
          try clear c6b1
          try clear c8
          try clear c10
          try clear c11
          try clear c14
          try clear c15
          try clear c17
          try clear c20
          try clear c23
          try clear hcz12_0
          try clear hcz12_1
          try clear hcz12_2
          try clear hcz12_3
          try clear hcz13_0
          try clear hcz13_1
          try clear hcz13_2
          try clear hcz13_3
          try clear hcz15_0
          try clear hcz15_1
          try clear hcz15_2
          try clear hcz15_3
          try clear hcz16_0
          try clear hcz16_1
          try clear hcz16_2
          try clear hcz16_3
          try clear hcz18_0
          try clear hcz18_1
          try clear hcz18_2
          try clear hcz18_3
          try clear hcz19_0
          try clear hcz19_1
          try clear hcz19_2
          try clear hcz19_3
          try clear hcz21_0
          try clear hcz21_1
          try clear hcz21_2
          try clear hcz21_3
          try clear hcz22_0
          try clear hcz22_1
          try clear hcz22_2
          try clear hcz22_3
          try clear hfz12_0
          try clear hfz12_1
          try clear hfz12_2
          try clear hfz12_3
          try clear hfz13_0
          try clear hfz13_1
          try clear hfz13_2
          try clear hfz13_3
          try clear hfz15_0
          try clear hfz15_1
          try clear hfz15_2
          try clear hfz15_3
          try clear hfz16_0
          try clear hfz16_1
          try clear hfz16_2
          try clear hfz16_3
          try clear hfz18_0
          try clear hfz18_1
          try clear hfz18_2
          try clear hfz18_3
          try clear hfz19_0
          try clear hfz19_1
          try clear hfz19_2
          try clear hfz19_3
          try clear hfz21_0
          try clear hfz21_1
          try clear hfz21_2
          try clear hfz21_3
          try clear hfz22_0
          try clear hfz22_1
          try clear hfz22_2
          try clear hfz22_3
          try clear p2
          obtain ⟨x5_2, rfl, HA, HK2, BK231, BK232, HB⟩ := hrel
          cases gk with
          | zero => exact absurd HA.out (by simp [cotterref06_Same.l0])
          | succ k2 =>
            have H := HA.out
            clear HA
            simp only [cotterref06_Same.l0] at H
            by_cases c24 : x5_2 < (l0_3.length : Int)
            · rw [if_pos c24] at H
              have c24b0 : decide (x5_2 < (l0_3.length : Int)) = true := decide_eq_true c24
              clear c24
              by_cases c25 : 0 ≤ x5_2
              · rw [if_pos c25] at H
                have c25b0 : decide (0 ≤ x5_2) = true := decide_eq_true c25
                clear c25
                by_cases c26 : x5_2 < (l1_3.length : Int)
                · rw [if_pos c26] at H
                  have c26b0 : decide (x5_2 < (l1_3.length : Int)) = true := decide_eq_true c26
                  clear c26
                  by_cases c27 : (!(((rd_T43 l0_3 x5_2).f0) == ((rd_T43 l1_3 x5_2).f0)) || (!(((rd_T43 l0_3 x5_2).f1) == ((rd_T43 l1_3 x5_2).f1)) || (!((((rd_T43 l0_3 x5_2).f2).toList) == (((rd_T43 l1_3 x5_2).f2).toList)) || (!(((rd_T43 l0_3 x5_2).f3) == ((rd_T43 l1_3 x5_2).f3)))))) = true
                  · rw [if_pos c27] at H
                    have c27b0 : (!(((rd_T43 l0_3 x5_2).f0) == ((rd_T43 l1_3 x5_2).f0)) || (!(((rd_T43 l0_3 x5_2).f1) == ((rd_T43 l1_3 x5_2).f1)) || (!((((rd_T43 l0_3 x5_2).f2).toList) == (((rd_T43 l1_3 x5_2).f2).toList)) || (!(((rd_T43 l0_3 x5_2).f3) == ((rd_T43 l1_3 x5_2).f3)))))) = true := c27
                    clear c27
                    obtain rfl := Option.some.inj H
                    have hnb28 := NB231_232.out
                    have hnc28 := NB232_231.out
                    have hcz29_0 : wr.cell? ⟨gb231, 0, none⟩ = some (.string a0_0) := (blk_cell BK231.out 0).trans rfl
                    have hcz29_1 : wr.cell? ⟨gb231, 1, none⟩ = some (.slice A0_1 l0_1.length c0_1) := (blk_cell BK231.out 1).trans rfl
                    have hcz29_2 : wr.cell? ⟨gb231, 2, none⟩ = some (.slice A0_2 l0_2.length c0_2) := (blk_cell BK231.out 2).trans rfl
                    have hcz29_3 : wr.cell? ⟨gb231, 3, none⟩ = some (.slice A0_3 l0_3.length c0_3) := (blk_cell BK231.out 3).trans rfl
                    have hfz29_0 := blk_frozen BK231.out 0
                    have hfz29_1 := blk_frozen BK231.out 1
                    have hfz29_2 := blk_frozen BK231.out 2
                    have hfz29_3 := blk_frozen BK231.out 3
                    have p235 : 0 ≤ (x5_2 : Int) := of_decide_eq_true (by first | (with_reducible assumption) | assumption)
                    have q235 : x5_2 < (l0_3.length : Int) := of_decide_eq_true (by first | (with_reducible assumption) | assumption)
                    obtain ⟨ad235, e235, hx235_0, hx235_1, hx235_2, hx235_3⟩ := at_T43 HR0_3.out x5_2 p235 q235
                    cases e235
                    replace hx235_0 := (HB.out.cell (World.block_lt_of_cell? w _ hx235_0)).trans hx235_0
                    replace hx235_1 := (HB.out.cell (World.block_lt_of_cell? w _ hx235_1)).trans hx235_1
                    replace hx235_2 := (HB.out.cell (World.block_lt_of_cell? w _ hx235_2)).trans hx235_2
                    replace hx235_3 := (HB.out.cell (World.block_lt_of_cell? w _ hx235_3)).trans hx235_3
                    replace p235 := eq_true p235
                    replace q235 := eq_true q235
                    have hcz30_0 : wr.cell? ⟨gb232, 0, none⟩ = some (.string a1_0) := (blk_cell BK232.out 0).trans rfl
                    have hcz30_1 : wr.cell? ⟨gb232, 1, none⟩ = some (.slice A1_1 l1_1.length c1_1) := (blk_cell BK232.out 1).trans rfl
                    have hcz30_2 : wr.cell? ⟨gb232, 2, none⟩ = some (.slice A1_2 l1_2.length c1_2) := (blk_cell BK232.out 2).trans rfl
                    have hcz30_3 : wr.cell? ⟨gb232, 3, none⟩ = some (.slice A1_3 l1_3.length c1_3) := (blk_cell BK232.out 3).trans rfl
                    have hfz30_0 := blk_frozen BK232.out 0
                    have hfz30_1 := blk_frozen BK232.out 1
                    have hfz30_2 := blk_frozen BK232.out 2
                    have hfz30_3 := blk_frozen BK232.out 3
                    have p236 : 0 ≤ (x5_2 : Int) := of_decide_eq_true (by first | (with_reducible assumption) | assumption)
                    have q236 : x5_2 < (l1_3.length : Int) := of_decide_eq_true (by first | (with_reducible assumption) | assumption)
                    obtain ⟨ad236, e236, hx236_0, hx236_1, hx236_2, hx236_3⟩ := at_T43 HR1_3.out x5_2 p236 q236
                    cases e236
                    replace hx236_0 := (HB.out.cell (World.block_lt_of_cell? w _ hx236_0)).trans hx236_0
                    replace hx236_1 := (HB.out.cell (World.block_lt_of_cell? w _ hx236_1)).trans hx236_1
                    replace hx236_2 := (HB.out.cell (World.block_lt_of_cell? w _ hx236_2)).trans hx236_2
                    replace hx236_3 := (HB.out.cell (World.block_lt_of_cell? w _ hx236_3)).trans hx236_3
                    replace p236 := eq_true p236
                    replace q236 := eq_true q236
                    go_wp2
                    repeat (go_quiet (fail); try go_wp2)
                    go_ret
                    exact ⟨by first | rfl | (simp [errW_none, errW_some] <;> rfl) | (simp [*, errW_none, errW_some] <;> rfl), by repeat (first | (with_reducible first | exact HB.out | apply below_alloc | apply pw_below_drewN | apply below_drew1 | refine below_set ?_ GE231.out | refine below_set ?_ GE232.out) | exact HB.out)⟩
                  · rw [if_neg c27] at H
                    have c27b0 : (!(((rd_T43 l0_3 x5_2).f0) == ((rd_T43 l1_3 x5_2).f0)) || (!(((rd_T43 l0_3 x5_2).f1) == ((rd_T43 l1_3 x5_2).f1)) || (!((((rd_T43 l0_3 x5_2).f2).toList) == (((rd_T43 l1_3 x5_2).f2).toList)) || (!(((rd_T43 l0_3 x5_2).f3) == ((rd_T43 l1_3 x5_2).f3)))))) = false := by simpa using c27
                    clear c27
                    have H' := Aside0.mk H
                    clear H
                    have hnb31 := NB231_232.out
                    have hnc31 := NB232_231.out
                    have hcz32_0 : wr.cell? ⟨gb231, 0, none⟩ = some (.string a0_0) := (blk_cell BK231.out 0).trans rfl
                    have hcz32_1 : wr.cell? ⟨gb231, 1, none⟩ = some (.slice A0_1 l0_1.length c0_1) := (blk_cell BK231.out 1).trans rfl
                    have hcz32_2 : wr.cell? ⟨gb231, 2, none⟩ = some (.slice A0_2 l0_2.length c0_2) := (blk_cell BK231.out 2).trans rfl
                    have hcz32_3 : wr.cell? ⟨gb231, 3, none⟩ = some (.slice A0_3 l0_3.length c0_3) := (blk_cell BK231.out 3).trans rfl
                    have hfz32_0 := blk_frozen BK231.out 0
                    have hfz32_1 := blk_frozen BK231.out 1
                    have hfz32_2 := blk_frozen BK231.out 2
                    have hfz32_3 := blk_frozen BK231.out 3
                    have p235 : 0 ≤ (x5_2 : Int) := of_decide_eq_true (by first | (with_reducible assumption) | assumption)
                    have q235 : x5_2 < (l0_3.length : Int) := of_decide_eq_true (by first | (with_reducible assumption) | assumption)
                    obtain ⟨ad235, e235, hx235_0, hx235_1, hx235_2, hx235_3⟩ := at_T43 HR0_3.out x5_2 p235 q235
                    cases e235
                    replace hx235_0 := (HB.out.cell (World.block_lt_of_cell? w _ hx235_0)).trans hx235_0
                    replace hx235_1 := (HB.out.cell (World.block_lt_of_cell? w _ hx235_1)).trans hx235_1
                    replace hx235_2 := (HB.out.cell (World.block_lt_of_cell? w _ hx235_2)).trans hx235_2
                    replace hx235_3 := (HB.out.cell (World.block_lt_of_cell? w _ hx235_3)).trans hx235_3
                    replace p235 := eq_true p235
                    replace q235 := eq_true q235
                    have hcz33_0 : wr.cell? ⟨gb232, 0, none⟩ = some (.string a1_0) := (blk_cell BK232.out 0).trans rfl
                    have hcz33_1 : wr.cell? ⟨gb232, 1, none⟩ = some (.slice A1_1 l1_1.length c1_1) := (blk_cell BK232.out 1).trans rfl
                    have hcz33_2 : wr.cell? ⟨gb232, 2, none⟩ = some (.slice A1_2 l1_2.length c1_2) := (blk_cell BK232.out 2).trans rfl
                    have hcz33_3 : wr.cell? ⟨gb232, 3, none⟩ = some (.slice A1_3 l1_3.length c1_3) := (blk_cell BK232.out 3).trans rfl
                    have hfz33_0 := blk_frozen BK232.out 0
                    have hfz33_1 := blk_frozen BK232.out 1
                    have hfz33_2 := blk_frozen BK232.out 2
                    have hfz33_3 := blk_frozen BK232.out 3
                    have p236 : 0 ≤ (x5_2 : Int) := of_decide_eq_true (by first | (with_reducible assumption) | assumption)
                    have q236 : x5_2 < (l1_3.length : Int) := of_decide_eq_true (by first | (with_reducible assumption) | assumption)
                    obtain ⟨ad236, e236, hx236_0, hx236_1, hx236_2, hx236_3⟩ := at_T43 HR1_3.out x5_2 p236 q236
                    cases e236
                    replace hx236_0 := (HB.out.cell (World.block_lt_of_cell? w _ hx236_0)).trans hx236_0
                    replace hx236_1 := (HB.out.cell (World.block_lt_of_cell? w _ hx236_1)).trans hx236_1
                    replace hx236_2 := (HB.out.cell (World.block_lt_of_cell? w _ hx236_2)).trans hx236_2
                    replace hx236_3 := (HB.out.cell (World.block_lt_of_cell? w _ hx236_3)).trans hx236_3
                    replace p236 := eq_true p236
                    replace q236 := eq_true q236
                    go_wp2
                    repeat (go_quiet (fail); try go_wp2)
                    go_roundg k2
                    case measure => have := HJ2.out; have := HK2.out; omega
                    case rel => exact ⟨(wrap64 (x5_2 + 1)), (by first | rfl | (simp; done) | (simp [*]; done)), H', ⟨by have := HJ2.out; have := HK2.out; omega⟩, ⟨by (with_reducible repeat (first | refine blk_drewN ?_ _ | refine blk_drew ?_ | refine blk_alloc ?_ _)); exact BK231.out⟩, ⟨by (with_reducible repeat (first | refine blk_drewN ?_ _ | refine blk_drew ?_ | refine blk_alloc ?_ _)); exact BK232.out⟩, ⟨by repeat (first | (with_reducible first | exact HB.out | apply below_alloc | apply pw_below_drewN | apply below_drew1 | refine below_set ?_ GE231.out | refine below_set ?_ GE232.out) | exact HB.out)⟩⟩
                · rw [if_neg c26] at H
                  exact absurd H (by simp)
              · rw [if_neg c25] at H
                exact absurd H (by simp)
            · rw [if_neg c24] at H
              have c24b0 : decide (x5_2 < (l0_3.length : Int)) = false := decide_eq_false c24
              clear c24
              obtain rfl := Option.some.inj H
              have hnb34 := NB231_232.out
              have hnc34 := NB232_231.out
              have hcz35_0 : wr.cell? ⟨gb231, 0, none⟩ = some (.string a0_0) := (blk_cell BK231.out 0).trans rfl
              have hcz35_1 : wr.cell? ⟨gb231, 1, none⟩ = some (.slice A0_1 l0_1.length c0_1) := (blk_cell BK231.out 1).trans rfl
              have hcz35_2 : wr.cell? ⟨gb231, 2, none⟩ = some (.slice A0_2 l0_2.length c0_2) := (blk_cell BK231.out 2).trans rfl
              have hcz35_3 : wr.cell? ⟨gb231, 3, none⟩ = some (.slice A0_3 l0_3.length c0_3) := (blk_cell BK231.out 3).trans rfl
              have hfz35_0 := blk_frozen BK231.out 0
              have hfz35_1 := blk_frozen BK231.out 1
              have hfz35_2 := blk_frozen BK231.out 2
              have hfz35_3 := blk_frozen BK231.out 3
              go_wp2
              repeat (go_quiet (fail); try go_wp2)
              go_ret
              exact ⟨by first | rfl | (simp [errW_none, errW_some] <;> rfl) | (simp [*, errW_none, errW_some] <;> rfl), by repeat (first | (with_reducible first | exact HB.out | apply below_alloc | apply pw_below_drewN | apply below_drew1 | refine below_set ?_ GE231.out | refine below_set ?_ GE232.out) | exact HB.out)⟩

end Go.Proofs.Ytilmndkbloodbaa.M

/-
  Layer 6: the document's Same says whether two objects are one. Plain, and its contract over objects as values.
-/
namespace Go.Proofs.Ytilmndkbloodbaa.M
open Go.RowKit Go.Proofs.YtilmndkbloodbaaW.PrintWords Go.Proofs.Ytilmndkbloodbaa.Num Go.Proofs.Ytilmndkbloodbaa.Seven Go.Proofs.Ytilmndkbloodbaa.Word1 Go.Proofs.Ytilmndkbloodbaa.Obj
set_option linter.unusedVariables false
set_option linter.unusedSimpArgs false
theorem drop_cons {α : Type} {l : List α} {i : Nat} (h : i < l.length) : l.drop i = l[i] :: l.drop (i + 1) := List.drop_eq_getElem_cons h
theorem sameData_l0 (x y : List Int) (hl : x.length = y.length) (hm : x.length ≤ 9223372036854775806) : ∀ (d k i : Nat), x.length - i = d → i ≤ x.length → d < k → ∃ b, cotterref06_SameData.l0 k x y i = some b ∧ (b = true ↔ x.drop i = y.drop i) := by
  intro d
  induction d with
  | zero =>
    intro k i h1 h2 hk
    match k, hk with
    | k + 1, hk =>
      refine ⟨true, ?_, ?_⟩
      · rw [cotterref06_SameData.l0, if_neg (by omega)]
      · rw [List.drop_eq_nil_of_le (by omega), List.drop_eq_nil_of_le (by omega)]; simp
  | succ d ih =>
    intro k i h1 h2 hk
    match k, hk with
    | k + 1, hk =>
      have hx : i < x.length := by omega
      have hy : i < y.length := by omega
      rw [cotterref06_SameData.l0, if_pos (by omega), if_pos (by omega), if_pos (by omega)]
      have ex : rd x (i : Int) = x[i] := by simp [rd, List.getD_eq_getElem?_getD, List.getElem?_eq_getElem hx]
      have ey : rd y (i : Int) = y[i] := by simp [rd, List.getD_eq_getElem?_getD, List.getElem?_eq_getElem hy]
      rw [ex, ey, drop_cons hx, drop_cons hy, wrap64_id (by omega) (by omega)]
      clear ex ey
      generalize x[i] = a
      generalize y[i] = c
      by_cases he : a = c
      · rw [if_pos he]
        obtain ⟨b, hb, hi⟩ := ih k (i + 1) (by omega) (by omega) (by omega)
        exact ⟨b, hb, by rw [hi, he]; simp⟩
      · rw [if_neg he]
        exact ⟨false, rfl, by simp [he]⟩
theorem sameData_f (x y : List Int) (hm : x.length ≤ 9223372036854775806) (k : Nat) (hk : x.length < k) : ∃ b, cotterref06_SameData.f k x y = some b ∧ (b = true ↔ x = y) := by
  unfold cotterref06_SameData.f
  by_cases hl : x.length = y.length
  · rw [if_pos (by omega)]
    obtain ⟨b, hb, hi⟩ := sameData_l0 x y hl hm x.length k 0 (by omega) (by omega) hk
    exact ⟨b, hb, by simpa using hi⟩
  · rw [if_neg (by omega)]
    exact ⟨false, rfl, by simp; intro e; exact hl (by rw [e])⟩
theorem rdS {l : List S41} {i : Nat} (h : i < l.length) : rd_T41 l (i : Int) = l[i] := by simp [rd_T41, List.getD_eq_getElem?_getD, List.getElem?_eq_getElem h]
theorem rdR {l : List S43} {i : Nat} (h : i < l.length) : rd_T43 l (i : Int) = l[i] := by simp [rd_T43, List.getD_eq_getElem?_getD, List.getElem?_eq_getElem h]
theorem text_beq (a b : ByteArray) : (a.toList == b.toList) = true ↔ a = b := by
  rw [beq_iff_eq]
  exact ⟨toList_inj, fun h => by rw [h]⟩
theorem sameSyms_l0 (x y : List S41) (hl : x.length = y.length) (hm : x.length ≤ 9223372036854775806) : ∀ (d k i : Nat), x.length - i = d → i ≤ x.length → d < k → ∃ b, cotterref06_SameSyms.l0 k x y i = some b ∧ (b = true ↔ x.drop i = y.drop i) := by
  intro d
  induction d with
  | zero =>
    intro k i h1 h2 hk
    match k, hk with
    | k + 1, hk =>
      refine ⟨true, ?_, ?_⟩
      · rw [cotterref06_SameSyms.l0, if_neg (by omega)]
      · rw [List.drop_eq_nil_of_le (by omega), List.drop_eq_nil_of_le (by omega)]; simp
  | succ d ih =>
    intro k i h1 h2 hk
    match k, hk with
    | k + 1, hk =>
      have hx : i < x.length := by omega
      have hy : i < y.length := by omega
      rw [cotterref06_SameSyms.l0, if_pos (by omega), if_pos (by omega), if_pos (by omega), rdS hx, rdS hy, drop_cons hx, drop_cons hy, wrap64_id (by omega) (by omega)]
      generalize x[i] = a
      generalize y[i] = c
      obtain ⟨a0, a1, a2⟩ := a
      obtain ⟨c0, c1, c2⟩ := c
      dsimp only
      by_cases he : a0 = c0 ∧ a1 = c1 ∧ a2 = c2
      · obtain ⟨rfl, rfl, rfl⟩ := he
        rw [if_neg (by simp)]
        obtain ⟨b, hb, hi⟩ := ih k (i + 1) (by omega) (by omega) (by omega)
        exact ⟨b, hb, by rw [hi]; simp⟩
      · rw [if_pos]
        · exact ⟨false, rfl, by simp; intro h1 h2 h3; exact absurd ⟨h1, h2, h3⟩ he⟩
        · by_cases e0 : a0 = c0
          · by_cases e1 : a1 = c1
            · have e2 : a2 ≠ c2 := fun e2 => he ⟨e0, e1, e2⟩
              simp [e2]
            · simp [e1]
          · have : (a0.toList == c0.toList) = false := by rw [Bool.eq_false_iff]; exact fun h => e0 ((text_beq _ _).1 h)
            simp [this]
theorem sameSyms_f (x y : List S41) (hm : x.length ≤ 9223372036854775806) (k : Nat) (hk : x.length < k) : ∃ b, cotterref06_SameSyms.f k x y = some b ∧ (b = true ↔ x = y) := by
  unfold cotterref06_SameSyms.f
  by_cases hl : x.length = y.length
  · rw [if_pos (by omega)]
    obtain ⟨b, hb, hi⟩ := sameSyms_l0 x y hl hm x.length k 0 (by omega) (by omega) hk
    exact ⟨b, hb, by simpa using hi⟩
  · rw [if_neg (by omega)]
    exact ⟨false, rfl, by simp; intro e; exact hl (by rw [e])⟩
theorem same_l0 (c0 : ByteArray) (d0 : List Int) (s0 : List S41) (c1 : ByteArray) (d1 : List Int) (s1 : List S41) (x y : List S43) (hl : x.length = y.length) (hm : x.length ≤ 9223372036854775806) : ∀ (d k i : Nat), x.length - i = d → i ≤ x.length → d < k → ∃ b, cotterref06_Same.l0 k i c0 d0 s0 x c1 d1 s1 y = some b ∧ (b = true ↔ x.drop i = y.drop i) := by
  intro d
  induction d with
  | zero =>
    intro k i h1 h2 hk
    match k, hk with
    | k + 1, hk =>
      refine ⟨true, ?_, ?_⟩
      · rw [cotterref06_Same.l0, if_neg (by omega)]
      · rw [List.drop_eq_nil_of_le (by omega), List.drop_eq_nil_of_le (by omega)]; simp
  | succ d ih =>
    intro k i h1 h2 hk
    match k, hk with
    | k + 1, hk =>
      have hx : i < x.length := by omega
      have hy : i < y.length := by omega
      rw [cotterref06_Same.l0, if_pos (by omega), if_pos (by omega), if_pos (by omega), rdR hx, rdR hy, drop_cons hx, drop_cons hy, wrap64_id (by omega) (by omega)]
      generalize x[i] = a
      generalize y[i] = c
      obtain ⟨a0, a1, a2, a3⟩ := a
      obtain ⟨e0, e1, e2, e3⟩ := c
      dsimp only
      by_cases he : a0 = e0 ∧ a1 = e1 ∧ a2 = e2 ∧ a3 = e3
      · obtain ⟨rfl, rfl, rfl, rfl⟩ := he
        rw [if_neg (by simp)]
        obtain ⟨b, hb, hi⟩ := ih k (i + 1) (by omega) (by omega) (by omega)
        exact ⟨b, hb, by rw [hi]; simp⟩
      · rw [if_pos]
        · exact ⟨false, rfl, by simp; intro h1 h2 h3 h4; exact absurd ⟨h1, h2, h3, h4⟩ he⟩
        · by_cases g0 : a0 = e0
          · by_cases g1 : a1 = e1
            · by_cases g2 : a2 = e2
              · have g3 : a3 ≠ e3 := fun g3 => he ⟨g0, g1, g2, g3⟩
                simp [g3]
              · have : (a2.toList == e2.toList) = false := by rw [Bool.eq_false_iff]; exact fun h => g2 ((text_beq _ _).1 h)
                simp [this]
            · simp [g1]
          · simp [g0]
theorem same_f (o p : Obj6) (h1 : o.2.1.length ≤ 9223372036854775806) (h2 : o.2.2.1.length ≤ 9223372036854775806) (h3 : o.2.2.2.length ≤ 9223372036854775806) (k : Nat) (k1 : o.2.1.length < k) (k2 : o.2.2.1.length < k) (k3 : o.2.2.2.length + 1 < k) : ∃ b, cotterref06_Same.f k o.1 o.2.1 o.2.2.1 o.2.2.2 p.1 p.2.1 p.2.2.1 p.2.2.2 = some b ∧ (b = true ↔ o = p) := by
  obtain ⟨oc, od, os, or⟩ := o
  obtain ⟨pc, pd, ps, pr⟩ := p
  dsimp only at *
  obtain ⟨k, rfl⟩ : ∃ m, k = m + 1 := ⟨k - 1, by omega⟩
  unfold cotterref06_Same.f
  have jt : cotterref06_Same.j0 (k + 1) true oc od os or pc pd ps pr = some false := by rw [cotterref06_Same.j0, if_pos rfl]
  by_cases e0 : oc = pc
  · rw [if_pos (by rw [e0])]
    obtain ⟨b1, hb1, hi1⟩ := sameData_f od pd h1 (k + 1) k1
    rw [hb1, Option.bind_some]
    cases b1
    · rw [if_neg (by simp), jt]
      exact ⟨false, rfl, by simp; intro _ e; exact absurd (hi1.2 e) (by simp)⟩
    · rw [if_pos rfl]
      obtain ⟨b2, hb2, hi2⟩ := sameSyms_f os ps h2 (k + 1) k2
      rw [hb2, Option.bind_some]
      cases b2
      · rw [if_neg (by simp), jt]
        exact ⟨false, rfl, by simp; intro _ _ e; exact absurd (hi2.2 e) (by simp)⟩
      · rw [if_pos rfl, cotterref06_Same.j0]
        have e1 := hi1.1 rfl
        have e2 := hi2.1 rfl
        by_cases hl : or.length = pr.length
        · rw [if_neg (by simp [hl])]
          obtain ⟨b, hb, hi⟩ := same_l0 oc od os pc pd ps or pr hl h3 or.length k 0 (by omega) (by omega) (by omega)
          exact ⟨b, hb, by rw [hi]; simp [e0, e1, e2]⟩
        · rw [if_pos (by simp; omega)]
          exact ⟨false, rfl, by simp; intro _ _ _ e; exact hl (by rw [e])⟩
  · rw [if_neg (fun h => e0 (toList_inj h)), jt]
    exact ⟨false, rfl, by simp [e0]⟩
theorem same_c {w : World} {v v' : Value} {o p : Obj6} (h : Ob w v o) (h' : Ob w v' p) (z1 : o.2.1.length ≤ 9223372036854775806) (z2 : o.2.2.1.length ≤ 9223372036854775806) (z3 : o.2.2.2.length ≤ 9223372036854775806) : Calls Try.prog 15 #[v, v'] w fun e w' => ∃ b : Bool, (b = true ↔ o = p) ∧ e = .returned (.bool b) ∧ Below w.heap.size w w' := by
  obtain ⟨A1, c1, A2, c2, A3, c3, rfl, h1, l1, h2, l2, h3, l3⟩ := h
  obtain ⟨B1, d1, B2, d2, B3, d3, rfl, g1, m1, g2, m2, g3, m3⟩ := h'
  obtain ⟨b, hb, hi⟩ := same_f o p z1 z2 z3 (o.2.1.length + o.2.2.1.length + o.2.2.2.length + 2) (by omega) (by omega) (by omega)
  exact (cotterref06_Same.calls _ o.1 A1 c1 o.2.1 A2 c2 o.2.2.1 A3 c3 o.2.2.2 p.1 B1 d1 p.2.1 B2 d2 p.2.2.1 B3 d3 p.2.2.2 b w h1 l1 h2 l2 h3 l3 g1 m1 g2 m2 g3 m3 hb).mono fun e w' hh => ⟨b, hi, hh.1, hh.2⟩
end Go.Proofs.Ytilmndkbloodbaa.M

/-
  Layer 6: live: the document's own examples, plain.
-/
namespace Go.Proofs.Ytilmndkbloodbaa.M
open Go.RowKit Go.Proofs.YtilmndkbloodbaaW.PrintWords Go.Proofs.Ytilmndkbloodbaa.Num Go.Proofs.Ytilmndkbloodbaa.Seven Go.Proofs.Ytilmndkbloodbaa.Word1 Go.Proofs.Ytilmndkbloodbaa.Obj
set_option linter.unusedVariables false
set_option linter.unusedSimpArgs false
def emptyO : Obj6 := (⟨#[]⟩, [], [], [])
theorem may_empty : mayO emptyO = true := by decide +kernel
theorem wr_empty : wrO emptyO = (⟨#[67, 79, 84, 49, 0, 0, 0, 0]⟩, 0) := by
  unfold wrO
  rw [if_pos may_empty]
  have h0 : putL 0 = [0] := putL_small (by omega)
  have e : form COT1 emptyO.1 emptyO.2.1 emptyO.2.2.1 emptyO.2.2.2 = [67, 79, 84, 49, 0, 0, 0, 0] := by
    unfold form front front1 front0 textL dataL symsL relsL emptyO
    simp only [List.length_nil, List.flatMap_nil, List.append_nil]
    rw [show (⟨#[]⟩ : ByteArray).size = 0 from rfl, h0, show bytesOf (⟨#[]⟩ : ByteArray) = [] from rfl]
    rfl
  unfold formO
  rw [e]
  rfl
theorem form_long (o : Obj6) : 8 ≤ (form COT1 o.1 o.2.1 o.2.2.1 o.2.2.2).length := by
  unfold form front front1 front0 textL
  simp only [List.length_append, show COT1.length = 4 from rfl]
  have h1 := putL_pos o.1.size
  have h2 := putL_pos o.2.1.length
  have h3 := putL_pos o.2.2.1.length
  have h4 := putL_pos o.2.2.2.length
  omega
theorem rd_mark : rdO COT1s = (emptyO, 9) := by
  unfold rdO
  cases e : readA COT1s with
  | none => rfl
  | some x =>
    obtain ⟨c, d, y, r⟩ := x
    have h := congrArg List.length (read_back e).1
    rw [bytesOf_length] at h
    have := form_long (c, d, y, r)
    dsimp only at this
    rw [← h] at this
    exact absurd this (by decide)
def liveO : Obj6 := (⟨#[97, 98, 99, 100, 101]⟩, [-1], [⟨⟨#[102]⟩, 1, 4⟩], [⟨1, 1, ⟨#[103]⟩, 0⟩])
theorem may_live : mayO liveO = true := by decide +kernel
theorem words_live : wordsOk liveO.2.1 := by intro n hn; simp [liveO] at hn; omega
theorem rd_live : rdO (formO liveO) = (liveO, 0) := by
  have h := rd_form may_live words_live ⟨#[]⟩
  rw [show formO liveO ++ (⟨#[]⟩ : ByteArray) = formO liveO from bytesOf_inj (by rw [bytesOf_append, show bytesOf (⟨#[]⟩ : ByteArray) = [] from rfl, List.append_nil]), if_pos (show (⟨#[]⟩ : ByteArray).size = 0 from rfl)] at h
  exact h
theorem wr_live : wrO liveO = (formO liveO, 0) := by unfold wrO; rw [if_pos may_live]
theorem Ob.empty (w : World) : Ob w (.agg #[.string ⟨#[]⟩, .slice none 0 0, .slice none 0 0, .slice none 0 0]) emptyO := Ob.of_R (o := emptyO) (b := 0) (ok1 := fun _ => True) (ok2 := fun _ => True) (ok3 := fun _ => True) (Kd.R_nil _ _ _ _ _) (Kd.R_nil _ _ _ _ _) (Kd.R_nil _ _ _ _ _)
end Go.Proofs.Ytilmndkbloodbaa.M

/-
  Layer 6: live: the walk: it says true. No condition.
-/
namespace Go.Proofs.Ytilmndkbloodbaa.M
open Go.RowKit Go.Proofs.YtilmndkbloodbaaW.PrintWords Go.Proofs.Ytilmndkbloodbaa.Num Go.Proofs.Ytilmndkbloodbaa.Seven Go.Proofs.Ytilmndkbloodbaa.Word1 Go.Proofs.Ytilmndkbloodbaa.Obj
set_option linter.unusedVariables false
set_option linter.unusedSimpArgs false
theorem live_ob {W : World} {b1 b2 b3 : Nat} (h1 : W.cell? ⟨b1, 0, none⟩ = some (.int .i64 (-1))) (h20 : W.cell? ⟨b2, 0, none⟩ = some (.string ⟨#[102]⟩)) (h21 : W.cell? ⟨b2, 1, none⟩ = some (.int .i64 1)) (h22 : W.cell? ⟨b2, 2, none⟩ = some (.int .i64 4))
    (h30 : W.cell? ⟨b3, 0, none⟩ = some (.int .i64 1)) (h31 : W.cell? ⟨b3, 1, none⟩ = some (.int .i64 1)) (h32 : W.cell? ⟨b3, 2, none⟩ = some (.string ⟨#[103]⟩)) (h33 : W.cell? ⟨b3, 3, none⟩ = some (.int .i64 0)) :
    Ob W (.agg #[.string ⟨#[97, 98, 99, 100, 101]⟩, .slice (some ⟨b1, 0, none⟩) 1 1, .slice (some ⟨b2, 0, none⟩) 1 1, .slice (some ⟨b3, 0, none⟩) 1 1]) liveO := by
  refine ⟨_, _, _, _, _, _, rfl, ⟨rfl, by decide, fun _ => ⟨_, rfl, fun j p hj => ?_⟩⟩, Nat.le_refl _, ⟨rfl, by decide, fun _ => ⟨_, rfl, fun j p hj => ?_⟩⟩, Nat.le_refl _, ⟨rfl, by decide, fun _ => ⟨_, rfl, fun j p hj => ?_⟩⟩, Nat.le_refl _⟩
  · match j, hj with
    | 0, hj =>
      obtain rfl : -1 = p := by simpa [liveO] using hj
      refine ⟨[.int .i64 (-1)], rfl, rfl, fun i u hu => ?_⟩
      match i, hu with
      | 0, hu => obtain rfl := Option.some.inj hu; exact h1
  · match j, hj with
    | 0, hj =>
      obtain rfl : (⟨⟨#[102]⟩, 1, 4⟩ : S41) = p := by simpa [liveO] using hj
      refine ⟨[.string ⟨#[102]⟩, .int .i64 1, .int .i64 4], rfl, ⟨_, _, rfl, rfl, ⟨_, _, rfl, rfl, rfl⟩⟩, fun i u hu => ?_⟩
      match i, hu with
      | 0, hu => obtain rfl := Option.some.inj hu; exact h20
      | 1, hu => obtain rfl := Option.some.inj hu; exact h21
      | 2, hu => obtain rfl := Option.some.inj hu; exact h22
  · match j, hj with
    | 0, hj =>
      obtain rfl : (⟨1, 1, ⟨#[103]⟩, 0⟩ : S43) = p := by simpa [liveO] using hj
      refine ⟨[.int .i64 1, .int .i64 1, .string ⟨#[103]⟩, .int .i64 0], rfl, ⟨_, _, rfl, rfl, ⟨_, _, rfl, rfl, ⟨_, _, rfl, rfl, rfl⟩⟩⟩, fun i u hu => ?_⟩
      match i, hu with
      | 0, hu => obtain rfl := Option.some.inj hu; exact h30
      | 1, hu => obtain rfl := Option.some.inj hu; exact h31
      | 2, hu => obtain rfl := Option.some.inj hu; exact h32
      | 3, hu => obtain rfl := Option.some.inj hu; exact h33
theorem wlive_c {W : World} {v : Value} (h : Ob W v liveO) : Calls Try.prog 11 #[v] W fun e w' => e = .returned (.tuple #[.string (formO liveO), .int .i64 0]) ∧ Below W.heap.size W w' := by
  have := write_c h words_live
  rw [wr_live] at this
  exact this
theorem form_bs (o : Obj6) : Bs (form COT1 o.1 o.2.1 o.2.2.1 o.2.2.2) := Bs.append (Bs.append (Bs.append (Bs.append (Bs.append (Bs.append (Bs.append cot_bs (textL_bs _)) (putL_bs _)) (flat_bs _ (fun n => leL_bs n 8) _)) (putL_bs _)) (flat_bs _ symL_bs _)) (putL_bs _)) (flat_bs _ relL_bs _)
theorem size_form (o : Obj6) : (formO o).size = (form COT1 o.1 o.2.1 o.2.2.1 o.2.2.2).length := str_size _ (form_bs o)
theorem putL_one {n : Nat} (h : n < 128) : (putL n).length = 1 := by rw [putL_small (by omega)]; rfl
theorem live_small : (formO liveO).size ≤ 281474976710656 := by
  rw [size_form]
  unfold form front front1 front0 textL dataL symsL relsL liveO
  simp only [List.length_append, List.length_cons, List.length_nil, List.flatMap_cons, List.flatMap_nil, symL, relL, textL, leL_len, bytesOf_length]
  rw [putL_one (by decide), putL_one (by decide), putL_one (by decide), putL_one (by decide), putL_one (by decide), putL_one (by decide)]
  decide
theorem rlive_c (W : World) : Calls Try.prog 16 #[.string (formO liveO)] W fun e w' => ∃ v, e = .returned (.tuple #[v, .int .i64 0]) ∧ Ob w' v liveO ∧ Below W.heap.size W w' := by
  have := read_c (formO liveO) live_small W
  rw [rd_live] at this
  exact this
set_option maxHeartbeats 2000000 in
theorem live_c (w : World) : Calls Try.prog 9 #[] w fun e w' => e = .returned (.bool true) ∧ Below w.heap.size w w' := by
  have W1 := Aside0.mk (write_c (Ob.empty w) (by intro n hn; cases hn))
  rw [wr_empty] at W1
  have R1 := Aside0.mk (fun (W : World) => read_c COT1s (by decide) W)
  rw [rd_mark] at R1
  have T1 : True := trivial
  have T2 : True := trivial
  have T3 : True := trivial
  have T4 : True := trivial
  go_enter Try.func9, Try.ntmps9
  go_wp2_with (first
    | (clear T1; go_at_call 11; (with_reducible refine W1.out.mono ?_); rintro e w1 ⟨rfl, hb⟩; have HB1 := Aside0.mk hb; clear hb)
    | (clear T2; go_at_call 16; (with_reducible refine (R1.out _).mono ?_); rintro e w2 ⟨v2, rfl, ho, hb⟩; have HB2 := Aside0.mk (below_in HB1.out hb); obtain ⟨A1, c1, A2, c2, A3, c3, rfl, -⟩ := ho; clear hb)
    | (clear T3; go_at_call 11; (with_reducible refine (wlive_c (live_ob ?s1 ?s2 ?s3 ?s4 ?s5 ?s6 ?s7 ?s8)).mono ?_); (case s1 => go_simp); (case s2 => go_simp); (case s3 => go_simp); (case s4 => go_simp); (case s5 => go_simp); (case s6 => go_simp); (case s7 => go_simp); (case s8 => go_simp); rintro e w3 ⟨rfl, hb⟩
       have HB3 := Aside0.mk (below_in (below_alloc (below_alloc (below_alloc (below_alloc (below_alloc HB2.out _) _) _) _) _) hb)
       have HO3 := Aside0.mk (Ob.below (live_ob (b1 := w2.heap.size + 1) (b2 := w2.heap.size + 1 + 1) (b3 := w2.heap.size + 1 + 1 + 1) (by go_simp) (by go_simp) (by go_simp) (by go_simp) (by go_simp) (by go_simp) (by go_simp) (by go_simp)) hb)
       have cc0 : w3.cell? ⟨w2.heap.size + 1 + 1 + 1 + 1, 0, none⟩ = some (.string ⟨#[97, 98, 99, 100, 101]⟩) := pw_cell_below hb (by go_simp)
       have cc1 : w3.cell? ⟨w2.heap.size + 1 + 1 + 1 + 1, 1, none⟩ = some (.slice (some ⟨w2.heap.size + 1, 0, none⟩) 1 1) := pw_cell_below hb (by go_simp)
       have cc2 : w3.cell? ⟨w2.heap.size + 1 + 1 + 1 + 1, 2, none⟩ = some (.slice (some ⟨w2.heap.size + 1 + 1, 0, none⟩) 1 1) := pw_cell_below hb (by go_simp)
       have cc3 : w3.cell? ⟨w2.heap.size + 1 + 1 + 1 + 1, 3, none⟩ = some (.slice (some ⟨w2.heap.size + 1 + 1 + 1, 0, none⟩) 1 1) := pw_cell_below hb (by go_simp)
       clear hb)
    | (clear T4; go_at_call 16; (with_reducible refine (rlive_c _).mono ?_); rintro e w4 ⟨v4, rfl, ho, hb⟩
       have HB4 := Aside0.mk (below_in HB3.out hb)
       have HO4 := Aside0.mk (Ob.below HO3.out hb)
       have cd0 := pw_cell_below hb cc0
       have cd1 := pw_cell_below hb cc1
       have cd2 := pw_cell_below hb cc2
       have cd3 := pw_cell_below hb cc3
       have hlt := World.block_lt_of_cell? w4 _ cd0
       obtain ⟨B1, d1, B2, d2, B3, d3, rfl, k1, m1, k2, m2, k3, m3⟩ := ho
       have HO5 : Aside0 (Ob w4 (.agg #[.string liveO.1, .slice B1 liveO.2.1.length d1, .slice B2 liveO.2.2.1.length d2, .slice B3 liveO.2.2.2.length d3]) liveO) := Aside0.mk ⟨B1, d1, B2, d2, B3, d3, rfl, k1, m1, k2, m2, k3, m3⟩
       clear hb k1 m1 k2 m2 k3 m3 cc0 cc1 cc2 cc3)
    | (go_at_call 15; (with_reducible refine (same_c (Ob.below HO4.out (below_alloc (Below.refl w4.heap.size w4) _)) (Ob.below HO5.out (below_alloc (Below.refl w4.heap.size w4) _)) ?z1 ?z2 ?z3).mono ?_); (case z1 => decide); (case z2 => decide); (case z3 => decide); rintro e w6 ⟨b, hi, rfl, hb⟩
       have hbt : b = true := hi.2 rfl
       subst hbt
       have HB6 := Aside0.mk (below_in (below_alloc HB4.out _) hb)
       clear hb hi))
  go_ret
  exact ⟨rfl, HB6.out⟩
end Go.Proofs.Ytilmndkbloodbaa.M

/-
  Layer 6: the contracts over objects, case by case, for the laws' walks; and the plain facts of forms (their size, that unlike objects have unlike ones, that a beginning of one is none's). No condition but those told at each.
-/
namespace Go.Proofs.Ytilmndkbloodbaa.M
open Go.RowKit Go.Proofs.YtilmndkbloodbaaW.PrintWords Go.Proofs.Ytilmndkbloodbaa.Num Go.Proofs.Ytilmndkbloodbaa.Seven Go.Proofs.Ytilmndkbloodbaa.Word1 Go.Proofs.Ytilmndkbloodbaa.Obj
set_option linter.unusedVariables false
set_option linter.unusedSimpArgs false
theorem Ob.more {w : World} {v : Value} {o : Obj6} (h : Ob w v o) (x : _root_.Go.Obj) : Ob (w.alloc x) v o := h.below (below_alloc (Below.refl w.heap.size w) x)
/-! ### Plain -/
/-! ### Case by case -/
end Go.Proofs.Ytilmndkbloodbaa.M

namespace Go.Proofs.Ytilmndkbloodbaa.M
end Go.Proofs.Ytilmndkbloodbaa.M
