/-
  Texts of the proofs of LinkKeeps, cut to what the proofs reach and packed by a program of this session (wip/packs.py). Each part begins with what it says; conditions: those told there.
-/
import Derived.Test.YteaealmnmmcbpaaPHB2n2
/-
  Layer 7: LinkKeeps says yes, plain. Condition: the objects' lengths are some machine's.
-/
namespace Go.Proofs.Yteaealmnmmcbpaa.M
open Go.RowKit Go.Proofs.YteaealmnmmcbpaaW.PrintWords Go.Proofs.YteaealmnmmcbpaaW.PrintLast Go.Proofs.Yteaealmnmmcbpaa.Num Go.Proofs.Yteaealmnmmcbpaa.Seven Go.Proofs.Yteaealmnmmcbpaa.Obj Go.Proofs.Yteaealmnmmcbpaa.Word1
set_option linter.unusedVariables false
set_option linter.unusedSimpArgs false
theorem Marked.next {o : S40} {q : Nat} {P : List Bool} (h : Marked o q 4 P) : Marked o (q + 1) 0 P :=
  ⟨h.1, fun q' j' hq' hj' hc => h.2 q' j' hq' hj' (by omega)⟩
theorem rdOf_get {l : List Bool} {i : Nat} {b : Bool} (h : l[i]? = some b) : rdOf false l (i : Int) = b := by
  unfold rdOf
  rw [Int.toNat_natCast, List.getD_eq_getElem?_getD, h]
  rfl
theorem bt_get {s : ByteArray} {i : Nat} {b : Int} (h : (bytesOf s)[i]? = some b) : bt s (i : Int) = b := by
  rw [← rd_bytesOf]
  unfold rd
  rw [Int.toNat_natCast, List.getD_eq_getElem?_getD, h]
  rfl
section
variable {l0 : List S40} {x : LkS} {c : List Int}
/-- What is ahead of an object's data. -/
def dataLen : List S40 → Nat
  | [] => 0
  | o :: os => o.f1.length + dataLen os
theorem dataAll_length : ∀ l0 : List S40, (dataAll l0).length = dataLen l0
  | [] => rfl
  | o :: os => by
    have := dataAll_length os
    unfold dataAll at this
    simp only [dataAll, List.flatMap_cons, List.length_append, dataLen, this]
theorem dataAll_append (a b : List S40) : dataAll (a ++ b) = dataAll a ++ dataAll b := by simp [dataAll]
theorem data_split {i : Nat} (h : i < l0.length) : dataAll l0 = dataAll (l0.take i) ++ ((l0[i]).f1 ++ dataAll (l0.drop (i + 1))) := by
  have e : l0 = l0.take i ++ (l0[i] :: l0.drop (i + 1)) := by rw [← List.drop_eq_getElem_cons h, List.take_append_drop]
  conv => lhs; rw [e, dataAll_append]
  rfl
theorem dataLen_le {i : Nat} (h : i < l0.length) : dataLen (l0.take i) + (l0[i]).f1.length ≤ dataLen l0 := by
  rw [← dataAll_length l0, data_split h, ← dataAll_length]
  simp only [List.length_append]
  omega
theorem dataLen_succ {i : Nat} (h : i < l0.length) : dataLen (l0.take (i + 1)) = dataLen (l0.take i) + (l0[i]).f1.length := by
  rw [← dataAll_length, ← dataAll_length, List.take_succ_eq_append_getElem h, dataAll_append, List.length_append]
  simp [dataAll]
theorem keeps_l3 (G : Goes l0 x c) {i : Nat} (hi : i < l0.length) {P : List Bool} (hP : Marked (l0[i]) (l0[i]).f3.length 0 P)
    (hnext : Ev fun k => cotterlaw07_LinkKeeps.l0 k l0 (codeLen (l0.take (i + 1)) : Nat) (dataLen (l0.take (i + 1)) : Nat) ((i + 1 : Nat) : Int) (strOfNums c) x.data x.syms = some true) :
    ∀ (d j : Nat), (l0[i]).f0.size - j = d → j ≤ (l0[i]).f0.size → Ev fun k => cotterlaw07_LinkKeeps.l3 k l0 (codeLen (l0.take i) : Nat) (dataLen (l0.take i) : Nat) i P j (strOfNums c) x.data x.syms (l0[i]).f0 (l0[i]).f1 (l0[i]).f2 (l0[i]).f3 = some true := by
  have hfew := G.few
  have hsm := G.small
  have hle := codeLen_le i hi
  have hdl := dataLen_le hi
  have hdr := G.room.2.1
  rw [G.data, dataAll_length] at hdr
  have hsz : (strOfNums c).size = codeLen l0 := by rw [strOfNums_size, G.clen]
  intro d
  induction d with
  | zero =>
    intro j hd hj
    refine .step (hnext.mono fun k hk => ?_)
    have a0 : ¬ (j : Int) < ((l0[i]).f0.size : Int) := by omega
    have e1 : wrap64 (((codeLen (l0.take i) : Nat) : Int) + ((l0[i]).f0.size : Int)) = (codeLen (l0.take (i + 1)) : Nat) := by rw [codeLen_succ i hi, wrap64_id (by omega) (by omega)]; omega
    have e1b : wrap64 (((dataLen (l0.take i) : Nat) : Int) + ((l0[i]).f1.length : Int)) = (dataLen (l0.take (i + 1)) : Nat) := by rw [dataLen_succ hi, wrap64_id (by clear e1; omega) (by clear e1; omega)]; clear e1; omega
    have e2 : wrap64 ((i : Int) + 1) = ((i + 1 : Nat) : Int) := by clear e1 e1b; rw [wrap64_id (by omega) (by omega)]; omega
    simp only [cotterlaw07_LinkKeeps.l3]
    rw [if_neg a0, e1, e1b, e2]
    exact hk
  | succ d ih =>
    intro j hd hj
    have hlt : j < (l0[i]).f0.size := by omega
    have IH := ih (j + 1) (by omega) (by omega)
    have e3 : wrap64 ((j : Int) + 1) = ((j + 1 : Nat) : Int) := by rw [wrap64_id (by omega) (by omega)]; omega
    rw [← e3] at IH
    clear e3 ih
    have a1 : (j : Int) < ((l0[i]).f0.size : Int) := by omega
    have a2 : (0 : Int) ≤ j := by omega
    have a3 : (j : Int) < (P.length : Int) := by rw [hP.1]; omega
    have e4 : wrap64 (((codeLen (l0.take i) : Nat) : Int) + j) = ((codeLen (l0.take i) + j : Nat) : Int) := by rw [wrap64_id (by omega) (by omega)]; omega
    have a4 : (0 : Int) ≤ ((codeLen (l0.take i) + j : Nat) : Int) := Int.natCast_nonneg _
    have a5 : ((codeLen (l0.take i) + j : Nat) : Int) < ((strOfNums c).size : Int) := by clear e4; omega
    refine .step (IH.mono fun k hk => ?_)
    simp only [cotterlaw07_LinkKeeps.l3]
    rw [if_pos a1, if_pos a2, if_pos a3]
    by_cases hp : rdOf false P (j : Int) = true
    · rw [if_pos hp]
      exact hk
    · rw [if_neg hp, e4, if_pos a4, if_pos a5]
      have hfar : ∀ r ∈ (l0[i]).f3, j < r.f0.toNat ∨ r.f0.toNat + 4 ≤ j := by
        intro r hr
        obtain ⟨q, hq, rfl⟩ := List.mem_iff_getElem.1 hr
        by_cases hc : j < ((l0[i]).f3[q]).f0.toNat ∨ ((l0[i]).f3[q]).f0.toNat + 4 ≤ j
        · exact hc
        · exfalso
          have := hP.2 q (j - ((l0[i]).f3[q]).f0.toNat) hq (by omega) (.inl hq)
          rw [show ((l0[i]).f3[q]).f0.toNat + (j - ((l0[i]).f3[q]).f0.toNat) = j by omega] at this
          exact hp (rdOf_get this)
      have hget := G.at_none hi hlt hfar
      have hb : (bytesOf (l0[i]).f0)[j]? = some ((bytesOf (l0[i]).f0)[j]'(by rw [bytesOf_length]; exact hlt)) := List.getElem?_eq_getElem _
      have e5 : bt (strOfNums c) ((codeLen (l0.take i) + j : Nat) : Int) = bt (l0[i]).f0 (j : Int) := by
        rw [bt_get hb]
        refine bt_get ?_
        rw [bytesOf_str G.bs, hget, hb]
      rw [if_pos e5]
      exact hk
theorem keeps_l2 (G : Goes l0 x c) {i : Nat} (hi : i < l0.length) {q : Nat} (hq : q < (l0[i]).f3.length)
    (hnext : ∀ P, Marked (l0[i]) (q + 1) 0 P → Ev fun k => cotterlaw07_LinkKeeps.l1 k l0 (codeLen (l0.take i) : Nat) (dataLen (l0.take i) : Nat) i P ((q + 1 : Nat) : Int) (strOfNums c) x.data x.syms (l0[i]).f0 (l0[i]).f1 (l0[i]).f2 (l0[i]).f3 = some true) :
    ∀ (d j : Nat) (P : List Bool), 4 - j = d → j ≤ 4 → Marked (l0[i]) q j P → Ev fun k => cotterlaw07_LinkKeeps.l2 k l0 (codeLen (l0.take i) : Nat) (dataLen (l0.take i) : Nat) i P q j (strOfNums c) x.data x.syms (l0[i]).f0 (l0[i]).f1 (l0[i]).f2 (l0[i]).f3 = some true := by
  have hmay := G.may _ (List.getElem_mem hi)
  have hr8 := (may_parts hmay).2.2.2.1
  have hc := (may_parts hmay).1
  have hr := (may_parts hmay).2.2.2.2.2 _ (List.getElem_mem hq)
  intro d
  induction d with
  | zero =>
    intro j P hd hj hP
    have e2 : wrap64 ((q : Int) + 1) = ((q + 1 : Nat) : Int) := by rw [wrap64_id (by omega) (by omega)]; omega
    obtain rfl : j = 4 := by clear e2; omega
    refine .step ((hnext P hP.next).mono fun k hk => ?_)
    simp only [cotterlaw07_LinkKeeps.l2]
    rw [if_neg (by clear e2; omega), e2]
    exact hk
  | succ d ih =>
    intro j P hd hj hP
    have h1 := hr.2.1
    have h2 := hr.2.2.1
    have hlt : (((l0[i]).f3)[q]).f0.toNat + j < (l0[i]).f0.size := by omega
    have IH := ih (j + 1) _ (by omega) (by omega) (hP.put hq hlt)
    have e3 : wrap64 ((j : Int) + 1) = ((j + 1 : Nat) : Int) := by rw [wrap64_id (by omega) (by omega)]; omega
    rw [← e3] at IH
    clear e3 ih
    have e4 : wrap64 ((((l0[i]).f3)[q]).f0 + (j : Int)) = (((((l0[i]).f3)[q]).f0.toNat + j : Nat) : Int) := by rw [wrap64_id (by omega) (by omega)]; omega
    have a1 : (j : Int) < 4 := by clear e4; omega
    have a2 : (0 : Int) ≤ q := by clear e4; omega
    have a3 : (q : Int) < ((l0[i]).f3.length : Int) := by clear e4; omega
    have a4 : (0 : Int) ≤ (((((l0[i]).f3)[q]).f0.toNat + j : Nat) : Int) := Int.natCast_nonneg _
    have a5 : (((((l0[i]).f3)[q]).f0.toNat + j : Nat) : Int) < (P.length : Int) := by rw [hP.1]; exact Int.ofNat_lt.2 hlt
    refine .step (IH.mono fun k hk => ?_)
    simp only [cotterlaw07_LinkKeeps.l2]
    rw [if_pos a1, if_pos a2, if_pos a3, rd_SR hq, e4, if_pos a4, if_pos a5, Int.toNat_natCast]
    exact hk
theorem keeps_l1 (G : Goes l0 x c) {i : Nat} (hi : i < l0.length)
    (hnext : Ev fun k => cotterlaw07_LinkKeeps.l0 k l0 (codeLen (l0.take (i + 1)) : Nat) (dataLen (l0.take (i + 1)) : Nat) ((i + 1 : Nat) : Int) (strOfNums c) x.data x.syms = some true) :
    ∀ (d q : Nat) (P : List Bool), (l0[i]).f3.length - q = d → q ≤ (l0[i]).f3.length → Marked (l0[i]) q 0 P → Ev fun k => cotterlaw07_LinkKeeps.l1 k l0 (codeLen (l0.take i) : Nat) (dataLen (l0.take i) : Nat) i P q (strOfNums c) x.data x.syms (l0[i]).f0 (l0[i]).f1 (l0[i]).f2 (l0[i]).f3 = some true := by
  intro d
  induction d with
  | zero =>
    intro q P hd hq hP
    obtain rfl : q = (l0[i]).f3.length := by omega
    refine .step ((keeps_l3 G hi hP hnext _ 0 rfl (Nat.zero_le _)).mono fun k hk => ?_)
    simp only [cotterlaw07_LinkKeeps.l1]
    rw [if_neg (by omega)]
    exact hk
  | succ d ih =>
    intro q P hd hq hP
    have hlt : q < (l0[i]).f3.length := by omega
    refine .step ((keeps_l2 G hi hlt (fun P' hP' => ih (q + 1) P' (by omega) (by omega) hP') 4 0 P rfl (by omega) hP).mono fun k hk => ?_)
    simp only [cotterlaw07_LinkKeeps.l1]
    rw [if_pos (by omega)]
    exact hk
theorem keeps_l0 (G : Goes l0 x c) : ∀ (d i : Nat), l0.length - i = d → i ≤ l0.length → Ev fun k => cotterlaw07_LinkKeeps.l0 k l0 (codeLen (l0.take i) : Nat) (dataLen (l0.take i) : Nat) i (strOfNums c) x.data x.syms = some true := by
  have hfew := G.few
  have hsm := G.small
  have hsz : (strOfNums c).size = codeLen l0 := by rw [strOfNums_size, G.clen]
  have hdr := G.room.2.1
  have hdl : x.data.length = dataLen l0 := by rw [G.data, dataAll_length]
  intro d
  induction d with
  | zero =>
    intro i hd hi
    obtain rfl : i = l0.length := by omega
    refine .step (.of fun k => ?_)
    simp only [cotterlaw07_LinkKeeps.l0]
    rw [List.take_length, if_neg (by omega), if_pos (by rw [hsz]), if_pos (by rw [hdl]), live_bind]
  | succ d ih =>
    intro i hd hi
    have hlt : i < l0.length := by omega
    have hle := codeLen_le i hlt
    have hle2 := dataLen_le hlt
    have hmay := may_parts (G.may _ (List.getElem_mem hlt))
    have L1 := keeps_l1 G hlt (ih (i + 1) (by omega) (by omega)) _ 0 (List.replicate (l0[i]).f0.size false) rfl (Nat.zero_le _) ⟨by simp, fun q' j' hq' hj' hc => by omega⟩
    have e1 : wrap64 (((codeLen (l0.take i) : Nat) : Int) + ((l0[i]).f0.size : Int)) = ((codeLen (l0.take i) + (l0[i]).f0.size : Nat) : Int) := by rw [wrap64_id (by omega) (by omega)]; omega
    have e2 : wrap64 (((dataLen (l0.take i) : Nat) : Int) + ((l0[i]).f1.length : Int)) = ((dataLen (l0.take i) + (l0[i]).f1.length : Nat) : Int) := by clear e1; rw [wrap64_id (by omega) (by omega)]; omega
    have a1 : (i : Int) < (l0.length : Int) := by clear e1 e2; omega
    have a2 : (0 : Int) ≤ i := by clear e1 e2; omega
    have a3 : ¬ ((codeLen (l0.take i) + (l0[i]).f0.size : Nat) : Int) > ((strOfNums c).size : Int) := by clear e1 e2; omega
    have a4 : ¬ ((dataLen (l0.take i) + (l0[i]).f1.length : Nat) : Int) > (x.data.length : Int) := by clear e1 e2; omega
    have a5 : (0 : Int) ≤ ((dataLen (l0.take i) : Nat) : Int) := Int.natCast_nonneg _
    have a6 : ((dataLen (l0.take i) : Nat) : Int) ≤ ((dataLen (l0.take i) + (l0[i]).f1.length : Nat) : Int) := by clear e1 e2; omega
    have a7 : ((dataLen (l0.take i) + (l0[i]).f1.length : Nat) : Int) ≤ (x.data.length : Int) := by clear e1 e2; omega
    have a8 : (0 : Int) ≤ ((l0[i]).f0.size : Int) := Int.natCast_nonneg _
    have a9 : (l0[i]).f0.size ≤ 281474976710656 := by clear e1 e2; omega
    have hcut : (x.data.take (dataLen (l0.take i) + (l0[i]).f1.length)).drop (dataLen (l0.take i)) = (l0[i]).f1 := by
      have hl := dataAll_length (l0.take i)
      rw [G.data, data_split hlt, ← hl, List.take_append, List.take_of_length_le (Nat.le_add_right _ _), Nat.add_sub_cancel_left, List.drop_left]
      simp
    have L0 : Ev fun k => cotterlaw07_LinkKeeps.j1 k l0 (codeLen (l0.take i) : Nat) (dataLen (l0.take i) : Nat) i false (strOfNums c) x.data x.syms (l0[i]).f0 (l0[i]).f1 (l0[i]).f2 (l0[i]).f3 = some true := by
      refine .step (L1.mono fun k hk => ?_)
      simp only [cotterlaw07_LinkKeeps.j1]
      rw [if_neg (by simp), if_pos a8, Int.toNat_natCast, if_pos a9]
      exact hk
    refine .step ((L0.and (sameData_ev (l0[i]).f1 (by clear e1 e2; omega))).mono fun k hk => ?_)
    simp only [cotterlaw07_LinkKeeps.l0]
    rw [if_pos a1, if_pos a2, rd_SO hlt, e1, if_neg a3, e2, if_neg a4, if_pos a5, if_pos a6, if_pos a7, Int.toNat_natCast, Int.toNat_natCast, hcut, hk.2]
    exact hk.1
end
theorem keeps_f {l0 : List S40} (h : Lens l0) : ∃ k, cotterlaw07_LinkKeeps.f k l0 = some true := by
  obtain ⟨b, hb⟩ := small_ev h
  cases b with
  | false => exact (hb.mono fun k hk => by unfold cotterlaw07_LinkKeeps.f; rw [hk]; rfl).get
  | true =>
    rcases link_cases l0 with ⟨x, c, G⟩ | ⟨e, he, G⟩
    · refine ((hb.and (keeps_l0 G _ 0 rfl (Nat.zero_le _))).mono fun k hk => ?_).get
      unfold cotterlaw07_LinkKeeps.f
      rw [hk.1]
      unfold link_Link.f
      rw [G.is]
      exact hk.2
    · refine ((hb.and (sameIm_ev ⟨#[]⟩ [] [] (by decide) (by decide))).mono fun k hk => ?_).get
      unfold cotterlaw07_LinkKeeps.f
      rw [hk.1]
      unfold link_Link.f
      rw [G]
      simp only [Option.bind_some, if_true, linkE, live_bind]
      rw [if_neg he, hk.2]
      simp only [Option.bind_some, if_true, live_bind]
end Go.Proofs.Yteaealmnmmcbpaa.M

