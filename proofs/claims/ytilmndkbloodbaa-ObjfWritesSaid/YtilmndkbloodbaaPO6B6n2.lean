/-
  Texts of the proofs of ObjfWrites, cut to what the proofs reach and packed by a program of this session (wip/packs.py). Each part begins with what it says; conditions: those told there.
-/
import Derived.Test.YtilmndkbloodbaaPO6B1n1
import Derived.Test.YtilmndkbloodbaaPO6B6n1
/-
  Layer 6: the document's Write (cotterref06.Write): the walk; it answers what the program's Write answers. Condition: the words of data are of 64 bits.
-/
namespace Go.Proofs.Ytilmndkbloodbaa.M
open Go.RowKit Go.Proofs.YtilmndkbloodbaaW.PrintWords Go.Proofs.YtilmndkbloodbaaW.PrintLast Go.Proofs.Ytilmndkbloodbaa.Num Go.Proofs.Ytilmndkbloodbaa.Seven Go.Proofs.Ytilmndkbloodbaa.Word1 Go.Proofs.Ytilmndkbloodbaa.Obj
set_option linter.unusedVariables false
set_option linter.unusedSimpArgs false
def cotterref06_Write.f (a0_0 : ByteArray) (l0_1 : List Int) (l0_2 : List S41) (l0_3 : List S43) : Option (ByteArray × Int) := objf_Write.f a0_0 l0_1 l0_2 l0_3
set_option maxHeartbeats 16000000 in
set_option maxRecDepth 100000 in
theorem cotterref06_Write.calls (a0_0 : ByteArray) (A0_1 : Option Addr) (c0_1 : Nat) (l0_1 : List Int) (A0_2 : Option Addr) (c0_2 : Nat) (l0_2 : List (S41)) (A0_3 : Option Addr) (c0_3 : Nat) (l0_3 : List (S43)) (r1 : ByteArray) (r2 : Int) (w : World) (hr0_1 : Kd.C (Kd.int .i64) w A0_1 l0_1.length l0_1) (hc0_1 : l0_1.length ≤ c0_1) (hr0_2 : Kd.C k41 w A0_2 l0_2.length l0_2) (hc0_2 : l0_2.length ≤ c0_2) (hr0_3 : Kd.C k43 w A0_3 l0_3.length l0_3) (hc0_3 : l0_3.length ≤ c0_3) (h : cotterref06_Write.f a0_0 l0_1 l0_2 l0_3 = some (r1, r2)) :
    Calls Try.prog 12 #[.agg #[.string a0_0, .slice A0_1 l0_1.length c0_1, .slice A0_2 l0_2.length c0_2, .slice A0_3 l0_3.length c0_3]] w fun e w' => e = .returned (.tuple #[.string r1, .int .i64 r2]) ∧ Below w.heap.size w w' := by
  unfold cotterref06_Write.f objf_Write.f at h
  by_cases hw : wordsOk l0_1
  case neg => rw [if_neg hw] at h; cases h
  rw [if_pos hw] at h
  have hck := rmay_f a0_0 l0_1 l0_2 l0_3 (1004020 + 2 * l0_3.length) (by omega) (by omega) hr0_3.2.1
  have HR1 := Aside0.mk hr0_1
  have HR2 := Aside0.mk hr0_2
  have HR3 := Aside0.mk hr0_3
  have HC1 := Aside0.mk hc0_1
  have HC2 := Aside0.mk hc0_2
  have HC3 := Aside0.mk hc0_3
  by_cases hm : may a0_0 l0_1 l0_2 l0_3 = true
  case neg =>
    rw [if_neg hm] at h
    rw [Bool.eq_false_iff.mpr hm] at hck
    have CK := Aside0.mk hck
    obtain ⟨rfl, rfl⟩ := Prod.mk.inj (Option.some.inj h)
    clear h hck hm hw hr0_1 hc0_1 hr0_2 hc0_2 hr0_3 hc0_3
    go_enter Try.func12, Try.ntmps12
    go_wp2_with (first | (go_at_call 22; (with_reducible refine (cotterref06_May.calls (1004020 + 2 * l0_3.length) a0_0 A0_1 c0_1 l0_1 A0_2 c0_2 l0_2 A0_3 c0_3 l0_3 false _ (Kd.C_below HR1.out (below_alloc (Below.refl _ _) _)) HC1.out (Kd.C_below HR2.out (below_alloc (Below.refl _ _) _)) HC2.out (Kd.C_below HR3.out (below_alloc (Below.refl _ _) _)) HC3.out CK.out).mono ?_); rintro e w1 ⟨rfl, hb_⟩; have BO1 := Aside0.mk (blk_below (blk_new w (.cells #[.string a0_0, .slice A0_1 l0_1.length c0_1, .slice A0_2 l0_2.length c0_2, .slice A0_3 l0_3.length c0_3] 26)) hb_); have HB1 := Aside0.mk (below_in (below_alloc (Below.refl _ _) _) hb_); clear hb_))
    go_ret2
    exact ⟨rfl, HB1.out⟩
  case pos =>
    rw [if_pos hm] at h
    rw [hm] at hck
    have CK := Aside0.mk hck
    obtain ⟨m1, m2, m3, m4, m5, m6⟩ := may_parts hm
    obtain ⟨hr1, rfl⟩ := Prod.mk.inj (Option.some.inj h)
    have HRES := Aside0.mk hr1
    have hl3 := hr0_3.2.1
    have FR := Aside0.mk (fun (W : World) (hb : Below w.heap.size w W) => front_c (strOfNums COT1) a0_0 A0_1 c0_1 l0_1 A0_2 c0_2 l0_2 W (Kd.C_below hr0_1 hb) hc0_1 (Kd.C_below hr0_2 hb) hc0_2 (by decide) m1 m2 m3 hw (fun s hs => ⟨(m5 s hs).1, (m5 s hs).2.1, (m5 s hs).2.2.1⟩))
    have N3 := Aside0.mk (rnum_f (l0_3.length : Int) (by omega) (by omega))
    have TX := textL_len a0_0 (by omega)
    have P1 := put_small (n := l0_1.length) (by omega)
    have P2 := put_small (n := l0_2.length) (by omega)
    have P3 := put_small (n := l0_3.length) (by omega)
    have SY := symsL_len l0_2 (fun s hs => ⟨(m5 s hs).1, by have := (m5 s hs).2.2.1; omega⟩)
    have LF : (front COT1 a0_0 l0_1 l0_2).length ≤ 160000 := by
      simp only [front, front1, front0, List.length_append, COT1, List.length_cons, List.length_nil, dataL_len]
      omega
    have BF : Bs (front COT1 a0_0 l0_1 l0_2) := Bs.append (Bs.append (Bs.append (Bs.append (Bs.append cot_bs (textL_bs _)) (putL_bs _)) (flat_bs _ (fun n => leL_bs n 8) _)) (putL_bs _)) (flat_bs _ symL_bs _)
    have SR := Aside0.mk (fun k => (show (relsL (l0_3.take k)).length ≤ 456000 by
      have := relsL_len (l0_3.take k) (fun s hs => ⟨(m6 s (List.mem_of_mem_take hs)).1, by have := (m6 s (List.mem_of_mem_take hs)).2.2.1; omega⟩)
      rw [List.length_take] at this; omega))
    have M6 := Aside0.mk m6
    have e0 : bytesOf (strOfNums COT1) = COT1 := bytesOf_str cot_bs
    rw [e0] at FR
    have L3 := Aside0.mk (show (front COT1 a0_0 l0_1 l0_2 ++ putL l0_3.length).length ≤ 160010 by rw [List.length_append]; omega)
    have z1 : (strOfNums (front COT1 a0_0 l0_1 l0_2)).size ≤ 160000 := by rw [str_size _ BF]; exact LF
    have z2 : (strOfNums (putL (l0_3.length : Int).toNat)).size ≤ 10 := by rw [str_size _ (putL_bs _)]; simpa using P3
    have a1 : ((strOfNums (front COT1 a0_0 l0_1 l0_2)).size + (strOfNums (putL (l0_3.length : Int).toNat)).size ≤ 9223372036854775807) = True := eq_true (by omega)
    have b1 : (9223372036854775807 < (strOfNums (front COT1 a0_0 l0_1 l0_2)).size + (strOfNums (putL (l0_3.length : Int).toNat)).size) = False := eq_false (by omega)
    have E0 := Aside0.mk (show bytesOf (strOfNums (front COT1 a0_0 l0_1 l0_2) ++ strOfNums (putL (l0_3.length : Int).toNat)) = front COT1 a0_0 l0_1 l0_2 ++ putL l0_3.length by
      rw [bytesOf_append, of_str BF, of_str (putL_bs _)]; rfl)
    have SZ := Aside0.mk (show (strOfNums (front COT1 a0_0 l0_1 l0_2) ++ strOfNums (putL (l0_3.length : Int).toNat)).size ≤ maxLen by simp only [ByteArray.size_append, maxLen]; omega)
    have hcv := fun (W : World) (s : ByteArray) => Lib.run_convert_string_bytes (P := Try.prog) W 9 45 5 s Try.underlying9 Try.underlying45 Try.underlying5
    have hmk : strOfNums COT1 = ({ data := #[67, 79, 84, 49] } : ByteArray) := by decide
    rw [hmk] at FR
    clear h hck hm hw hr0_1 hc0_1 hr0_2 hc0_2 hr0_3 hc0_3 m1 m2 m3 m4 m5 m6 TX P1 P2 P3 SY LF BF e0 hr1 z1 z2 hmk
    generalize hF : strOfNums (front COT1 a0_0 l0_1 l0_2) = fr at *
    generalize hN : strOfNums (putL (l0_3.length : Int).toNat) = nd at *
    clear hF hN
    go_enter Try.func12, Try.ntmps12
    go_wp2_with (first | (go_at_call 22; (with_reducible refine (cotterref06_May.calls (1004020 + 2 * l0_3.length) a0_0 A0_1 c0_1 l0_1 A0_2 c0_2 l0_2 A0_3 c0_3 l0_3 true _ (Kd.C_below HR1.out (below_alloc (Below.refl _ _) _)) HC1.out (Kd.C_below HR2.out (below_alloc (Below.refl _ _) _)) HC2.out (Kd.C_below HR3.out (below_alloc (Below.refl _ _) _)) HC3.out CK.out).mono ?_); rintro e w1 ⟨rfl, hb_⟩; have BO1 := Aside0.mk (blk_below (blk_new w (.cells #[.string a0_0, .slice A0_1 l0_1.length c0_1, .slice A0_2 l0_2.length c0_2, .slice A0_3 l0_3.length c0_3] 26)) hb_); have HB1 := Aside0.mk (below_in (below_alloc (Below.refl _ _) _) hb_); clear hb_))
    have SOF := Aside0.mk (show ∀ w', Below w1.heap.size w1 w' → (w'.cell? ⟨w.heap.size, 0, none⟩ = some (.string a0_0) ∧ w'.cell? ⟨w.heap.size, 1, none⟩ = some (.slice A0_1 l0_1.length c0_1) ∧ w'.cell? ⟨w.heap.size, 2, none⟩ = some (.slice A0_2 l0_2.length c0_2) ∧ w'.cell? ⟨w.heap.size, 3, none⟩ = some (.slice A0_3 l0_3.length c0_3) ∧ Below w1.heap.size w1 w') from fun w' hb => ⟨pw_cell_below hb ((blk_cell BO1.out 0).trans rfl), pw_cell_below hb ((blk_cell BO1.out 1).trans rfl), pw_cell_below hb ((blk_cell BO1.out 2).trans rfl), pw_cell_below hb ((blk_cell BO1.out 3).trans rfl), hb⟩)
    have HBW := Aside0.mk (below_drew1 (Below.refl w1.heap.size w1))
    refine start_ (n := 14) (S := fun w' => w'.cell? ⟨w.heap.size, 0, none⟩ = some (.string a0_0) ∧ w'.cell? ⟨w.heap.size, 1, none⟩ = some (.slice A0_1 l0_1.length c0_1) ∧ w'.cell? ⟨w.heap.size, 2, none⟩ = some (.slice A0_2 l0_2.length c0_2) ∧ w'.cell? ⟨w.heap.size, 3, none⟩ = some (.slice A0_3 l0_3.length c0_3)) (ds := []) #[false, false, false, false, false, false, false, false, false, false, false, false, false, false] (by kernel_rfl) rfl rfl ⟨(SOF.out _ (below_drew1 (Below.refl _ _))).1, (SOF.out _ (below_drew1 (Below.refl _ _))).2.1, (SOF.out _ (below_drew1 (Below.refl _ _))).2.2.1, (SOF.out _ (below_drew1 (Below.refl _ _))).2.2.2.1⟩ (fun hHeld => ?_)
    refine pure_ (i := 0) (N := some 10) (v := ?_) (a' := ?_) #[true, false, false, false, false, false, false, false, false, false, false, false, false, false] rfl rfl (by kernel_rfl) (fun _ _ _ h => h) (Or.inl ⟨by rfl, ?_⟩) ?_ ?_
    rotate_left
    · intro w'
      go_simp
      with_reducible rfl
    rotate_left
    · simp only [Act.put, List.setIfInBounds_toArray, List.set_cons_zero, List.set_cons_succ, i64_w, i32_w]
      rfl
    refine pure_ (i := 2) (N := some 12) (v := ?_) (a' := ?_) #[true, false, true, false, false, false, false, false, false, false, false, false, false, false] rfl rfl (by kernel_rfl) (fun _ _ _ h => h) (Or.inl ⟨by rfl, ?_⟩) ?_ ?_
    rotate_left
    · intro w'
      go_simp
      with_reducible rfl
    rotate_left
    · simp only [Act.put, List.setIfInBounds_toArray, List.set_cons_zero, List.set_cons_succ, i64_w, i32_w]
      rfl
    refine pure_ (i := 4) (N := some 14) (v := ?_) (a' := ?_) #[true, false, true, false, true, false, false, false, false, false, false, false, false, false] rfl rfl (by kernel_rfl) (fun _ _ _ h => h) (Or.inl ⟨by rfl, ?_⟩) ?_ ?_
    rotate_left
    · intro w'
      go_simp
      with_reducible rfl
    rotate_left
    · simp only [Act.put, List.setIfInBounds_toArray, List.set_cons_zero, List.set_cons_succ, i64_w, i32_w]
      rfl
    refine pure_ (i := 7) (N := some 17) (v := ?_) (a' := ?_) #[true, false, true, false, true, false, false, true, false, false, false, false, false, false] rfl rfl (by kernel_rfl) (fun _ _ _ h => h) (Or.inl ⟨by rfl, ?_⟩) ?_ ?_
    rotate_left
    · intro w'
      go_simp
      with_reducible rfl
    rotate_left
    · simp only [Act.put, List.setIfInBounds_toArray, List.set_cons_zero, List.set_cons_succ, i64_w, i32_w]
      rfl
    refine take_ (i := 1) (N := some 11) (v := ?_) (a' := ?_) #[true, true, true, false, true, false, false, true, false, false, false, false, false, false] rfl rfl (by kernel_rfl) (fun _ _ _ h => h) (Or.inl ⟨by rfl, ?_⟩) hHeld ?_ ?_
    rotate_left
    · rintro w' ⟨s0, s1, s2, s3⟩
      go_simp
      with_reducible rfl
    rotate_left
    · simp only [Act.put, List.setIfInBounds_toArray, List.set_cons_zero, List.set_cons_succ, i64_w, i32_w]
      rfl
    refine take_ (i := 3) (N := some 13) (v := ?_) (a' := ?_) #[true, true, true, true, true, false, false, true, false, false, false, false, false, false] rfl rfl (by kernel_rfl) (fun _ _ _ h => h) (Or.inl ⟨by rfl, ?_⟩) hHeld ?_ ?_
    rotate_left
    · rintro w' ⟨s0, s1, s2, s3⟩
      go_simp
      with_reducible rfl
    rotate_left
    · simp only [Act.put, List.setIfInBounds_toArray, List.set_cons_zero, List.set_cons_succ, i64_w, i32_w]
      rfl
    refine take_ (i := 5) (N := some 15) (v := ?_) (a' := ?_) #[true, true, true, true, true, true, false, true, false, false, false, false, false, false] rfl rfl (by kernel_rfl) (fun _ _ _ h => h) (Or.inl ⟨by rfl, ?_⟩) hHeld ?_ ?_
    rotate_left
    · rintro w' ⟨s0, s1, s2, s3⟩
      go_simp
      with_reducible rfl
    rotate_left
    · simp only [Act.put, List.setIfInBounds_toArray, List.set_cons_zero, List.set_cons_succ, i64_w, i32_w]
      rfl
    refine take_ (i := 8) (N := some 18) (v := ?_) (a' := ?_) #[true, true, true, true, true, true, false, true, true, false, false, false, false, false] rfl rfl (by kernel_rfl) (fun _ _ _ h => h) (Or.inl ⟨by rfl, ?_⟩) hHeld ?_ ?_
    rotate_left
    · rintro w' ⟨s0, s1, s2, s3⟩
      go_simp
      with_reducible rfl
    rotate_left
    · simp only [Act.put, List.setIfInBounds_toArray, List.set_cons_zero, List.set_cons_succ, i64_w, i32_w]
      rfl
    refine pure_ (i := 9) (N := some 19) (v := ?_) (a' := ?_) #[true, true, true, true, true, true, false, true, true, true, false, false, false, false] rfl rfl (by kernel_rfl) (fun _ _ _ h => h) (Or.inl ⟨by rfl, ?_⟩) ?_ ?_
    rotate_left
    · intro w'
      go_simp
      with_reducible rfl
    rotate_left
    · simp only [Act.put, List.setIfInBounds_toArray, List.set_cons_zero, List.set_cons_succ, i64_w, i32_w]
      rfl
    refine one_ (i := 6) (N := some 16) #[true, true, true, true, true, true, true, true, true, true, false, false, false, false] rfl rfl (by kernel_rfl) (by decide) (fun K hK => ?_)
    refine goes_ Try.func23 (by kernel_rfl) rfl #[.string ⟨#[67, 79, 84, 49]⟩, .string a0_0, .slice A0_1 l0_1.length c0_1, .slice A0_2 l0_2.length c0_2] (by rfl) rfl rfl (by simp only [List.map_toArray, List.map_cons, List.map_nil]; rfl) ?_
    with_reducible refine (FR.out _ (below_in HB1.out HBW.out)).mono ?_
    rintro e w2_ ⟨rfl, hb_⟩
    refine ⟨_, rfl, ?_⟩
    have HBW := Aside0.mk (below_in HBW.out hb_)
    clear hb_
    refine hK.out _ _ ⟨(SOF.out _ (HBW.out)).1, (SOF.out _ (HBW.out)).2.1, (SOF.out _ (HBW.out)).2.2.1, (SOF.out _ (HBW.out)).2.2.2.1⟩ (fun hHeld => ?_)
    clear hK K
    refine norm_ (a' := ?_) ?_ ?_
    rotate_left
    · show Act.put _ (some 16) _ = _
      simp only [Act.put, List.setIfInBounds_toArray, List.set_cons_zero, List.set_cons_succ, i64_w, i32_w]
      rfl
    refine one_ (i := 10) (N := some 20) #[true, true, true, true, true, true, true, true, true, true, true, false, false, false] rfl rfl (by kernel_rfl) (by decide) (fun K hK => ?_)
    refine goes_ Try.func24 (by kernel_rfl) rfl #[.int .i64 l0_3.length] (by rfl) rfl rfl (by simp only [List.map_toArray, List.map_cons, List.map_nil]; rfl) ?_
    with_reducible refine (cotterref06_number.calls 10 _ nd _ N3.out).mono ?_
    rintro e w3_ ⟨rfl, hb_⟩
    refine ⟨_, rfl, ?_⟩
    have HBW := Aside0.mk (below_in HBW.out hb_)
    clear hb_
    refine hK.out _ _ ⟨(SOF.out _ (HBW.out)).1, (SOF.out _ (HBW.out)).2.1, (SOF.out _ (HBW.out)).2.2.1, (SOF.out _ (HBW.out)).2.2.2.1⟩ (fun hHeld => ?_)
    clear hK K
    refine norm_ (a' := ?_) ?_ ?_
    rotate_left
    · show Act.put _ (some 20) _ = _
      simp only [Act.put, List.setIfInBounds_toArray, List.set_cons_zero, List.set_cons_succ, i64_w, i32_w]
      rfl
    refine pure_ (i := 11) (N := some 21) (v := ?_) (a' := ?_) #[true, true, true, true, true, true, true, true, true, true, true, true, false, false] rfl rfl (by kernel_rfl) (fun _ _ _ h => h) (Or.inl ⟨by rfl, ?_⟩) ?_ ?_
    rotate_left
    · intro w'
      go_simp
      with_reducible rfl
    rotate_left
    · simp only [Act.put, List.setIfInBounds_toArray, List.set_cons_zero, List.set_cons_succ, i64_w, i32_w]
      rfl
    refine one_ (i := 12) (N := some 22) #[true, true, true, true, true, true, true, true, true, true, true, true, true, false] rfl rfl (by kernel_rfl) (by decide) (fun K hK => ?_)
    have hc_ := hcv w3_ (fr ++ nd)
    simp only [ByteArray.size_append] at hc_
    refine value_ (w1 := Lib.bytesWorld w3_ 5 (fr ++ nd)) (v := (.slice (some ⟨w3_.heap.size, 0, none⟩) (fr.size + nd.size) (grownCap w3_ (fr.size + nd.size) 0 5))) (by rfl) rfl ?_ ?_
    · first | (go_simp; done) | (go_simp; rw [hc_]; rfl)
    have hbw := bytesWorld_below w3_ 5 (fr ++ nd)
    refine hK.out _ _ ⟨(SOF.out _ (below_in HBW.out hbw)).1, (SOF.out _ (below_in HBW.out hbw)).2.1, (SOF.out _ (below_in HBW.out hbw)).2.2.1, (SOF.out _ (below_in HBW.out hbw)).2.2.2.1⟩ (fun hHeld => ?_)
    clear hK K
    refine norm_ (a' := ?_) ?_ ?_
    rotate_left
    · show Act.put _ (some 22) _ = _
      simp only [Act.put, List.setIfInBounds_toArray, List.set_cons_zero, List.set_cons_succ, i64_w, i32_w]
      rfl
    refine pure_ (i := 13) (N := some 4) (v := ?_) (a' := ?_) #[true, true, true, true, true, true, true, true, true, true, true, true, true, true] rfl rfl (by kernel_rfl) (fun _ _ _ h => h) (Or.inl ⟨by rfl, ?_⟩) ?_ ?_
    rotate_left
    · intro w'
      go_simp
      with_reducible rfl
    rotate_left
    · simp only [Act.put, List.setIfInBounds_toArray, List.set_cons_zero, List.set_cons_succ, i64_w, i32_w]
      rfl
    refine done_ (by kernel_rfl) ?_
    have HBZ := Aside0.mk (below_in HB1.out HBW.out)
    have HOB := Aside0.mk (OwnB.new w3_ w.heap.size 5 (fr ++ nd) HBZ.out.size SZ.out)
    have BO := Aside0.mk (blk_below (blk_below BO1.out HBW.out) hbw)
    have HB := Aside0.mk (below_in HBZ.out hbw)
    rw [E0.out] at HOB
    simp only [ByteArray.size_append] at HOB
    clear hbw hcv a1 b1
    generalize Lib.bytesWorld w3_ 5 (fr ++ nd) = w5 at *
    generalize hV : Value.slice (some ⟨w3_.heap.size, 0, none⟩) (fr.size + nd.size) (grownCap w3_ (fr.size + nd.size) 0 5) = v5 at *
    clear hV HBW HBZ hHeld SOF HB1 BO1 FR CK N3 E0 SZ
    go_wp2
    go_loopw [4, 5] (fun v4 v5 wr => ∃ k : Nat, k ≤ l0_3.length ∧ v5 = .int .i64 k ∧ Aside0 (OwnB wr w.heap.size 5 v4 (front COT1 a0_0 l0_1 l0_2 ++ putL l0_3.length ++ relsL (l0_3.take k))) ∧ Aside0 (wr.heap[w.heap.size]? = some (.cells #[.string a0_0, .slice A0_1 l0_1.length c0_1, .slice A0_2 l0_2.length c0_2, .slice A0_3 l0_3.length c0_3] 26)) ∧ Aside0 (Below w.heap.size w wr)) (fun _ v5 _ => l0_3.length - (intOf v5).toNat)
    case atStart => exact ⟨0, Nat.zero_le _, rfl, ⟨by simpa [relsL] using HOB.out⟩, BO, HB⟩
    case round =>
      clear HOB HB BO
      obtain ⟨k, hk, rfl, HO, BO, HB⟩ := hrel
      have cb0 : wr.cell? ⟨w.heap.size, 0, none⟩ = some (.string a0_0) := (blk_cell BO.out 0).trans rfl
      have cb1 : wr.cell? ⟨w.heap.size, 1, none⟩ = some (.slice A0_1 l0_1.length c0_1) := (blk_cell BO.out 1).trans rfl
      have cb2 : wr.cell? ⟨w.heap.size, 2, none⟩ = some (.slice A0_2 l0_2.length c0_2) := (blk_cell BO.out 2).trans rfl
      have cb3 : wr.cell? ⟨w.heap.size, 3, none⟩ = some (.slice A0_3 l0_3.length c0_3) := (blk_cell BO.out 3).trans rfl
      have hsz : w.heap.size < wr.heap.size := blk_lt BO.out
      by_cases hlt : k < l0_3.length
      case pos =>
        obtain ⟨ad, he, hx0, hx1, hx2, hx3⟩ := at_T43 HR3.out (k : Int) (by omega) (by omega)
        cases he
        have hrd : rd_T43 l0_3 (k : Int) = l0_3[k] := by simp [rd_T43, List.getD_eq_getElem?_getD, List.getElem?_eq_getElem hlt]
        rw [hrd] at hx0 hx1 hx2 hx3
        simp only [Int.toNat_natCast] at hx0 hx1 hx2 hx3
        have MM := M6.out _ (List.getElem_mem hlt)
        have SN := Aside0.mk (relsL_snoc l0_3 k hlt)
        clear hrd
        have hadb := World.block_lt_of_cell? w _ hx1
        dsimp only at hadb
        replace hx0 := pw_cell_below HB.out hx0
        replace hx1 := pw_cell_below HB.out hx1
        replace hx2 := pw_cell_below HB.out hx2
        replace hx3 := pw_cell_below HB.out hx3
        generalize l0_3[k] = s at hx0 hx1 hx2 hx3 SN MM
        obtain ⟨s0, s1, s2, s3⟩ := s
        dsimp only at hx0 hx1 hx2 hx3 MM
        have T1 := Aside0.mk (rnum_f s0 MM.2.1 (by have := MM.2.2.1; omega))
        have T2 := Aside0.mk (rtext_f s2 (by have := MM.1.2; omega))
        have T3 := Aside0.mk (rwide_f s3 ⟨MM.2.2.2.2.1, MM.2.2.2.2.2⟩)
        have z1 : (strOfNums (putL s0.toNat)).size ≤ 10 := by rw [str_size _ (putL_bs _)]; exact put_small (by have := MM.2.2.1; omega)
        have z2 : (strOfNums (textL s2)).size ≤ 38 := by rw [str_size _ (textL_bs _)]; have := textL_len s2 (by have := MM.1.2; omega); have := MM.1.2; omega
        have z3 : (strOfNums (leL s3 8)).size = 8 := by rw [str_size _ (leL_bs _ _), leL_len]
        have z4 : (strOfNums [s1 % 256]).size = 1 := by rw [str_size _ (one_bs _)]; rfl
        obtain ⟨ys, hys⟩ : ∃ ys, ys = front COT1 a0_0 l0_1 l0_2 ++ putL l0_3.length ++ relsL (l0_3.take (k + 1)) := ⟨_, rfl⟩
        have HY := Aside0.mk (show ys = (front COT1 a0_0 l0_1 l0_2 ++ putL l0_3.length ++ relsL (l0_3.take k)) ++ bytesOf (strOfNums (putL s0.toNat) ++ strOfNums [s1 % 256] ++ strOfNums (textL s2) ++ strOfNums (leL s3 8)) by
          rw [hys, SN.out, bytesOf_append, bytesOf_append, bytesOf_append, of_str (textL_bs _), of_str (one_bs _), of_str (putL_bs _), of_str (leL_bs _ _)]; simp only [relL, List.append_assoc])
        have HYS := Aside0.mk hys
        have hcv1 : ∀ (W : World) (b : Nat), W.cell? ⟨b, 0, none⟩ = some (.int .u8 (IntKind.u8.wrap s1)) → (convert 45 9 (.slice (some ⟨b, 0, none⟩) 1 1)).run Try.prog W = .ok (.string (strOfNums [s1 % 256])) W := fun W b h => by rw [conv1 W b _ h, u8_wrap]
        have HL := Aside0.mk (show (front COT1 a0_0 l0_1 l0_2 ++ putL l0_3.length ++ relsL (l0_3.take k)).length + 60 ≤ 140737488355328 by rw [List.length_append]; have h1 := L3.out; have h2 := SR.out k; omega)
        clear hys MM SN
        generalize strOfNums (putL s0.toNat) = ns at *
        generalize strOfNums (textL s2) = ts at *
        generalize strOfNums (leL s3 8) = ws at *
        generalize strOfNums [s1 % 256] = os at *
        have a1 : (ns.size + os.size ≤ 9223372036854775807) = True := eq_true (by omega)
        have a2 : (ns.size + os.size + ts.size ≤ 9223372036854775807) = True := eq_true (by omega)
        have a3 : (ns.size + os.size + ts.size + ws.size ≤ 9223372036854775807) = True := eq_true (by omega)
        have b1 : (9223372036854775807 < ns.size + os.size) = False := eq_false (by omega)
        have b2 : (9223372036854775807 < ns.size + os.size + ts.size) = False := eq_false (by omega)
        have b3 : (9223372036854775807 < ns.size + os.size + ts.size + ws.size) = False := eq_false (by omega)
        have Z := Aside0.mk (show (ns ++ os ++ ts ++ ws).size ≤ 57 by simp only [ByteArray.size_append]; omega)
        go_wp2
        clear hx0 hx1 hx2 hx3 cb0 cb1 cb2 cb3 z1 z2 z3 z4
        have HB8 := Aside0.mk (below_in HB.out (below_alloc (Below.refl wr.heap.size wr) (.cells #[.int .i64 s0, .int .i64 s1, .string s2, .int .i64 s3] 43)))
        have BO8 := Aside0.mk (blk_alloc BO.out (.cells #[.int .i64 s0, .int .i64 s1, .string s2, .int .i64 s3] 43))
        have HO8 := Aside0.mk (HO.out.below (below_alloc (Below.refl wr.heap.size wr) (.cells #[.int .i64 s0, .int .i64 s1, .string s2, .int .i64 s3] 43)))
        have B8 := Aside0.mk (blk_new wr (.cells #[.int .i64 s0, .int .i64 s1, .string s2, .int .i64 s3] 43))
        generalize wr.heap.size = g at *
        generalize wr.alloc (.cells #[.int .i64 s0, .int .i64 s1, .string s2, .int .i64 s3] 43) = w8 at *
        clear HO BO HB
        have SOF := Aside0.mk (show ∀ w', Below w8.heap.size w8 w' → (w'.cell? ⟨g, 0, none⟩ = some (.int .i64 s0) ∧ w'.cell? ⟨g, 1, none⟩ = some (.int .i64 s1) ∧ w'.cell? ⟨g, 2, none⟩ = some (.string s2) ∧ w'.cell? ⟨g, 3, none⟩ = some (.int .i64 s3)) from fun w' hb => ⟨pw_cell_below hb ((blk_cell B8.out 0).trans rfl), pw_cell_below hb ((blk_cell B8.out 1).trans rfl), pw_cell_below hb ((blk_cell B8.out 2).trans rfl), pw_cell_below hb ((blk_cell B8.out 3).trans rfl)⟩)
        have HBW := Aside0.mk (below_drew1 (Below.refl w8.heap.size w8))
        refine start_ (n := 20) (S := fun w' => w'.cell? ⟨g, 0, none⟩ = some (.int .i64 s0) ∧ w'.cell? ⟨g, 1, none⟩ = some (.int .i64 s1) ∧ w'.cell? ⟨g, 2, none⟩ = some (.string s2) ∧ w'.cell? ⟨g, 3, none⟩ = some (.int .i64 s3)) (ds := []) #[false, false, false, false, false, false, false, false, false, false, false, false, false, false, false, false, false, false, false, false] (by kernel_rfl) rfl rfl ⟨(SOF.out _ (below_drew1 (Below.refl _ _))).1, (SOF.out _ (below_drew1 (Below.refl _ _))).2.1, (SOF.out _ (below_drew1 (Below.refl _ _))).2.2.1, (SOF.out _ (below_drew1 (Below.refl _ _))).2.2.2⟩ (fun hHeld => ?_)
        refine pure_ (i := 0) (N := some 35) (v := ?_) (a' := ?_) #[true, false, false, false, false, false, false, false, false, false, false, false, false, false, false, false, false, false, false, false] rfl rfl (by kernel_rfl) (fun _ _ _ h => h) (Or.inl ⟨by rfl, ?_⟩) ?_ ?_
        rotate_left
        · intro w'
          go_simp
          with_reducible rfl
        rotate_left
        · simp only [Act.put, List.setIfInBounds_toArray, List.set_cons_zero, List.set_cons_succ, i64_w, i32_w]
          rfl
        refine pure_ (i := 1) (N := some 36) (v := ?_) (a' := ?_) #[true, true, false, false, false, false, false, false, false, false, false, false, false, false, false, false, false, false, false, false] rfl rfl (by kernel_rfl) (fun _ _ _ h => h) (Or.inl ⟨by rfl, ?_⟩) ?_ ?_
        rotate_left
        · intro w'
          go_simp
          with_reducible rfl
        rotate_left
        · simp only [Act.put, List.setIfInBounds_toArray, List.set_cons_zero, List.set_cons_succ, i64_w, i32_w]
          rfl
        refine pure_ (i := 4) (N := some 39) (v := ?_) (a' := ?_) #[true, true, false, false, true, false, false, false, false, false, false, false, false, false, false, false, false, false, false, false] rfl rfl (by kernel_rfl) (fun _ _ _ h => h) (Or.inl ⟨by rfl, ?_⟩) ?_ ?_
        rotate_left
        · intro w'
          go_simp
          with_reducible rfl
        rotate_left
        · simp only [Act.put, List.setIfInBounds_toArray, List.set_cons_zero, List.set_cons_succ, i64_w, i32_w]
          rfl
        refine pure_ (i := 10) (N := some 45) (v := ?_) (a' := ?_) #[true, true, false, false, true, false, false, false, false, false, true, false, false, false, false, false, false, false, false, false] rfl rfl (by kernel_rfl) (fun _ _ _ h => h) (Or.inl ⟨by rfl, ?_⟩) ?_ ?_
        rotate_left
        · intro w'
          go_simp
          with_reducible rfl
        rotate_left
        · simp only [Act.put, List.setIfInBounds_toArray, List.set_cons_zero, List.set_cons_succ, i64_w, i32_w]
          rfl
        refine pure_ (i := 14) (N := some 49) (v := ?_) (a' := ?_) #[true, true, false, false, true, false, false, false, false, false, true, false, false, false, true, false, false, false, false, false] rfl rfl (by kernel_rfl) (fun _ _ _ h => h) (Or.inl ⟨by rfl, ?_⟩) ?_ ?_
        rotate_left
        · intro w'
          go_simp
          with_reducible rfl
        rotate_left
        · simp only [Act.put, List.setIfInBounds_toArray, List.set_cons_zero, List.set_cons_succ, i64_w, i32_w]
          rfl
        refine take_ (i := 2) (N := some 37) (v := ?_) (a' := ?_) #[true, true, true, false, true, false, false, false, false, false, true, false, false, false, true, false, false, false, false, false] rfl rfl (by kernel_rfl) (fun _ _ _ h => h) (Or.inl ⟨by rfl, ?_⟩) hHeld ?_ ?_
        rotate_left
        · rintro w' ⟨s0, s1, s2, s3⟩
          go_simp
          with_reducible rfl
        rotate_left
        · simp only [Act.put, List.setIfInBounds_toArray, List.set_cons_zero, List.set_cons_succ, i64_w, i32_w]
          rfl
        refine take_ (i := 5) (N := some 40) (v := ?_) (a' := ?_) #[true, true, true, false, true, true, false, false, false, false, true, false, false, false, true, false, false, false, false, false] rfl rfl (by kernel_rfl) (fun _ _ _ h => h) (Or.inl ⟨by rfl, ?_⟩) hHeld ?_ ?_
        rotate_left
        · rintro w' ⟨s0, s1, s2, s3⟩
          go_simp
          with_reducible rfl
        rotate_left
        · simp only [Act.put, List.setIfInBounds_toArray, List.set_cons_zero, List.set_cons_succ, i64_w, i32_w]
          rfl
        refine pure_ (i := 6) (N := some 41) (v := ?_) (a' := ?_) #[true, true, true, false, true, true, true, false, false, false, true, false, false, false, true, false, false, false, false, false] rfl rfl (by kernel_rfl) (fun _ _ _ h => h) (Or.inl ⟨by rfl, ?_⟩) ?_ ?_
        rotate_left
        · intro w'
          go_simp
          with_reducible rfl
        rotate_left
        · simp only [Act.put, List.setIfInBounds_toArray, List.set_cons_zero, List.set_cons_succ, i64_w, i32_w]
          rfl
        refine take_ (i := 11) (N := some 46) (v := ?_) (a' := ?_) #[true, true, true, false, true, true, true, false, false, false, true, true, false, false, true, false, false, false, false, false] rfl rfl (by kernel_rfl) (fun _ _ _ h => h) (Or.inl ⟨by rfl, ?_⟩) hHeld ?_ ?_
        rotate_left
        · rintro w' ⟨s0, s1, s2, s3⟩
          go_simp
          with_reducible rfl
        rotate_left
        · simp only [Act.put, List.setIfInBounds_toArray, List.set_cons_zero, List.set_cons_succ, i64_w, i32_w]
          rfl
        refine take_ (i := 15) (N := some 50) (v := ?_) (a' := ?_) #[true, true, true, false, true, true, true, false, false, false, true, true, false, false, true, true, false, false, false, false] rfl rfl (by kernel_rfl) (fun _ _ _ h => h) (Or.inl ⟨by rfl, ?_⟩) hHeld ?_ ?_
        rotate_left
        · rintro w' ⟨s0, s1, s2, s3⟩
          go_simp
          with_reducible rfl
        rotate_left
        · simp only [Act.put, List.setIfInBounds_toArray, List.set_cons_zero, List.set_cons_succ, i64_w, i32_w]
          rfl
        refine join_ (σ := Nat) 3 #[true, true, true, true, true, true, true, true, true, true, true, true, true, true, true, true, true, false, false, false] (fun b => [(38, .string ns), (47, .string ts), (51, .string ws), (42, .slice (some ⟨b, 0, none⟩) 1 1), (43, .string os), (44, .string (ns ++ os)), (48, .string (ns ++ os ++ ts))]) (fun _ w' => Aside0 (Below (w8).heap.size w8 w')) ?_ ?_
        rotate_left
        · intro hCont
          refine two_ (i := 3) (j := 7) (Ni := some 38) (Nj := some 42) #[true, true, true, true, true, true, true, false, false, false, true, true, false, false, true, true, false, false, false, false] #[true, true, true, false, true, true, true, true, false, false, true, true, false, false, true, true, false, false, false, false] rfl rfl rfl rfl (by kernel_rfl) (by decide) (by decide) (fun K hK => ?_) (fun K hK => ?_)
          · skip
            refine goes_ Try.func24 (by kernel_rfl) rfl #[.int .i64 s0] (by rfl) rfl rfl (by simp only [List.map_toArray, List.map_cons, List.map_nil]; rfl) ?_
            with_reducible refine (cotterref06_number.calls 10 s0 ns _ T1.out).mono ?_
            rintro e w3_ ⟨rfl, hb_⟩
            refine ⟨_, rfl, ?_⟩
            have HBW := Aside0.mk (below_in HBW.out hb_)
            clear hb_
            refine hK.out _ _ ⟨(SOF.out _ (HBW.out)).1, (SOF.out _ (HBW.out)).2.1, (SOF.out _ (HBW.out)).2.2.1, (SOF.out _ (HBW.out)).2.2.2⟩ (fun hHeld => ?_)
            clear hK K
            refine norm_ (a' := ?_) ?_ ?_
            rotate_left
            · show Act.put _ (some 38) _ = _
              simp only [Act.put, List.setIfInBounds_toArray, List.set_cons_zero, List.set_cons_succ, i64_w, i32_w]
              rfl
            refine two_ (i := 7) (j := 12) (Ni := some 42) (Nj := some 47) #[true, true, true, true, true, true, true, true, false, false, true, true, false, false, true, true, false, false, false, false] #[true, true, true, true, true, true, true, false, false, false, true, true, true, false, true, true, false, false, false, false] rfl rfl rfl rfl (by kernel_rfl) (by decide) (by decide) (fun K hK => ?_) (fun K hK => ?_)
            · skip
              refine value_ (w1 := w3_.alloc (.cells #[.int .u8 (IntKind.u8.wrap s1)] 5)) (v := .slice (some ⟨w3_.heap.size, 0, none⟩) 1 1) (by rfl) rfl ?_ ?_
              · go_simp
              have HC := Aside0.mk (show (w3_.alloc (.cells #[.int .u8 (IntKind.u8.wrap s1)] 5)).cell? ⟨w3_.heap.size, 0, none⟩ = some (.int .u8 (IntKind.u8.wrap s1)) from (blk_cell (blk_new _ _) 0).trans rfl)
              have HBW := Aside0.mk (below_alloc HBW.out (.cells #[.int .u8 (IntKind.u8.wrap s1)] 5))
              generalize hA_ : w3_.alloc (.cells #[.int .u8 (IntKind.u8.wrap s1)] 5) = w7_ at HC HBW ⊢
              clear hA_
              refine hK.out _ _ ⟨(SOF.out _ (HBW.out)).1, (SOF.out _ (HBW.out)).2.1, (SOF.out _ (HBW.out)).2.2.1, (SOF.out _ (HBW.out)).2.2.2⟩ (fun hHeld => ?_)
              clear hK K
              refine norm_ (a' := ?_) ?_ ?_
              rotate_left
              · show Act.put _ (some 42) _ = _
                simp only [Act.put, List.setIfInBounds_toArray, List.set_cons_zero, List.set_cons_succ, i64_w, i32_w]
                rfl
              refine two_ (i := 8) (j := 12) (Ni := some 43) (Nj := some 47) #[true, true, true, true, true, true, true, true, true, false, true, true, false, false, true, true, false, false, false, false] #[true, true, true, true, true, true, true, true, false, false, true, true, true, false, true, true, false, false, false, false] rfl rfl rfl rfl (by kernel_rfl) (by decide) (by decide) (fun K hK => ?_) (fun K hK => ?_)
              · skip
                have hc_ : w7_.cell? ⟨w3_.heap.size, 0, none⟩ = some (.int .u8 (IntKind.u8.wrap s1)) := HC.out
                refine value_ (w1 := w7_) (v := .string os) (by rfl) rfl ?_ ?_
                · go_simp
                clear hc_ HC
                obtain ⟨w8_, hA_⟩ : ∃ y, y = w7_ := ⟨_, rfl⟩
                rw [← hA_] at HBW ⊢
                clear hA_
                refine hK.out _ _ ⟨(SOF.out _ (HBW.out)).1, (SOF.out _ (HBW.out)).2.1, (SOF.out _ (HBW.out)).2.2.1, (SOF.out _ (HBW.out)).2.2.2⟩ (fun hHeld => ?_)
                clear hK K
                refine norm_ (a' := ?_) ?_ ?_
                rotate_left
                · show Act.put _ (some 43) _ = _
                  simp only [Act.put, List.setIfInBounds_toArray, List.set_cons_zero, List.set_cons_succ, i64_w, i32_w]
                  rfl
                refine pure_ (i := 9) (N := some 44) (v := ?_) (a' := ?_) #[true, true, true, true, true, true, true, true, true, true, true, true, false, false, true, true, false, false, false, false] rfl rfl (by kernel_rfl) (fun _ _ _ h => h) (Or.inl ⟨by rfl, ?_⟩) ?_ ?_
                rotate_left
                · intro w'
                  go_simp
                  with_reducible rfl
                rotate_left
                · simp only [Act.put, List.setIfInBounds_toArray, List.set_cons_zero, List.set_cons_succ, i64_w, i32_w]
                  rfl
                refine one_ (i := 12) (N := some 47) #[true, true, true, true, true, true, true, true, true, true, true, true, true, false, true, true, false, false, false, false] rfl rfl (by kernel_rfl) (by decide) (fun K hK => ?_)
                refine goes_ Try.func25 (by kernel_rfl) rfl #[.string s2] (by rfl) rfl rfl (by simp only [List.map_toArray, List.map_cons, List.map_nil]; rfl) ?_
                with_reducible refine (cotterref06_text.calls 10 s2 ts _ T2.out).mono ?_
                rintro e w12_ ⟨rfl, hb_⟩
                refine ⟨_, rfl, ?_⟩
                have HBW := Aside0.mk (below_in HBW.out hb_)
                clear hb_
                refine hK.out _ _ ⟨(SOF.out _ (HBW.out)).1, (SOF.out _ (HBW.out)).2.1, (SOF.out _ (HBW.out)).2.2.1, (SOF.out _ (HBW.out)).2.2.2⟩ (fun hHeld => ?_)
                clear hK K
                refine norm_ (a' := ?_) ?_ ?_
                rotate_left
                · show Act.put _ (some 47) _ = _
                  simp only [Act.put, List.setIfInBounds_toArray, List.set_cons_zero, List.set_cons_succ, i64_w, i32_w]
                  rfl
                refine pure_ (i := 13) (N := some 48) (v := ?_) (a' := ?_) #[true, true, true, true, true, true, true, true, true, true, true, true, true, true, true, true, false, false, false, false] rfl rfl (by kernel_rfl) (fun _ _ _ h => h) (Or.inl ⟨by rfl, ?_⟩) ?_ ?_
                rotate_left
                · intro w'
                  go_simp
                  with_reducible rfl
                rotate_left
                · simp only [Act.put, List.setIfInBounds_toArray, List.set_cons_zero, List.set_cons_succ, i64_w, i32_w]
                  rfl
                refine one_ (i := 16) (N := some 51) #[true, true, true, true, true, true, true, true, true, true, true, true, true, true, true, true, true, false, false, false] rfl rfl (by kernel_rfl) (by decide) (fun K hK => ?_)
                refine goes_ Try.func26 (by kernel_rfl) rfl #[.int .i64 s3] (by rfl) rfl rfl (by simp only [List.map_toArray, List.map_cons, List.map_nil]; rfl) ?_
                with_reducible refine (cotterref06_wide.calls 11 s3 ws _ T3.out).mono ?_
                rintro e w16_ ⟨rfl, hb_⟩
                refine ⟨_, rfl, ?_⟩
                have HBW := Aside0.mk (below_in HBW.out hb_)
                clear hb_
                refine hK.out _ _ ⟨(SOF.out _ (HBW.out)).1, (SOF.out _ (HBW.out)).2.1, (SOF.out _ (HBW.out)).2.2.1, (SOF.out _ (HBW.out)).2.2.2⟩ (fun hHeld => ?_)
                clear hK K
                refine norm_ (a' := ?_) ?_ ?_
                rotate_left
                · show Act.put _ (some 51) _ = _
                  simp only [Act.put, List.setIfInBounds_toArray, List.set_cons_zero, List.set_cons_succ, i64_w, i32_w]
                  rfl
                exact norm_ (by simp only [putAll, Act.put, List.setIfInBounds_toArray, List.set_cons_zero, List.set_cons_succ]) (hCont (w3_).heap.size _ HBW)
              · skip
                refine goes_ Try.func25 (by kernel_rfl) rfl #[.string s2] (by rfl) rfl rfl (by simp only [List.map_toArray, List.map_cons, List.map_nil]; rfl) ?_
                with_reducible refine (cotterref06_text.calls 10 s2 ts _ T2.out).mono ?_
                rintro e w12_ ⟨rfl, hb_⟩
                refine ⟨_, rfl, ?_⟩
                have HBW := Aside0.mk (below_in HBW.out hb_)
                have HC := Aside0.mk (pw_cell_below hb_ HC.out)
                clear hb_
                refine hK.out _ _ ⟨(SOF.out _ (HBW.out)).1, (SOF.out _ (HBW.out)).2.1, (SOF.out _ (HBW.out)).2.2.1, (SOF.out _ (HBW.out)).2.2.2⟩ (fun hHeld => ?_)
                clear hK K
                refine norm_ (a' := ?_) ?_ ?_
                rotate_left
                · show Act.put _ (some 47) _ = _
                  simp only [Act.put, List.setIfInBounds_toArray, List.set_cons_zero, List.set_cons_succ, i64_w, i32_w]
                  rfl
                refine two_ (i := 8) (j := 16) (Ni := some 43) (Nj := some 51) #[true, true, true, true, true, true, true, true, true, false, true, true, true, false, true, true, false, false, false, false] #[true, true, true, true, true, true, true, true, false, false, true, true, true, false, true, true, true, false, false, false] rfl rfl rfl rfl (by kernel_rfl) (by decide) (by decide) (fun K hK => ?_) (fun K hK => ?_)
                · skip
                  have hc_ : w12_.cell? ⟨w3_.heap.size, 0, none⟩ = some (.int .u8 (IntKind.u8.wrap s1)) := HC.out
                  refine value_ (w1 := w12_) (v := .string os) (by rfl) rfl ?_ ?_
                  · go_simp
                  clear hc_ HC
                  obtain ⟨w8_, hA_⟩ : ∃ y, y = w12_ := ⟨_, rfl⟩
                  rw [← hA_] at HBW ⊢
                  clear hA_
                  refine hK.out _ _ ⟨(SOF.out _ (HBW.out)).1, (SOF.out _ (HBW.out)).2.1, (SOF.out _ (HBW.out)).2.2.1, (SOF.out _ (HBW.out)).2.2.2⟩ (fun hHeld => ?_)
                  clear hK K
                  refine norm_ (a' := ?_) ?_ ?_
                  rotate_left
                  · show Act.put _ (some 43) _ = _
                    simp only [Act.put, List.setIfInBounds_toArray, List.set_cons_zero, List.set_cons_succ, i64_w, i32_w]
                    rfl
                  refine pure_ (i := 9) (N := some 44) (v := ?_) (a' := ?_) #[true, true, true, true, true, true, true, true, true, true, true, true, true, false, true, true, false, false, false, false] rfl rfl (by kernel_rfl) (fun _ _ _ h => h) (Or.inl ⟨by rfl, ?_⟩) ?_ ?_
                  rotate_left
                  · intro w'
                    go_simp
                    with_reducible rfl
                  rotate_left
                  · simp only [Act.put, List.setIfInBounds_toArray, List.set_cons_zero, List.set_cons_succ, i64_w, i32_w]
                    rfl
                  refine pure_ (i := 13) (N := some 48) (v := ?_) (a' := ?_) #[true, true, true, true, true, true, true, true, true, true, true, true, true, true, true, true, false, false, false, false] rfl rfl (by kernel_rfl) (fun _ _ _ h => h) (Or.inl ⟨by rfl, ?_⟩) ?_ ?_
                  rotate_left
                  · intro w'
                    go_simp
                    with_reducible rfl
                  rotate_left
                  · simp only [Act.put, List.setIfInBounds_toArray, List.set_cons_zero, List.set_cons_succ, i64_w, i32_w]
                    rfl
                  refine one_ (i := 16) (N := some 51) #[true, true, true, true, true, true, true, true, true, true, true, true, true, true, true, true, true, false, false, false] rfl rfl (by kernel_rfl) (by decide) (fun K hK => ?_)
                  refine goes_ Try.func26 (by kernel_rfl) rfl #[.int .i64 s3] (by rfl) rfl rfl (by simp only [List.map_toArray, List.map_cons, List.map_nil]; rfl) ?_
                  with_reducible refine (cotterref06_wide.calls 11 s3 ws _ T3.out).mono ?_
                  rintro e w16_ ⟨rfl, hb_⟩
                  refine ⟨_, rfl, ?_⟩
                  have HBW := Aside0.mk (below_in HBW.out hb_)
                  clear hb_
                  refine hK.out _ _ ⟨(SOF.out _ (HBW.out)).1, (SOF.out _ (HBW.out)).2.1, (SOF.out _ (HBW.out)).2.2.1, (SOF.out _ (HBW.out)).2.2.2⟩ (fun hHeld => ?_)
                  clear hK K
                  refine norm_ (a' := ?_) ?_ ?_
                  rotate_left
                  · show Act.put _ (some 51) _ = _
                    simp only [Act.put, List.setIfInBounds_toArray, List.set_cons_zero, List.set_cons_succ, i64_w, i32_w]
                    rfl
                  exact norm_ (by simp only [putAll, Act.put, List.setIfInBounds_toArray, List.set_cons_zero, List.set_cons_succ]) (hCont (w3_).heap.size _ HBW)
                · skip
                  refine goes_ Try.func26 (by kernel_rfl) rfl #[.int .i64 s3] (by rfl) rfl rfl (by simp only [List.map_toArray, List.map_cons, List.map_nil]; rfl) ?_
                  with_reducible refine (cotterref06_wide.calls 11 s3 ws _ T3.out).mono ?_
                  rintro e w16_ ⟨rfl, hb_⟩
                  refine ⟨_, rfl, ?_⟩
                  have HBW := Aside0.mk (below_in HBW.out hb_)
                  have HC := Aside0.mk (pw_cell_below hb_ HC.out)
                  clear hb_
                  refine hK.out _ _ ⟨(SOF.out _ (HBW.out)).1, (SOF.out _ (HBW.out)).2.1, (SOF.out _ (HBW.out)).2.2.1, (SOF.out _ (HBW.out)).2.2.2⟩ (fun hHeld => ?_)
                  clear hK K
                  refine norm_ (a' := ?_) ?_ ?_
                  rotate_left
                  · show Act.put _ (some 51) _ = _
                    simp only [Act.put, List.setIfInBounds_toArray, List.set_cons_zero, List.set_cons_succ, i64_w, i32_w]
                    rfl
                  refine one_ (i := 8) (N := some 43) #[true, true, true, true, true, true, true, true, true, false, true, true, true, false, true, true, true, false, false, false] rfl rfl (by kernel_rfl) (by decide) (fun K hK => ?_)
                  have hc_ : w16_.cell? ⟨w3_.heap.size, 0, none⟩ = some (.int .u8 (IntKind.u8.wrap s1)) := HC.out
                  refine value_ (w1 := w16_) (v := .string os) (by rfl) rfl ?_ ?_
                  · go_simp
                  clear hc_ HC
                  obtain ⟨w8_, hA_⟩ : ∃ y, y = w16_ := ⟨_, rfl⟩
                  rw [← hA_] at HBW ⊢
                  clear hA_
                  refine hK.out _ _ ⟨(SOF.out _ (HBW.out)).1, (SOF.out _ (HBW.out)).2.1, (SOF.out _ (HBW.out)).2.2.1, (SOF.out _ (HBW.out)).2.2.2⟩ (fun hHeld => ?_)
                  clear hK K
                  refine norm_ (a' := ?_) ?_ ?_
                  rotate_left
                  · show Act.put _ (some 43) _ = _
                    simp only [Act.put, List.setIfInBounds_toArray, List.set_cons_zero, List.set_cons_succ, i64_w, i32_w]
                    rfl
                  refine pure_ (i := 9) (N := some 44) (v := ?_) (a' := ?_) #[true, true, true, true, true, true, true, true, true, true, true, true, true, false, true, true, true, false, false, false] rfl rfl (by kernel_rfl) (fun _ _ _ h => h) (Or.inl ⟨by rfl, ?_⟩) ?_ ?_
                  rotate_left
                  · intro w'
                    go_simp
                    with_reducible rfl
                  rotate_left
                  · simp only [Act.put, List.setIfInBounds_toArray, List.set_cons_zero, List.set_cons_succ, i64_w, i32_w]
                    rfl
                  refine pure_ (i := 13) (N := some 48) (v := ?_) (a' := ?_) #[true, true, true, true, true, true, true, true, true, true, true, true, true, true, true, true, true, false, false, false] rfl rfl (by kernel_rfl) (fun _ _ _ h => h) (Or.inl ⟨by rfl, ?_⟩) ?_ ?_
                  rotate_left
                  · intro w'
                    go_simp
                    with_reducible rfl
                  rotate_left
                  · simp only [Act.put, List.setIfInBounds_toArray, List.set_cons_zero, List.set_cons_succ, i64_w, i32_w]
                    rfl
                  exact norm_ (by simp only [putAll, Act.put, List.setIfInBounds_toArray, List.set_cons_zero, List.set_cons_succ]) (hCont (w3_).heap.size _ HBW)
            · skip
              refine goes_ Try.func25 (by kernel_rfl) rfl #[.string s2] (by rfl) rfl rfl (by simp only [List.map_toArray, List.map_cons, List.map_nil]; rfl) ?_
              with_reducible refine (cotterref06_text.calls 10 s2 ts _ T2.out).mono ?_
              rintro e w12_ ⟨rfl, hb_⟩
              refine ⟨_, rfl, ?_⟩
              have HBW := Aside0.mk (below_in HBW.out hb_)
              clear hb_
              refine hK.out _ _ ⟨(SOF.out _ (HBW.out)).1, (SOF.out _ (HBW.out)).2.1, (SOF.out _ (HBW.out)).2.2.1, (SOF.out _ (HBW.out)).2.2.2⟩ (fun hHeld => ?_)
              clear hK K
              refine norm_ (a' := ?_) ?_ ?_
              rotate_left
              · show Act.put _ (some 47) _ = _
                simp only [Act.put, List.setIfInBounds_toArray, List.set_cons_zero, List.set_cons_succ, i64_w, i32_w]
                rfl
              refine two_ (i := 7) (j := 16) (Ni := some 42) (Nj := some 51) #[true, true, true, true, true, true, true, true, false, false, true, true, true, false, true, true, false, false, false, false] #[true, true, true, true, true, true, true, false, false, false, true, true, true, false, true, true, true, false, false, false] rfl rfl rfl rfl (by kernel_rfl) (by decide) (by decide) (fun K hK => ?_) (fun K hK => ?_)
              · skip
                refine value_ (w1 := w12_.alloc (.cells #[.int .u8 (IntKind.u8.wrap s1)] 5)) (v := .slice (some ⟨w12_.heap.size, 0, none⟩) 1 1) (by rfl) rfl ?_ ?_
                · go_simp
                have HC := Aside0.mk (show (w12_.alloc (.cells #[.int .u8 (IntKind.u8.wrap s1)] 5)).cell? ⟨w12_.heap.size, 0, none⟩ = some (.int .u8 (IntKind.u8.wrap s1)) from (blk_cell (blk_new _ _) 0).trans rfl)
                have HBW := Aside0.mk (below_alloc HBW.out (.cells #[.int .u8 (IntKind.u8.wrap s1)] 5))
                generalize hA_ : w12_.alloc (.cells #[.int .u8 (IntKind.u8.wrap s1)] 5) = w7_ at HC HBW ⊢
                clear hA_
                refine hK.out _ _ ⟨(SOF.out _ (HBW.out)).1, (SOF.out _ (HBW.out)).2.1, (SOF.out _ (HBW.out)).2.2.1, (SOF.out _ (HBW.out)).2.2.2⟩ (fun hHeld => ?_)
                clear hK K
                refine norm_ (a' := ?_) ?_ ?_
                rotate_left
                · show Act.put _ (some 42) _ = _
                  simp only [Act.put, List.setIfInBounds_toArray, List.set_cons_zero, List.set_cons_succ, i64_w, i32_w]
                  rfl
                refine two_ (i := 8) (j := 16) (Ni := some 43) (Nj := some 51) #[true, true, true, true, true, true, true, true, true, false, true, true, true, false, true, true, false, false, false, false] #[true, true, true, true, true, true, true, true, false, false, true, true, true, false, true, true, true, false, false, false] rfl rfl rfl rfl (by kernel_rfl) (by decide) (by decide) (fun K hK => ?_) (fun K hK => ?_)
                · skip
                  have hc_ : w7_.cell? ⟨w12_.heap.size, 0, none⟩ = some (.int .u8 (IntKind.u8.wrap s1)) := HC.out
                  refine value_ (w1 := w7_) (v := .string os) (by rfl) rfl ?_ ?_
                  · go_simp
                  clear hc_ HC
                  obtain ⟨w8_, hA_⟩ : ∃ y, y = w7_ := ⟨_, rfl⟩
                  rw [← hA_] at HBW ⊢
                  clear hA_
                  refine hK.out _ _ ⟨(SOF.out _ (HBW.out)).1, (SOF.out _ (HBW.out)).2.1, (SOF.out _ (HBW.out)).2.2.1, (SOF.out _ (HBW.out)).2.2.2⟩ (fun hHeld => ?_)
                  clear hK K
                  refine norm_ (a' := ?_) ?_ ?_
                  rotate_left
                  · show Act.put _ (some 43) _ = _
                    simp only [Act.put, List.setIfInBounds_toArray, List.set_cons_zero, List.set_cons_succ, i64_w, i32_w]
                    rfl
                  refine pure_ (i := 9) (N := some 44) (v := ?_) (a' := ?_) #[true, true, true, true, true, true, true, true, true, true, true, true, true, false, true, true, false, false, false, false] rfl rfl (by kernel_rfl) (fun _ _ _ h => h) (Or.inl ⟨by rfl, ?_⟩) ?_ ?_
                  rotate_left
                  · intro w'
                    go_simp
                    with_reducible rfl
                  rotate_left
                  · simp only [Act.put, List.setIfInBounds_toArray, List.set_cons_zero, List.set_cons_succ, i64_w, i32_w]
                    rfl
                  refine pure_ (i := 13) (N := some 48) (v := ?_) (a' := ?_) #[true, true, true, true, true, true, true, true, true, true, true, true, true, true, true, true, false, false, false, false] rfl rfl (by kernel_rfl) (fun _ _ _ h => h) (Or.inl ⟨by rfl, ?_⟩) ?_ ?_
                  rotate_left
                  · intro w'
                    go_simp
                    with_reducible rfl
                  rotate_left
                  · simp only [Act.put, List.setIfInBounds_toArray, List.set_cons_zero, List.set_cons_succ, i64_w, i32_w]
                    rfl
                  refine one_ (i := 16) (N := some 51) #[true, true, true, true, true, true, true, true, true, true, true, true, true, true, true, true, true, false, false, false] rfl rfl (by kernel_rfl) (by decide) (fun K hK => ?_)
                  refine goes_ Try.func26 (by kernel_rfl) rfl #[.int .i64 s3] (by rfl) rfl rfl (by simp only [List.map_toArray, List.map_cons, List.map_nil]; rfl) ?_
                  with_reducible refine (cotterref06_wide.calls 11 s3 ws _ T3.out).mono ?_
                  rintro e w16_ ⟨rfl, hb_⟩
                  refine ⟨_, rfl, ?_⟩
                  have HBW := Aside0.mk (below_in HBW.out hb_)
                  clear hb_
                  refine hK.out _ _ ⟨(SOF.out _ (HBW.out)).1, (SOF.out _ (HBW.out)).2.1, (SOF.out _ (HBW.out)).2.2.1, (SOF.out _ (HBW.out)).2.2.2⟩ (fun hHeld => ?_)
                  clear hK K
                  refine norm_ (a' := ?_) ?_ ?_
                  rotate_left
                  · show Act.put _ (some 51) _ = _
                    simp only [Act.put, List.setIfInBounds_toArray, List.set_cons_zero, List.set_cons_succ, i64_w, i32_w]
                    rfl
                  exact norm_ (by simp only [putAll, Act.put, List.setIfInBounds_toArray, List.set_cons_zero, List.set_cons_succ]) (hCont (w12_).heap.size _ HBW)
                · skip
                  refine goes_ Try.func26 (by kernel_rfl) rfl #[.int .i64 s3] (by rfl) rfl rfl (by simp only [List.map_toArray, List.map_cons, List.map_nil]; rfl) ?_
                  with_reducible refine (cotterref06_wide.calls 11 s3 ws _ T3.out).mono ?_
                  rintro e w16_ ⟨rfl, hb_⟩
                  refine ⟨_, rfl, ?_⟩
                  have HBW := Aside0.mk (below_in HBW.out hb_)
                  have HC := Aside0.mk (pw_cell_below hb_ HC.out)
                  clear hb_
                  refine hK.out _ _ ⟨(SOF.out _ (HBW.out)).1, (SOF.out _ (HBW.out)).2.1, (SOF.out _ (HBW.out)).2.2.1, (SOF.out _ (HBW.out)).2.2.2⟩ (fun hHeld => ?_)
                  clear hK K
                  refine norm_ (a' := ?_) ?_ ?_
                  rotate_left
                  · show Act.put _ (some 51) _ = _
                    simp only [Act.put, List.setIfInBounds_toArray, List.set_cons_zero, List.set_cons_succ, i64_w, i32_w]
                    rfl
                  refine one_ (i := 8) (N := some 43) #[true, true, true, true, true, true, true, true, true, false, true, true, true, false, true, true, true, false, false, false] rfl rfl (by kernel_rfl) (by decide) (fun K hK => ?_)
                  have hc_ : w16_.cell? ⟨w12_.heap.size, 0, none⟩ = some (.int .u8 (IntKind.u8.wrap s1)) := HC.out
                  refine value_ (w1 := w16_) (v := .string os) (by rfl) rfl ?_ ?_
                  · go_simp
                  clear hc_ HC
                  obtain ⟨w8_, hA_⟩ : ∃ y, y = w16_ := ⟨_, rfl⟩
                  rw [← hA_] at HBW ⊢
                  clear hA_
                  refine hK.out _ _ ⟨(SOF.out _ (HBW.out)).1, (SOF.out _ (HBW.out)).2.1, (SOF.out _ (HBW.out)).2.2.1, (SOF.out _ (HBW.out)).2.2.2⟩ (fun hHeld => ?_)
                  clear hK K
                  refine norm_ (a' := ?_) ?_ ?_
                  rotate_left
                  · show Act.put _ (some 43) _ = _
                    simp only [Act.put, List.setIfInBounds_toArray, List.set_cons_zero, List.set_cons_succ, i64_w, i32_w]
                    rfl
                  refine pure_ (i := 9) (N := some 44) (v := ?_) (a' := ?_) #[true, true, true, true, true, true, true, true, true, true, true, true, true, false, true, true, true, false, false, false] rfl rfl (by kernel_rfl) (fun _ _ _ h => h) (Or.inl ⟨by rfl, ?_⟩) ?_ ?_
                  rotate_left
                  · intro w'
                    go_simp
                    with_reducible rfl
                  rotate_left
                  · simp only [Act.put, List.setIfInBounds_toArray, List.set_cons_zero, List.set_cons_succ, i64_w, i32_w]
                    rfl
                  refine pure_ (i := 13) (N := some 48) (v := ?_) (a' := ?_) #[true, true, true, true, true, true, true, true, true, true, true, true, true, true, true, true, true, false, false, false] rfl rfl (by kernel_rfl) (fun _ _ _ h => h) (Or.inl ⟨by rfl, ?_⟩) ?_ ?_
                  rotate_left
                  · intro w'
                    go_simp
                    with_reducible rfl
                  rotate_left
                  · simp only [Act.put, List.setIfInBounds_toArray, List.set_cons_zero, List.set_cons_succ, i64_w, i32_w]
                    rfl
                  exact norm_ (by simp only [putAll, Act.put, List.setIfInBounds_toArray, List.set_cons_zero, List.set_cons_succ]) (hCont (w12_).heap.size _ HBW)
              · skip
                refine goes_ Try.func26 (by kernel_rfl) rfl #[.int .i64 s3] (by rfl) rfl rfl (by simp only [List.map_toArray, List.map_cons, List.map_nil]; rfl) ?_
                with_reducible refine (cotterref06_wide.calls 11 s3 ws _ T3.out).mono ?_
                rintro e w16_ ⟨rfl, hb_⟩
                refine ⟨_, rfl, ?_⟩
                have HBW := Aside0.mk (below_in HBW.out hb_)
                clear hb_
                refine hK.out _ _ ⟨(SOF.out _ (HBW.out)).1, (SOF.out _ (HBW.out)).2.1, (SOF.out _ (HBW.out)).2.2.1, (SOF.out _ (HBW.out)).2.2.2⟩ (fun hHeld => ?_)
                clear hK K
                refine norm_ (a' := ?_) ?_ ?_
                rotate_left
                · show Act.put _ (some 51) _ = _
                  simp only [Act.put, List.setIfInBounds_toArray, List.set_cons_zero, List.set_cons_succ, i64_w, i32_w]
                  rfl
                refine one_ (i := 7) (N := some 42) #[true, true, true, true, true, true, true, true, false, false, true, true, true, false, true, true, true, false, false, false] rfl rfl (by kernel_rfl) (by decide) (fun K hK => ?_)
                refine value_ (w1 := w16_.alloc (.cells #[.int .u8 (IntKind.u8.wrap s1)] 5)) (v := .slice (some ⟨w16_.heap.size, 0, none⟩) 1 1) (by rfl) rfl ?_ ?_
                · go_simp
                have HC := Aside0.mk (show (w16_.alloc (.cells #[.int .u8 (IntKind.u8.wrap s1)] 5)).cell? ⟨w16_.heap.size, 0, none⟩ = some (.int .u8 (IntKind.u8.wrap s1)) from (blk_cell (blk_new _ _) 0).trans rfl)
                have HBW := Aside0.mk (below_alloc HBW.out (.cells #[.int .u8 (IntKind.u8.wrap s1)] 5))
                generalize hA_ : w16_.alloc (.cells #[.int .u8 (IntKind.u8.wrap s1)] 5) = w7_ at HC HBW ⊢
                clear hA_
                refine hK.out _ _ ⟨(SOF.out _ (HBW.out)).1, (SOF.out _ (HBW.out)).2.1, (SOF.out _ (HBW.out)).2.2.1, (SOF.out _ (HBW.out)).2.2.2⟩ (fun hHeld => ?_)
                clear hK K
                refine norm_ (a' := ?_) ?_ ?_
                rotate_left
                · show Act.put _ (some 42) _ = _
                  simp only [Act.put, List.setIfInBounds_toArray, List.set_cons_zero, List.set_cons_succ, i64_w, i32_w]
                  rfl
                refine one_ (i := 8) (N := some 43) #[true, true, true, true, true, true, true, true, true, false, true, true, true, false, true, true, true, false, false, false] rfl rfl (by kernel_rfl) (by decide) (fun K hK => ?_)
                have hc_ : w7_.cell? ⟨w16_.heap.size, 0, none⟩ = some (.int .u8 (IntKind.u8.wrap s1)) := HC.out
                refine value_ (w1 := w7_) (v := .string os) (by rfl) rfl ?_ ?_
                · go_simp
                clear hc_ HC
                obtain ⟨w8_, hA_⟩ : ∃ y, y = w7_ := ⟨_, rfl⟩
                rw [← hA_] at HBW ⊢
                clear hA_
                refine hK.out _ _ ⟨(SOF.out _ (HBW.out)).1, (SOF.out _ (HBW.out)).2.1, (SOF.out _ (HBW.out)).2.2.1, (SOF.out _ (HBW.out)).2.2.2⟩ (fun hHeld => ?_)
                clear hK K
                refine norm_ (a' := ?_) ?_ ?_
                rotate_left
                · show Act.put _ (some 43) _ = _
                  simp only [Act.put, List.setIfInBounds_toArray, List.set_cons_zero, List.set_cons_succ, i64_w, i32_w]
                  rfl
                refine pure_ (i := 9) (N := some 44) (v := ?_) (a' := ?_) #[true, true, true, true, true, true, true, true, true, true, true, true, true, false, true, true, true, false, false, false] rfl rfl (by kernel_rfl) (fun _ _ _ h => h) (Or.inl ⟨by rfl, ?_⟩) ?_ ?_
                rotate_left
                · intro w'
                  go_simp
                  with_reducible rfl
                rotate_left
                · simp only [Act.put, List.setIfInBounds_toArray, List.set_cons_zero, List.set_cons_succ, i64_w, i32_w]
                  rfl
                refine pure_ (i := 13) (N := some 48) (v := ?_) (a' := ?_) #[true, true, true, true, true, true, true, true, true, true, true, true, true, true, true, true, true, false, false, false] rfl rfl (by kernel_rfl) (fun _ _ _ h => h) (Or.inl ⟨by rfl, ?_⟩) ?_ ?_
                rotate_left
                · intro w'
                  go_simp
                  with_reducible rfl
                rotate_left
                · simp only [Act.put, List.setIfInBounds_toArray, List.set_cons_zero, List.set_cons_succ, i64_w, i32_w]
                  rfl
                exact norm_ (by simp only [putAll, Act.put, List.setIfInBounds_toArray, List.set_cons_zero, List.set_cons_succ]) (hCont (w16_).heap.size _ HBW)
          · skip
            refine value_ (w1 := (w8).drew.alloc (.cells #[.int .u8 (IntKind.u8.wrap s1)] 5)) (v := .slice (some ⟨(w8).drew.heap.size, 0, none⟩) 1 1) (by rfl) rfl ?_ ?_
            · go_simp
            have HC := Aside0.mk (show ((w8).drew.alloc (.cells #[.int .u8 (IntKind.u8.wrap s1)] 5)).cell? ⟨(w8).drew.heap.size, 0, none⟩ = some (.int .u8 (IntKind.u8.wrap s1)) from (blk_cell (blk_new _ _) 0).trans rfl)
            have HBW := Aside0.mk (below_alloc HBW.out (.cells #[.int .u8 (IntKind.u8.wrap s1)] 5))
            generalize hA_ : (w8).drew.alloc (.cells #[.int .u8 (IntKind.u8.wrap s1)] 5) = w7_ at HC HBW ⊢
            clear hA_
            refine hK.out _ _ ⟨(SOF.out _ (HBW.out)).1, (SOF.out _ (HBW.out)).2.1, (SOF.out _ (HBW.out)).2.2.1, (SOF.out _ (HBW.out)).2.2.2⟩ (fun hHeld => ?_)
            clear hK K
            refine norm_ (a' := ?_) ?_ ?_
            rotate_left
            · show Act.put _ (some 42) _ = _
              simp only [Act.put, List.setIfInBounds_toArray, List.set_cons_zero, List.set_cons_succ, i64_w, i32_w]
              rfl
            refine two_ (i := 3) (j := 8) (Ni := some 38) (Nj := some 43) #[true, true, true, true, true, true, true, true, false, false, true, true, false, false, true, true, false, false, false, false] #[true, true, true, false, true, true, true, true, true, false, true, true, false, false, true, true, false, false, false, false] rfl rfl rfl rfl (by kernel_rfl) (by decide) (by decide) (fun K hK => ?_) (fun K hK => ?_)
            · skip
              refine goes_ Try.func24 (by kernel_rfl) rfl #[.int .i64 s0] (by rfl) rfl rfl (by simp only [List.map_toArray, List.map_cons, List.map_nil]; rfl) ?_
              with_reducible refine (cotterref06_number.calls 10 s0 ns _ T1.out).mono ?_
              rintro e w3_ ⟨rfl, hb_⟩
              refine ⟨_, rfl, ?_⟩
              have HBW := Aside0.mk (below_in HBW.out hb_)
              have HC := Aside0.mk (pw_cell_below hb_ HC.out)
              clear hb_
              refine hK.out _ _ ⟨(SOF.out _ (HBW.out)).1, (SOF.out _ (HBW.out)).2.1, (SOF.out _ (HBW.out)).2.2.1, (SOF.out _ (HBW.out)).2.2.2⟩ (fun hHeld => ?_)
              clear hK K
              refine norm_ (a' := ?_) ?_ ?_
              rotate_left
              · show Act.put _ (some 38) _ = _
                simp only [Act.put, List.setIfInBounds_toArray, List.set_cons_zero, List.set_cons_succ, i64_w, i32_w]
                rfl
              refine two_ (i := 8) (j := 12) (Ni := some 43) (Nj := some 47) #[true, true, true, true, true, true, true, true, true, false, true, true, false, false, true, true, false, false, false, false] #[true, true, true, true, true, true, true, true, false, false, true, true, true, false, true, true, false, false, false, false] rfl rfl rfl rfl (by kernel_rfl) (by decide) (by decide) (fun K hK => ?_) (fun K hK => ?_)
              · skip
                have hc_ : w3_.cell? ⟨w8.heap.size, 0, none⟩ = some (.int .u8 (IntKind.u8.wrap s1)) := HC.out
                refine value_ (w1 := w3_) (v := .string os) (by rfl) rfl ?_ ?_
                · go_simp
                clear hc_ HC
                obtain ⟨w8_, hA_⟩ : ∃ y, y = w3_ := ⟨_, rfl⟩
                rw [← hA_] at HBW ⊢
                clear hA_
                refine hK.out _ _ ⟨(SOF.out _ (HBW.out)).1, (SOF.out _ (HBW.out)).2.1, (SOF.out _ (HBW.out)).2.2.1, (SOF.out _ (HBW.out)).2.2.2⟩ (fun hHeld => ?_)
                clear hK K
                refine norm_ (a' := ?_) ?_ ?_
                rotate_left
                · show Act.put _ (some 43) _ = _
                  simp only [Act.put, List.setIfInBounds_toArray, List.set_cons_zero, List.set_cons_succ, i64_w, i32_w]
                  rfl
                refine pure_ (i := 9) (N := some 44) (v := ?_) (a' := ?_) #[true, true, true, true, true, true, true, true, true, true, true, true, false, false, true, true, false, false, false, false] rfl rfl (by kernel_rfl) (fun _ _ _ h => h) (Or.inl ⟨by rfl, ?_⟩) ?_ ?_
                rotate_left
                · intro w'
                  go_simp
                  with_reducible rfl
                rotate_left
                · simp only [Act.put, List.setIfInBounds_toArray, List.set_cons_zero, List.set_cons_succ, i64_w, i32_w]
                  rfl
                refine one_ (i := 12) (N := some 47) #[true, true, true, true, true, true, true, true, true, true, true, true, true, false, true, true, false, false, false, false] rfl rfl (by kernel_rfl) (by decide) (fun K hK => ?_)
                refine goes_ Try.func25 (by kernel_rfl) rfl #[.string s2] (by rfl) rfl rfl (by simp only [List.map_toArray, List.map_cons, List.map_nil]; rfl) ?_
                with_reducible refine (cotterref06_text.calls 10 s2 ts _ T2.out).mono ?_
                rintro e w12_ ⟨rfl, hb_⟩
                refine ⟨_, rfl, ?_⟩
                have HBW := Aside0.mk (below_in HBW.out hb_)
                clear hb_
                refine hK.out _ _ ⟨(SOF.out _ (HBW.out)).1, (SOF.out _ (HBW.out)).2.1, (SOF.out _ (HBW.out)).2.2.1, (SOF.out _ (HBW.out)).2.2.2⟩ (fun hHeld => ?_)
                clear hK K
                refine norm_ (a' := ?_) ?_ ?_
                rotate_left
                · show Act.put _ (some 47) _ = _
                  simp only [Act.put, List.setIfInBounds_toArray, List.set_cons_zero, List.set_cons_succ, i64_w, i32_w]
                  rfl
                refine pure_ (i := 13) (N := some 48) (v := ?_) (a' := ?_) #[true, true, true, true, true, true, true, true, true, true, true, true, true, true, true, true, false, false, false, false] rfl rfl (by kernel_rfl) (fun _ _ _ h => h) (Or.inl ⟨by rfl, ?_⟩) ?_ ?_
                rotate_left
                · intro w'
                  go_simp
                  with_reducible rfl
                rotate_left
                · simp only [Act.put, List.setIfInBounds_toArray, List.set_cons_zero, List.set_cons_succ, i64_w, i32_w]
                  rfl
                refine one_ (i := 16) (N := some 51) #[true, true, true, true, true, true, true, true, true, true, true, true, true, true, true, true, true, false, false, false] rfl rfl (by kernel_rfl) (by decide) (fun K hK => ?_)
                refine goes_ Try.func26 (by kernel_rfl) rfl #[.int .i64 s3] (by rfl) rfl rfl (by simp only [List.map_toArray, List.map_cons, List.map_nil]; rfl) ?_
                with_reducible refine (cotterref06_wide.calls 11 s3 ws _ T3.out).mono ?_
                rintro e w16_ ⟨rfl, hb_⟩
                refine ⟨_, rfl, ?_⟩
                have HBW := Aside0.mk (below_in HBW.out hb_)
                clear hb_
                refine hK.out _ _ ⟨(SOF.out _ (HBW.out)).1, (SOF.out _ (HBW.out)).2.1, (SOF.out _ (HBW.out)).2.2.1, (SOF.out _ (HBW.out)).2.2.2⟩ (fun hHeld => ?_)
                clear hK K
                refine norm_ (a' := ?_) ?_ ?_
                rotate_left
                · show Act.put _ (some 51) _ = _
                  simp only [Act.put, List.setIfInBounds_toArray, List.set_cons_zero, List.set_cons_succ, i64_w, i32_w]
                  rfl
                exact norm_ (by simp only [putAll, Act.put, List.setIfInBounds_toArray, List.set_cons_zero, List.set_cons_succ]) (hCont ((w8).drew).heap.size _ HBW)
              · skip
                refine goes_ Try.func25 (by kernel_rfl) rfl #[.string s2] (by rfl) rfl rfl (by simp only [List.map_toArray, List.map_cons, List.map_nil]; rfl) ?_
                with_reducible refine (cotterref06_text.calls 10 s2 ts _ T2.out).mono ?_
                rintro e w12_ ⟨rfl, hb_⟩
                refine ⟨_, rfl, ?_⟩
                have HBW := Aside0.mk (below_in HBW.out hb_)
                have HC := Aside0.mk (pw_cell_below hb_ HC.out)
                clear hb_
                refine hK.out _ _ ⟨(SOF.out _ (HBW.out)).1, (SOF.out _ (HBW.out)).2.1, (SOF.out _ (HBW.out)).2.2.1, (SOF.out _ (HBW.out)).2.2.2⟩ (fun hHeld => ?_)
                clear hK K
                refine norm_ (a' := ?_) ?_ ?_
                rotate_left
                · show Act.put _ (some 47) _ = _
                  simp only [Act.put, List.setIfInBounds_toArray, List.set_cons_zero, List.set_cons_succ, i64_w, i32_w]
                  rfl
                refine two_ (i := 8) (j := 16) (Ni := some 43) (Nj := some 51) #[true, true, true, true, true, true, true, true, true, false, true, true, true, false, true, true, false, false, false, false] #[true, true, true, true, true, true, true, true, false, false, true, true, true, false, true, true, true, false, false, false] rfl rfl rfl rfl (by kernel_rfl) (by decide) (by decide) (fun K hK => ?_) (fun K hK => ?_)
                · skip
                  have hc_ : w12_.cell? ⟨w8.heap.size, 0, none⟩ = some (.int .u8 (IntKind.u8.wrap s1)) := HC.out
                  refine value_ (w1 := w12_) (v := .string os) (by rfl) rfl ?_ ?_
                  · go_simp
                  clear hc_ HC
                  obtain ⟨w8_, hA_⟩ : ∃ y, y = w12_ := ⟨_, rfl⟩
                  rw [← hA_] at HBW ⊢
                  clear hA_
                  refine hK.out _ _ ⟨(SOF.out _ (HBW.out)).1, (SOF.out _ (HBW.out)).2.1, (SOF.out _ (HBW.out)).2.2.1, (SOF.out _ (HBW.out)).2.2.2⟩ (fun hHeld => ?_)
                  clear hK K
                  refine norm_ (a' := ?_) ?_ ?_
                  rotate_left
                  · show Act.put _ (some 43) _ = _
                    simp only [Act.put, List.setIfInBounds_toArray, List.set_cons_zero, List.set_cons_succ, i64_w, i32_w]
                    rfl
                  refine pure_ (i := 9) (N := some 44) (v := ?_) (a' := ?_) #[true, true, true, true, true, true, true, true, true, true, true, true, true, false, true, true, false, false, false, false] rfl rfl (by kernel_rfl) (fun _ _ _ h => h) (Or.inl ⟨by rfl, ?_⟩) ?_ ?_
                  rotate_left
                  · intro w'
                    go_simp
                    with_reducible rfl
                  rotate_left
                  · simp only [Act.put, List.setIfInBounds_toArray, List.set_cons_zero, List.set_cons_succ, i64_w, i32_w]
                    rfl
                  refine pure_ (i := 13) (N := some 48) (v := ?_) (a' := ?_) #[true, true, true, true, true, true, true, true, true, true, true, true, true, true, true, true, false, false, false, false] rfl rfl (by kernel_rfl) (fun _ _ _ h => h) (Or.inl ⟨by rfl, ?_⟩) ?_ ?_
                  rotate_left
                  · intro w'
                    go_simp
                    with_reducible rfl
                  rotate_left
                  · simp only [Act.put, List.setIfInBounds_toArray, List.set_cons_zero, List.set_cons_succ, i64_w, i32_w]
                    rfl
                  refine one_ (i := 16) (N := some 51) #[true, true, true, true, true, true, true, true, true, true, true, true, true, true, true, true, true, false, false, false] rfl rfl (by kernel_rfl) (by decide) (fun K hK => ?_)
                  refine goes_ Try.func26 (by kernel_rfl) rfl #[.int .i64 s3] (by rfl) rfl rfl (by simp only [List.map_toArray, List.map_cons, List.map_nil]; rfl) ?_
                  with_reducible refine (cotterref06_wide.calls 11 s3 ws _ T3.out).mono ?_
                  rintro e w16_ ⟨rfl, hb_⟩
                  refine ⟨_, rfl, ?_⟩
                  have HBW := Aside0.mk (below_in HBW.out hb_)
                  clear hb_
                  refine hK.out _ _ ⟨(SOF.out _ (HBW.out)).1, (SOF.out _ (HBW.out)).2.1, (SOF.out _ (HBW.out)).2.2.1, (SOF.out _ (HBW.out)).2.2.2⟩ (fun hHeld => ?_)
                  clear hK K
                  refine norm_ (a' := ?_) ?_ ?_
                  rotate_left
                  · show Act.put _ (some 51) _ = _
                    simp only [Act.put, List.setIfInBounds_toArray, List.set_cons_zero, List.set_cons_succ, i64_w, i32_w]
                    rfl
                  exact norm_ (by simp only [putAll, Act.put, List.setIfInBounds_toArray, List.set_cons_zero, List.set_cons_succ]) (hCont ((w8).drew).heap.size _ HBW)
                · skip
                  refine goes_ Try.func26 (by kernel_rfl) rfl #[.int .i64 s3] (by rfl) rfl rfl (by simp only [List.map_toArray, List.map_cons, List.map_nil]; rfl) ?_
                  with_reducible refine (cotterref06_wide.calls 11 s3 ws _ T3.out).mono ?_
                  rintro e w16_ ⟨rfl, hb_⟩
                  refine ⟨_, rfl, ?_⟩
                  have HBW := Aside0.mk (below_in HBW.out hb_)
                  have HC := Aside0.mk (pw_cell_below hb_ HC.out)
                  clear hb_
                  refine hK.out _ _ ⟨(SOF.out _ (HBW.out)).1, (SOF.out _ (HBW.out)).2.1, (SOF.out _ (HBW.out)).2.2.1, (SOF.out _ (HBW.out)).2.2.2⟩ (fun hHeld => ?_)
                  clear hK K
                  refine norm_ (a' := ?_) ?_ ?_
                  rotate_left
                  · show Act.put _ (some 51) _ = _
                    simp only [Act.put, List.setIfInBounds_toArray, List.set_cons_zero, List.set_cons_succ, i64_w, i32_w]
                    rfl
                  refine one_ (i := 8) (N := some 43) #[true, true, true, true, true, true, true, true, true, false, true, true, true, false, true, true, true, false, false, false] rfl rfl (by kernel_rfl) (by decide) (fun K hK => ?_)
                  have hc_ : w16_.cell? ⟨w8.heap.size, 0, none⟩ = some (.int .u8 (IntKind.u8.wrap s1)) := HC.out
                  refine value_ (w1 := w16_) (v := .string os) (by rfl) rfl ?_ ?_
                  · go_simp
                  clear hc_ HC
                  obtain ⟨w8_, hA_⟩ : ∃ y, y = w16_ := ⟨_, rfl⟩
                  rw [← hA_] at HBW ⊢
                  clear hA_
                  refine hK.out _ _ ⟨(SOF.out _ (HBW.out)).1, (SOF.out _ (HBW.out)).2.1, (SOF.out _ (HBW.out)).2.2.1, (SOF.out _ (HBW.out)).2.2.2⟩ (fun hHeld => ?_)
                  clear hK K
                  refine norm_ (a' := ?_) ?_ ?_
                  rotate_left
                  · show Act.put _ (some 43) _ = _
                    simp only [Act.put, List.setIfInBounds_toArray, List.set_cons_zero, List.set_cons_succ, i64_w, i32_w]
                    rfl
                  refine pure_ (i := 9) (N := some 44) (v := ?_) (a' := ?_) #[true, true, true, true, true, true, true, true, true, true, true, true, true, false, true, true, true, false, false, false] rfl rfl (by kernel_rfl) (fun _ _ _ h => h) (Or.inl ⟨by rfl, ?_⟩) ?_ ?_
                  rotate_left
                  · intro w'
                    go_simp
                    with_reducible rfl
                  rotate_left
                  · simp only [Act.put, List.setIfInBounds_toArray, List.set_cons_zero, List.set_cons_succ, i64_w, i32_w]
                    rfl
                  refine pure_ (i := 13) (N := some 48) (v := ?_) (a' := ?_) #[true, true, true, true, true, true, true, true, true, true, true, true, true, true, true, true, true, false, false, false] rfl rfl (by kernel_rfl) (fun _ _ _ h => h) (Or.inl ⟨by rfl, ?_⟩) ?_ ?_
                  rotate_left
                  · intro w'
                    go_simp
                    with_reducible rfl
                  rotate_left
                  · simp only [Act.put, List.setIfInBounds_toArray, List.set_cons_zero, List.set_cons_succ, i64_w, i32_w]
                    rfl
                  exact norm_ (by simp only [putAll, Act.put, List.setIfInBounds_toArray, List.set_cons_zero, List.set_cons_succ]) (hCont ((w8).drew).heap.size _ HBW)
            · skip
              have hc_ : w7_.cell? ⟨w8.heap.size, 0, none⟩ = some (.int .u8 (IntKind.u8.wrap s1)) := HC.out
              refine value_ (w1 := w7_) (v := .string os) (by rfl) rfl ?_ ?_
              · go_simp
              clear hc_ HC
              obtain ⟨w8_, hA_⟩ : ∃ y, y = w7_ := ⟨_, rfl⟩
              rw [← hA_] at HBW ⊢
              clear hA_
              refine hK.out _ _ ⟨(SOF.out _ (HBW.out)).1, (SOF.out _ (HBW.out)).2.1, (SOF.out _ (HBW.out)).2.2.1, (SOF.out _ (HBW.out)).2.2.2⟩ (fun hHeld => ?_)
              clear hK K
              refine norm_ (a' := ?_) ?_ ?_
              rotate_left
              · show Act.put _ (some 43) _ = _
                simp only [Act.put, List.setIfInBounds_toArray, List.set_cons_zero, List.set_cons_succ, i64_w, i32_w]
                rfl
              refine one_ (i := 3) (N := some 38) #[true, true, true, true, true, true, true, true, true, false, true, true, false, false, true, true, false, false, false, false] rfl rfl (by kernel_rfl) (by decide) (fun K hK => ?_)
              refine goes_ Try.func24 (by kernel_rfl) rfl #[.int .i64 s0] (by rfl) rfl rfl (by simp only [List.map_toArray, List.map_cons, List.map_nil]; rfl) ?_
              with_reducible refine (cotterref06_number.calls 10 s0 ns _ T1.out).mono ?_
              rintro e w3_ ⟨rfl, hb_⟩
              refine ⟨_, rfl, ?_⟩
              have HBW := Aside0.mk (below_in HBW.out hb_)
              clear hb_
              refine hK.out _ _ ⟨(SOF.out _ (HBW.out)).1, (SOF.out _ (HBW.out)).2.1, (SOF.out _ (HBW.out)).2.2.1, (SOF.out _ (HBW.out)).2.2.2⟩ (fun hHeld => ?_)
              clear hK K
              refine norm_ (a' := ?_) ?_ ?_
              rotate_left
              · show Act.put _ (some 38) _ = _
                simp only [Act.put, List.setIfInBounds_toArray, List.set_cons_zero, List.set_cons_succ, i64_w, i32_w]
                rfl
              refine pure_ (i := 9) (N := some 44) (v := ?_) (a' := ?_) #[true, true, true, true, true, true, true, true, true, true, true, true, false, false, true, true, false, false, false, false] rfl rfl (by kernel_rfl) (fun _ _ _ h => h) (Or.inl ⟨by rfl, ?_⟩) ?_ ?_
              rotate_left
              · intro w'
                go_simp
                with_reducible rfl
              rotate_left
              · simp only [Act.put, List.setIfInBounds_toArray, List.set_cons_zero, List.set_cons_succ, i64_w, i32_w]
                rfl
              refine one_ (i := 12) (N := some 47) #[true, true, true, true, true, true, true, true, true, true, true, true, true, false, true, true, false, false, false, false] rfl rfl (by kernel_rfl) (by decide) (fun K hK => ?_)
              refine goes_ Try.func25 (by kernel_rfl) rfl #[.string s2] (by rfl) rfl rfl (by simp only [List.map_toArray, List.map_cons, List.map_nil]; rfl) ?_
              with_reducible refine (cotterref06_text.calls 10 s2 ts _ T2.out).mono ?_
              rintro e w12_ ⟨rfl, hb_⟩
              refine ⟨_, rfl, ?_⟩
              have HBW := Aside0.mk (below_in HBW.out hb_)
              clear hb_
              refine hK.out _ _ ⟨(SOF.out _ (HBW.out)).1, (SOF.out _ (HBW.out)).2.1, (SOF.out _ (HBW.out)).2.2.1, (SOF.out _ (HBW.out)).2.2.2⟩ (fun hHeld => ?_)
              clear hK K
              refine norm_ (a' := ?_) ?_ ?_
              rotate_left
              · show Act.put _ (some 47) _ = _
                simp only [Act.put, List.setIfInBounds_toArray, List.set_cons_zero, List.set_cons_succ, i64_w, i32_w]
                rfl
              refine pure_ (i := 13) (N := some 48) (v := ?_) (a' := ?_) #[true, true, true, true, true, true, true, true, true, true, true, true, true, true, true, true, false, false, false, false] rfl rfl (by kernel_rfl) (fun _ _ _ h => h) (Or.inl ⟨by rfl, ?_⟩) ?_ ?_
              rotate_left
              · intro w'
                go_simp
                with_reducible rfl
              rotate_left
              · simp only [Act.put, List.setIfInBounds_toArray, List.set_cons_zero, List.set_cons_succ, i64_w, i32_w]
                rfl
              refine one_ (i := 16) (N := some 51) #[true, true, true, true, true, true, true, true, true, true, true, true, true, true, true, true, true, false, false, false] rfl rfl (by kernel_rfl) (by decide) (fun K hK => ?_)
              refine goes_ Try.func26 (by kernel_rfl) rfl #[.int .i64 s3] (by rfl) rfl rfl (by simp only [List.map_toArray, List.map_cons, List.map_nil]; rfl) ?_
              with_reducible refine (cotterref06_wide.calls 11 s3 ws _ T3.out).mono ?_
              rintro e w16_ ⟨rfl, hb_⟩
              refine ⟨_, rfl, ?_⟩
              have HBW := Aside0.mk (below_in HBW.out hb_)
              clear hb_
              refine hK.out _ _ ⟨(SOF.out _ (HBW.out)).1, (SOF.out _ (HBW.out)).2.1, (SOF.out _ (HBW.out)).2.2.1, (SOF.out _ (HBW.out)).2.2.2⟩ (fun hHeld => ?_)
              clear hK K
              refine norm_ (a' := ?_) ?_ ?_
              rotate_left
              · show Act.put _ (some 51) _ = _
                simp only [Act.put, List.setIfInBounds_toArray, List.set_cons_zero, List.set_cons_succ, i64_w, i32_w]
                rfl
              exact norm_ (by simp only [putAll, Act.put, List.setIfInBounds_toArray, List.set_cons_zero, List.set_cons_succ]) (hCont ((w8).drew).heap.size _ HBW)
        intro b w8 HBW
        have hHeld : w8.cell? ⟨g, 0, none⟩ = some (.int .i64 s0) ∧ w8.cell? ⟨g, 1, none⟩ = some (.int .i64 s1) ∧ w8.cell? ⟨g, 2, none⟩ = some (.string s2) ∧ w8.cell? ⟨g, 3, none⟩ = some (.int .i64 s3) := ⟨(SOF.out _ (HBW.out)).1, (SOF.out _ (HBW.out)).2.1, (SOF.out _ (HBW.out)).2.2.1, (SOF.out _ (HBW.out)).2.2.2⟩
        refine norm_ (a' := ?_) ?_ ?_
        rotate_left
        · simp only [putAll, Act.put, List.setIfInBounds_toArray, List.set_cons_zero, List.set_cons_succ]
          rfl
        refine pure_ (i := 17) (N := some 52) (v := ?_) (a' := ?_) #[true, true, true, true, true, true, true, true, true, true, true, true, true, true, true, true, true, true, false, false] rfl rfl (by kernel_rfl) (fun _ _ _ h => h) (Or.inl ⟨by rfl, ?_⟩) ?_ ?_
        rotate_left
        · intro w'
          go_simp
          with_reducible rfl
        rotate_left
        · simp only [Act.put, List.setIfInBounds_toArray, List.set_cons_zero, List.set_cons_succ, i64_w, i32_w]
          rfl
        refine one_ (i := 18) (N := some 53) #[true, true, true, true, true, true, true, true, true, true, true, true, true, true, true, true, true, true, true, false] rfl rfl (by kernel_rfl) (by decide) (fun K hK => ?_)
        refine mark_step w.heap.size (by rfl) (.tmp 35) (.tmp 52) 45 9 5 rfl Try.underlying45 Try.underlying9 info5 _ _ ys (ns ++ os ++ ts ++ ws) HY.out (by rfl) (by rfl) (HO8.out.below HBW.out) (Nat.le_trans HB8.out.size HBW.out.size) (by have h1 := HL.out; have h2 := Z.out; omega) ?_
        intro A n1 w9 ho5 hg5
        have HO5 := Aside0.mk ho5
        have HBE := Aside0.mk (ownB_grown (below_in HB8.out HBW.out) (HO8.out.below HBW.out) hg5)
        have BO5 := Aside0.mk ((KeepT.of_grown (HO8.out.below HBW.out) hg5).2 _ _ _ _ (blk_below BO8.out HBW.out) (by decide))
        have B95 := Aside0.mk ((KeepT.of_grown (HO8.out.below HBW.out) hg5).2 _ _ _ _ (blk_below B8.out HBW.out) (by decide))
        clear ho5 hg5
        refine hK.out _ _ ⟨(blk_cell B95.out 0).trans rfl, (blk_cell B95.out 1).trans rfl, (blk_cell B95.out 2).trans rfl, (blk_cell B95.out 3).trans rfl⟩ (fun hHeld => ?_)
        clear hK K
        refine norm_ (a' := ?_) ?_ ?_
        rotate_left
        · show Act.put _ (some 53) _ = _
          simp only [Act.put, List.setIfInBounds_toArray, List.set_cons_zero, List.set_cons_succ, i64_w, i32_w]
          rfl
        refine pure_ (i := 19) (N := some 4) (v := ?_) (a' := ?_) #[true, true, true, true, true, true, true, true, true, true, true, true, true, true, true, true, true, true, true, true] rfl rfl (by kernel_rfl) (fun _ _ _ h => h) (Or.inl ⟨by rfl, ?_⟩) ?_ ?_
        rotate_left
        · intro w'
          go_simp
          with_reducible rfl
        rotate_left
        · simp only [Act.put, List.setIfInBounds_toArray, List.set_cons_zero, List.set_cons_succ, i64_w, i32_w]
          rfl
        refine done_ (by kernel_rfl) ?_
        go_wp2
        go_roundw
        case rel => exact ⟨k + 1, by omega, by first | rfl | go_num, ⟨by rw [← HYS.out]; exact HO5.out⟩, BO5, HBE⟩
        case measure => simp [intOf]; omega
      case neg =>
        obtain rfl : k = l0_3.length := by omega
        rw [List.take_length] at HO
        have hst := HO.out.string Try.underlying45 Try.underlying5 Try.underlying9
        rw [show front COT1 a0_0 l0_1 l0_2 ++ putL l0_3.length ++ relsL l0_3 = form COT1 a0_0 l0_1 l0_2 l0_3 from rfl, HRES.out] at hst
        go_wp2
        go_ret2
        exact ⟨rfl, HB.out⟩
end Go.Proofs.Ytilmndkbloodbaa.M

/-
  Layer 6: the contracts once more, over objects as values (Ob): for the laws' walks. Conditions: the words of data are of 64 bits; texts of at most 2^48 bytes.
-/
namespace Go.Proofs.Ytilmndkbloodbaa.M
open Go.RowKit Go.Proofs.YtilmndkbloodbaaW.PrintWords Go.Proofs.Ytilmndkbloodbaa.Num Go.Proofs.Ytilmndkbloodbaa.Seven Go.Proofs.Ytilmndkbloodbaa.Word1 Go.Proofs.Ytilmndkbloodbaa.Obj
set_option linter.unusedVariables false
set_option linter.unusedSimpArgs false
theorem rwrite_c {w : World} {v : Value} {o : Obj6} (h : Ob w v o) (hw : wordsOk o.2.1) : Calls Try.prog 12 #[v] w fun e w' => e = .returned (.tuple #[.string (wrO o).1, .int .i64 (wrO o).2]) ∧ Below w.heap.size w w' := by
  obtain ⟨A1, c1, A2, c2, A3, c3, rfl, h1, l1, h2, l2, h3, l3⟩ := h
  exact cotterref06_Write.calls o.1 A1 c1 o.2.1 A2 c2 o.2.2.1 A3 c3 o.2.2.2 _ _ w h1 l1 h2 l2 h3 l3 (write_f hw)
theorem check_c {w : World} {v : Value} {o : Obj6} (h : Ob w v o) : Calls Try.prog 13 #[v] w fun e w' => e = .returned (.int .i64 (if mayO o = true then 0 else 1)) ∧ Below w.heap.size w w' := by
  obtain ⟨A1, c1, A2, c2, A3, c3, rfl, h1, l1, h2, l2, h3, l3⟩ := h
  exact objf_Check.calls (2 * o.2.2.2.length + 2) o.1 A1 c1 o.2.1 A2 c2 o.2.2.1 A3 c3 o.2.2.2 _ w h1 l1 h2 l2 h3 l3 (check_f _ _ _ _ h3.2.1 _ (by omega))
theorem rcheck_c {w : World} {v : Value} {o : Obj6} (h : Ob w v o) : Calls Try.prog 14 #[v] w fun e w' => e = .returned (.int .i64 (if mayO o = true then 0 else 1)) ∧ Below w.heap.size w w' := by
  obtain ⟨A1, c1, A2, c2, A3, c3, rfl, h1, l1, h2, l2, h3, l3⟩ := h
  exact cotterref06_Check.calls (1004020 + 2 * o.2.2.2.length) o.1 A1 c1 o.2.1 A2 c2 o.2.2.1 A3 c3 o.2.2.2 _ w h1 l1 h2 l2 h3 l3 (rcheck_f _ _ _ _ _ (by omega) (by omega) h3.2.1)
theorem copy_c {w : World} {v : Value} {o : Obj6} (h : Ob w v o) (z1 : o.2.1.length < 17592186044416) (z2 : o.2.2.1.length < 4398046511104) (z3 : o.2.2.2.length < 3518437208883) : Calls Try.prog 10 #[v] w fun e w' => ∃ v', e = .returned v' ∧ Ob w' v' o ∧ Below w.heap.size w w' := by
  obtain ⟨A1, c1, A2, c2, A3, c3, rfl, h1, l1, h2, l2, h3, l3⟩ := h
  refine (cotterref06_Copy.calls o.1 A1 c1 o.2.1 A2 c2 o.2.2.1 A3 c3 o.2.2.2 o.1 o.2.1 o.2.2.1 o.2.2.2 w h1 l1 h2 l2 h3 l3 ?_).mono fun e w' h => ?_
  · unfold cotterref06_Copy.f
    rw [if_pos (by simpa using z1), if_pos (by simpa using z2), if_pos (by simpa using z3)]
    simp
  · obtain ⟨v1, v2, v3, rfl, k1, k2, k3, hb⟩ := h
    exact ⟨_, rfl, Ob.of_R k1 k2 k3, hb⟩
/-! ### What the laws lean on -/
end Go.Proofs.Ytilmndkbloodbaa.M

/-
  Layer 6: ObjfWrites: the walk. Conditions: the words of data are of 64 bits; the texts are of at most 2^47 bytes.
-/
namespace Go.Proofs.Ytilmndkbloodbaa.M
open Go.RowKit Go.Proofs.YtilmndkbloodbaaW.PrintWords Go.Proofs.YtilmndkbloodbaaW.PrintLast Go.Proofs.Ytilmndkbloodbaa.Num Go.Proofs.Ytilmndkbloodbaa.Seven Go.Proofs.Ytilmndkbloodbaa.Word1 Go.Proofs.Ytilmndkbloodbaa.Obj
set_option linter.unusedVariables false
set_option linter.unusedSimpArgs false
theorem write_is {w : World} {v : Value} {o : Obj6} {x : ByteArray} {n : Int} (h : Ob w v o) (hw : wordsOk o.2.1) (hx : wrO o = (x, n)) : Calls Try.prog 11 #[v] w fun e w' => e = .returned (.tuple #[.string x, .int .i64 n]) ∧ Below w.heap.size w w' := by
  have := write_c h hw
  rw [hx] at this
  exact this
theorem rwrite_is {w : World} {v : Value} {o : Obj6} {x : ByteArray} {n : Int} (h : Ob w v o) (hw : wordsOk o.2.1) (hx : wrO o = (x, n)) : Calls Try.prog 12 #[v] w fun e w' => e = .returned (.tuple #[.string x, .int .i64 n]) ∧ Below w.heap.size w w' := by
  have := rwrite_c h hw
  rw [hx] at this
  exact this
theorem check_is {w : World} {v : Value} {o : Obj6} {c : Int} (h : Ob w v o) (hx : (if mayO o = true then (0 : Int) else 1) = c) : Calls Try.prog 13 #[v] w fun e w' => e = .returned (.int .i64 c) ∧ Below w.heap.size w w' := by
  have := check_c h
  rw [hx] at this
  exact this
theorem rcheck_is {w : World} {v : Value} {o : Obj6} {c : Int} (h : Ob w v o) (hx : (if mayO o = true then (0 : Int) else 1) = c) : Calls Try.prog 14 #[v] w fun e w' => e = .returned (.int .i64 c) ∧ Below w.heap.size w w' := by
  have := rcheck_c h
  rw [hx] at this
  exact this
set_option maxHeartbeats 4000000 in
set_option maxRecDepth 100000 in
theorem writes1 {w : World} {v : Value} {o : Obj6} (ha : Ob w v o) (hw : wordsOk o.2.1) (zz : o.2.1.length < 17592186044416 ∧ o.2.2.1.length < 4398046511104 ∧ o.2.2.2.length < 3518437208883) (hsm : decide (o.2.2.1.length ≤ 200) = false) : Calls Try.prog 3 #[v] w fun e w' => e = .returned (.bool true) ∧ Below w.heap.size w w' := by
  obtain ⟨Aa1, ca1, Aa2, ca2, Aa3, ca3, rfl, ha0⟩ := ha.parts
  have Ha := Aside0.mk ha0
  clear ha ha0
  have HSM := Aside0.mk hsm
  clear hsm
  have T1 : True := trivial
  have T2 : True := trivial
  go_enter Try.func3, Try.ntmps3
  go_wp2_with (first
    | (clear T1; go_at_call 8; (with_reducible refine (small_c (Ob.more Ha.out _) false HSM.out).mono ?_); rintro e w1 ⟨rfl, hb⟩
       have HB1 := Aside0.mk (below_in (below_alloc (Below.refl w.heap.size w) _) hb)
       have HOa1 := Aside0.mk (Ob.below (Ob.more Ha.out _) hb)
       have BKa1 : Aside0 (w1.heap[w.heap.size]? = some (.cells #[(.string o.1), (.slice Aa1 o.2.1.length ca1), (.slice Aa2 o.2.2.1.length ca2), (.slice Aa3 o.2.2.2.length ca3)] 26 (0, 0))) := Aside0.mk (blk_below (blk_new w _) hb)
       have ka1_0 : w1.cell? ⟨w.heap.size, 0, none⟩ = some (.string o.1) := (blk_cell BKa1.out 0).trans rfl
       have ka1_1 : w1.cell? ⟨w.heap.size, 1, none⟩ = some (.slice Aa1 o.2.1.length ca1) := (blk_cell BKa1.out 1).trans rfl
       have ka1_2 : w1.cell? ⟨w.heap.size, 2, none⟩ = some (.slice Aa2 o.2.2.1.length ca2) := (blk_cell BKa1.out 2).trans rfl
       have ka1_3 : w1.cell? ⟨w.heap.size, 3, none⟩ = some (.slice Aa3 o.2.2.2.length ca3) := (blk_cell BKa1.out 3).trans rfl
       have lta1 := blk_lt BKa1.out
       clear hb)
    | (clear T2; go_at_call 9; (with_reducible refine (live_c _).mono ?_); rintro e w2 ⟨rfl, hb⟩
       have HB2 := Aside0.mk (below_in HB1.out hb)
       have HOa2 := Aside0.mk (Ob.below HOa1.out hb)
       have BKa2 : Aside0 (w2.heap[w.heap.size]? = some (.cells #[(.string o.1), (.slice Aa1 o.2.1.length ca1), (.slice Aa2 o.2.2.1.length ca2), (.slice Aa3 o.2.2.2.length ca3)] 26 (0, 0))) := Aside0.mk (blk_below BKa1.out hb)
       have ka2_0 : w2.cell? ⟨w.heap.size, 0, none⟩ = some (.string o.1) := (blk_cell BKa2.out 0).trans rfl
       have ka2_1 : w2.cell? ⟨w.heap.size, 1, none⟩ = some (.slice Aa1 o.2.1.length ca1) := (blk_cell BKa2.out 1).trans rfl
       have ka2_2 : w2.cell? ⟨w.heap.size, 2, none⟩ = some (.slice Aa2 o.2.2.1.length ca2) := (blk_cell BKa2.out 2).trans rfl
       have ka2_3 : w2.cell? ⟨w.heap.size, 3, none⟩ = some (.slice Aa3 o.2.2.2.length ca3) := (blk_cell BKa2.out 3).trans rfl
       have lta2 := blk_lt BKa2.out
       clear hb HB1 HOa1 ka1_0 ka1_1 ka1_2 ka1_3 lta1 BKa1))
  go_ret
  exact ⟨rfl, HB2.out⟩
set_option maxHeartbeats 4000000 in
set_option maxRecDepth 100000 in
theorem writes2 {w : World} {v : Value} {o : Obj6} (ha : Ob w v o) (hw : wordsOk o.2.1) (zz : o.2.1.length < 17592186044416 ∧ o.2.2.1.length < 4398046511104 ∧ o.2.2.2.length < 3518437208883) (hsm : decide (o.2.2.1.length ≤ 200) = true) : Calls Try.prog 3 #[v] w fun e w' => e = .returned (.bool true) ∧ Below w.heap.size w w' := by
  obtain ⟨Aa1, ca1, Aa2, ca2, Aa3, ca3, rfl, ha0⟩ := ha.parts
  have Ha := Aside0.mk ha0
  clear ha ha0
  obtain ⟨x, n, hx⟩ : ∃ x n, wrO o = (x, n) := ⟨_, _, rfl⟩
  obtain ⟨c, cc⟩ : ∃ c : Int, (if mayO o = true then (0 : Int) else 1) = c := ⟨_, rfl⟩
  have HSM := Aside0.mk hsm
  have HW := Aside0.mk hw
  have ZZ := Aside0.mk zz
  have HX := Aside0.mk hx
  have CC := Aside0.mk cc
  clear hsm hw zz hx cc
  have T1 : True := trivial
  have T2 : True := trivial
  have T3 : True := trivial
  have T4 : True := trivial
  go_enter Try.func3, Try.ntmps3
  go_wp2_with (first
    | (clear T1; go_at_call 8; (with_reducible refine (small_c (Ob.more Ha.out _) true HSM.out).mono ?_); rintro e w1 ⟨rfl, hb⟩
       have HB1 := Aside0.mk (below_in (below_alloc (Below.refl w.heap.size w) _) hb)
       have HOa1 := Aside0.mk (Ob.below (Ob.more Ha.out _) hb)
       have BKa1 : Aside0 (w1.heap[w.heap.size]? = some (.cells #[(.string o.1), (.slice Aa1 o.2.1.length ca1), (.slice Aa2 o.2.2.1.length ca2), (.slice Aa3 o.2.2.2.length ca3)] 26 (0, 0))) := Aside0.mk (blk_below (blk_new w _) hb)
       have ka1_0 : w1.cell? ⟨w.heap.size, 0, none⟩ = some (.string o.1) := (blk_cell BKa1.out 0).trans rfl
       have ka1_1 : w1.cell? ⟨w.heap.size, 1, none⟩ = some (.slice Aa1 o.2.1.length ca1) := (blk_cell BKa1.out 1).trans rfl
       have ka1_2 : w1.cell? ⟨w.heap.size, 2, none⟩ = some (.slice Aa2 o.2.2.1.length ca2) := (blk_cell BKa1.out 2).trans rfl
       have ka1_3 : w1.cell? ⟨w.heap.size, 3, none⟩ = some (.slice Aa3 o.2.2.2.length ca3) := (blk_cell BKa1.out 3).trans rfl
       have lta1 := blk_lt BKa1.out
       clear hb)
    | (clear T2; go_at_call 10; (with_reducible refine (copy_c HOa1.out ZZ.out.1 ZZ.out.2.1 ZZ.out.2.2).mono ?_); rintro e w2 ⟨v2, rfl, ho, hb⟩
       obtain ⟨Ap1, cp1, Ap2, cp2, Ap3, cp3, rfl, ho2⟩ := ho.parts
       have HN2 := Aside0.mk ho2
       clear ho ho2
       have HB2 := Aside0.mk (below_in HB1.out hb)
       have HOa2 := Aside0.mk (Ob.below HOa1.out hb)
       have BKa2 : Aside0 (w2.heap[w.heap.size]? = some (.cells #[(.string o.1), (.slice Aa1 o.2.1.length ca1), (.slice Aa2 o.2.2.1.length ca2), (.slice Aa3 o.2.2.2.length ca3)] 26 (0, 0))) := Aside0.mk (blk_below BKa1.out hb)
       have ka2_0 : w2.cell? ⟨w.heap.size, 0, none⟩ = some (.string o.1) := (blk_cell BKa2.out 0).trans rfl
       have ka2_1 : w2.cell? ⟨w.heap.size, 1, none⟩ = some (.slice Aa1 o.2.1.length ca1) := (blk_cell BKa2.out 1).trans rfl
       have ka2_2 : w2.cell? ⟨w.heap.size, 2, none⟩ = some (.slice Aa2 o.2.2.1.length ca2) := (blk_cell BKa2.out 2).trans rfl
       have ka2_3 : w2.cell? ⟨w.heap.size, 3, none⟩ = some (.slice Aa3 o.2.2.2.length ca3) := (blk_cell BKa2.out 3).trans rfl
       have lta2 := blk_lt BKa2.out
       clear hb HB1 HOa1 ka1_0 ka1_1 ka1_2 ka1_3 lta1 BKa1)
    | (clear T3; go_at_call 11; (with_reducible refine (write_is (Ob.more HN2.out _) HW.out HX.out).mono ?_); rintro e w3 ⟨rfl, hb⟩
       have HB3 := Aside0.mk (below_in (below_alloc HB2.out _) hb)
       have HOa3 := Aside0.mk (Ob.below (Ob.more HOa2.out _) hb)
       have HOp3 := Aside0.mk (Ob.below (Ob.more HN2.out _) hb)
       have BKa3 : Aside0 (w3.heap[w.heap.size]? = some (.cells #[(.string o.1), (.slice Aa1 o.2.1.length ca1), (.slice Aa2 o.2.2.1.length ca2), (.slice Aa3 o.2.2.2.length ca3)] 26 (0, 0))) := Aside0.mk (blk_below (blk_alloc BKa2.out _) hb)
       have ka3_0 : w3.cell? ⟨w.heap.size, 0, none⟩ = some (.string o.1) := (blk_cell BKa3.out 0).trans rfl
       have ka3_1 : w3.cell? ⟨w.heap.size, 1, none⟩ = some (.slice Aa1 o.2.1.length ca1) := (blk_cell BKa3.out 1).trans rfl
       have ka3_2 : w3.cell? ⟨w.heap.size, 2, none⟩ = some (.slice Aa2 o.2.2.1.length ca2) := (blk_cell BKa3.out 2).trans rfl
       have ka3_3 : w3.cell? ⟨w.heap.size, 3, none⟩ = some (.slice Aa3 o.2.2.2.length ca3) := (blk_cell BKa3.out 3).trans rfl
       have lta3 := blk_lt BKa3.out
       have BKp3 : Aside0 (w3.heap[w2.heap.size]? = some (.cells #[(.string o.1), (.slice Ap1 o.2.1.length cp1), (.slice Ap2 o.2.2.1.length cp2), (.slice Ap3 o.2.2.2.length cp3)] 26 (0, 0))) := Aside0.mk (blk_below (blk_new w2 _) hb)
       have kp3_0 : w3.cell? ⟨w2.heap.size, 0, none⟩ = some (.string o.1) := (blk_cell BKp3.out 0).trans rfl
       have kp3_1 : w3.cell? ⟨w2.heap.size, 1, none⟩ = some (.slice Ap1 o.2.1.length cp1) := (blk_cell BKp3.out 1).trans rfl
       have kp3_2 : w3.cell? ⟨w2.heap.size, 2, none⟩ = some (.slice Ap2 o.2.2.1.length cp2) := (blk_cell BKp3.out 2).trans rfl
       have kp3_3 : w3.cell? ⟨w2.heap.size, 3, none⟩ = some (.slice Ap3 o.2.2.2.length cp3) := (blk_cell BKp3.out 3).trans rfl
       have ltp3 := blk_lt BKp3.out
       clear hb HB2 HOa2 ka2_0 ka2_1 ka2_2 ka2_3 lta2 BKa2 HN2)
    | (clear T4; go_at_call 12; (with_reducible refine (rwrite_is HOa3.out HW.out HX.out).mono ?_); rintro e w4 ⟨rfl, hb⟩
       have HB4 := Aside0.mk (below_in HB3.out hb)
       have HOa4 := Aside0.mk (Ob.below HOa3.out hb)
       have HOp4 := Aside0.mk (Ob.below HOp3.out hb)
       have BKa4 : Aside0 (w4.heap[w.heap.size]? = some (.cells #[(.string o.1), (.slice Aa1 o.2.1.length ca1), (.slice Aa2 o.2.2.1.length ca2), (.slice Aa3 o.2.2.2.length ca3)] 26 (0, 0))) := Aside0.mk (blk_below BKa3.out hb)
       have ka4_0 : w4.cell? ⟨w.heap.size, 0, none⟩ = some (.string o.1) := (blk_cell BKa4.out 0).trans rfl
       have ka4_1 : w4.cell? ⟨w.heap.size, 1, none⟩ = some (.slice Aa1 o.2.1.length ca1) := (blk_cell BKa4.out 1).trans rfl
       have ka4_2 : w4.cell? ⟨w.heap.size, 2, none⟩ = some (.slice Aa2 o.2.2.1.length ca2) := (blk_cell BKa4.out 2).trans rfl
       have ka4_3 : w4.cell? ⟨w.heap.size, 3, none⟩ = some (.slice Aa3 o.2.2.2.length ca3) := (blk_cell BKa4.out 3).trans rfl
       have lta4 := blk_lt BKa4.out
       have BKp4 : Aside0 (w4.heap[w2.heap.size]? = some (.cells #[(.string o.1), (.slice Ap1 o.2.1.length cp1), (.slice Ap2 o.2.2.1.length cp2), (.slice Ap3 o.2.2.2.length cp3)] 26 (0, 0))) := Aside0.mk (blk_below BKp3.out hb)
       have kp4_0 : w4.cell? ⟨w2.heap.size, 0, none⟩ = some (.string o.1) := (blk_cell BKp4.out 0).trans rfl
       have kp4_1 : w4.cell? ⟨w2.heap.size, 1, none⟩ = some (.slice Ap1 o.2.1.length cp1) := (blk_cell BKp4.out 1).trans rfl
       have kp4_2 : w4.cell? ⟨w2.heap.size, 2, none⟩ = some (.slice Ap2 o.2.2.1.length cp2) := (blk_cell BKp4.out 2).trans rfl
       have kp4_3 : w4.cell? ⟨w2.heap.size, 3, none⟩ = some (.slice Ap3 o.2.2.2.length cp3) := (blk_cell BKp4.out 3).trans rfl
       have ltp4 := blk_lt BKp4.out
       clear hb HB3 HOa3 HOp3 ka3_0 ka3_1 ka3_2 ka3_3 lta3 BKa3 kp3_0 kp3_1 kp3_2 kp3_3 ltp3 BKp3))
  have HBW := Aside0.mk (below_drew1 (Below.refl w4.heap.size w4))
  refine start_ (n := 24) (S := fun w' => w'.cell? ⟨w.heap.size, 0, none⟩ = some (.string o.1) ∧ w'.cell? ⟨w.heap.size, 1, none⟩ = some (.slice Aa1 o.2.1.length ca1) ∧ w'.cell? ⟨w.heap.size, 2, none⟩ = some (.slice Aa2 o.2.2.1.length ca2) ∧ w'.cell? ⟨w.heap.size, 3, none⟩ = some (.slice Aa3 o.2.2.2.length ca3) ∧ w'.cell? ⟨w2.heap.size, 0, none⟩ = some (.string o.1) ∧ w'.cell? ⟨w2.heap.size, 1, none⟩ = some (.slice Ap1 o.2.1.length cp1) ∧ w'.cell? ⟨w2.heap.size, 2, none⟩ = some (.slice Ap2 o.2.2.1.length cp2) ∧ w'.cell? ⟨w2.heap.size, 3, none⟩ = some (.slice Ap3 o.2.2.2.length cp3)) (ds := []) #[false, false, false, false, false, false, false, false, false, false, false, false, false, false, false, false, false, false, false, false, false, false, false, false] (by kernel_rfl) rfl rfl ⟨(pw_cell_below (below_drew1 (Below.refl _ _)) ka4_0), (pw_cell_below (below_drew1 (Below.refl _ _)) ka4_1), (pw_cell_below (below_drew1 (Below.refl _ _)) ka4_2), (pw_cell_below (below_drew1 (Below.refl _ _)) ka4_3), (pw_cell_below (below_drew1 (Below.refl _ _)) kp4_0), (pw_cell_below (below_drew1 (Below.refl _ _)) kp4_1), (pw_cell_below (below_drew1 (Below.refl _ _)) kp4_2), (pw_cell_below (below_drew1 (Below.refl _ _)) kp4_3)⟩ (fun hHeld => ?_)
  refine pure_ (i := 0) (N := some 24) (v := ?_) (a' := ?_) #[true, false, false, false, false, false, false, false, false, false, false, false, false, false, false, false, false, false, false, false, false, false, false, false] rfl rfl (by kernel_rfl) (fun _ _ _ h => h) (Or.inl ⟨by rfl, ?_⟩) ?_ ?_
  rotate_left
  · intro w'
    go_simp
    with_reducible rfl
  rotate_left
  · simp only [Act.put, List.setIfInBounds_toArray, List.set_cons_zero, List.set_cons_succ, i64_w, i32_w]
    rfl
  refine pure_ (i := 1) (N := some 25) (v := ?_) (a' := ?_) #[true, true, false, false, false, false, false, false, false, false, false, false, false, false, false, false, false, false, false, false, false, false, false, false] rfl rfl (by kernel_rfl) (fun _ _ _ h => h) (Or.inl ⟨by rfl, ?_⟩) ?_ ?_
  rotate_left
  · intro w'
    go_simp
    with_reducible rfl
  rotate_left
  · simp only [Act.put, List.setIfInBounds_toArray, List.set_cons_zero, List.set_cons_succ, i64_w, i32_w]
    rfl
  refine pure_ (i := 2) (N := some 26) (v := ?_) (a' := ?_) #[true, true, true, false, false, false, false, false, false, false, false, false, false, false, false, false, false, false, false, false, false, false, false, false] rfl rfl (by kernel_rfl) (fun _ _ _ h => h) (Or.inl ⟨by rfl, ?_⟩) ?_ ?_
  rotate_left
  · intro w'
    go_simp
    with_reducible rfl
  rotate_left
  · simp only [Act.put, List.setIfInBounds_toArray, List.set_cons_zero, List.set_cons_succ, i64_w, i32_w]
    rfl
  refine pure_ (i := 3) (N := some 27) (v := ?_) (a' := ?_) #[true, true, true, true, false, false, false, false, false, false, false, false, false, false, false, false, false, false, false, false, false, false, false, false] rfl rfl (by kernel_rfl) (fun _ _ _ h => h) (Or.inl ⟨by rfl, ?_⟩) ?_ ?_
  rotate_left
  · intro w'
    go_simp
    with_reducible rfl
  rotate_left
  · simp only [Act.put, List.setIfInBounds_toArray, List.set_cons_zero, List.set_cons_succ, i64_w, i32_w]
    rfl
  refine pure_ (i := 4) (N := some 28) (v := ?_) (a' := ?_) #[true, true, true, true, true, false, false, false, false, false, false, false, false, false, false, false, false, false, false, false, false, false, false, false] rfl rfl (by kernel_rfl) (fun _ _ _ h => h) (Or.inl ⟨by rfl, ?_⟩) ?_ ?_
  rotate_left
  · intro w'
    go_simp
    with_reducible rfl
  rotate_left
  · simp only [Act.put, List.setIfInBounds_toArray, List.set_cons_zero, List.set_cons_succ, i64_w, i32_w]
    rfl
  refine pure_ (i := 5) (N := some 29) (v := ?_) (a' := ?_) #[true, true, true, true, true, true, false, false, false, false, false, false, false, false, false, false, false, false, false, false, false, false, false, false] rfl rfl (by kernel_rfl) (fun _ _ _ h => h) (Or.inl ⟨by rfl, ?_⟩) ?_ ?_
  rotate_left
  · intro w'
    go_simp
    with_reducible rfl
  rotate_left
  · simp only [Act.put, List.setIfInBounds_toArray, List.set_cons_zero, List.set_cons_succ, i64_w, i32_w]
    rfl
  refine pure_ (i := 6) (N := some 30) (v := ?_) (a' := ?_) #[true, true, true, true, true, true, true, false, false, false, false, false, false, false, false, false, false, false, false, false, false, false, false, false] rfl rfl (by kernel_rfl) (fun _ _ _ h => h) (Or.inl ⟨by rfl, ?_⟩) ?_ ?_
  rotate_left
  · intro w'
    go_simp
    with_reducible rfl
  rotate_left
  · simp only [Act.put, List.setIfInBounds_toArray, List.set_cons_zero, List.set_cons_succ, i64_w, i32_w]
    rfl
  refine pure_ (i := 7) (N := some 31) (v := ?_) (a' := ?_) #[true, true, true, true, true, true, true, true, false, false, false, false, false, false, false, false, false, false, false, false, false, false, false, false] rfl rfl (by kernel_rfl) (fun _ _ _ h => h) (Or.inl ⟨by rfl, ?_⟩) ?_ ?_
  rotate_left
  · intro w'
    go_simp
    with_reducible rfl
  rotate_left
  · simp only [Act.put, List.setIfInBounds_toArray, List.set_cons_zero, List.set_cons_succ, i64_w, i32_w]
    rfl
  refine pure_ (i := 8) (N := some 32) (v := ?_) (a' := ?_) #[true, true, true, true, true, true, true, true, true, false, false, false, false, false, false, false, false, false, false, false, false, false, false, false] rfl rfl (by kernel_rfl) (fun _ _ _ h => h) (Or.inl ⟨by rfl, ?_⟩) ?_ ?_
  rotate_left
  · intro w'
    go_simp
    with_reducible rfl
  rotate_left
  · simp only [Act.put, List.setIfInBounds_toArray, List.set_cons_zero, List.set_cons_succ, i64_w, i32_w]
    rfl
  refine take_ (i := 9) (N := some 33) (v := ?_) (a' := ?_) #[true, true, true, true, true, true, true, true, true, true, false, false, false, false, false, false, false, false, false, false, false, false, false, false] rfl rfl (by kernel_rfl) (fun _ _ _ h => h) (Or.inl ⟨by rfl, ?_⟩) hHeld ?_ ?_
  rotate_left
  · rintro w' ⟨s0, s1, s2, s3, s4, s5, s6, s7⟩
    go_simp
    with_reducible rfl
  rotate_left
  · simp only [Act.put, List.setIfInBounds_toArray, List.set_cons_zero, List.set_cons_succ, i64_w, i32_w]
    rfl
  refine take_ (i := 11) (N := some 35) (v := ?_) (a' := ?_) #[true, true, true, true, true, true, true, true, true, true, false, true, false, false, false, false, false, false, false, false, false, false, false, false] rfl rfl (by kernel_rfl) (fun _ _ _ h => h) (Or.inl ⟨by rfl, ?_⟩) hHeld ?_ ?_
  rotate_left
  · rintro w' ⟨s0, s1, s2, s3, s4, s5, s6, s7⟩
    go_simp
    with_reducible rfl
  rotate_left
  · simp only [Act.put, List.setIfInBounds_toArray, List.set_cons_zero, List.set_cons_succ, i64_w, i32_w]
    rfl
  refine one_ (i := 10) (N := some 34) #[true, true, true, true, true, true, true, true, true, true, true, true, false, false, false, false, false, false, false, false, false, false, false, false] rfl rfl (by kernel_rfl) (by decide) (fun K hK => ?_)
  refine goes_ Try.func13 (by kernel_rfl) rfl #[.agg #[(.string o.1), (.slice Ap1 o.2.1.length cp1), (.slice Ap2 o.2.2.1.length cp2), (.slice Ap3 o.2.2.2.length cp3)]] (by rfl) rfl rfl (by simp only [List.map_toArray, List.map_cons, List.map_nil]; rfl) ?_
  with_reducible refine (check_is (Ob.below HOp4.out HBW.out) CC.out).mono ?_
  rintro e wa ⟨rfl, hb_⟩
  refine ⟨_, rfl, ?_⟩
  have HBW := Aside0.mk (below_in HBW.out hb_)
  clear hb_
  refine hK.out _ _ ⟨(pw_cell_below HBW.out ka4_0), (pw_cell_below HBW.out ka4_1), (pw_cell_below HBW.out ka4_2), (pw_cell_below HBW.out ka4_3), (pw_cell_below HBW.out kp4_0), (pw_cell_below HBW.out kp4_1), (pw_cell_below HBW.out kp4_2), (pw_cell_below HBW.out kp4_3)⟩ (fun hHeld => ?_)
  clear hK K
  refine norm_ (a' := ?_) ?_ ?_
  rotate_left
  · show Act.put _ (some 34) _ = _
    simp only [Act.put, List.setIfInBounds_toArray, List.set_cons_zero, List.set_cons_succ, i64_w, i32_w]
    rfl
  refine one_ (i := 12) (N := some 36) #[true, true, true, true, true, true, true, true, true, true, true, true, true, false, false, false, false, false, false, false, false, false, false, false] rfl rfl (by kernel_rfl) (by decide) (fun K hK => ?_)
  refine goes_ Try.func14 (by kernel_rfl) rfl #[.agg #[(.string o.1), (.slice Aa1 o.2.1.length ca1), (.slice Aa2 o.2.2.1.length ca2), (.slice Aa3 o.2.2.2.length ca3)]] (by rfl) rfl rfl (by simp only [List.map_toArray, List.map_cons, List.map_nil]; rfl) ?_
  with_reducible refine (rcheck_is (Ob.below HOa4.out HBW.out) CC.out).mono ?_
  rintro e wb ⟨rfl, hb_⟩
  refine ⟨_, rfl, ?_⟩
  have HBW := Aside0.mk (below_in HBW.out hb_)
  clear hb_
  refine hK.out _ _ ⟨(pw_cell_below HBW.out ka4_0), (pw_cell_below HBW.out ka4_1), (pw_cell_below HBW.out ka4_2), (pw_cell_below HBW.out ka4_3), (pw_cell_below HBW.out kp4_0), (pw_cell_below HBW.out kp4_1), (pw_cell_below HBW.out kp4_2), (pw_cell_below HBW.out kp4_3)⟩ (fun hHeld => ?_)
  clear hK K
  refine norm_ (a' := ?_) ?_ ?_
  rotate_left
  · show Act.put _ (some 36) _ = _
    simp only [Act.put, List.setIfInBounds_toArray, List.set_cons_zero, List.set_cons_succ, i64_w, i32_w]
    rfl
  refine pure_ (i := 13) (N := some 37) (v := ?_) (a' := ?_) #[true, true, true, true, true, true, true, true, true, true, true, true, true, true, false, false, false, false, false, false, false, false, false, false] rfl rfl (by kernel_rfl) (fun _ _ _ h => h) (Or.inl ⟨by rfl, ?_⟩) ?_ ?_
  rotate_left
  · intro w'
    go_simp
    with_reducible rfl
  rotate_left
  · simp only [Act.put, List.setIfInBounds_toArray, List.set_cons_zero, List.set_cons_succ, i64_w, i32_w]
    rfl
  refine pure_ (i := 14) (N := some 38) (v := ?_) (a' := ?_) #[true, true, true, true, true, true, true, true, true, true, true, true, true, true, true, false, false, false, false, false, false, false, false, false] rfl rfl (by kernel_rfl) (fun _ _ _ h => h) (Or.inl ⟨by rfl, ?_⟩) ?_ ?_
  rotate_left
  · intro w'
    go_simp
    with_reducible rfl
  rotate_left
  · simp only [Act.put, List.setIfInBounds_toArray, List.set_cons_zero, List.set_cons_succ, i64_w, i32_w]
    rfl
  refine pure_ (i := 15) (N := some 39) (v := ?_) (a' := ?_) #[true, true, true, true, true, true, true, true, true, true, true, true, true, true, true, true, false, false, false, false, false, false, false, false] rfl rfl (by kernel_rfl) (fun _ _ _ h => h) (Or.inl ⟨by rfl, ?_⟩) ?_ ?_
  rotate_left
  · intro w'
    go_simp
    with_reducible rfl
  rotate_left
  · simp only [Act.put, List.setIfInBounds_toArray, List.set_cons_zero, List.set_cons_succ, i64_w, i32_w]
    rfl
  refine take_ (i := 16) (N := some 40) (v := ?_) (a' := ?_) #[true, true, true, true, true, true, true, true, true, true, true, true, true, true, true, true, true, false, false, false, false, false, false, false] rfl rfl (by kernel_rfl) (fun _ _ _ h => h) (Or.inl ⟨by rfl, ?_⟩) hHeld ?_ ?_
  rotate_left
  · rintro w' ⟨s0, s1, s2, s3, s4, s5, s6, s7⟩
    go_simp
    with_reducible rfl
  rotate_left
  · simp only [Act.put, List.setIfInBounds_toArray, List.set_cons_zero, List.set_cons_succ, i64_w, i32_w]
    rfl
  refine take_ (i := 17) (N := some 41) (v := ?_) (a' := ?_) #[true, true, true, true, true, true, true, true, true, true, true, true, true, true, true, true, true, true, false, false, false, false, false, false] rfl rfl (by kernel_rfl) (fun _ _ _ h => h) (Or.inl ⟨by rfl, ?_⟩) hHeld ?_ ?_
  rotate_left
  · rintro w' ⟨s0, s1, s2, s3, s4, s5, s6, s7⟩
    go_simp
    with_reducible rfl
  rotate_left
  · simp only [Act.put, List.setIfInBounds_toArray, List.set_cons_zero, List.set_cons_succ, i64_w, i32_w]
    rfl
  refine one_ (i := 18) (N := some 42) #[true, true, true, true, true, true, true, true, true, true, true, true, true, true, true, true, true, true, true, false, false, false, false, false] rfl rfl (by kernel_rfl) (by decide) (fun K hK => ?_)
  refine goes_ Try.func15 (by kernel_rfl) rfl #[.agg #[(.string o.1), (.slice Ap1 o.2.1.length cp1), (.slice Ap2 o.2.2.1.length cp2), (.slice Ap3 o.2.2.2.length cp3)], .agg #[(.string o.1), (.slice Aa1 o.2.1.length ca1), (.slice Aa2 o.2.2.1.length ca2), (.slice Aa3 o.2.2.2.length ca3)]] (by rfl) rfl rfl (by simp only [List.map_toArray, List.map_cons, List.map_nil]; rfl) ?_
  with_reducible refine (same_yes (Ob.below HOp4.out HBW.out) (Ob.below HOa4.out HBW.out) (by have := ZZ.out; omega) (by have := ZZ.out; omega) (by have := ZZ.out; omega) rfl).mono ?_
  rintro e wc ⟨rfl, hb_⟩
  refine ⟨_, rfl, ?_⟩
  have HBW := Aside0.mk (below_in HBW.out hb_)
  clear hb_
  refine hK.out _ _ ⟨(pw_cell_below HBW.out ka4_0), (pw_cell_below HBW.out ka4_1), (pw_cell_below HBW.out ka4_2), (pw_cell_below HBW.out ka4_3), (pw_cell_below HBW.out kp4_0), (pw_cell_below HBW.out kp4_1), (pw_cell_below HBW.out kp4_2), (pw_cell_below HBW.out kp4_3)⟩ (fun hHeld => ?_)
  clear hK K
  refine norm_ (a' := ?_) ?_ ?_
  rotate_left
  · show Act.put _ (some 42) _ = _
    simp only [Act.put, List.setIfInBounds_toArray, List.set_cons_zero, List.set_cons_succ, i64_w, i32_w]
    rfl
  refine pure_ (i := 19) (N := some 43) (v := ?_) (a' := ?_) #[true, true, true, true, true, true, true, true, true, true, true, true, true, true, true, true, true, true, true, true, false, false, false, false] rfl rfl (by kernel_rfl) (fun _ _ _ h => h) (Or.inl ⟨by rfl, ?_⟩) ?_ ?_
  rotate_left
  · intro w'
    go_simp
    with_reducible rfl
  rotate_left
  · simp only [Act.put, List.setIfInBounds_toArray, List.set_cons_zero, List.set_cons_succ, i64_w, i32_w]
    rfl
  refine pure_ (i := 20) (N := some 44) (v := ?_) (a' := ?_) #[true, true, true, true, true, true, true, true, true, true, true, true, true, true, true, true, true, true, true, true, true, false, false, false] rfl rfl (by kernel_rfl) (fun _ _ _ h => h) (Or.inl ⟨by rfl, ?_⟩) ?_ ?_
  rotate_left
  · intro w'
    go_simp
    with_reducible rfl
  rotate_left
  · simp only [Act.put, List.setIfInBounds_toArray, List.set_cons_zero, List.set_cons_succ, i64_w, i32_w]
    rfl
  refine one_ (i := 21) (N := some 45) #[true, true, true, true, true, true, true, true, true, true, true, true, true, true, true, true, true, true, true, true, true, true, false, false] rfl rfl (by kernel_rfl) (by decide) (fun K hK => ?_)
  refine goes_ Try.func9 (by kernel_rfl) rfl #[] (by rfl) rfl rfl (by simp only [List.map_toArray, List.map_nil]) ?_
  with_reducible refine (live_c _).mono ?_
  rintro e wd ⟨rfl, hb_⟩
  refine ⟨_, rfl, ?_⟩
  have HBW := Aside0.mk (below_in HBW.out hb_)
  clear hb_
  refine hK.out _ _ ⟨(pw_cell_below HBW.out ka4_0), (pw_cell_below HBW.out ka4_1), (pw_cell_below HBW.out ka4_2), (pw_cell_below HBW.out ka4_3), (pw_cell_below HBW.out kp4_0), (pw_cell_below HBW.out kp4_1), (pw_cell_below HBW.out kp4_2), (pw_cell_below HBW.out kp4_3)⟩ (fun hHeld => ?_)
  clear hK K
  refine norm_ (a' := ?_) ?_ ?_
  rotate_left
  · show Act.put _ (some 45) _ = _
    simp only [Act.put, List.setIfInBounds_toArray, List.set_cons_zero, List.set_cons_succ, i64_w, i32_w]
    rfl
  refine pure_ (i := 22) (N := some 46) (v := ?_) (a' := ?_) #[true, true, true, true, true, true, true, true, true, true, true, true, true, true, true, true, true, true, true, true, true, true, true, false] rfl rfl (by kernel_rfl) (fun _ _ _ h => h) (Or.inl ⟨by rfl, ?_⟩) ?_ ?_
  rotate_left
  · intro w'
    go_simp
    with_reducible rfl
  rotate_left
  · simp only [Act.put, List.setIfInBounds_toArray, List.set_cons_zero, List.set_cons_succ, i64_w, i32_w]
    rfl
  refine pure_ (i := 23) (N := some 2) (v := ?_) (a' := ?_) #[true, true, true, true, true, true, true, true, true, true, true, true, true, true, true, true, true, true, true, true, true, true, true, true] rfl rfl (by kernel_rfl) (fun _ _ _ h => h) (Or.inl ⟨by rfl, ?_⟩) ?_ ?_
  rotate_left
  · intro w'
    go_simp
    with_reducible rfl
  rotate_left
  · simp only [Act.put, List.setIfInBounds_toArray, List.set_cons_zero, List.set_cons_succ, i64_w, i32_w]
    rfl
  refine done_ (by kernel_rfl) ?_
  go_wp2
  go_ret
  exact ⟨rfl, below_in HB4.out HBW.out⟩
theorem writes_c {w : World} {v : Value} {o : Obj6} (ha : Ob w v o) (hw : wordsOk o.2.1) (zz : o.2.1.length < 17592186044416 ∧ o.2.2.1.length < 4398046511104 ∧ o.2.2.2.length < 3518437208883) : Calls Try.prog 3 #[v] w fun e w' => e = .returned (.bool true) ∧ Below w.heap.size w w' := by
  cases hsm : decide (o.2.2.1.length ≤ 200) with
  | false => exact writes1 ha hw zz hsm
  | true => exact writes2 ha hw zz hsm
end Go.Proofs.Ytilmndkbloodbaa.M

