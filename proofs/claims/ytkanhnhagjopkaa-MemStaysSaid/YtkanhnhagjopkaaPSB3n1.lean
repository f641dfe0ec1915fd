/-
  Texts of the proofs of MemStays, cut to what the proofs reach and packed by a program of this session (wip/packs.py). Each part begins with what it says; conditions: those told there.
-/
import Derived.Test.YtkanhnhagjopkaaPSB1n1
/-
  Layer 2: MemStays: plain, and the walk. Conditions: lengths that any memory can hold, numbers of 64 bits.
-/
namespace Go.Proofs.Ytkanhnhagjopkaa.M
open Go.RowKit Go.Proofs.YtkanhnhagjopkaaW.PrintWords Go.Proofs.YtkanhnhagjopkaaW.PrintLast Go.Proofs.Ytkanhnhagjopkaa.Num
set_option linter.unusedVariables false
set_option linter.unusedSimpArgs false
/-- Another word stands there: all else is as it was. -/
theorem set_rd (l : List S27) (i j : Nat) (x : S27) (hi : i < l.length) : rd_T27 (l.set i x) (j : Nat) = if j = i then x else rd_T27 l (j : Nat) := by
  unfold rd_T27
  simp only [Int.toNat_natCast, List.getD_eq_getElem?_getD]
  by_cases h : j = i
  · subst h
    simp [hi]
  · rw [if_neg h, List.getElem?_set_ne (fun e => h e.symm)]
theorem findIdx_set (p : S27 → Bool) : ∀ (l : List S27) (i : Nat) (x : S27), (∀ h : i < l.length, p x = p l[i]) → (l.set i x).findIdx? p = l.findIdx? p
  | [], i, x, h => rfl
  | y :: l, 0, x, h => by
    have := h (by simp)
    simp only [List.set_cons_zero, List.findIdx?_cons]
    rw [this]
    rfl
  | y :: l, i + 1, x, h => by
    simp only [List.set_cons_succ, List.findIdx?_cons]
    rw [findIdx_set p l i x (fun hh => h (by simp; omega))]
theorem storeL_cases (l : List S27) (a v : Int) : (storeE l a = 11 ∧ storeL l a v = l) ∨ ∃ i, findI l a = some i ∧ i < l.length ∧ storeE l a = 0 ∧ storeL l a v = l.set i ⟨(rd_T27 l i).f0, (rd_T27 l i).f1.set (nth l i a) v, (rd_T27 l i).f2⟩ ∧ inR a (rd_T27 l i) = true := by
  unfold storeE storeL
  cases h : findI l a with
  | none => exact .inl ⟨rfl, rfl⟩
  | some i =>
    have hf := h
    unfold findI at hf
    split at hf
    · rw [List.findIdx?_eq_some_iff_getElem] at hf
      obtain ⟨hi, hin, _⟩ := hf
      cases h2 : (rd_T27 l i).f2 with
      | false => exact .inl ⟨by simp [h2], by simp [h2]⟩
      | true => exact .inr ⟨i, rfl, hi, by simp [h2], by simp [h2], by rw [rd27_at l i hi]; exact hin⟩
    · cases hf
theorem findI_store (l : List S27) (a v b : Int) : findI (storeL l a v) b = findI l b := by
  rcases storeL_cases l a v with ⟨_, h⟩ | ⟨i, _, hi, _, h, _⟩
  · rw [h]
  · rw [h]
    unfold findI
    split
    · exact findIdx_set _ _ _ _ (fun hh => by unfold inR; rw [rd27_at l i hi]; simp)
    · rfl
theorem good_store {l : List S27} (G : ∀ o ∈ l, goodR o) (a v : Int) : ∀ o ∈ storeL l a v, goodR o := by
  rcases storeL_cases l a v with ⟨_, h⟩ | ⟨i, _, hi, _, h, _⟩
  · rw [h]; exact G
  · rw [h]
    intro o ho
    rcases List.mem_or_eq_of_mem_set ho with ho | rfl
    · exact G o ho
    · have := G l[i] (List.getElem_mem hi)
      rw [rd27_at l i hi]
      unfold goodR at *
      simpa using this
theorem storeL_length (l : List S27) (a v : Int) : (storeL l a v).length = l.length := by
  rcases storeL_cases l a v with ⟨_, h⟩ | ⟨i, _, hi, _, h, _⟩
  · rw [h]
  · rw [h]; simp
theorem find_in {l : List S27} {b : Int} {j : Nat} (h : findI l b = some j) : okA b = true ∧ j < l.length ∧ inR b (rd_T27 l j) = true := by
  unfold findI at h
  split at h
  · next hk =>
    rw [List.findIdx?_eq_some_iff_getElem] at h
    obtain ⟨hj, hin, _⟩ := h
    exact ⟨hk, hj, by rw [rd27_at l j hj]; exact hin⟩
  · cases h
theorem load_err (l : List S27) (a v b : Int) : (loadV (storeL l a v) b).2 = (loadV l b).2 := by
  unfold loadV
  rw [findI_store]
  cases findI l b <;> rfl
theorem rd_set (m : List Int) (k j : Nat) (v : Int) (hk : k < m.length) : rd (m.set k v) (j : Nat) = if j = k then v else rd m (j : Nat) := by
  unfold rd
  simp only [Int.toNat_natCast, List.getD_eq_getElem?_getD]
  by_cases h : j = k
  · subst h
    simp [hk]
  · rw [if_neg h, List.getElem?_set_ne (fun e => h e.symm)]
theorem nth_lt {l : List S27} {a : Int} {i : Nat} (h : inR a (rd_T27 l i) = true) : nth l i a < (rd_T27 l i).f1.length := by
  unfold inR at h
  simp only [Bool.and_eq_true, decide_eq_true_eq] at h
  unfold nth
  omega
/-- What is stored is loaded. -/
theorem load_stored (l : List S27) (a v : Int) (h : storeE l a = 0) : loadV (storeL l a v) a = (v, 0) := by
  rcases storeL_cases l a v with ⟨h2, _⟩ | ⟨i, hf, hi, _, h2, hin⟩
  · rw [h] at h2; cases h2
  · have hf2 := findI_store l a v a
    rw [hf] at hf2
    unfold loadV
    rw [hf2]
    dsimp only
    have e1 : rd_T27 (storeL l a v) (i : Nat) = ⟨(rd_T27 l i).f0, (rd_T27 l i).f1.set (nth l i a) v, (rd_T27 l i).f2⟩ := by rw [h2, set_rd _ _ _ _ hi, if_pos rfl]
    have e2 : nth (storeL l a v) i a = nth l i a := by unfold nth; rw [e1]
    rw [e2, e1]
    dsimp only
    rw [rd_set _ _ _ _ (nth_lt hin), if_pos rfl]
/-- A store turns no other word. -/
theorem load_other {l : List S27} (G : ∀ o ∈ l, goodR o) (a v b : Int) (hne : a ≠ b) : loadV (storeL l a v) b = loadV l b := by
  rcases storeL_cases l a v with ⟨_, h2⟩ | ⟨i, hf, hi, _, h2, hin⟩
  · rw [h2]
  · unfold loadV
    rw [findI_store]
    cases hb : findI l b with
    | none => rfl
    | some j =>
      obtain ⟨okb, hj, hinb⟩ := find_in hb
      obtain ⟨oka, _, _⟩ := find_in hf
      dsimp only
      have e1 : rd_T27 (storeL l a v) (j : Nat) = if j = i then ⟨(rd_T27 l i).f0, (rd_T27 l i).f1.set (nth l i a) v, (rd_T27 l i).f2⟩ else rd_T27 l (j : Nat) := by rw [h2, set_rd _ _ _ _ hi]
      by_cases hji : j = i
      · subst hji
        rw [if_pos rfl] at e1
        have e2 : nth (storeL l a v) j b = nth l j b := by unfold nth; rw [e1]
        rw [e2, e1]
        dsimp only
        rw [rd_set _ _ _ _ (nth_lt hin), if_neg]
        intro e
        have hg := G l[j] (List.getElem_mem hj)
        rw [← rd27_at l j hj] at hg
        unfold goodR at hg
        unfold inR at hin hinb
        unfold okA at oka okb
        unfold nth at e
        simp only [Bool.and_eq_true, decide_eq_true_eq] at hin hinb oka okb
        omega
      · rw [if_neg hji] at e1
        have e2 : nth (storeL l a v) j b = nth l j b := by unfold nth; rw [e1]
        rw [e2, e1]
theorem touch_len (l : List S27) (a : Int) (xs : List Int) : (touchF l a xs).length ≤ xs.length + 1 := by
  unfold touchF
  cases findI l a <;> simp
theorem storeT_len (l : List S27) (a : Int) (xs : List Int) : (storeT l a xs).length ≤ xs.length + 1 := by
  unfold storeT
  cases findI l a with
  | none => simp
  | some i =>
    dsimp only
    split <;> simp
set_option maxHeartbeats 16000000 in
set_option maxRecDepth 100000 in
theorem stays_c {W : World} {A : Option Addr} {c : Nat} {l : List S27} {a b n : Int} (h : Kd.C k27 W A l.length l) (hm : l.length ≤ 4000000000000) (ha : RG a) (hb : RG b) :
    Calls Try.prog 3 #[.agg #[.slice A l.length c, .int .i64 a, .int .i64 b, .int .i64 n]] W fun e w' => e = .returned (.bool true) ∧ Below W.heap.size W w' := by
  have LIVE := Aside0.mk live_c
  have HC := Aside0.mk h
  have HA := Aside0.mk ha
  have HBB := Aside0.mk hb
  have HB0 := Aside0.mk (below_alloc (Below.refl W.heap.size W) (.cells #[.slice A l.length c, .int .i64 a, .int .i64 b, .int .i64 n] 24))
  have B0 := Aside0.mk (blk_new W (.cells #[.slice A l.length c, .int .i64 a, .int .i64 b, .int .i64 n] 24))
  clear h ha hb
  go_enter Try.func3, Try.ntmps3
  go_wp2
  generalize W.alloc (.cells #[.slice A l.length c, .int .i64 a, .int .i64 b, .int .i64 n] 24) = W1 at *
  refine start_ (n := 12) (S := fun w' => w'.cell? ⟨W.heap.size, 0, none⟩ = some (.slice A l.length c) ∧ w'.cell? ⟨W.heap.size, 1, none⟩ = some (.int .i64 a) ∧ w'.cell? ⟨W.heap.size, 2, none⟩ = some (.int .i64 b) ∧ w'.cell? ⟨W.heap.size, 3, none⟩ = some (.int .i64 n)) (ds := []) #[false, false, false, false, false, false, false, false, false, false, false, false] (by kernel_rfl) rfl rfl ⟨(blk_cell B0.out 0).trans rfl, (blk_cell B0.out 1).trans rfl, (blk_cell B0.out 2).trans rfl, (blk_cell B0.out 3).trans rfl⟩ (fun hHeld => ?_)
  refine pure_ (i := 0) (N := some 17) (v := ?_) (a' := ?_) #[true, false, false, false, false, false, false, false, false, false, false, false] rfl rfl (by kernel_rfl) (fun _ _ _ h => h) (Or.inl ⟨by rfl, ?_⟩) ?_ ?_
  rotate_left
  · intro w'
    go_simp
    with_reducible rfl
  rotate_left
  · simp only [Act.put, List.setIfInBounds_toArray, List.set_cons_zero, List.set_cons_succ, i64_w, i32_w]
    rfl
  refine pure_ (i := 2) (N := some 19) (v := ?_) (a' := ?_) #[true, false, true, false, false, false, false, false, false, false, false, false] rfl rfl (by kernel_rfl) (fun _ _ _ h => h) (Or.inl ⟨by rfl, ?_⟩) ?_ ?_
  rotate_left
  · intro w'
    go_simp
    with_reducible rfl
  rotate_left
  · simp only [Act.put, List.setIfInBounds_toArray, List.set_cons_zero, List.set_cons_succ, i64_w, i32_w]
    rfl
  refine pure_ (i := 4) (N := some 21) (v := ?_) (a' := ?_) #[true, false, true, false, true, false, false, false, false, false, false, false] rfl rfl (by kernel_rfl) (fun _ _ _ h => h) (Or.inl ⟨by rfl, ?_⟩) ?_ ?_
  rotate_left
  · intro w'
    go_simp
    with_reducible rfl
  rotate_left
  · simp only [Act.put, List.setIfInBounds_toArray, List.set_cons_zero, List.set_cons_succ, i64_w, i32_w]
    rfl
  refine pure_ (i := 6) (N := some 23) (v := ?_) (a' := ?_) #[true, false, true, false, true, false, true, false, false, false, false, false] rfl rfl (by kernel_rfl) (fun _ _ _ h => h) (Or.inl ⟨by rfl, ?_⟩) ?_ ?_
  rotate_left
  · intro w'
    go_simp
    with_reducible rfl
  rotate_left
  · simp only [Act.put, List.setIfInBounds_toArray, List.set_cons_zero, List.set_cons_succ, i64_w, i32_w]
    rfl
  refine take_ (i := 1) (N := some 18) (v := ?_) (a' := ?_) #[true, true, true, false, true, false, true, false, false, false, false, false] rfl rfl (by kernel_rfl) (fun _ _ _ h => h) (Or.inl ⟨by rfl, ?_⟩) hHeld ?_ ?_
  rotate_left
  · rintro w' ⟨s0, s1, s2, s3⟩
    go_simp
    with_reducible rfl
  rotate_left
  · simp only [Act.put, List.setIfInBounds_toArray, List.set_cons_zero, List.set_cons_succ, i64_w, i32_w]
    rfl
  refine pure_ (i := 8) (N := some 3) (v := ?_) (a' := ?_) #[true, true, true, false, true, false, true, false, true, false, false, false] rfl rfl (by kernel_rfl) (fun _ _ _ h => h) (Or.inl ⟨by rfl, ?_⟩) ?_ ?_
  rotate_left
  · intro w'
    go_simp
    with_reducible rfl
  rotate_left
  · simp only [Act.put, List.setIfInBounds_toArray, List.set_cons_zero, List.set_cons_succ, i64_w, i32_w]
    rfl
  refine take_ (i := 3) (N := some 20) (v := ?_) (a' := ?_) #[true, true, true, true, true, false, true, false, true, false, false, false] rfl rfl (by kernel_rfl) (fun _ _ _ h => h) (Or.inl ⟨by rfl, ?_⟩) hHeld ?_ ?_
  rotate_left
  · rintro w' ⟨s0, s1, s2, s3⟩
    go_simp
    with_reducible rfl
  rotate_left
  · simp only [Act.put, List.setIfInBounds_toArray, List.set_cons_zero, List.set_cons_succ, i64_w, i32_w]
    rfl
  refine pure_ (i := 9) (N := some 4) (v := ?_) (a' := ?_) #[true, true, true, true, true, false, true, false, true, true, false, false] rfl rfl (by kernel_rfl) (fun _ _ _ h => h) (Or.inl ⟨by rfl, ?_⟩) ?_ ?_
  rotate_left
  · intro w'
    go_simp
    with_reducible rfl
  rotate_left
  · simp only [Act.put, List.setIfInBounds_toArray, List.set_cons_zero, List.set_cons_succ, i64_w, i32_w]
    rfl
  refine take_ (i := 5) (N := some 22) (v := ?_) (a' := ?_) #[true, true, true, true, true, true, true, false, true, true, false, false] rfl rfl (by kernel_rfl) (fun _ _ _ h => h) (Or.inl ⟨by rfl, ?_⟩) hHeld ?_ ?_
  rotate_left
  · rintro w' ⟨s0, s1, s2, s3⟩
    go_simp
    with_reducible rfl
  rotate_left
  · simp only [Act.put, List.setIfInBounds_toArray, List.set_cons_zero, List.set_cons_succ, i64_w, i32_w]
    rfl
  refine pure_ (i := 10) (N := some 5) (v := ?_) (a' := ?_) #[true, true, true, true, true, true, true, false, true, true, true, false] rfl rfl (by kernel_rfl) (fun _ _ _ h => h) (Or.inl ⟨by rfl, ?_⟩) ?_ ?_
  rotate_left
  · intro w'
    go_simp
    with_reducible rfl
  rotate_left
  · simp only [Act.put, List.setIfInBounds_toArray, List.set_cons_zero, List.set_cons_succ, i64_w, i32_w]
    rfl
  refine take_ (i := 7) (N := some 24) (v := ?_) (a' := ?_) #[true, true, true, true, true, true, true, true, true, true, true, false] rfl rfl (by kernel_rfl) (fun _ _ _ h => h) (Or.inl ⟨by rfl, ?_⟩) hHeld ?_ ?_
  rotate_left
  · rintro w' ⟨s0, s1, s2, s3⟩
    go_simp
    with_reducible rfl
  rotate_left
  · simp only [Act.put, List.setIfInBounds_toArray, List.set_cons_zero, List.set_cons_succ, i64_w, i32_w]
    rfl
  refine pure_ (i := 11) (N := some 6) (v := ?_) (a' := ?_) #[true, true, true, true, true, true, true, true, true, true, true, true] rfl rfl (by kernel_rfl) (fun _ _ _ h => h) (Or.inl ⟨by rfl, ?_⟩) ?_ ?_
  rotate_left
  · intro w'
    go_simp
    with_reducible rfl
  rotate_left
  · simp only [Act.put, List.setIfInBounds_toArray, List.set_cons_zero, List.set_cons_succ, i64_w, i32_w]
    rfl
  refine done_ (by kernel_rfl) ?_
  have HBd := Aside0.mk (below_drew1 HB0.out)
  clear HB0 B0
  generalize W1.drew = W2 at *
  clear hHeld
  go_wp2
  go_loopw [7] (fun v7 wr => ∃ i : Nat, i ≤ l.length ∧ v7 = .int .i64 i ∧ Aside0 (Below W.heap.size W wr) ∧ Aside0 (∀ j, (hj : j < l.length) → j < i → l[j].f1.length ≤ 2000)) (fun v7 _ => l.length - (intOf v7).toNat)
  case atStart => exact ⟨0, Nat.zero_le _, rfl, HBd, ⟨fun j _ h => by omega⟩⟩
  case round =>
    obtain ⟨i, hi, rfl, HB, HS⟩ := hrel
    by_cases hlt : i < l.length
    case pos =>
      obtain ⟨ad, A1, c1, e, hx0, hx1, hx2, k1, r1⟩ := at_T27 (Kd.C_below HC.out HB.out) (i : Int) (by omega) (by omega)
      cases e
      have hil : (i : Int) < (l.length : Int) := by omega
      simp only [Int.toNat_natCast] at hx0 hx1 hx2
      have HN := Aside0.mk (fun h : (rd_T27 l i).f1.length ≤ 2000 => show ∀ j, (hj : j < l.length) → j < i + 1 → l[j].f1.length ≤ 2000 from fun j hj hji => by
        by_cases e : j = i
        · subst e
          rw [← rd27_at l j hj]; exact h
        · exact HS.out j hj (by omega))
      clear r1 hx0 hx2
      generalize rd_T27 l i = o at *
      by_cases hb : (o.f1.length : Int) > 2000
      case pos =>
        go_wp2_with (first | (go_at_call 8; (with_reducible refine (LIVE.out _).mono ?_); rintro e w2 ⟨rfl, hb⟩; have HB2 := Aside0.mk (below_inL HB.out hb); clear hb))
        go_ret
        exact ⟨rfl, HB2.out⟩
      case neg =>
        have LT := Aside0.mk hlt
        have HN2 := Aside0.mk (HN.out (by omega))
        clear HN
        go_wp2
        refine ⟨⟨i + 1, LT.out, by first | rfl | go_num, HB, HN2⟩, ?_⟩
        have := LT.out
        simp [intOf]
        omega
    case neg =>
      obtain rfl : i = l.length := by omega
      have NC := Aside0.mk (new_c (c := c) (Kd.C_below HC.out HB.out) hm (fun o ho => by
        obtain ⟨j, hj, rfl⟩ := List.getElem_of_mem ho
        have := HS.out j hj hj
        omega))
      cases hok : newOk l with
      | false =>
        rw [hok] at NC
        go_wp2_with (first
          | (go_at_call 9; (with_reducible refine NC.out.mono ?_); rintro e w3 ⟨-, he, hb⟩; obtain rfl := he rfl; have HB3 := Aside0.mk (below_inL HB.out hb); clear he hb)
          | (go_at_call 8; (with_reducible refine (LIVE.out _).mono ?_); rintro e w4 ⟨rfl, hb⟩; have HB4 := Aside0.mk (below_inL HB3.out hb); clear hb))
        go_ret
        exact ⟨rfl, HB4.out⟩
      | true =>
        obtain ⟨G, hle⟩ := newOk_good hok
        rw [hok] at NC
        have GG := Aside0.mk G
        have GS := Aside0.mk (good_store G a n)
        have hle2 : l.length ≤ 1000 := by omega
        have hle3 : (storeL l a n).length ≤ 1000 := by rw [storeL_length]; exact hle2
        have t1 := touch_len l b []
        have t2 := storeT_len l a []
        have t3 := touch_len (storeL l a n) b (touchF l b [])
        simp only [List.length_nil] at t1 t2
        have L0 := Aside0.mk (fun (O : Nat → Prop) (w W' : World) pb r q vr (H : MemG O w W' pb r q vr [] [] l) => load_c H G hle2 (by simp) b HBB.out.1 HBB.out.2)
        have S0 := Aside0.mk (fun (O : Nat → Prop) (w W' : World) pb r q vr (H : MemG O w W' pb r q vr (touchF l b []) [] l) => store_c H G hle2 (by simp) a HA.out.1 HA.out.2 n)
        have L1 := Aside0.mk (fun (O : Nat → Prop) (w W' : World) pb r q vr (H : MemG O w W' pb r q vr (touchF l b []) (storeT l a []) (storeL l a n)) => load_c H GS.out hle3 (by omega) b HBB.out.1 HBB.out.2)
        have L2 := Aside0.mk (fun (O : Nat → Prop) (w W' : World) pb r q vr (H : MemG O w W' pb r q vr (touchF (storeL l a n) b (touchF l b [])) (storeT l a []) (storeL l a n)) => load_c H GS.out hle3 (by omega) a HA.out.1 HA.out.2)
        have E1 := load_err l a n b
        have E2 := fun h => load_stored l a n h
        have E3 := fun h => load_other G a n b h
        obtain ⟨u0, hu0⟩ : ∃ u, u = loadV l b := ⟨_, rfl⟩
        obtain ⟨u1, hu1⟩ : ∃ u, u = loadV (storeL l a n) b := ⟨_, rfl⟩
        obtain ⟨u2, hu2⟩ : ∃ u, u = loadV (storeL l a n) a := ⟨_, rfl⟩
        obtain ⟨g, hg⟩ : ∃ g, g = storeE l a := ⟨_, rfl⟩
        rw [← hu0] at L0 E1 E3
        rw [← hu1] at L1 E1 E3
        rw [← hu2] at L2 E2
        rw [← hg] at S0 E2
        obtain ⟨va, ea⟩ := u0
        obtain ⟨vb, eb⟩ := u1
        obtain ⟨vd, ed⟩ := u2
        dsimp only at *
        subst E1
        clear hu0 hu1 hu2 hg hle hle2 hle3 t1 t2 t3 hok G
        have T1 : True := trivial
        have E2' := Aside0.mk E2
        have E3' := Aside0.mk E3
        clear E2 E3
        by_cases hg0 : g = 0
        case pos =>
          subst hg0
          have hx := E2'.out rfl
          injection hx with hx1 hx2
          subst hx1 hx2
          by_cases hab : a = b
          case pos =>
            subst hab
            go_wp2_with (first
          | (go_at_call 9; (with_reducible refine NC.out.mono ?_); rintro e w3 ⟨he, -, hb⟩; obtain ⟨pb, r, q, vr, rfl, hm⟩ := he rfl; have HM3 := Aside0.mk hm; have HB3 := Aside0.mk (below_inL HB.out hb); clear he hb hm)
          | (go_at_call 10; (with_reducible refine (L0.out _ _ _ _ _ _ _ HM3.out).mono ?_); rintro e w4 ⟨rfl, hm, -⟩; have HM4 := Aside0.mk hm; clear hm)
          | (go_at_call 11; (with_reducible refine (S0.out _ _ _ _ _ _ _ HM4.out).mono ?_); rintro e w5 ⟨rfl, hm, -⟩; have HM5 := Aside0.mk hm; clear hm)
          | (go_at_call 10; (with_reducible refine (L1.out _ _ _ _ _ _ _ HM5.out).mono ?_); rintro e w6 ⟨rfl, hm, -⟩; have HM6 := Aside0.mk hm; clear hm)
          | (go_at_call 10; (with_reducible refine (L2.out _ _ _ _ _ _ _ HM6.out).mono ?_); rintro e w7 ⟨rfl, hm, -⟩; have HM7 := Aside0.mk hm; clear hm)
          | (go_at_call 8; (with_reducible refine (LIVE.out _).mono ?_); rintro e w8 ⟨rfl, hb⟩; have HB8 := Aside0.mk (below_inL (below_inL HB.out HM7.out.tch.below) hb); clear hb))
            go_ret
            exact ⟨rfl, HB8.out⟩
          case neg =>
            have hy := E3'.out hab
            injection hy with hy1 _
            subst hy1
            go_wp2_with (first
          | (go_at_call 9; (with_reducible refine NC.out.mono ?_); rintro e w3 ⟨he, -, hb⟩; obtain ⟨pb, r, q, vr, rfl, hm⟩ := he rfl; have HM3 := Aside0.mk hm; have HB3 := Aside0.mk (below_inL HB.out hb); clear he hb hm)
          | (go_at_call 10; (with_reducible refine (L0.out _ _ _ _ _ _ _ HM3.out).mono ?_); rintro e w4 ⟨rfl, hm, -⟩; have HM4 := Aside0.mk hm; clear hm)
          | (go_at_call 11; (with_reducible refine (S0.out _ _ _ _ _ _ _ HM4.out).mono ?_); rintro e w5 ⟨rfl, hm, -⟩; have HM5 := Aside0.mk hm; clear hm)
          | (go_at_call 10; (with_reducible refine (L1.out _ _ _ _ _ _ _ HM5.out).mono ?_); rintro e w6 ⟨rfl, hm, -⟩; have HM6 := Aside0.mk hm; clear hm)
          | (go_at_call 10; (with_reducible refine (L2.out _ _ _ _ _ _ _ HM6.out).mono ?_); rintro e w7 ⟨rfl, hm, -⟩; have HM7 := Aside0.mk hm; clear hm)
          | (go_at_call 8; (with_reducible refine (LIVE.out _).mono ?_); rintro e w8 ⟨rfl, hb⟩; have HB8 := Aside0.mk (below_inL (below_inL HB.out HM7.out.tch.below) hb); clear hb))
            go_ret
            exact ⟨rfl, HB8.out⟩
        case neg =>
          by_cases hab : a = b
          case pos =>
            subst hab
            go_wp2_with (first
          | (go_at_call 9; (with_reducible refine NC.out.mono ?_); rintro e w3 ⟨he, -, hb⟩; obtain ⟨pb, r, q, vr, rfl, hm⟩ := he rfl; have HM3 := Aside0.mk hm; have HB3 := Aside0.mk (below_inL HB.out hb); clear he hb hm)
          | (go_at_call 10; (with_reducible refine (L0.out _ _ _ _ _ _ _ HM3.out).mono ?_); rintro e w4 ⟨rfl, hm, -⟩; have HM4 := Aside0.mk hm; clear hm)
          | (go_at_call 11; (with_reducible refine (S0.out _ _ _ _ _ _ _ HM4.out).mono ?_); rintro e w5 ⟨rfl, hm, -⟩; have HM5 := Aside0.mk hm; clear hm)
          | (go_at_call 10; (with_reducible refine (L1.out _ _ _ _ _ _ _ HM5.out).mono ?_); rintro e w6 ⟨rfl, hm, -⟩; have HM6 := Aside0.mk hm; clear hm)
          | (go_at_call 10; (with_reducible refine (L2.out _ _ _ _ _ _ _ HM6.out).mono ?_); rintro e w7 ⟨rfl, hm, -⟩; have HM7 := Aside0.mk hm; clear hm)
          | (go_at_call 8; (with_reducible refine (LIVE.out _).mono ?_); rintro e w8 ⟨rfl, hb⟩; have HB8 := Aside0.mk (below_inL (below_inL HB.out HM7.out.tch.below) hb); clear hb))
            go_ret
            exact ⟨rfl, HB8.out⟩
          case neg =>
            have hy := E3'.out hab
            injection hy with hy1 _
            subst hy1
            go_wp2_with (first
          | (go_at_call 9; (with_reducible refine NC.out.mono ?_); rintro e w3 ⟨he, -, hb⟩; obtain ⟨pb, r, q, vr, rfl, hm⟩ := he rfl; have HM3 := Aside0.mk hm; have HB3 := Aside0.mk (below_inL HB.out hb); clear he hb hm)
          | (go_at_call 10; (with_reducible refine (L0.out _ _ _ _ _ _ _ HM3.out).mono ?_); rintro e w4 ⟨rfl, hm, -⟩; have HM4 := Aside0.mk hm; clear hm)
          | (go_at_call 11; (with_reducible refine (S0.out _ _ _ _ _ _ _ HM4.out).mono ?_); rintro e w5 ⟨rfl, hm, -⟩; have HM5 := Aside0.mk hm; clear hm)
          | (go_at_call 10; (with_reducible refine (L1.out _ _ _ _ _ _ _ HM5.out).mono ?_); rintro e w6 ⟨rfl, hm, -⟩; have HM6 := Aside0.mk hm; clear hm)
          | (go_at_call 10; (with_reducible refine (L2.out _ _ _ _ _ _ _ HM6.out).mono ?_); rintro e w7 ⟨rfl, hm, -⟩; have HM7 := Aside0.mk hm; clear hm)
          | (go_at_call 8; (with_reducible refine (LIVE.out _).mono ?_); rintro e w8 ⟨rfl, hb⟩; have HB8 := Aside0.mk (below_inL (below_inL HB.out HM7.out.tch.below) hb); clear hb))
            go_ret
            exact ⟨rfl, HB8.out⟩
end Go.Proofs.Ytkanhnhagjopkaa.M

/-
  Layer 2: arguments: footprints, regions, a case, calls, as the reader reads them. No condition.
-/
namespace Go.Proofs.Ytkanhnhagjopkaa.M
open Go.RowKit Go.Proofs.YtkanhnhagjopkaaW.PrintWords Go.Proofs.Ytkanhnhagjopkaa.Num Go.Proofs.Ytkanhnhagjopkaa.Flat
open Go.ChangeShapes Go.WideShapes Go.Deep
open Go.ChangeMaps (open_string shut_string)
set_option linter.unusedVariables false
set_option maxRecDepth 100000
set_option linter.unusedSimpArgs false
section
variable {H : Type} {enc : TypeId × Value → H} {P : Program} {W : World} {spare : Nat → Bool} {held : Bool}
end
section
variable {H : Type} {enc : TypeId × Value → H} {P : Program} {W : World} {spare : Nat → Bool} {held : Bool}
end
/-- A case: regions and three numbers. -/
theorem open_case {H : Type} {enc : TypeId × Value → H} {W : World} {spare : Nat → Bool} {held : Bool} {r : Reach} {b0 : Nat} {v : Value} {d : DataW H} {p : List MemPlace} (hv : Value.okWide Try.prog W r b0 24 v) (h : DataW.Trod enc Try.prog W 0 spare held 24 v d p)
    (hz : ∀ z ∈ d.weights Try.prog 24, z ≤ reachBytes) : ∃ A c l0 a b n, v = .agg #[.slice A l0.length c, .int .i64 a, .int .i64 b, .int .i64 n] ∧ Kd.C k27 W A l0.length l0 ∧ l0.length ≤ c ∧ l0.length * 40 ≤ 140737488351232 ∧ (∀ x ∈ l0, RegOk x) ∧ RG a ∧ RG b ∧ RG n := by
  obtain ⟨v0, v1, v2, v3, y0, y1, y2, y3, n, rfl, rfl, _, h0, h1, h2, h3⟩ := Go.Joins.open_agg4 Try.underlying24 (by kernel_rfl) (by kernel_rfl) hv h
  obtain ⟨A, c, l0, rfl, hC, hl, hb, hq⟩ := open_regs h0 (fun z hzz => hz z (by simp only [DataW.weights, Try.underlying24, DataW.weightsEach, List.map, List.mem_append]; exact .inl hzz))
  obtain ⟨_, _, e1, ⟨x1, rfl, hx1⟩, _⟩ := (leaves_ok 1 2 [.int .i64] (by kernel_rfl) n _ _ h1).cons
  obtain ⟨_, _, e2, ⟨x2, rfl, hx2⟩, _⟩ := (leaves_ok 1 2 [.int .i64] (by kernel_rfl) n _ _ h2).cons
  obtain ⟨_, _, e3, ⟨x3, rfl, hx3⟩, _⟩ := (leaves_ok 1 2 [.int .i64] (by kernel_rfl) n _ _ h3).cons
  simp only [List.cons.injEq] at e1 e2 e3
  obtain ⟨rfl, _⟩ := e1
  obtain ⟨rfl, _⟩ := e2
  obtain ⟨rfl, _⟩ := e3
  have g : ∀ {x : Int}, (Lit.int .i64 x).wf = true → RG x := fun hx => by have := wf_i64 hx; exact ⟨this.1, by omega⟩
  exact ⟨A, c, l0, x1, x2, x3, rfl, hC, hl, hb, hq, g hx1, g hx2, g hx3⟩
end Go.Proofs.Ytkanhnhagjopkaa.M

