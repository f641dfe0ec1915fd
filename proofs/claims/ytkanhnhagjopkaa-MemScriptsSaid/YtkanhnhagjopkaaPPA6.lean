/-
  Texts of the proofs of MemScripts, cut to what the proofs reach and packed by a program of this session (wip/packs.py). Each part begins with what it says; conditions: those told there.
-/
import Derived.Lib.SliceRun
import Derived.Test.YtkanhnhagjopkaaPPA5
/-
  Layer 2: slices.Clone, mem.New's test of two regions, slices.ContainsFunc over it: the walks. Conditions: lengths that any memory can hold.
-/
namespace Go.Proofs.Ytkanhnhagjopkaa.M
open Go.RowKit Go.Proofs.YtkanhnhagjopkaaW.PrintWords Go.Proofs.YtkanhnhagjopkaaW.PrintLast Go.Proofs.Ytkanhnhagjopkaa.Num
set_option linter.unusedVariables false
set_option linter.unusedSimpArgs false
set_option maxHeartbeats 4000000 in
/-- slices.Clone: a row of its own. -/
theorem clone_c {W : World} {A : Option Addr} {c : Nat} {l : List Int} (h : Kd.C (Kd.int .i64) W A l.length l) (hm : l.length ≤ 4000000000000) :
    Calls Try.prog 31 #[.slice A l.length c] W fun e w' => ∃ (A' : Option Addr) (c' : Nat), e = .returned (.slice A' l.length c') ∧ Kd.R (Kd.int .i64) 2 w' W.heap.size (fun _ => True) (.slice A' l.length c') l ∧ Below W.heap.size W w' := by
  have q25 : ∀ (w : World) (a : Option Addr) (n c n' c' : Nat), (binOp .eql 25 (.slice a n c) (.slice none n' c')).run Try.prog w = .ok (.bool a.isNone) w := fun w a n c n' c' => Lib.run_eql_slice_nil w _ _ a n c n' c' Try.underlying25
  have u25 : ∀ w, Sem.run Try.prog (underlying 25) w = .ok (TypeDesc.slice 2) w := run_underlying Try.underlying25
  obtain ⟨i0, hi, hz0, hz1, hz2⟩ := info_parts info2
  cases A with
  | none =>
    obtain rfl : l = [] := by
      cases l with
      | nil => rfl
      | cons x l =>
        obtain ⟨ad, e, -⟩ := Kd.at_int h 0 (by omega) (by simp)
        cases e
    go_enter Try.func31, Try.ntmps31
    go_wp2
    go_ret
    exact ⟨none, 0, rfl, Kd.R_nil _ _ _ _ _, Below.refl _ _⟩
  | some ad =>
    obtain ⟨b, off, ph⟩ := ad
    have HR := Aside0.mk h
    clear h
    go_enter Try.func31, Try.ntmps31
    go_wp2_with (at_builtin; refine wpList_append_own _ rfl _ _ 25 rfl W.heap.size 2 i0 (.int .i64 0) 1 8 Try.underlying25 hi hz0 hz1 hz2 rfl (by decide) _ _ _ rfl (World.ownsRow_made W #[] 0 (Nat.le_refl _) (Nat.zero_le _) rfl) ⟨b, off, ph⟩ l.length c (l.map (Value.int .i64)) rfl ?qc1 ?qc2 ?qc3 ?qc4 ?qc5 ?qc6 ?_)
    case qc1 => simp
    case qc2 =>
      intro j u hj
      have hjl : j < l.length := by
        have := (List.getElem?_eq_some_iff.1 hj).1
        simpa using this
      obtain ⟨ad, e, hx⟩ := Kd.at_int HR.out (j : Int) (by omega) (by omega)
      cases e
      rw [rd_at l j hjl] at hx
      simp only [Int.toNat_natCast] at hx
      rw [List.getElem?_map, List.getElem?_eq_getElem hjl] at hj
      cases hj
      exact Lib.cell?_alloc_some _ hx
    case qc3 => intro u hu; obtain ⟨x, _, rfl⟩ := List.mem_map.1 hu; rfl
    case qc4 => unfold maxLen; omega
    case qc5 => omega
    case qc6 => simp
    intro v' w1 hown hgrow hnil
    go_wp2
    go_ret
    obtain ⟨A', c', rfl⟩ := own_slice hown
    exact ⟨A', c', rfl, Kd.R_of_own hown (fun _ _ => trivial), ((Below.refl _ W).alloc (Nat.le_refl _) _).grown hgrow (by simp) (by intro k hk; simp [Value.ownBlock] at hk; omega)⟩
def endv (r : S27) : Int := wrap64 (r.f0 + wrap64 (8 * (r.f1.length : Int)))
/-- Do two regions meet? -/
def meetsR (r o : S27) : Bool := decide (r.f0 < endv o) && decide (o.f0 < endv r)
section
variable {W : World} {A0 : Option Addr} {c0 : Nat} {r : S27}
set_option maxHeartbeats 4000000 in
/-- mem.New's closure. -/
theorem hitR_c {pb : Nat} (hb : W.heap[pb]? = some (.cells #[.int .i64 r.f0, .slice A0 r.f1.length c0, .bool r.f2] 27 (0, 0))) (h0 : Kd.C (Kd.int .i64) W A0 r.f1.length r.f1) (g0 : r.f1.length ≤ c0) (o : S27) {A1 : Option Addr} {c1 : Nat} (h1 : Kd.C (Kd.int .i64) W A1 o.f1.length o.f1) (g1 : o.f1.length ≤ c1) :
    Calls Try.prog 29 #[.agg #[.int .i64 o.f0, .slice A1 o.f1.length c1, .bool o.f2], .pointer (some ⟨pb, 0, none⟩)] W fun e w' => e = .returned (.bool (meetsR r o)) ∧ Below W.heap.size W w' := by
  have C0 := Aside0.mk (fun w (h : Below W.heap.size W w) => (mem_end.calls o.f0 A1 c1 o.f1 o.f2 (endv o) w (Kd.C_below h1 h) g1 rfl))
  have C1 := Aside0.mk (fun w (h : Below W.heap.size W w) => (mem_end.calls r.f0 A0 c0 r.f1 r.f2 (endv r) w (Kd.C_below h0 h) g0 rfl))
  have HBx := Aside0.mk (below_drew1 (below_alloc (Below.refl W.heap.size W) (.cells #[.int .i64 o.f0, .slice A1 o.f1.length c1, .bool o.f2] 27)))
  have BP := Aside0.mk (blk_drew (blk_alloc hb (.cells #[.int .i64 o.f0, .slice A1 o.f1.length c1, .bool o.f2] 27)))
  have BO := Aside0.mk (blk_drew (blk_new W (.cells #[.int .i64 o.f0, .slice A1 o.f1.length c1, .bool o.f2] 27)))
  obtain ⟨x, hx⟩ : ∃ x, x = meetsR r o := ⟨_, rfl⟩
  rw [← hx]
  unfold meetsR at hx
  generalize endv o = eo at *
  generalize endv r = er at *
  have T1 : True := trivial
  clear h0 h1 g0 g1 hb
  by_cases hc0 : r.f0 < eo
  case pos =>
    have hv0 : decide (r.f0 < eo) = true := by simp [hc0]
    simp only [hc0, decide_true, Bool.true_and] at hx
    subst hx
    clear hc0
    go_enter Try.func29, Try.ntmps29
    go_wp2
    refine start_ (n := 13) (S := fun w' => w'.cell? ⟨pb, 0, none⟩ = some (.int .i64 r.f0) ∧ w'.cell? ⟨pb, 1, none⟩ = some (.slice A0 r.f1.length c0) ∧ w'.cell? ⟨pb, 2, none⟩ = some (.bool r.f2) ∧ w'.cell? ⟨W.heap.size, 0, none⟩ = some (.int .i64 o.f0) ∧ w'.cell? ⟨W.heap.size, 1, none⟩ = some (.slice A1 o.f1.length c1) ∧ w'.cell? ⟨W.heap.size, 2, none⟩ = some (.bool o.f2)) (ds := []) #[false, false, false, false, false, false, false, false, false, false, false, false, false] (by kernel_rfl) rfl rfl ⟨(blk_cell BP.out 0).trans rfl, (blk_cell BP.out 1).trans rfl, (blk_cell BP.out 2).trans rfl, (blk_cell BO.out 0).trans rfl, (blk_cell BO.out 1).trans rfl, (blk_cell BO.out 2).trans rfl⟩ (fun hHeld => ?_)
    refine pure_ (i := 0) (N := some 4) (v := ?_) (a' := ?_) #[true, false, false, false, false, false, false, false, false, false, false, false, false] rfl rfl (by kernel_rfl) (fun _ _ _ h => h) (Or.inl ⟨by rfl, ?_⟩) ?_ ?_
    rotate_left
    · intro w'
      go_simp
      with_reducible rfl
    rotate_left
    · simp only [Act.put, List.setIfInBounds_toArray, List.set_cons_zero, List.set_cons_succ, i64_w, i32_w]
      rfl
    refine take_ (i := 1) (N := some 5) (v := ?_) (a' := ?_) #[true, true, false, false, false, false, false, false, false, false, false, false, false] rfl rfl (by kernel_rfl) (fun _ _ _ h => h) (Or.inl ⟨by rfl, ?_⟩) hHeld ?_ ?_
    rotate_left
    · rintro w' ⟨s0, s1, s2, s3, s4, s5⟩
      go_simp
      with_reducible rfl
    rotate_left
    · simp only [Act.put, List.setIfInBounds_toArray, List.set_cons_zero, List.set_cons_succ, i64_w, i32_w]
      rfl
    refine take_ (i := 2) (N := some 6) (v := ?_) (a' := ?_) #[true, true, true, false, false, false, false, false, false, false, false, false, false] rfl rfl (by kernel_rfl) (fun _ _ _ h => h) (Or.inl ⟨by rfl, ?_⟩) hHeld ?_ ?_
    rotate_left
    · rintro w' ⟨s0, s1, s2, s3, s4, s5⟩
      go_simp
      with_reducible rfl
    rotate_left
    · simp only [Act.put, List.setIfInBounds_toArray, List.set_cons_zero, List.set_cons_succ, i64_w, i32_w]
      rfl
    refine one_ (i := 3) (N := some 7) #[true, true, true, true, false, false, false, false, false, false, false, false, false] rfl rfl (by kernel_rfl) (by decide) (fun K hK => ?_)
    refine goes_ Try.func30 (by kernel_rfl) rfl #[.agg #[.int .i64 o.f0, .slice A1 o.f1.length c1, .bool o.f2]] (by rfl) rfl rfl (by simp only [List.map_toArray, List.map_cons, List.map_nil]; rfl) ?_
    with_reducible refine (C0.out _ HBx.out).mono ?_
    rintro e w1 ⟨rfl, hd⟩
    refine ⟨_, rfl, ?_⟩
    have HB1 := Aside0.mk (below_inL HBx.out hd)
    have BP1 := Aside0.mk (blk_below BP.out hd)
    have BO1 := Aside0.mk (blk_below BO.out hd)
    clear hd
    refine hK.out _ _ ⟨(blk_cell BP1.out 0).trans rfl, (blk_cell BP1.out 1).trans rfl, (blk_cell BP1.out 2).trans rfl, (blk_cell BO1.out 0).trans rfl, (blk_cell BO1.out 1).trans rfl, (blk_cell BO1.out 2).trans rfl⟩ (fun hHeld => ?_)
    clear hK K
    refine norm_ (a' := ?_) ?_ ?_
    rotate_left
    · show Act.put _ (some 7) _ = _
      simp only [Act.put, List.setIfInBounds_toArray, List.set_cons_zero, List.set_cons_succ, i64_w, i32_w]
      rfl
    refine pure_ (i := 4) (N := some 8) (v := ?_) (a' := ?_) #[true, true, true, true, true, false, false, false, false, false, false, false, false] rfl rfl (by kernel_rfl) (fun _ _ _ h => h) (Or.inl ⟨by rfl, ?_⟩) ?_ ?_
    rotate_left
    · intro w'
      go_simp
      with_reducible rfl
    rotate_left
    · simp only [Act.put, List.setIfInBounds_toArray, List.set_cons_zero, List.set_cons_succ, i64_w, i32_w]
      rfl
    refine pure_ (i := 5) (N := some 9) (v := ?_) (a' := ?_) #[true, true, true, true, true, true, false, false, false, false, false, false, false] rfl rfl (by kernel_rfl) (fun _ _ _ h => h) (Or.inl ⟨by rfl, ?_⟩) ?_ ?_
    rotate_left
    · intro w'
      go_simp
      with_reducible rfl
    rotate_left
    · simp only [Act.put, List.setIfInBounds_toArray, List.set_cons_zero, List.set_cons_succ, i64_w, i32_w]
      rfl
    refine pure_ (i := 6) (N := some 10) (v := ?_) (a' := ?_) #[true, true, true, true, true, true, true, false, false, false, false, false, false] rfl rfl (by kernel_rfl) (fun _ _ _ h => h) (Or.inl ⟨by rfl, ?_⟩) ?_ ?_
    rotate_left
    · intro w'
      go_simp
      with_reducible rfl
    rotate_left
    · simp only [Act.put, List.setIfInBounds_toArray, List.set_cons_zero, List.set_cons_succ, i64_w, i32_w]
      rfl
    refine take_ (i := 7) (N := some 11) (v := ?_) (a' := ?_) #[true, true, true, true, true, true, true, true, false, false, false, false, false] rfl rfl (by kernel_rfl) (fun _ _ _ h => h) (Or.inl ⟨by rfl, ?_⟩) hHeld ?_ ?_
    rotate_left
    · rintro w' ⟨s0, s1, s2, s3, s4, s5⟩
      go_simp
      with_reducible rfl
    rotate_left
    · simp only [Act.put, List.setIfInBounds_toArray, List.set_cons_zero, List.set_cons_succ, i64_w, i32_w]
      rfl
    refine take_ (i := 8) (N := some 12) (v := ?_) (a' := ?_) #[true, true, true, true, true, true, true, true, true, false, false, false, false] rfl rfl (by kernel_rfl) (fun _ _ _ h => h) (Or.inl ⟨by rfl, ?_⟩) hHeld ?_ ?_
    rotate_left
    · rintro w' ⟨s0, s1, s2, s3, s4, s5⟩
      go_simp
      with_reducible rfl
    rotate_left
    · simp only [Act.put, List.setIfInBounds_toArray, List.set_cons_zero, List.set_cons_succ, i64_w, i32_w]
      rfl
    refine one_ (i := 9) (N := some 13) #[true, true, true, true, true, true, true, true, true, true, false, false, false] rfl rfl (by kernel_rfl) (by decide) (fun K hK => ?_)
    refine goes_ Try.func30 (by kernel_rfl) rfl #[.agg #[.int .i64 r.f0, .slice A0 r.f1.length c0, .bool r.f2]] (by rfl) rfl rfl (by simp only [List.map_toArray, List.map_cons, List.map_nil]; rfl) ?_
    with_reducible refine (C1.out _ HB1.out).mono ?_
    rintro e w2 ⟨rfl, hd⟩
    refine ⟨_, rfl, ?_⟩
    have HB2 := Aside0.mk (below_inL HB1.out hd)
    have BP2 := Aside0.mk (blk_below BP1.out hd)
    have BO2 := Aside0.mk (blk_below BO1.out hd)
    clear hd
    refine hK.out _ _ ⟨(blk_cell BP2.out 0).trans rfl, (blk_cell BP2.out 1).trans rfl, (blk_cell BP2.out 2).trans rfl, (blk_cell BO2.out 0).trans rfl, (blk_cell BO2.out 1).trans rfl, (blk_cell BO2.out 2).trans rfl⟩ (fun hHeld => ?_)
    clear hK K
    refine norm_ (a' := ?_) ?_ ?_
    rotate_left
    · show Act.put _ (some 13) _ = _
      simp only [Act.put, List.setIfInBounds_toArray, List.set_cons_zero, List.set_cons_succ, i64_w, i32_w]
      rfl
    refine pure_ (i := 10) (N := some 14) (v := ?_) (a' := ?_) #[true, true, true, true, true, true, true, true, true, true, true, false, false] rfl rfl (by kernel_rfl) (fun _ _ _ h => h) (Or.inl ⟨by rfl, ?_⟩) ?_ ?_
    rotate_left
    · intro w'
      go_simp
      with_reducible rfl
    rotate_left
    · simp only [Act.put, List.setIfInBounds_toArray, List.set_cons_zero, List.set_cons_succ, i64_w, i32_w]
      rfl
    refine pure_ (i := 11) (N := some 15) (v := ?_) (a' := ?_) #[true, true, true, true, true, true, true, true, true, true, true, true, false] rfl rfl (by kernel_rfl) (fun _ _ _ h => h) (Or.inl ⟨by rfl, ?_⟩) ?_ ?_
    rotate_left
    · intro w'
      go_simp
      with_reducible rfl
    rotate_left
    · simp only [Act.put, List.setIfInBounds_toArray, List.set_cons_zero, List.set_cons_succ, i64_w, i32_w]
      rfl
    refine pure_ (i := 12) (N := some 3) (v := ?_) (a' := ?_) #[true, true, true, true, true, true, true, true, true, true, true, true, true] rfl rfl (by kernel_rfl) (fun _ _ _ h => h) (Or.inl ⟨by rfl, ?_⟩) ?_ ?_
    rotate_left
    · intro w'
      go_simp
      with_reducible rfl
    rotate_left
    · simp only [Act.put, List.setIfInBounds_toArray, List.set_cons_zero, List.set_cons_succ, i64_w, i32_w]
      rfl
    refine done_ (by kernel_rfl) ?_
    try go_wp2
    go_ret
    exact ⟨rfl, HB2.out⟩
  case neg =>
    have hv0 : decide (r.f0 < eo) = false := by simp only [hc0, decide_false]
    simp only [hc0, decide_false, Bool.false_and] at hx
    subst hx
    clear hc0
    go_enter Try.func29, Try.ntmps29
    go_wp2
    refine start_ (n := 13) (S := fun w' => w'.cell? ⟨pb, 0, none⟩ = some (.int .i64 r.f0) ∧ w'.cell? ⟨pb, 1, none⟩ = some (.slice A0 r.f1.length c0) ∧ w'.cell? ⟨pb, 2, none⟩ = some (.bool r.f2) ∧ w'.cell? ⟨W.heap.size, 0, none⟩ = some (.int .i64 o.f0) ∧ w'.cell? ⟨W.heap.size, 1, none⟩ = some (.slice A1 o.f1.length c1) ∧ w'.cell? ⟨W.heap.size, 2, none⟩ = some (.bool o.f2)) (ds := []) #[false, false, false, false, false, false, false, false, false, false, false, false, false] (by kernel_rfl) rfl rfl ⟨(blk_cell BP.out 0).trans rfl, (blk_cell BP.out 1).trans rfl, (blk_cell BP.out 2).trans rfl, (blk_cell BO.out 0).trans rfl, (blk_cell BO.out 1).trans rfl, (blk_cell BO.out 2).trans rfl⟩ (fun hHeld => ?_)
    refine pure_ (i := 0) (N := some 4) (v := ?_) (a' := ?_) #[true, false, false, false, false, false, false, false, false, false, false, false, false] rfl rfl (by kernel_rfl) (fun _ _ _ h => h) (Or.inl ⟨by rfl, ?_⟩) ?_ ?_
    rotate_left
    · intro w'
      go_simp
      with_reducible rfl
    rotate_left
    · simp only [Act.put, List.setIfInBounds_toArray, List.set_cons_zero, List.set_cons_succ, i64_w, i32_w]
      rfl
    refine take_ (i := 1) (N := some 5) (v := ?_) (a' := ?_) #[true, true, false, false, false, false, false, false, false, false, false, false, false] rfl rfl (by kernel_rfl) (fun _ _ _ h => h) (Or.inl ⟨by rfl, ?_⟩) hHeld ?_ ?_
    rotate_left
    · rintro w' ⟨s0, s1, s2, s3, s4, s5⟩
      go_simp
      with_reducible rfl
    rotate_left
    · simp only [Act.put, List.setIfInBounds_toArray, List.set_cons_zero, List.set_cons_succ, i64_w, i32_w]
      rfl
    refine take_ (i := 2) (N := some 6) (v := ?_) (a' := ?_) #[true, true, true, false, false, false, false, false, false, false, false, false, false] rfl rfl (by kernel_rfl) (fun _ _ _ h => h) (Or.inl ⟨by rfl, ?_⟩) hHeld ?_ ?_
    rotate_left
    · rintro w' ⟨s0, s1, s2, s3, s4, s5⟩
      go_simp
      with_reducible rfl
    rotate_left
    · simp only [Act.put, List.setIfInBounds_toArray, List.set_cons_zero, List.set_cons_succ, i64_w, i32_w]
      rfl
    refine one_ (i := 3) (N := some 7) #[true, true, true, true, false, false, false, false, false, false, false, false, false] rfl rfl (by kernel_rfl) (by decide) (fun K hK => ?_)
    refine goes_ Try.func30 (by kernel_rfl) rfl #[.agg #[.int .i64 o.f0, .slice A1 o.f1.length c1, .bool o.f2]] (by rfl) rfl rfl (by simp only [List.map_toArray, List.map_cons, List.map_nil]; rfl) ?_
    with_reducible refine (C0.out _ HBx.out).mono ?_
    rintro e w1 ⟨rfl, hd⟩
    refine ⟨_, rfl, ?_⟩
    have HB1 := Aside0.mk (below_inL HBx.out hd)
    have BP1 := Aside0.mk (blk_below BP.out hd)
    have BO1 := Aside0.mk (blk_below BO.out hd)
    clear hd
    refine hK.out _ _ ⟨(blk_cell BP1.out 0).trans rfl, (blk_cell BP1.out 1).trans rfl, (blk_cell BP1.out 2).trans rfl, (blk_cell BO1.out 0).trans rfl, (blk_cell BO1.out 1).trans rfl, (blk_cell BO1.out 2).trans rfl⟩ (fun hHeld => ?_)
    clear hK K
    refine norm_ (a' := ?_) ?_ ?_
    rotate_left
    · show Act.put _ (some 7) _ = _
      simp only [Act.put, List.setIfInBounds_toArray, List.set_cons_zero, List.set_cons_succ, i64_w, i32_w]
      rfl
    refine pure_ (i := 4) (N := some 8) (v := ?_) (a' := ?_) #[true, true, true, true, true, false, false, false, false, false, false, false, false] rfl rfl (by kernel_rfl) (fun _ _ _ h => h) (Or.inl ⟨by rfl, ?_⟩) ?_ ?_
    rotate_left
    · intro w'
      go_simp
      with_reducible rfl
    rotate_left
    · simp only [Act.put, List.setIfInBounds_toArray, List.set_cons_zero, List.set_cons_succ, i64_w, i32_w]
      rfl
    refine pure_ (i := 5) (N := some 9) (v := ?_) (a' := ?_) #[true, true, true, true, true, true, false, false, false, false, false, false, false] rfl rfl (by kernel_rfl) (fun _ _ _ h => h) (Or.inl ⟨by rfl, ?_⟩) ?_ ?_
    rotate_left
    · intro w'
      go_simp
      with_reducible rfl
    rotate_left
    · simp only [Act.put, List.setIfInBounds_toArray, List.set_cons_zero, List.set_cons_succ, i64_w, i32_w]
      rfl
    refine pure_ (i := 6) (N := some 10) (v := undef) (a' := ?_) #[true, true, true, true, true, true, true, false, false, false, false, false, false] rfl rfl (by kernel_rfl) (fun _ _ _ h => h) (Or.inr ⟨by rfl, rfl⟩) ?_ ?_
    rotate_left
    · simp only [Act.put, List.setIfInBounds_toArray, List.set_cons_zero, List.set_cons_succ, i64_w, i32_w]
      rfl
    refine pure_ (i := 7) (N := some 11) (v := undef) (a' := ?_) #[true, true, true, true, true, true, true, true, false, false, false, false, false] rfl rfl (by kernel_rfl) (fun _ _ _ h => h) (Or.inr ⟨by rfl, rfl⟩) ?_ ?_
    rotate_left
    · simp only [Act.put, List.setIfInBounds_toArray, List.set_cons_zero, List.set_cons_succ, i64_w, i32_w]
      rfl
    refine pure_ (i := 8) (N := some 12) (v := undef) (a' := ?_) #[true, true, true, true, true, true, true, true, true, false, false, false, false] rfl rfl (by kernel_rfl) (fun _ _ _ h => h) (Or.inr ⟨by rfl, rfl⟩) ?_ ?_
    rotate_left
    · simp only [Act.put, List.setIfInBounds_toArray, List.set_cons_zero, List.set_cons_succ, i64_w, i32_w]
      rfl
    refine pure_ (i := 9) (N := some 13) (v := undef) (a' := ?_) #[true, true, true, true, true, true, true, true, true, true, false, false, false] rfl rfl (by kernel_rfl) (fun _ _ _ h => h) (Or.inr ⟨by rfl, rfl⟩) ?_ ?_
    rotate_left
    · simp only [Act.put, List.setIfInBounds_toArray, List.set_cons_zero, List.set_cons_succ, i64_w, i32_w]
      rfl
    refine pure_ (i := 10) (N := some 14) (v := undef) (a' := ?_) #[true, true, true, true, true, true, true, true, true, true, true, false, false] rfl rfl (by kernel_rfl) (fun _ _ _ h => h) (Or.inr ⟨by rfl, rfl⟩) ?_ ?_
    rotate_left
    · simp only [Act.put, List.setIfInBounds_toArray, List.set_cons_zero, List.set_cons_succ, i64_w, i32_w]
      rfl
    refine pure_ (i := 11) (N := some 15) (v := ?_) (a' := ?_) #[true, true, true, true, true, true, true, true, true, true, true, true, false] rfl rfl (by kernel_rfl) (fun _ _ _ h => h) (Or.inl ⟨by rfl, ?_⟩) ?_ ?_
    rotate_left
    · intro w'
      go_simp
      with_reducible rfl
    rotate_left
    · simp only [Act.put, List.setIfInBounds_toArray, List.set_cons_zero, List.set_cons_succ, i64_w, i32_w]
      rfl
    refine pure_ (i := 12) (N := some 3) (v := ?_) (a' := ?_) #[true, true, true, true, true, true, true, true, true, true, true, true, true] rfl rfl (by kernel_rfl) (fun _ _ _ h => h) (Or.inl ⟨by rfl, ?_⟩) ?_ ?_
    rotate_left
    · intro w'
      go_simp
      with_reducible rfl
    rotate_left
    · simp only [Act.put, List.setIfInBounds_toArray, List.set_cons_zero, List.set_cons_succ, i64_w, i32_w]
      rfl
    refine done_ (by kernel_rfl) ?_
    try go_wp2
    go_ret
    exact ⟨rfl, HB1.out⟩
theorem rd27_at (l : List S27) (i : Nat) (h : i < l.length) : rd_T27 l (i : Int) = l[i] := by simp [rd_T27, h]
set_option maxHeartbeats 4000000 in
theorem indexR_c {pb : Nat} (hb : W.heap[pb]? = some (.cells #[.int .i64 r.f0, .slice A0 r.f1.length c0, .bool r.f2] 27 (0, 0))) (h0 : Kd.C (Kd.int .i64) W A0 r.f1.length r.f1) (g0 : r.f1.length ≤ c0)
    {A : Option Addr} {c : Nat} {l : List S27} (hr : Kd.C k27 W A l.length l) (hm : l.length ≤ 4000000000000) :
    Calls Try.prog 44 #[.slice A l.length c, .func (.func 29) #[] #[.pointer (some ⟨pb, 0, none⟩)]] W fun e w' => ∃ x : Int, e = .returned (.int .i64 x) ∧ decide (x ≥ 0) = l.any (meetsR r) ∧ Below W.heap.size W w' := by
  have HC := Aside0.mk (fun w (h : Below W.heap.size W w) (o : S27) (A1 : Option Addr) (c1 : Nat) (h1 : Kd.C (Kd.int .i64) w A1 o.f1.length o.f1) (g1 : o.f1.length ≤ c1) => hitR_c (W := w) (blk_below hb h) (Kd.C_below h0 h) g0 o h1 g1)
  have HR := Aside0.mk hr
  clear h0 g0 hb hr
  go_enter Try.func44, Try.ntmps44
  go_wp2
  go_loopw [8] (fun v8 wr => ∃ i : Nat, i ≤ l.length ∧ v8 = .int .i64 i ∧ Aside0 (l.any (meetsR r) = (l.drop i).any (meetsR r)) ∧ Aside0 (Below W.heap.size W wr)) (fun v8 _ => l.length - (intOf v8).toNat)
  case atStart => exact ⟨0, Nat.zero_le _, rfl, ⟨rfl⟩, ⟨Below.refl _ _⟩⟩
  case round =>
    obtain ⟨i, hi, rfl, HA, HB⟩ := hrel
    by_cases hlt : i < l.length
    case pos =>
      obtain ⟨ad, A1, c1, e, hx0, hx1, hx2, k1, r1⟩ := at_T27 (Kd.C_below HR.out HB.out) (i : Int) (by omega) (by omega)
      cases e
      rw [rd27_at l i hlt] at hx0 hx1 hx2 k1 r1
      simp only [Int.toNat_natCast] at hx0 hx1 hx2
      have HA1 := Aside0.mk (show l.any (meetsR r) = (meetsR r l[i] || (l.drop (i + 1)).any (meetsR r)) by rw [HA.out, List.drop_eq_getElem_cons hlt, List.any_cons])
      have hil : (i : Int) < (l.length : Int) := by omega
      generalize l[i] = o at *
      have C := Aside0.mk (HC.out _ HB.out o A1 c1 r1 k1)
      clear r1
      cases hv : meetsR r o
      case true =>
        rw [hv] at C HA1
        go_wp2_with (first | (go_at_call 29; (with_reducible refine C.out.mono ?_); rintro e w1 ⟨rfl, hb⟩; have HB1 := Aside0.mk (below_inL HB.out hb); clear hb))
        go_ret
        exact ⟨_, rfl, by rw [HA1.out]; simp, HB1.out⟩
      case false =>
        rw [hv] at C HA1
        go_wp2_with (first | (go_at_call 29; (with_reducible refine C.out.mono ?_); rintro e w1 ⟨rfl, hb⟩; have HB1 := Aside0.mk (below_inL HB.out hb); clear hb))
        refine ⟨⟨i + 1, by omega, by first | rfl | go_num, ⟨by rw [HA1.out]; rfl⟩, HB1⟩, ?_⟩
        simp [intOf]
        omega
    case neg =>
      obtain rfl : i = l.length := by omega
      rw [List.drop_length] at HA
      go_wp2
      go_ret
      exact ⟨_, rfl, by rw [HA.out]; rfl, HB.out⟩
theorem containsR_c {pb : Nat} (hb : W.heap[pb]? = some (.cells #[.int .i64 r.f0, .slice A0 r.f1.length c0, .bool r.f2] 27 (0, 0))) (h0 : Kd.C (Kd.int .i64) W A0 r.f1.length r.f1) (g0 : r.f1.length ≤ c0)
    {A : Option Addr} {c : Nat} {l : List S27} (hr : Kd.C k27 W A l.length l) (hm : l.length ≤ 4000000000000) :
    Calls Try.prog 28 #[.slice A l.length c, .func (.func 29) #[] #[.pointer (some ⟨pb, 0, none⟩)]] W fun e w' => e = .returned (.bool (l.any (meetsR r))) ∧ Below W.heap.size W w' := by
  have C := Aside0.mk (indexR_c (c := c) hb h0 g0 hr hm)
  generalize l.any (meetsR r) = v at *
  clear h0 g0 hb hr hm
  go_enter Try.func28, Try.ntmps28
  go_wp2_with (first | (go_at_call 44; (with_reducible refine C.out.mono ?_); rintro e w1 ⟨x, rfl, hv, hb⟩; have HV := Aside0.mk hv; have HB := Aside0.mk hb; clear hv hb))
  go_ret
  exact ⟨by rw [← HV.out]; rfl, HB.out⟩
end
end Go.Proofs.Ytkanhnhagjopkaa.M

/-
  Layer 2: a memory: its block, what was touched, its regions with words of their own: how it moves. No condition.
-/
namespace Go.Proofs.Ytkanhnhagjopkaa.M
open Go.RowKit Go.Proofs.YtkanhnhagjopkaaW.PrintWords Go.Proofs.YtkanhnhagjopkaaW.PrintLast Go.Proofs.Ytkanhnhagjopkaa.Num
set_option linter.unusedVariables false
set_option linter.unusedSimpArgs false
structure MemG (O : Nat → Prop) (w W : World) (pb r q : Nat) (vr : Value) (xs ys : List Int) (l : List S27) : Prop where
  tch : TchG [vr] 63 w W pb r q xs ys
  reg : Kd.S k27 27 W w.heap.size O vr l
  own : O pb ∧ O r ∧ O q
  lt : ∀ k, O k → k < W.heap.size
theorem k27_types {q : Nat} (h : q ∈ 27 :: k27.E) : q = 27 ∨ q = 2 := by
  have e : (27 :: k27.E) = [27, 2] := rfl
  rw [e] at h
  simpa using h
theorem map_block {W : World} {q : TypeId} {R : Value → Option (DU × List MemPlace)} {b n : Nat} {D : DU} (h : W.ownsMap Try.prog q R b n D) {k t : Nat} {cs : Array Value} (hc : W.heap[k]? = some (.cells cs t (0, 0))) : k ≠ b := by
  rintro rfl
  obtain ⟨es, clock, hb, _⟩ := h
  rw [hc] at hb
  cases hb
theorem S_map {W W' : World} {base : Nat} {ok : Nat → Prop} {v : Value} {l : List S27} {mb n : Nat} {D : DU} (h : Kd.S k27 27 W base ok v l) (hm : W.ownsMap Try.prog 2 RI mb n D) (hg : W.grownBy W' (some mb)) : Kd.S k27 27 W' base ok v l :=
  Kd.S_mono (Kd.S_grown (Kd.S_bound h) hg (fun k hk e => by
    obtain ⟨_, _, _, q, _, cells, hc⟩ := hk
    injection e with e
    exact map_block hm hc e)) (fun _ h => h.1)
/-- Where element i of the row stands: its base, its words' row, whether it may be written. -/
structure SlotG (W : World) (vr : Value) (l : List S27) (i : Nat) (A : Addr) (c g cg : Nat) : Prop where
  row : vr = .slice (some A) l.length c
  lt : i < l.length
  z0 : W.cell? (A.add (i * 3)) = some (.int .i64 (rd_T27 l i).f0)
  z1 : W.cell? ⟨(A.add (i * 3)).block, (A.add (i * 3)).off + 1, none⟩ = some (.slice (some ⟨g, 0, none⟩) (rd_T27 l i).f1.length cg)
  z2 : W.cell? ⟨(A.add (i * 3)).block, (A.add (i * 3)).off + 2, none⟩ = some (.bool (rd_T27 l i).f2)
  typ : ∃ cells, W.heap[g]? = some (.cells cells 2 (0, 0))
  own : ∃ cells, W.heap[(A.add (i * 3)).block]? = some (.cells cells 27 (0, 0))
  cap : (rd_T27 l i).f1.length ≤ cg
  at_ : ∀ k : Nat, k < (rd_T27 l i).f1.length → W.cell? ⟨g, k, none⟩ = some (.int .i64 (rd (rd_T27 l i).f1 k))
theorem slot_of {O : Nat → Prop} {W : World} {base : Nat} {vr : Value} {l : List S27} (h : Kd.S k27 27 W base O vr l) (i : Nat) (hi : i < l.length) (hp : 0 < (rd_T27 l i).f1.length) : ∃ A c g c1, SlotG W vr l i A c g c1 ∧ l.length ≤ c := by
  obtain ⟨g0, cap0, hv, _, _, cells0, hg0⟩ := Kd.S_form h (by omega)
  subst hv
  obtain ⟨oki, c, hcl, hM, hcc, hoki, _⟩ := Kd.S_borrow h z27 (i : Int) (by omega) (by omega)
  obtain ⟨v1, rfl, hR⟩ := k27_openM hM
  obtain ⟨g, cap, hv, _, _, cells, hgc⟩ := Kd.R_form hR hp
  subst hv
  obtain ⟨_, hcap, hC⟩ := Kd.R_reads' hR
  have hsz : k27.sz = 3 := rfl
  rw [hsz] at hcc
  simp only [Int.toNat_natCast] at hcc
  refine ⟨⟨g0, 0, none⟩, cap0, g, cap, ⟨rfl, hi, ?_, ?_, ?_, ⟨cells, hgc⟩, ⟨cells0, by rw [add_plain]; exact hg0⟩, hcap, fun k hk => ?_⟩, (Kd.S_reads' h).2.1⟩
  · exact hcc 0 _ rfl
  · rw [← add_field _ _ 1 (by omega)]; exact hcc 1 _ rfl
  · rw [← add_field _ _ 2 (by omega)]; exact hcc 2 _ rfl
  · have hk2 : (k : Int) < ((l.getD ((i : Int)).toNat z27).f1.length : Int) := by have hk3 : k < (l.getD ((i : Int)).toNat z27).f1.length := hk; omega
    obtain ⟨ad, e, hx⟩ := Kd.at_int hC (k : Int) (by omega) hk2
    cases e
    rw [Int.toNat_natCast, add_plain] at hx
    exact hx
section
variable {O : Nat → Prop} {w W W' : World} {pb r q : Nat} {vr : Value} {xs ys : List Int} {l : List S27}
theorem MemG.next (H : MemG O w W pb r q vr xs ys l) (hb : Below W.heap.size W W') : MemG O w W' pb r q vr xs ys l := ⟨H.tch.next hb, Kd.S_below H.reg hb, H.own, fun k hk => Nat.lt_of_lt_of_le (H.lt k hk) hb.size⟩
theorem MemG.touch1 (H : MemG O w W pb r q vr xs ys l) {xs' ys' : List Int} (T : TchG [vr] 63 w W' pb r q xs' ys') (hg : W.grownBy W' (some r)) : MemG O w W' pb r q vr xs' ys' l := by
  obtain ⟨D, hm, _⟩ := H.tch.m1
  exact ⟨T, S_map H.reg hm hg, H.own, fun k hk => Nat.lt_of_lt_of_le (H.lt k hk) hg.size⟩
theorem MemG.touch2 (H : MemG O w W pb r q vr xs ys l) {xs' ys' : List Int} (T : TchG [vr] 63 w W' pb r q xs' ys') (hg : W.grownBy W' (some q)) : MemG O w W' pb r q vr xs' ys' l := by
  obtain ⟨D, hm, _⟩ := H.tch.m2
  exact ⟨T, S_map H.reg hm hg, H.own, fun k hk => Nat.lt_of_lt_of_le (H.lt k hk) hg.size⟩
/-- A slot stays while maps grow. -/
theorem SlotG.grown {i : Nat} {A : Addr} {c g c1 mb : Nat} (h : SlotG W vr l i A c g c1) {n : Nat} {D : DU} (hm : W.ownsMap Try.prog 2 RI mb n D) (hg : W.grownBy W' (some mb)) : SlotG W' vr l i A c g c1 := by
  obtain ⟨cs, hcs⟩ := h.typ
  obtain ⟨cs2, hcs2⟩ := h.own
  have e1 : W'.heap[g]? = W.heap[g]? := hg.block g (blk_lt hcs) (fun e => map_block hm hcs (by injection e))
  have e2 : W'.heap[(A.add (i * 3)).block]? = W.heap[(A.add (i * 3)).block]? := hg.block _ (blk_lt hcs2) (fun e => map_block hm hcs2 (by injection e))
  have hw : ∀ k : Nat, k < (rd_T27 l i).f1.length → W'.cell? ⟨g, k, none⟩ = some (.int .i64 (rd (rd_T27 l i).f1 k)) := fun k hk => (World.cell?_of_block (by exact e1)).trans (h.at_ k hk)
  exact ⟨h.row, h.lt, (World.cell?_of_block (by exact e2)).trans h.z0, (World.cell?_of_block (by exact e2)).trans h.z1, (World.cell?_of_block (by exact e2)).trans h.z2, ⟨cs, e1.trans hcs⟩, ⟨cs2, e2.trans hcs2⟩, h.cap, hw⟩
theorem SlotG.next {i : Nat} {A : Addr} {c g c1 : Nat} (h : SlotG W vr l i A c g c1) (hb : Below W.heap.size W W') : SlotG W' vr l i A c g c1 := by
  obtain ⟨cs, hcs⟩ := h.typ
  obtain ⟨cs2, hcs2⟩ := h.own
  have e1 : W'.heap[g]? = W.heap[g]? := hb.block g (blk_lt hcs)
  have e2 : W'.heap[(A.add (i * 3)).block]? = W.heap[(A.add (i * 3)).block]? := hb.block _ (blk_lt hcs2)
  exact ⟨h.row, h.lt, (World.cell?_of_block (by exact e2)).trans h.z0, (World.cell?_of_block (by exact e2)).trans h.z1, (World.cell?_of_block (by exact e2)).trans h.z2, ⟨cs, e1.trans hcs⟩, ⟨cs2, e2.trans hcs2⟩, h.cap, fun k hk => (World.cell?_of_block (by exact e1)).trans (h.at_ k hk)⟩
theorem TchG.far {rest : List Value} {ty : Nat} (H : TchG rest ty w W pb r q xs ys) {p : Addr} (hp : w.heap.size ≤ p.block) (hne : pb ≠ p.block) (hr : r ≠ p.block) (hq : q ≠ p.block) (u : Value) : TchG rest ty w (W.setCell p u) pb r q xs ys where
  below := H.below.setCell hp u
  blk := blk_far H.blk hne u
  m1 := by obtain ⟨D, h, k⟩ := H.m1; exact ⟨D, h.setCell hr u, k⟩
  m2 := by obtain ⟨D, h, k⟩ := H.m2; exact ⟨D, h.setCell hq u, k⟩
  ge := H.ge
  ne := H.ne
/-- A word is written. -/
theorem MemG.store (H : MemG O w W pb r q vr xs ys l) {i : Nat} {A : Addr} {c g cg : Nat} (hs : SlotG W vr l i A c g cg) (k : Nat) (hk : k < (rd_T27 l i).f1.length) (v : Int) :
    MemG O w (W.setCell ⟨g, k, none⟩ (.int .i64 v)) pb r q vr xs ys (l.set i ⟨(rd_T27 l i).f0, (rd_T27 l i).f1.set k v, (rd_T27 l i).f2⟩) ∧ O g := by
  have hl := hs.lt
  have hR0 := H.reg
  rw [hs.row] at hR0
  obtain ⟨oki, cc, hcl, hM, hcc, hoki, hback⟩ := Kd.S_borrow hR0 z27 (i : Int) (by omega) (by omega)
  obtain ⟨v1, rfl, hR⟩ := k27_openM hM
  have hsz : k27.sz = 3 := rfl
  rw [hsz] at hcc
  simp only [Int.toNat_natCast] at hcc
  have h1 := hcc 1 _ rfl
  rw [add_field _ _ 1 (by omega), hs.z1] at h1
  injection h1 with h1
  subst h1
  have hbase : w.heap.size ≤ g := Kd.R_base hR g rfl
  have hokg : oki g := by
    have := hR.1 g rfl
    exact this
  obtain ⟨hp, hg⟩ := Kd.R_putg hR (k : Int) v
  simp only [Int.toNat_natCast] at hp hg
  obtain ⟨cs, hcs⟩ := hs.typ
  obtain ⟨D1, m1, _⟩ := H.tch.m1
  obtain ⟨D2, m2, _⟩ := H.tch.m2
  refine ⟨⟨H.tch.far (p := ⟨g, k, none⟩) hbase (blk_ne H.tch.blk hcs (by decide)) (fun e => map_block m1 hcs e.symm) (fun e => map_block m2 hcs e.symm) _, ?_, H.own, fun k hk => by have := H.lt k hk; simpa [World.setCell] using this⟩, (hoki g hokg).1⟩
  have hfin := hback (x' := ⟨(rd_T27 l i).f0, (rd_T27 l i).f1.set k v, (rd_T27 l i).f2⟩) hg (fun j hj => by injection hj with hj; exact hj ▸ hokg) ?_
  · rw [hs.row]
    exact hfin
  · refine k27_mkM _ _ _ (⟨(rd_T27 l i).f0, (rd_T27 l i).f1.set k v, (rd_T27 l i).f2⟩ : S27) ?_
    exact hp
theorem TchG.kept {rest : List Value} {ty : Nat} (H : TchG rest ty w W pb r q xs ys) {X : Nat → Prop} (hk : Kept W W' X) (h0 : ¬ X pb) (h1 : ¬ X r) (h2 : ¬ X q) (hb : Below w.heap.size w W') : TchG rest ty w W' pb r q xs ys where
  below := hb
  blk := blk_kept H.blk hk h0
  m1 := by
    obtain ⟨D, ⟨es, clock, h, F⟩, k⟩ := H.m1
    exact ⟨D, ⟨es, clock, (hk.2 r (Array.getElem?_eq_some_iff.1 h).1 h1).trans h, F⟩, k⟩
  m2 := by
    obtain ⟨D, ⟨es, clock, h, F⟩, k⟩ := H.m2
    exact ⟨D, ⟨es, clock, (hk.2 q (Array.getElem?_eq_some_iff.1 h).1 h2).trans h, F⟩, k⟩
  ge := H.ge
  ne := H.ne
/-- What is written is none of the memory's blocks. -/
theorem MemG.kept (H : MemG O w W pb r q vr xs ys l) {X : Nat → Prop} (hk : Kept W W' X) (hX : ∀ k, O k → ¬ X k) (hb : Below w.heap.size w W') : MemG O w W' pb r q vr xs ys l :=
  ⟨H.tch.kept hk (hX _ H.own.1) (hX _ H.own.2.1) (hX _ H.own.2.2) hb, Kd.S_kept H.reg hk hX, H.own, fun k h => Nat.lt_of_lt_of_le (H.lt k h) hk.1⟩
theorem MemG.more (H : MemG O w W pb r q vr xs ys l) {O' : Nat → Prop} (h : ∀ k, O k → O' k) (hl : ∀ k, O' k → k < W.heap.size) : MemG O' w W pb r q vr xs ys l := ⟨H.tch, Kd.S_mono H.reg h, ⟨h _ H.own.1, h _ H.own.2.1, h _ H.own.2.2⟩, hl⟩
end
end Go.Proofs.Ytkanhnhagjopkaa.M

/-
  Layer 2: where a word stands (mem's word): plain, and the walk. Conditions: a memory that may be.
-/
namespace Go.Proofs.Ytkanhnhagjopkaa.M
open Go.RowKit Go.Proofs.YtkanhnhagjopkaaW.PrintWords Go.Proofs.YtkanhnhagjopkaaW.PrintLast Go.Proofs.Ytkanhnhagjopkaa.Num
set_option linter.unusedVariables false
set_option linter.unusedSimpArgs false
theorem and7 (x : Int) : bits .and .i64 x 7 = x % 8 := by
  rw [bits_and_i64]
  have h2 : (BitVec.ofInt 64 (7 : Int)).toNat = 2 ^ 3 - 1 := by decide
  rw [h2, Nat.and_two_pow_sub_one_eq_mod]
  have h := ofInt_toNat 64 x
  unfold wrap64
  omega
def goodR (r : S27) : Prop := 0 ≤ r.f0 ∧ r.f0 ≤ 1099511627776 ∧ r.f0 % 8 = 0 ∧ r.f1.length ≤ 65536
theorem endv_good {r : S27} (h : goodR r) : endv r = r.f0 + 8 * (r.f1.length : Int) := by
  obtain ⟨h0, h1, h2, h3⟩ := h
  unfold endv
  rw [wrap64_id (n := 8 * _) (by omega) (by omega), wrap64_id (by omega) (by omega)]
def inR (a : Int) (r : S27) : Bool := decide (r.f0 ≤ a) && decide (a < r.f0 + 8 * (r.f1.length : Int))
def okA (a : Int) : Bool := decide (0 ≤ a) && decide (a % 8 = 0)
def findI (l : List S27) (a : Int) : Option Nat := if okA a then l.findIdx? (inR a) else none
theorem find_some {l : List S27} {a : Int} {i : Nat} (ha : okA a = true) (hi : i < l.length) (h : inR a l[i] = true) (hn : ∀ j, (hj : j < l.length) → j < i → inR a l[j] = false) : findI l a = some i := by
  unfold findI
  rw [if_pos ha, List.findIdx?_eq_some_iff_getElem]
  exact ⟨hi, h, fun j hj => by rw [hn j (by omega) hj]; simp⟩
theorem find_none {l : List S27} {a : Int} (hn : ∀ j, (hj : j < l.length) → inR a l[j] = false) : findI l a = none := by
  unfold findI
  split
  · rw [List.findIdx?_eq_none_iff]
    intro x hx
    obtain ⟨j, hj, rfl⟩ := List.getElem_of_mem hx
    exact hn j hj
  · rfl
/-- The number of the word, in its region. -/
def nth (l : List S27) (i : Nat) (a : Int) : Nat := ((a - (rd_T27 l i).f0) / 8).toNat
/-- What word answers. -/
def WordA (W : World) (vr : Value) (l : List S27) (a : Int) (e : Ending) : Prop :=
  (findI l a = none ∧ e = .returned (.tuple #[.pointer none, .bool false])) ∨
  ∃ i A c g cg, findI l a = some i ∧ SlotG W vr l i A c g cg ∧ nth l i a < (rd_T27 l i).f1.length ∧ e = .returned (.tuple #[.pointer (some ⟨g, nth l i a, none⟩), .bool (rd_T27 l i).f2])
theorem C_of_S {O : Nat → Prop} {W : World} {base : Nat} {A : Option Addr} {n c : Nat} {l : List S27} (h : Kd.S k27 27 W base O (.slice A n c) l) : Kd.C k27 W A l.length l ∧ n = l.length ∧ n ≤ c := by
  obtain ⟨rfl, h1, h2⟩ := Kd.S_reads' h
  exact ⟨h2, rfl, h1⟩
set_option maxHeartbeats 4000000 in
theorem word_c {O : Nat → Prop} {w W : World} {pb r q : Nat} {vr : Value} {xs ys : List Int} {l : List S27} (H : MemG O w W pb r q vr xs ys l) (G : ∀ o ∈ l, goodR o) (hm : l.length ≤ 1000) (a : Int) (a0 : -9223372036854775808 ≤ a) (a1 : a ≤ 9223372036854775807) :
    Calls Try.prog 32 #[.pointer (some ⟨pb, 0, none⟩), .int .i64 a] W fun e w' => WordA W vr l a e ∧ Below W.heap.size W w' := by
  obtain ⟨A, c, rfl⟩ := Kd.S_slice H.reg
  have HH := Aside0.mk H
  have GG := Aside0.mk G
  obtain ⟨hC, -, hcc⟩ := C_of_S H.reg
  have HC := Aside0.mk hC
  have hcc' : (l.length : Int) ≤ (c : Int) := by omega
  have k2 : W.cell? ⟨pb, 2, none⟩ = some (.slice A l.length c) := (blk_cell H.tch.blk 2).trans rfl
  have K2 := Aside0.mk k2
  clear H G hC hcc
  by_cases h0 : a < 0
  case pos =>
    clear hcc'
    go_enter Try.func32, Try.ntmps32
    go_wp2
    go_ret2
    exact ⟨.inl ⟨by unfold findI okA; rw [if_neg (by simp; omega)], rfl⟩, Below.refl _ _⟩
  by_cases h1 : bits .and .i64 a 7 = 0
  case neg =>
    clear hcc'
    have H1 := Aside0.mk h1
    go_enter Try.func32, Try.ntmps32
    go_wp2
    go_ret2
    exact ⟨.inl ⟨by have := H1.out; rw [and7] at this; unfold findI okA; rw [if_neg (by simp; omega)], rfl⟩, Below.refl _ _⟩
  have OK := Aside0.mk (show okA a = true by rw [and7] at h1; unfold okA; simp; omega)
  go_enter Try.func32, Try.ntmps32
  go_wp2
  go_loopw [20] (fun v20 wr => ∃ i : Nat, i ≤ l.length ∧ v20 = .int .i64 i ∧ Aside0 (∀ j, (hj : j < l.length) → j < i → inR a l[j] = false) ∧ Aside0 (Below W.heap.size W wr)) (fun v20 _ => l.length - (intOf v20).toNat)
  case atStart => exact ⟨0, Nat.zero_le _, rfl, ⟨fun j _ h => by omega⟩, ⟨Below.refl _ _⟩⟩
  case round =>
    clear k2
    obtain ⟨i, hi, rfl, HA, HB⟩ := hrel
    have HI := Aside0.mk (HH.out.next HB.out)
    have k2 : wr.cell? ⟨pb, 2, none⟩ = some (.slice A l.length c) := (blk_cell HI.out.tch.blk 2).trans rfl
    by_cases hlt : i < l.length
    case pos =>
      obtain ⟨ad, A1, c1, e, hx0, hx1, hx2, k1, r1⟩ := at_T27 (Kd.C_below HC.out HB.out) (i : Int) (by omega) (by omega)
      cases e
      simp only [Int.toNat_natCast] at hx0 hx1 hx2
      have EL := Aside0.mk (rd27_at l i hlt)
      have GI := GG.out _ (List.getElem_mem hlt)
      have LT := Aside0.mk hlt
      have SL := Aside0.mk (fun hp => slot_of HH.out.reg i hlt hp)
      rw [← EL.out] at GI
      have FS := Aside0.mk (fun h => find_some OK.out hlt (by rw [← EL.out]; exact h) HA.out)
      have HN := Aside0.mk (fun h : inR a (rd_T27 l i) = false => show ∀ j, (hj : j < l.length) → j < i + 1 → inR a l[j] = false from fun j hj hji => by
        by_cases e : j = i
        · subst e
          rw [← EL.out]; exact h
        · exact HA.out j hj (by omega))
      have hil : (i : Int) < (l.length : Int) := by omega
      have C0 := Aside0.mk (mem_end.calls (rd_T27 l i).f0 A1 c1 (rd_T27 l i).f1 (rd_T27 l i).f2 (endv (rd_T27 l i)) wr r1 k1 rfl)
      rw [endv_good GI] at C0
      obtain ⟨o, ho⟩ : ∃ o, o = rd_T27 l i := ⟨_, rfl⟩
      rw [← ho] at hx0 hx1 hx2 k1 GI FS HN C0 SL
      have HO := Aside0.mk ho
      clear r1 ho
      have GI0 := Aside0.mk GI
      clear GI
      by_cases hb : o.f0 ≤ a
      case neg =>
        go_wp2
        refine ⟨⟨i + 1, LT.out, by first | rfl | go_num, ⟨HN.out (by unfold inR; simp; omega)⟩, HB⟩, ?_⟩
        have := LT.out
        simp [intOf]
        omega
      case pos =>
        by_cases hb2 : a < o.f0 + 8 * (o.f1.length : Int)
        case neg =>
          go_wp2_with (first | (go_at_call 30; (with_reducible refine C0.out.mono ?_); rintro e w1 ⟨rfl, hd⟩; have HB1 := Aside0.mk (below_inL HB.out hd); clear hd))
          refine ⟨⟨i + 1, LT.out, by first | rfl | go_num, ⟨HN.out (by unfold inR; simp; omega)⟩, HB1⟩, ?_⟩
          have := LT.out
          simp [intOf]
          omega
        case pos =>
          obtain ⟨A', c', g, cg, hs, _⟩ := SL.out (by omega)
          obtain rfl : ad = A' := by have := hs.row; injection this with e1; injection e1
          obtain rfl : c = c' := by have := hs.row; injection this
          have hz := hx1.symm.trans (HO.out ▸ (hs.next HB.out).z1)
          injection hz with hz
          injection hz with hz1 _ hz3
          subst hz1 hz3
          have HS := Aside0.mk hs
          have HF := Aside0.mk (FS.out (by unfold inR; simp; omega))
          clear hs FS HN SL
          obtain ⟨m, hm0⟩ : ∃ m, m = nth l i a := ⟨_, rfl⟩
          have hm1 : wrap64 ((wrap64 (a - o.f0)).tdiv 8) = (m : Int) ∧ (m : Int) < (o.f1.length : Int) := by
            have hg := GI0.out
            unfold goodR at hg
            have hh := HO.out
            subst hm0
            unfold nth
            rw [← hh, wrap64_id (n := a - o.f0) (by omega) (by omega), Int.tdiv_eq_ediv_of_nonneg (by omega), wrap64_id (by omega) (by omega)]
            omega
          have HM0 := Aside0.mk hm0
          have HM1 := Aside0.mk hm1
          obtain ⟨hq1, hq2⟩ := hm1
          clear hm0
          go_wp2_with (first | (go_at_call 30; (with_reducible refine C0.out.mono ?_); rintro e w1 ⟨rfl, hd⟩; have HBd := Aside0.mk hd; have HB1 := Aside0.mk (below_inL HB.out hd); clear hd))
          refine start_ (n := 18) (S := fun w' => w'.cell? (ad.add (i * 3)) = some (.int .i64 o.f0) ∧ w'.cell? ⟨(ad.add (i * 3)).block, (ad.add (i * 3)).off + 1, none⟩ = some (.slice (some ⟨g, 0, none⟩) o.f1.length c1) ∧ w'.cell? ⟨(ad.add (i * 3)).block, (ad.add (i * 3)).off + 2, none⟩ = some (.bool o.f2)) (ds := []) #[false, false, false, false, false, false, false, false, false, false, false, false, false, false, false, false, false, false] (by kernel_rfl) rfl rfl ⟨(pw_cell_below HBd.out hx0), (pw_cell_below HBd.out hx1), (pw_cell_below HBd.out hx2)⟩ (fun hHeld => ?_)
          refine pure_ (i := 0) (N := some 43) (v := ?_) (a' := ?_) #[true, false, false, false, false, false, false, false, false, false, false, false, false, false, false, false, false, false] rfl rfl (by kernel_rfl) (fun _ _ _ h => h) (Or.inl ⟨by rfl, ?_⟩) ?_ ?_
          rotate_left
          · intro w'
            go_simp
            with_reducible rfl
          rotate_left
          · simp only [Act.put, List.setIfInBounds_toArray, List.set_cons_zero, List.set_cons_succ, i64_w, i32_w]
            rfl
          refine pure_ (i := 1) (N := some 44) (v := ?_) (a' := ?_) #[true, true, false, false, false, false, false, false, false, false, false, false, false, false, false, false, false, false] rfl rfl (by kernel_rfl) (fun _ _ _ h => h) (Or.inl ⟨by rfl, ?_⟩) ?_ ?_
          rotate_left
          · intro w'
            go_simp
            with_reducible rfl
          rotate_left
          · simp only [Act.put, List.setIfInBounds_toArray, List.set_cons_zero, List.set_cons_succ, i64_w, i32_w]
            rfl
          refine pure_ (i := 2) (N := some 45) (v := ?_) (a' := ?_) #[true, true, true, false, false, false, false, false, false, false, false, false, false, false, false, false, false, false] rfl rfl (by kernel_rfl) (fun _ _ _ h => h) (Or.inl ⟨by rfl, ?_⟩) ?_ ?_
          rotate_left
          · intro w'
            go_simp
            with_reducible rfl
          rotate_left
          · simp only [Act.put, List.setIfInBounds_toArray, List.set_cons_zero, List.set_cons_succ, i64_w, i32_w]
            rfl
          refine pure_ (i := 4) (N := some 47) (v := ?_) (a' := ?_) #[true, true, true, false, true, false, false, false, false, false, false, false, false, false, false, false, false, false] rfl rfl (by kernel_rfl) (fun _ _ _ h => h) (Or.inl ⟨by rfl, ?_⟩) ?_ ?_
          rotate_left
          · intro w'
            go_simp
            with_reducible rfl
          rotate_left
          · simp only [Act.put, List.setIfInBounds_toArray, List.set_cons_zero, List.set_cons_succ, i64_w, i32_w]
            rfl
          refine pure_ (i := 5) (N := some 48) (v := ?_) (a' := ?_) #[true, true, true, false, true, true, false, false, false, false, false, false, false, false, false, false, false, false] rfl rfl (by kernel_rfl) (fun _ _ _ h => h) (Or.inl ⟨by rfl, ?_⟩) ?_ ?_
          rotate_left
          · intro w'
            go_simp
            with_reducible rfl
          rotate_left
          · simp only [Act.put, List.setIfInBounds_toArray, List.set_cons_zero, List.set_cons_succ, i64_w, i32_w]
            rfl
          refine pure_ (i := 6) (N := some 49) (v := ?_) (a' := ?_) #[true, true, true, false, true, true, true, false, false, false, false, false, false, false, false, false, false, false] rfl rfl (by kernel_rfl) (fun _ _ _ h => h) (Or.inl ⟨by rfl, ?_⟩) ?_ ?_
          rotate_left
          · intro w'
            go_simp
            with_reducible rfl
          rotate_left
          · simp only [Act.put, List.setIfInBounds_toArray, List.set_cons_zero, List.set_cons_succ, i64_w, i32_w]
            rfl
          refine pure_ (i := 7) (N := some 50) (v := ?_) (a' := ?_) #[true, true, true, false, true, true, true, true, false, false, false, false, false, false, false, false, false, false] rfl rfl (by kernel_rfl) (fun _ _ _ h => h) (Or.inl ⟨by rfl, ?_⟩) ?_ ?_
          rotate_left
          · intro w'
            go_simp
            with_reducible rfl
          rotate_left
          · simp only [Act.put, List.setIfInBounds_toArray, List.set_cons_zero, List.set_cons_succ, i64_w, i32_w]
            rfl
          refine pure_ (i := 12) (N := some 55) (v := ?_) (a' := ?_) #[true, true, true, false, true, true, true, true, false, false, false, false, true, false, false, false, false, false] rfl rfl (by kernel_rfl) (fun _ _ _ h => h) (Or.inl ⟨by rfl, ?_⟩) ?_ ?_
          rotate_left
          · intro w'
            go_simp
            with_reducible rfl
          rotate_left
          · simp only [Act.put, List.setIfInBounds_toArray, List.set_cons_zero, List.set_cons_succ, i64_w, i32_w]
            rfl
          refine pure_ (i := 13) (N := some 56) (v := ?_) (a' := ?_) #[true, true, true, false, true, true, true, true, false, false, false, false, true, true, false, false, false, false] rfl rfl (by kernel_rfl) (fun _ _ _ h => h) (Or.inl ⟨by rfl, ?_⟩) ?_ ?_
          rotate_left
          · intro w'
            go_simp
            with_reducible rfl
          rotate_left
          · simp only [Act.put, List.setIfInBounds_toArray, List.set_cons_zero, List.set_cons_succ, i64_w, i32_w]
            rfl
          refine pure_ (i := 14) (N := some 57) (v := ?_) (a' := ?_) #[true, true, true, false, true, true, true, true, false, false, false, false, true, true, true, false, false, false] rfl rfl (by kernel_rfl) (fun _ _ _ h => h) (Or.inl ⟨by rfl, ?_⟩) ?_ ?_
          rotate_left
          · intro w'
            go_simp
            with_reducible rfl
          rotate_left
          · simp only [Act.put, List.setIfInBounds_toArray, List.set_cons_zero, List.set_cons_succ, i64_w, i32_w]
            rfl
          refine take_ (i := 3) (N := some 46) (v := ?_) (a' := ?_) #[true, true, true, true, true, true, true, true, false, false, false, false, true, true, true, false, false, false] rfl rfl (by kernel_rfl) (fun _ _ _ h => h) (Or.inl ⟨by rfl, ?_⟩) hHeld ?_ ?_
          rotate_left
          · rintro w' ⟨s0, s1, s2⟩
            go_simp
            with_reducible rfl
          rotate_left
          · simp only [Act.put, List.setIfInBounds_toArray, List.set_cons_zero, List.set_cons_succ, i64_w, i32_w]
            rfl
          refine take_ (i := 8) (N := some 51) (v := ?_) (a' := ?_) #[true, true, true, true, true, true, true, true, true, false, false, false, true, true, true, false, false, false] rfl rfl (by kernel_rfl) (fun _ _ _ h => h) (Or.inl ⟨by rfl, ?_⟩) hHeld ?_ ?_
          rotate_left
          · rintro w' ⟨s0, s1, s2⟩
            go_simp
            with_reducible rfl
          rotate_left
          · simp only [Act.put, List.setIfInBounds_toArray, List.set_cons_zero, List.set_cons_succ, i64_w, i32_w]
            rfl
          refine pure_ (i := 9) (N := some 52) (v := ?_) (a' := ?_) #[true, true, true, true, true, true, true, true, true, true, false, false, true, true, true, false, false, false] rfl rfl (by kernel_rfl) (fun _ _ _ h => h) (Or.inl ⟨by rfl, ?_⟩) ?_ ?_
          rotate_left
          · intro w'
            go_simp
            with_reducible rfl
          rotate_left
          · simp only [Act.put, List.setIfInBounds_toArray, List.set_cons_zero, List.set_cons_succ, i64_w, i32_w]
            rfl
          refine pure_ (i := 10) (N := some 53) (v := ?_) (a' := ?_) #[true, true, true, true, true, true, true, true, true, true, true, false, true, true, true, false, false, false] rfl rfl (by kernel_rfl) (fun _ _ _ h => h) (Or.inl ⟨by rfl, ?_⟩) ?_ ?_
          rotate_left
          · intro w'
            go_simp
            with_reducible rfl
          rotate_left
          · simp only [Act.put, List.setIfInBounds_toArray, List.set_cons_zero, List.set_cons_succ, i64_w, i32_w]
            rfl
          refine pure_ (i := 11) (N := some 54) (v := ?_) (a' := ?_) #[true, true, true, true, true, true, true, true, true, true, true, true, true, true, true, false, false, false] rfl rfl (by kernel_rfl) (fun _ _ _ h => h) (Or.inl ⟨by rfl, ?_⟩) ?_ ?_
          rotate_left
          · intro w'
            go_simp
            with_reducible rfl
          rotate_left
          · simp only [Act.put, List.setIfInBounds_toArray, List.set_cons_zero, List.set_cons_succ, i64_w, i32_w]
            rfl
          refine pure_ (i := 16) (N := some 4) (v := ?_) (a' := ?_) #[true, true, true, true, true, true, true, true, true, true, true, true, true, true, true, false, true, false] rfl rfl (by kernel_rfl) (fun _ _ _ h => h) (Or.inl ⟨by rfl, ?_⟩) ?_ ?_
          rotate_left
          · intro w'
            go_simp
            with_reducible rfl
          rotate_left
          · simp only [Act.put, List.setIfInBounds_toArray, List.set_cons_zero, List.set_cons_succ, i64_w, i32_w]
            rfl
          refine take_ (i := 15) (N := some 58) (v := ?_) (a' := ?_) #[true, true, true, true, true, true, true, true, true, true, true, true, true, true, true, true, true, false] rfl rfl (by kernel_rfl) (fun _ _ _ h => h) (Or.inl ⟨by rfl, ?_⟩) hHeld ?_ ?_
          rotate_left
          · rintro w' ⟨s0, s1, s2⟩
            go_simp
            with_reducible rfl
          rotate_left
          · simp only [Act.put, List.setIfInBounds_toArray, List.set_cons_zero, List.set_cons_succ, i64_w, i32_w]
            rfl
          refine pure_ (i := 17) (N := some 5) (v := ?_) (a' := ?_) #[true, true, true, true, true, true, true, true, true, true, true, true, true, true, true, true, true, true] rfl rfl (by kernel_rfl) (fun _ _ _ h => h) (Or.inl ⟨by rfl, ?_⟩) ?_ ?_
          rotate_left
          · intro w'
            go_simp
            with_reducible rfl
          rotate_left
          · simp only [Act.put, List.setIfInBounds_toArray, List.set_cons_zero, List.set_cons_succ, i64_w, i32_w]
            rfl
          refine done_ (by kernel_rfl) ?_
          go_wp2
          go_ret2
          refine ⟨.inr ⟨i, ad, c, g, c1, HF.out, HS.out, ?_, ?_⟩, below_drew1 HB1.out⟩
          · rw [← HM0.out, ← HO.out]
            have := HM1.out.2
            omega
          · rw [← HM0.out, ← HO.out]
            rfl
    case neg =>
      obtain rfl : i = l.length := by omega
      go_wp2
      go_ret2
      exact ⟨.inl ⟨find_none (fun j hj => HA.out j hj hj), rfl⟩, HB.out⟩
end Go.Proofs.Ytkanhnhagjopkaa.M

/-
  Layer 2: Load, Store, Words of a memory: the walks. Conditions: a memory that may be.
-/
namespace Go.Proofs.Ytkanhnhagjopkaa.M
open Go.RowKit Go.Proofs.YtkanhnhagjopkaaW.PrintWords Go.Proofs.YtkanhnhagjopkaaW.PrintLast Go.Proofs.Ytkanhnhagjopkaa.Num
set_option linter.unusedVariables false
set_option linter.unusedSimpArgs false
/-- What Load answers, and what is touched then. -/
def loadV (l : List S27) (a : Int) : Int × Int := match findI l a with | none => (0, 11) | some i => (rd (rd_T27 l i).f1 (nth l i a : Nat), 0)
def touchF (l : List S27) (a : Int) (xs : List Int) : List Int := match findI l a with | none => xs | some _ => xs ++ [a]
/-- What Store answers, what is touched then, and the regions. -/
def storeE (l : List S27) (a : Int) : Int := match findI l a with | none => 11 | some i => if (rd_T27 l i).f2 then 0 else 11
def storeT (l : List S27) (a : Int) (ys : List Int) : List Int := match findI l a with | none => ys | some i => if (rd_T27 l i).f2 then ys ++ [a] else ys
def storeL (l : List S27) (a v : Int) : List S27 := match findI l a with | none => l | some i => if (rd_T27 l i).f2 then l.set i ⟨(rd_T27 l i).f0, (rd_T27 l i).f1.set (nth l i a) v, (rd_T27 l i).f2⟩ else l
section
variable {O : Nat → Prop} {w W : World} {pb r q : Nat} {vr : Value} {xs ys : List Int} {l : List S27}
theorem word_n (H : MemG O w W pb r q vr xs ys l) (G : ∀ o ∈ l, goodR o) (hm : l.length ≤ 1000) (a : Int) (a0 : -9223372036854775808 ≤ a) (a1 : a ≤ 9223372036854775807) (hf : findI l a = none) :
    Calls Try.prog 32 #[.pointer (some ⟨pb, 0, none⟩), .int .i64 a] W fun e w' => e = .returned (.tuple #[.pointer none, .bool false]) ∧ Below W.heap.size W w' := by
  refine (word_c H G hm a a0 a1).mono ?_
  rintro e w' ⟨⟨_, rfl⟩ | ⟨i, A, c, g, cg, h, _⟩, hb⟩
  · exact ⟨rfl, hb⟩
  · rw [hf] at h; cases h
theorem word_s (H : MemG O w W pb r q vr xs ys l) (G : ∀ o ∈ l, goodR o) (hm : l.length ≤ 1000) (a : Int) (a0 : -9223372036854775808 ≤ a) (a1 : a ≤ 9223372036854775807) {i : Nat} (hf : findI l a = some i) :
    Calls Try.prog 32 #[.pointer (some ⟨pb, 0, none⟩), .int .i64 a] W fun e w' => ∃ A c g cg, SlotG W vr l i A c g cg ∧ nth l i a < (rd_T27 l i).f1.length ∧ e = .returned (.tuple #[.pointer (some ⟨g, nth l i a, none⟩), .bool (rd_T27 l i).f2]) ∧ Below W.heap.size W w' := by
  refine (word_c H G hm a a0 a1).mono ?_
  rintro e w' ⟨⟨h, _⟩ | ⟨j, A, c, g, cg, h, hs, hn, rfl⟩, hb⟩
  · rw [hf] at h; cases h
  · rw [hf] at h
    injection h with h
    subst h
    exact ⟨A, c, g, cg, hs, hn, rfl, hb⟩
theorem below_kept {W W' : World} (h : Below W.heap.size W W') (X : Nat → Prop) : Kept W W' X := Kept.of_below h X
set_option maxHeartbeats 4000000 in
theorem load_c (H : MemG O w W pb r q vr xs ys l) (G : ∀ o ∈ l, goodR o) (hm : l.length ≤ 1000) (lx : xs.length ≤ 1000000) (a : Int) (a0 : -9223372036854775808 ≤ a) (a1 : a ≤ 9223372036854775807) :
    Calls Try.prog 10 #[.pointer (some ⟨pb, 0, none⟩), .int .i64 a] W fun e w' => e = .returned (.tuple #[.int .i64 (loadV l a).1, .int .i64 (loadV l a).2]) ∧ MemG O w w' pb r q vr (touchF l a xs) ys l ∧ Kept W w' O := by
  unfold loadV touchF
  cases hf : findI l a with
  | none =>
    have C := Aside0.mk (word_n H G hm a a0 a1 hf)
    have HH := Aside0.mk H
    clear H G lx hf
    dsimp only
    go_enter Try.func10, Try.ntmps10
    go_wp2_with (first | (go_at_call 32; (with_reducible refine C.out.mono ?_); rintro e w1 ⟨rfl, hd⟩; have HB1 := Aside0.mk hd; clear hd))
    go_ret2
    exact ⟨rfl, HH.out.next HB1.out, below_kept HB1.out O⟩
  | some i =>
    have C := Aside0.mk (word_s H G hm a a0 a1 hf)
    have HH := Aside0.mk H
    have LX := Aside0.mk lx
    clear H G lx hf
    dsimp only
    obtain ⟨m, hm0⟩ : ∃ m, m = nth l i a := ⟨_, rfl⟩
    obtain ⟨v, hv⟩ : ∃ v, v = rd (rd_T27 l i).f1 (m : Nat) := ⟨_, rfl⟩
    rw [← hm0] at C ⊢
    rw [← hv]
    have HV := Aside0.mk hv
    clear hm0 hv
    go_enter Try.func10, Try.ntmps10
    go_wp2_with (first
      | (go_at_call 32; (with_reducible refine C.out.mono ?_); rintro e w1 ⟨A, c, g, cg, hs, hn, rfl, hd⟩; have HB1 := Aside0.mk hd; have HM1 := Aside0.mk (HH.out.next hd); have HS1 := Aside0.mk (hs.next hd); have HN := Aside0.mk hn; clear hd hs hn)
      | (go_at_call 33; (with_reducible refine (read_c HM1.out.tch a a0 a1 LX.out).mono ?_); rintro e w2 ⟨rfl, ht, hg⟩; have HM2 := Aside0.mk (HM1.out.touch1 ht hg); have HS2 := Aside0.mk (HS1.out.grown HM1.out.tch.m1.choose_spec.1 hg); have HG := Aside0.mk hg; have kz : w2.cell? ⟨g, m, none⟩ = some (.int .i64 v) := (HS2.out.at_ m HN.out).trans (by rw [HV.out]); clear ht hg))
    go_ret2
    exact ⟨rfl, HM2.out, (below_kept HB1.out O).of_grown HG.out (fun k hk => by injection hk with hk; subst hk; exact .inl HH.out.own.2.1)⟩
set_option maxHeartbeats 4000000 in
theorem store_c (H : MemG O w W pb r q vr xs ys l) (G : ∀ o ∈ l, goodR o) (hm : l.length ≤ 1000) (ly : ys.length ≤ 1000000) (a : Int) (a0 : -9223372036854775808 ≤ a) (a1 : a ≤ 9223372036854775807) (v : Int) :
    Calls Try.prog 11 #[.pointer (some ⟨pb, 0, none⟩), .int .i64 a, .int .i64 v] W fun e w' => e = .returned (.int .i64 (storeE l a)) ∧ MemG O w w' pb r q vr xs (storeT l a ys) (storeL l a v) ∧ Kept W w' O := by
  unfold storeE storeT storeL
  cases hf : findI l a with
  | none =>
    have C := Aside0.mk (word_n H G hm a a0 a1 hf)
    have HH := Aside0.mk H
    clear H G ly hf
    dsimp only
    go_enter Try.func11, Try.ntmps11
    go_wp2_with (first | (go_at_call 32; (with_reducible refine C.out.mono ?_); rintro e w1 ⟨rfl, hd⟩; have HB1 := Aside0.mk hd; clear hd))
    go_ret
    exact ⟨rfl, HH.out.next HB1.out, below_kept HB1.out O⟩
  | some i =>
    have C := Aside0.mk (word_s H G hm a a0 a1 hf)
    have HH := Aside0.mk H
    have LY := Aside0.mk ly
    clear H G ly hf
    dsimp only
    obtain ⟨m, hm0⟩ : ∃ m, m = nth l i a := ⟨_, rfl⟩
    rw [← hm0] at C ⊢
    clear hm0
    cases hw : (rd_T27 l i).f2 with
    | false =>
      rw [hw] at C
      go_enter Try.func11, Try.ntmps11
      go_wp2_with (first
        | (go_at_call 32; (with_reducible refine C.out.mono ?_); rintro e w1 ⟨A, c, g, cg, hs, hn, rfl, hd⟩; have HB1 := Aside0.mk hd; clear hd hs hn))
      go_ret
      exact ⟨rfl, HH.out.next HB1.out, below_kept HB1.out O⟩
    | true =>
      rw [hw] at C
      have HW := Aside0.mk hw
      clear hw
      go_enter Try.func11, Try.ntmps11
      go_wp2_with (first
        | (go_at_call 32; (with_reducible refine C.out.mono ?_); rintro e w1 ⟨A, c, g, cg, hs, hn, rfl, hd⟩; have HB1 := Aside0.mk hd; have HM1 := Aside0.mk (HH.out.next hd); have HS1 := Aside0.mk (hs.next hd); have HN := Aside0.mk hn; clear hd hs hn)
        | (go_at_call 34; (with_reducible refine (wrote_c HM1.out.tch a a0 a1 LY.out).mono ?_); rintro e w2 ⟨rfl, ht, hg⟩; have HM2 := Aside0.mk (HM1.out.touch2 ht hg); have HS2 := Aside0.mk (HS1.out.grown HM1.out.tch.m2.choose_spec.1 hg); have HG := Aside0.mk hg; have kz : w2.cell? ⟨g, m, none⟩ = some (.int .i64 (rd (rd_T27 l i).f1 (m : Nat))) := HS2.out.at_ m HN.out; have kf : w2.frozen? ⟨g, m, none⟩ = false := (by obtain ⟨cs, hcs⟩ := HS2.out.typ; exact blk_frozen hcs m); clear ht hg))
      go_ret
      have hst := HM2.out.store HS2.out m HN.out v
      rw [HW.out] at hst
      exact ⟨rfl, hst.1, ((below_kept HB1.out O).of_grown HG.out (fun k hk => by injection hk with hk; subst hk; exact .inl HH.out.own.2.2)).setCell (.inl hst.2) _⟩
end
end Go.Proofs.Ytkanhnhagjopkaa.M

/-
  Layer 2: Words and Foot of a memory: the walks. Conditions: a memory that may be.
-/
namespace Go.Proofs.Ytkanhnhagjopkaa.M
open Go.RowKit Go.Proofs.YtkanhnhagjopkaaW.PrintWords Go.Proofs.YtkanhnhagjopkaaW.PrintLast Go.Proofs.Ytkanhnhagjopkaa.Num
set_option linter.unusedVariables false
set_option linter.unusedSimpArgs false
def wordsF (l : List S27) (n : Int) : List Int := if n < 0 then [] else if (l.length : Int) ≤ n then [] else (rd_T27 l n).f1
section
variable {O : Nat → Prop} {w W : World} {pb r q : Nat} {vr : Value} {xs ys : List Int} {l : List S27}
set_option maxHeartbeats 4000000 in
theorem words_c (H : MemG O w W pb r q vr xs ys l) (G : ∀ o ∈ l, goodR o) (hm : l.length ≤ 1000) (n : Int) :
    Calls Try.prog 18 #[.pointer (some ⟨pb, 0, none⟩), .int .i64 n] W fun e w' => ∃ (A' : Option Addr) (c' : Nat), e = .returned (.slice A' (wordsF l n).length c') ∧ Kd.R (Kd.int .i64) 2 w' W.heap.size (fun _ => True) (.slice A' (wordsF l n).length c') (wordsF l n) ∧ Below W.heap.size W w' := by
  obtain ⟨A, c, rfl⟩ := Kd.S_slice H.reg
  obtain ⟨hC, -, hcc⟩ := C_of_S H.reg
  have hcc' : (l.length : Int) ≤ (c : Int) := by omega
  have k2 : W.cell? ⟨pb, 2, none⟩ = some (.slice A l.length c) := (blk_cell H.tch.blk 2).trans rfl
  unfold wordsF
  by_cases h0 : n < 0
  case pos =>
    clear H G hC hcc hcc' k2
    rw [if_pos h0]
    go_enter Try.func18, Try.ntmps18
    go_wp2
    go_ret
    exact ⟨none, 0, rfl, Kd.R_nil _ _ _ _ _, Below.refl _ _⟩
  by_cases h1 : (l.length : Int) ≤ n
  case pos =>
    clear H G hC hcc
    rw [if_neg h0, if_pos h1]
    go_enter Try.func18, Try.ntmps18
    go_wp2
    go_ret
    exact ⟨none, 0, rfl, Kd.R_nil _ _ _ _ _, Below.refl _ _⟩
  rw [if_neg h0, if_neg h1]
  obtain ⟨ad, A1, c1, e, hx0, hx1, hx2, k1, r1⟩ := at_T27 hC n (by omega) (by omega)
  cases e
  have C := Aside0.mk (clone_c (c := c1) r1 (by
    have hg : goodR (rd_T27 l n) := by
      have e : n = ((n.toNat : Nat) : Int) := by omega
      rw [e, rd27_at l n.toNat (by omega)]
      exact G _ (List.getElem_mem _)
    have := hg.2.2.2
    omega))
  have h2 : (n : Int) < (l.length : Int) := by omega
  generalize rd_T27 l n = o at *
  clear H G hC hcc r1
  go_enter Try.func18, Try.ntmps18
  go_wp2_with (first | (go_at_call 31; (with_reducible refine C.out.mono ?_); rintro e w1 ⟨A', c', rfl, hr, hb⟩; have HR := Aside0.mk hr; have HB := Aside0.mk hb; clear hr hb))
  go_ret
  exact ⟨A', c', rfl, HR.out, HB.out⟩
theorem MemG.fresh (H : MemG O w W pb r q vr xs ys l) {r' q' : Nat} {D1 D2 : DU} (h1 : W.ownsMap Try.prog 2 RI r' 0 D1) (e1 : D1 = .map []) (h2 : W.ownsMap Try.prog 2 RI q' 0 D2) (e2 : D2 = .map []) (g1 : w.heap.size ≤ r') (g2 : w.heap.size ≤ q') (hne : r' ≠ q') :
    MemG (fun k => O k ∨ k = r' ∨ k = q') w ((W.setCell ⟨pb, 0, none⟩ (.map (some r'))).setCell ⟨pb, 1, none⟩ (.map (some q'))) pb r' q' vr [] [] l := by
  subst e1 e2
  have b1 : pb ≠ r' := fun e => map_block h1 H.tch.blk e
  have b2 : pb ≠ q' := fun e => map_block h2 H.tch.blk e
  have hx := H.tch.ge.1
  refine ⟨⟨(H.tch.below.setCell hx _).setCell hx _, ?_, ⟨_, ((h1.setCell (a := ⟨pb, 0, none⟩) (fun e => b1 e.symm) _).setCell (a := ⟨pb, 1, none⟩) (fun e => b1 e.symm) _), cnt_nil⟩, ⟨_, ((h2.setCell (a := ⟨pb, 0, none⟩) (fun e => b2 e.symm) _).setCell (a := ⟨pb, 1, none⟩) (fun e => b2 e.symm) _), cnt_nil⟩, ⟨hx, g1, g2⟩, hne⟩, ?_, ⟨.inl H.own.1, .inr (.inl rfl), .inr (.inr rfl)⟩, fun k hk => ?_⟩
  · exact blk_put (cs' := ⟨.map (some r') :: .map (some q') :: [vr]⟩) (blk_put (cs' := ⟨.map (some r') :: .map (some q) :: [vr]⟩) H.tch.blk 0 _ rfl) 1 _ rfl
  · have h := Kd.S_types H.reg H.tch.blk (fun q hq => by rcases k27_types hq with h | h <;> subst h <;> decide)
    exact Kd.S_mono (Kd.S_far (Kd.S_far h (fun k hk => hk.2) _) (fun k hk => hk.2) _) (fun k hk => .inl hk.1)
  · have hl1 := h1.lt
    have hl2 := h2.lt
    have : k < W.heap.size := by
      rcases hk with hk | hk | hk
      · exact H.lt k hk
      · omega
      · omega
    simpa [World.setCell] using this
theorem foot_mid {W1 w2 w4 : World} {B r' q' : Nat} {c0 c1 : Value} (H : MemG O w W1 pb r q vr xs ys l) (hB : W1.heap[B]? = some (.cells #[.slice none 0 0, .slice none 0 0] 45 (0, 0))) (h12 : Below W1.heap.size W1 w2) (h1 : w4.ownsMap Try.prog 2 RI r' 0 (.map [])) (h2 : w4.ownsMap Try.prog 2 RI q' 0 (.map []))
    (hr : (w2.alloc (.cells #[c0, c1] 45)).heap.size ≤ r') (hq : (w2.alloc (.cells #[c0, c1] 45)).heap.size ≤ q') (hne : r' ≠ q') (hb : Below (w2.alloc (.cells #[c0, c1] 45)).heap.size (w2.alloc (.cells #[c0, c1] 45)) w4) :
    w4.heap[pb]? = some (.cells ⟨.map (some r) :: .map (some q) :: [vr]⟩ 63 (0, 0)) ∧
    ((w4.setCell ⟨pb, 0, none⟩ (.map (some r'))).setCell ⟨pb, 1, none⟩ (.map (some q'))).heap[w2.heap.size]? = some (.cells #[c0, c1] 45 (0, 0)) ∧
    ((w4.setCell ⟨pb, 0, none⟩ (.map (some r'))).setCell ⟨pb, 1, none⟩ (.map (some q'))).heap[B]? = some (.cells #[.slice none 0 0, .slice none 0 0] 45 (0, 0)) ∧
    MemG (fun k => O k ∨ k = r' ∨ k = q') w ((w4.setCell ⟨pb, 0, none⟩ (.map (some r'))).setCell ⟨pb, 1, none⟩ (.map (some q'))) pb r' q' vr [] [] l ∧ Kept W1 w4 O ∧ Below w2.heap.size w2 w4 := by
  have hA := below_alloc (Below.refl w2.heap.size w2) (.cells #[c0, c1] 45)
  have hb2 : Below w2.heap.size w2 w4 := below_then hA hA.size hb
  have H4 := (H.next h12).next hb2
  have f4 := blk_below (blk_new w2 (.cells #[c0, c1] 45)) hb
  have b4 := blk_below (blk_below hB h12) hb2
  have hs := H.tch.below.size
  have hs2 := h12.size
  have hs3 : (w2.alloc (.cells #[c0, c1] 45)).heap.size = w2.heap.size + 1 := by simp
  rw [hs3] at hr hq
  have n1 : pb ≠ w2.heap.size := fun e => by have := blk_lt H.tch.blk; omega
  have n2 : pb ≠ B := fun e => by
    have h := H.tch.blk
    rw [e, hB] at h
    injection h with h
    injection h with _ h
    cases h
  exact ⟨H4.tch.blk, far_put2 f4 n1 _ _, far_put2 b4 n2 _ _, H4.fresh h1 rfl h2 rfl (by omega) (by omega) hne, below_kept (below_then h12 h12.size hb2) O, hb2⟩
set_option maxHeartbeats 16000000 in
theorem footM_c (H : MemG O w W pb r q vr xs ys l) (lx : xs.length ≤ 1000000) (ly : ys.length ≤ 1000000) :
    Calls Try.prog 15 #[.pointer (some ⟨pb, 0, none⟩)] W fun e w' => ∃ (A0 : Option Addr) (c0 : Nat) (A1 : Option Addr) (c1 r' q' : Nat), e = .returned (.agg #[.slice A0 (putsF [] xs).length c0, .slice A1 (putsF [] ys).length c1]) ∧ Kd.R (Kd.int .i64) 2 w' W.heap.size (fun k => ¬ O k ∧ k ≠ r' ∧ k ≠ q') (.slice A0 (putsF [] xs).length c0) (putsF [] xs) ∧ Kd.R (Kd.int .i64) 2 w' W.heap.size (fun k => ¬ O k ∧ k ≠ r' ∧ k ≠ q') (.slice A1 (putsF [] ys).length c1) (putsF [] ys) ∧ MemG (fun k => O k ∨ k = r' ∨ k = q') w w' pb r' q' vr [] [] l ∧ Kept W w' O ∧ W.heap.size ≤ r' ∧ W.heap.size ≤ q' := by
  have HM1 := Aside0.mk (H.next (below_alloc (Below.refl W.heap.size W) (.cells #[.slice none 0 0, .slice none 0 0] 45)))
  have B1 := Aside0.mk (blk_new W (.cells #[.slice none 0 0, .slice none 0 0] 45))
  have FC := Aside0.mk (foot_c HM1.out.tch lx ly)
  have HH := Aside0.mk H
  clear H lx ly
  go_enter Try.func15, Try.ntmps15
  go_wp2_with (first
    | (go_at_call 38; (with_reducible refine FC.out.mono ?_); rintro e w2 ⟨A0, c0, A1, c1, rfl, hr0, hr1, hb⟩; have HR0 := Aside0.mk hr0; have HR1 := Aside0.mk hr1; have HB2 := Aside0.mk hb; clear hr0 hr1 hb)
    | (go_at_call 27; (with_reducible refine (untouched_c _).mono ?_); rintro e w4 ⟨r', q', rfl, h1, h2, hr, hq, hne, hb⟩; have P := Aside0.mk (foot_mid HM1.out B1.out HB2.out h1 h2 hr hq hne hb); have kp0 : w4.cell? ⟨pb, 0, none⟩ = some (.map (some r)) := (blk_cell P.out.1 0).trans rfl; have kp1 : w4.cell? ⟨pb, 1, none⟩ = some (.map (some q)) := (blk_cell P.out.1 1).trans rfl; have kf0 : w4.frozen? ⟨pb, 0, none⟩ = false := blk_frozen P.out.1 0; have kf1 : w4.frozen? ⟨pb, 1, none⟩ = false := blk_frozen P.out.1 1; have kq0 : ((w4.setCell ⟨pb, 0, none⟩ (.map (some r'))).setCell ⟨pb, 1, none⟩ (.map (some q'))).cell? ⟨w2.heap.size, 0, none⟩ = some (.slice A0 (putsF [] xs).length c0) := (blk_cell P.out.2.1 0).trans rfl; have kq1 : ((w4.setCell ⟨pb, 0, none⟩ (.map (some r'))).setCell ⟨pb, 1, none⟩ (.map (some q'))).cell? ⟨w2.heap.size, 1, none⟩ = some (.slice A1 (putsF [] ys).length c1) := (blk_cell P.out.2.1 1).trans rfl; have kb0 : ((w4.setCell ⟨pb, 0, none⟩ (.map (some r'))).setCell ⟨pb, 1, none⟩ (.map (some q'))).cell? ⟨W.heap.size, 0, none⟩ = some (.slice none 0 0) := (blk_cell P.out.2.2.1 0).trans rfl; have kb1 : ((w4.setCell ⟨pb, 0, none⟩ (.map (some r'))).setCell ⟨pb, 1, none⟩ (.map (some q'))).cell? ⟨W.heap.size, 1, none⟩ = some (.slice none 0 0) := (blk_cell P.out.2.2.1 1).trans rfl; have kc0 : ((w4.setCell ⟨pb, 0, none⟩ (.map (some r'))).setCell ⟨pb, 1, none⟩ (.map (some q'))).frozen? ⟨W.heap.size, 0, none⟩ = false := blk_frozen P.out.2.2.1 0; have kc1 : ((w4.setCell ⟨pb, 0, none⟩ (.map (some r'))).setCell ⟨pb, 1, none⟩ (.map (some q'))).frozen? ⟨W.heap.size, 1, none⟩ = false := blk_frozen P.out.2.2.1 1; have HB := Aside0.mk (And.intro hr (And.intro hq hb)); clear h1 h2 hr hq hne hb))
  obtain ⟨hr, hq, hb⟩ := HB.out
  obtain ⟨p1, p2, p3, p4, p5, p6⟩ := P.out
  have hs1 : (W.alloc (.cells #[.slice none 0 0, .slice none 0 0] 45)).heap.size = W.heap.size + 1 := by simp
  have hs3 : (w2.alloc (.cells #[.slice A0 (putsF [] xs).length c0, .slice A1 (putsF [] ys).length c1] 45)).heap.size = w2.heap.size + 1 := by simp
  rw [hs3] at hr hq
  have hs2 := HB2.out.size
  rw [hs1] at hs2
  have hO : ∀ k, O k → k < W.heap.size := HH.out.lt
  have nb : pb ≠ W.heap.size := fun e => by have := blk_lt HH.out.tch.blk; omega
  have R : ∀ {v : Value} {us : List Int}, Kd.R (Kd.int .i64) 2 w2 (W.alloc (.cells #[.slice none 0 0, .slice none 0 0] 45)).heap.size (fun _ => True) v us → Kd.R (Kd.int .i64) 2 ((((w4.setCell ⟨pb, 0, none⟩ (.map (some r'))).setCell ⟨pb, 1, none⟩ (.map (some q'))).setCell ⟨W.heap.size, 0, none⟩ (.slice A0 (putsF [] xs).length c0)).setCell ⟨W.heap.size, 1, none⟩ (.slice A1 (putsF [] ys).length c1)) W.heap.size (fun k => ¬ O k ∧ k ≠ r' ∧ k ≠ q') v us := by
    intro v us h
    have h0 := Kd.R_mono (ok' := fun k => W.heap.size + 1 ≤ k ∧ k < w2.heap.size) (Kd.R_bound h) (fun k hk => ⟨by have := hk.2.1; rw [hs1] at this; exact this, hk.2.2.1⟩)
    have h4 := Kd.R_below h0 p6
    have h4 := Kd.R_mono (Kd.R_types h4 p1 (fun q hq => by simp [Kd.int, Kd.scalar] at hq; subst hq; decide)) (ok' := fun k => k ≠ pb ∧ k ≠ W.heap.size ∧ ¬ O k ∧ k ≠ r' ∧ k ≠ q') (fun k hk => ⟨hk.2, by have := hk.1.1; omega, fun ho => by have := hO k ho; have := hk.1.1; omega, by have := hk.1.2; omega, by have := hk.1.2; omega⟩)
    have h5 := Kd.R_far (p := ⟨pb, 1, none⟩) (Kd.R_far (p := ⟨pb, 0, none⟩) h4 (fun k hk => hk.1) (.map (some r'))) (fun k hk => hk.1) (.map (some q'))
    have h6 := Kd.R_far (p := ⟨W.heap.size, 1, none⟩) (Kd.R_far (p := ⟨W.heap.size, 0, none⟩) h5 (fun k hk => hk.2.1) (.slice A0 (putsF [] xs).length c0)) (fun k hk => hk.2.1) (.slice A1 (putsF [] ys).length c1)
    exact Kd.R_lower (Kd.R_mono h6 (fun k hk => hk.2.2)) (by rw [hs1]; omega)
  have hr' : r' < w4.heap.size := by
    have := p4.tch.m1.choose_spec.1.lt
    simpa [World.setCell] using this
  have hq' : q' < w4.heap.size := by
    have := p4.tch.m2.choose_spec.1.lt
    simpa [World.setCell] using this
  have hw := HH.out.tch.below.size
  have K1 : Kept W w4 O := (below_kept (below_alloc (Below.refl W.heap.size W) _) O).then_ p5 (fun k hk => .inl hk)
  have K2 : Kept W ((w4.setCell ⟨pb, 0, none⟩ (.map (some r'))).setCell ⟨pb, 1, none⟩ (.map (some q'))) O := (K1.setCell (p := ⟨pb, 0, none⟩) (.inl HH.out.own.1) _).setCell (p := ⟨pb, 1, none⟩) (.inl HH.out.own.1) _
  have K3 := (K2.setCell (p := ⟨W.heap.size, 0, none⟩) (.inr (Nat.le_refl _)) (.slice A0 (putsF [] xs).length c0)).setCell (p := ⟨W.heap.size, 1, none⟩) (.inr (Nat.le_refl _)) (.slice A1 (putsF [] ys).length c1)
  have X1 : Kept ((w4.setCell ⟨pb, 0, none⟩ (.map (some r'))).setCell ⟨pb, 1, none⟩ (.map (some q'))) ((((w4.setCell ⟨pb, 0, none⟩ (.map (some r'))).setCell ⟨pb, 1, none⟩ (.map (some q'))).setCell ⟨W.heap.size, 0, none⟩ (.slice A0 (putsF [] xs).length c0)).setCell ⟨W.heap.size, 1, none⟩ (.slice A1 (putsF [] ys).length c1)) (fun k => k = W.heap.size) := ((Kept.refl _ (fun k => k = W.heap.size)).setCell (p := ⟨W.heap.size, 0, none⟩) (.inl rfl) _).setCell (p := ⟨W.heap.size, 1, none⟩) (.inl rfl) _
  have M6 := p4.kept X1 (fun k hk => by
    rcases hk with hk | hk | hk
    · have := hO k hk; omega
    · omega
    · omega) (below_set (below_set p4.tch.below hw) hw)
  exact bodyPost_ret (results_cell_row rfl _ _ W.heap.size 45 #[.slice A0 (putsF [] xs).length c0, .slice A1 (putsF [] ys).length c1] (0, 0) _ rfl (blk_put2 p3 _ _) Try.underlying45 rfl (by kernel_rfl)) rfl ⟨A0, c0, A1, c1, r', q', rfl, R HR0.out, R HR1.out, M6, K3, by omega, by omega⟩
end
end Go.Proofs.Ytkanhnhagjopkaa.M

/-
  Layer 2: mem.New: plain, and the walk. Conditions: lengths that any memory can hold.
-/
namespace Go.Proofs.Ytkanhnhagjopkaa.M
open Go.RowKit Go.Proofs.YtkanhnhagjopkaaW.PrintWords Go.Proofs.YtkanhnhagjopkaaW.PrintLast Go.Proofs.Ytkanhnhagjopkaa.Num
set_option linter.unusedVariables false
set_option linter.unusedSimpArgs false
instance (r : S27) : Decidable (goodR r) := inferInstanceAs (Decidable (0 ≤ r.f0 ∧ r.f0 ≤ 1099511627776 ∧ r.f0 % 8 = 0 ∧ r.f1.length ≤ 65536))
def mayF : List S27 → List S27 → Bool
  | _, [] => true
  | d, r :: l => decide (goodR r) && !(d.any (meetsR r)) && mayF (d ++ [r]) l
def newOk (l : List S27) : Bool := decide (l.length ≤ 16) && mayF [] l
theorem mayF_good : ∀ (l d : List S27), mayF d l = true → ∀ o ∈ l, goodR o
  | [], _, _, o, h => by cases h
  | r :: l, d, h, o, ho => by
    unfold mayF at h
    simp only [Bool.and_eq_true, decide_eq_true_eq] at h
    rcases List.mem_cons.1 ho with rfl | ho
    · exact h.1.1
    · exact mayF_good l _ h.2 o ho
section
variable {O : Nat → Prop} {w W W' : World} {pb r q : Nat} {vr : Value} {xs ys : List Int} {l : List S27}
theorem row_block {base : Nat} {ok : Nat → Prop} {v : Value} (h : Kd.S k27 27 W base ok v l) {mb n : Nat} {D : DU} (hm : W.ownsMap Try.prog 2 RI mb n D) : some mb ≠ v.ownBlock := fun e => by
  obtain ⟨cs, hc⟩ := Kd.S_typed h mb e.symm
  exact map_block hm hc rfl
/-- The regions' row has been appended to, the memory's block tells it. -/
theorem MemG.append (H : MemG O w W pb r q vr xs ys l) {v1 : Value} {l1 : List S27} {O1 : Nat → Prop} {W1 : World} (hS : Kd.S k27 27 W1 w.heap.size O1 v1 l1) (hg : W.grownBy W1 vr.ownBlock) (hB : Below w.heap.size w W1) :
    MemG (fun k => w.heap.size ≤ k ∧ k < (W1.setCell ⟨pb, 2, none⟩ v1).heap.size) w (W1.setCell ⟨pb, 2, none⟩ v1) pb r q v1 xs ys l1 := by
  obtain ⟨D1, m1, k1⟩ := H.tch.m1
  obtain ⟨D2, m2, k2⟩ := H.tch.m2
  have b1 : pb ≠ r := fun e => map_block m1 H.tch.blk e
  have b2 : pb ≠ q := fun e => map_block m2 H.tch.blk e
  have hp := blk_grown H.tch.blk hg (Kd.S_ne H.reg H.tch.blk (by decide))
  have n1 := m1.kept hg (row_block H.reg m1)
  have n2 := m2.kept hg (row_block H.reg m2)
  have hx := H.tch.ge
  have hz : (W1.setCell ⟨pb, 2, none⟩ v1).heap.size = W1.heap.size := by simp [World.setCell]
  refine ⟨⟨below_set hB hx.1, blk_put (cs' := ⟨.map (some r) :: .map (some q) :: [v1]⟩) hp 2 _ rfl, ⟨D1, n1.setCell (a := ⟨pb, 2, none⟩) (fun e => b1 e.symm) _, k1⟩, ⟨D2, n2.setCell (a := ⟨pb, 2, none⟩) (fun e => b2 e.symm) _, k2⟩, hx, H.tch.ne⟩, ?_, ⟨⟨hx.1, by rw [hz]; exact blk_lt hp⟩, ⟨hx.2.1, by rw [hz]; exact n1.lt⟩, ⟨hx.2.2, by rw [hz]; exact n2.lt⟩⟩, fun k hk => hk.2⟩
  have h := Kd.S_types hS hp (fun q hq => by rcases k27_types hq with h | h <;> subst h <;> decide)
  have h2 := Kd.S_far (p := ⟨pb, 2, none⟩) h (fun k hk => hk.2) v1
  exact Kd.S_mono (Kd.S_bound h2) (fun k hk => ⟨hk.2.1, hk.2.2.1⟩)
theorem app_pre (H : MemG O w W pb r q vr xs ys l) {N b : Nat} (hO : ∀ k, O k → k < N) {A : Option Addr} {c : Nat} {f0 : Int} {f1 : List Int} {f2 : Bool} (hR : Kd.R (Kd.int .i64) 2 W b (fun k => N ≤ k) (.slice A f1.length c) f1) (hb : w.heap.size ≤ b) :
    k27.M W w.heap.size (fun k => some k = (Value.slice A f1.length c).ownBlock) (⟨f0, f1, f2⟩ : S27) [.int .i64 f0, .slice A f1.length c, .bool f2] ∧ (∀ k, some k = (Value.slice A f1.length c).ownBlock → True ∧ some k ≠ vr.ownBlock) ∧ Kd.S k27 27 W w.heap.size (fun k => True ∧ ¬ some k = (Value.slice A f1.length c).ownBlock) vr l := by
  refine ⟨k27_mkM _ _ _ (⟨f0, f1, f2⟩ : S27) (Kd.R_mono (Kd.R_tight rfl (Kd.R_lower hR hb)) (fun _ h => h)), fun k hk => ⟨trivial, fun e => ?_⟩, Kd.S_mono H.reg (fun k hk => ⟨trivial, fun e => ?_⟩)⟩
  · have h1 := hR.1 k hk.symm
    have h2 : O k := (Kd.S_R H.reg).1 k e.symm
    have := hO k h2
    omega
  · have h1 := hR.1 k e.symm
    have := hO k hk
    omega
end
set_option maxHeartbeats 16000000 in
set_option maxRecDepth 100000 in
theorem new_c {W : World} {A : Option Addr} {c : Nat} {l : List S27} (h : Kd.C k27 W A l.length l) (hm : l.length ≤ 4000000000000) (hw : ∀ o ∈ l, o.f1.length ≤ 4000000000000) :
    Calls Try.prog 9 #[.slice A l.length c] W fun e w' => (newOk l = true → ∃ pb r q vr, e = .returned (.tuple #[.pointer (some ⟨pb, 0, none⟩), .int .i64 0]) ∧ MemG (fun k => W.heap.size ≤ k ∧ k < w'.heap.size) W w' pb r q vr [] [] l) ∧ (newOk l = false → e = .returned (.tuple #[.pointer none, .int .i64 1])) ∧ Below W.heap.size W w' := by
  have HC := Aside0.mk h
  have HL := Aside0.mk hw
  clear h hw
  by_cases hl : (l.length : Int) > 16
  case pos =>
    go_enter Try.func9, Try.ntmps9
    go_wp2
    go_ret2
    exact ⟨fun h => by unfold newOk at h; simp at h; omega, fun _ => rfl, Below.refl _ _⟩
  go_enter Try.func9, Try.ntmps9
  go_wp2_with (first | (go_at_call 27; (with_reducible refine (untouched_c _).mono ?_); rintro e w2 ⟨r, q, rfl, h1, h2, hr, hq, hne, hb⟩))
  have HM := Aside0.mk (show MemG (fun k => W.heap.size ≤ k ∧ k < (w2.alloc (.cells #[.map (some r), .map (some q), .slice none 0 0] 63)).heap.size) W (w2.alloc (.cells #[.map (some r), .map (some q), .slice none 0 0] 63)) w2.heap.size r q (.slice none 0 0) [] [] [] from
    ⟨{ below := below_alloc hb _, blk := blk_new _ _, m1 := ⟨_, h1.alloc _, cnt_nil⟩, m2 := ⟨_, h2.alloc _, cnt_nil⟩, ge := ⟨by have := hb.size; omega, hr, hq⟩, ne := hne }, Kd.S_nil _ _ _ _ _, ⟨⟨by have := hb.size; omega, by simp⟩, ⟨hr, (h1.alloc _).lt⟩, ⟨hq, (h2.alloc _).lt⟩⟩, fun k hk => hk.2⟩)
  generalize w2.heap.size = pb at *
  clear h1 h2 hr hq hne hb
  generalize w2.alloc (.cells #[.map (some r), .map (some q), .slice none 0 0] 63) = w3 at *
  go_wp2
  go_loopw [15] (fun v15 wr => ∃ (i : Nat) (vr : Value), i ≤ l.length ∧ v15 = .int .i64 i ∧ Aside0 (MemG (fun k => W.heap.size ≤ k ∧ k < wr.heap.size) W wr pb r q vr [] [] (l.take i)) ∧ Aside0 (mayF [] l = mayF (l.take i) (l.drop i))) (fun v15 _ => l.length - (intOf v15).toNat)
  case atStart => exact ⟨0, _, Nat.zero_le _, rfl, HM, ⟨rfl⟩⟩
  case round =>
    clear HM
    obtain ⟨i, vr, hi, rfl, HM, HA⟩ := hrel
    by_cases hlt : i < l.length
    case pos =>
      obtain ⟨ad, A1, c1, e, hx0, hx1, hx2, k1, r1⟩ := at_T27 HC.out (i : Int) (by omega) (by omega)
      cases e
      have hil : (i : Int) < (l.length : Int) := by omega
      simp only [Int.toNat_natCast] at hx0 hx1 hx2
      rw [rd27_at l i hlt] at hx0 hx1 hx2 k1 r1
      replace hx0 := pw_cell_below HM.out.tch.below hx0
      replace hx1 := pw_cell_below HM.out.tch.below hx1
      replace hx2 := pw_cell_below HM.out.tch.below hx2
      have R1 := Aside0.mk (Kd.C_below r1 HM.out.tch.below)
      have K1 := Aside0.mk k1
      have LT := Aside0.mk hlt
      have HA1 := Aside0.mk (show mayF [] l = (decide (goodR l[i]) && !((l.take i).any (meetsR l[i])) && mayF (l.take i ++ [l[i]]) (l.drop (i + 1))) by rw [HA.out, List.drop_eq_getElem_cons hlt, mayF])
      have ET := Aside0.mk (show l.take (i + 1) = l.take i ++ [l[i]] from (List.take_append_getElem hlt).symm)
      have LM := Aside0.mk (HL.out _ (List.getElem_mem hlt))
      clear HA r1 k1
      generalize l[i] = o at *
      obtain ⟨f0, f1, f2⟩ := o
      dsimp only at *
      by_cases g0 : f0 < 0
      case pos =>
        go_wp2
        go_ret2
        exact ⟨fun h => by
          have hh := HA1.out
          rw [show decide (goodR (⟨f0, f1, f2⟩ : S27)) = false from decide_eq_false (fun hg => by unfold goodR at hg; dsimp only at hg; omega)] at hh
          unfold newOk at h
          rw [hh] at h
          simp at h, fun _ => rfl, below_alloc HM.out.tch.below _⟩
      by_cases g1 : f0 > 1099511627776
      case pos =>
        go_wp2
        go_ret2
        exact ⟨fun h => by
          have hh := HA1.out
          rw [show decide (goodR (⟨f0, f1, f2⟩ : S27)) = false from decide_eq_false (fun hg => by unfold goodR at hg; dsimp only at hg; omega)] at hh
          unfold newOk at h
          rw [hh] at h
          simp at h, fun _ => rfl, below_alloc HM.out.tch.below _⟩
      by_cases g2 : bits .and .i64 f0 7 = 0
      case neg =>
        have G2 := Aside0.mk g2
        go_wp2
        go_ret2
        exact ⟨fun h => by
          have hh := HA1.out
          rw [show decide (goodR (⟨f0, f1, f2⟩ : S27)) = false from decide_eq_false (fun hg => by unfold goodR at hg; dsimp only at hg; have h2 := G2.out; rw [and7] at h2; omega)] at hh
          unfold newOk at h
          rw [hh] at h
          simp at h, fun _ => rfl, below_alloc HM.out.tch.below _⟩
      by_cases g3 : (f1.length : Int) > 65536
      case pos =>
        go_wp2
        go_ret2
        exact ⟨fun h => by
          have hh := HA1.out
          rw [show decide (goodR (⟨f0, f1, f2⟩ : S27)) = false from decide_eq_false (fun hg => by unfold goodR at hg; dsimp only at hg; omega)] at hh
          unfold newOk at h
          rw [hh] at h
          simp at h, fun _ => rfl, below_alloc HM.out.tch.below _⟩
      have GD := Aside0.mk (show goodR (⟨f0, f1, f2⟩ : S27) from by rw [and7] at g2; exact ⟨by dsimp only; omega, by dsimp only; omega, g2, by dsimp only; omega⟩)
      have HMa := Aside0.mk (HM.out.next (below_alloc (Below.refl _ _) (.cells #[.int .i64 f0, .slice A1 f1.length c1, .bool f2] 27)))
      have BG := Aside0.mk (blk_new wr (.cells #[.int .i64 f0, .slice A1 f1.length c1, .bool f2] 27))
      have R2 := Aside0.mk (Kd.C_alloc R1.out (.cells #[.int .i64 f0, .slice A1 f1.length c1, .bool f2] 27))
      have NG := Aside0.mk (show wr.heap.size < (wr.alloc (.cells #[.int .i64 f0, .slice A1 f1.length c1, .bool f2] 27)).heap.size by simp)
      obtain ⟨A', c', rfl⟩ := Kd.S_slice HM.out.reg
      have hk2 : (wr.alloc (.cells #[.int .i64 f0, .slice A1 f1.length c1, .bool f2] 27)).cell? ⟨pb, 2, none⟩ = some (.slice A' (l.take i).length c') := (blk_cell HMa.out.tch.blk 2).trans rfl
      have CC := Aside0.mk (containsR_c (r := ⟨f0, f1, f2⟩) BG.out R2.out K1.out (c := c') (C_of_S HMa.out.reg).1 (by rw [List.length_take]; omega))
      have hlen : (l.take i).length = i := by rw [List.length_take]; omega
      rw [hlen] at CC hk2
      have HLN := Aside0.mk hlen
      clear hlen
      have hmf : ∀ (fn : Fn) (first cap : Array Value) (w : World), (Instr.makeFunc fn first cap).run Try.prog w = .ok (.func fn first cap) w := fun _ _ _ _ => rfl
      cases hv : (l.take i).any (meetsR ⟨f0, f1, f2⟩)
      case true =>
        rw [hv] at CC HA1
        go_wp2_with (first | (go_at_call 28; (with_reducible refine CC.out.mono ?_); rintro e w4 ⟨rfl, hb⟩; have HB4 := Aside0.mk hb; clear hb))
        go_ret2
        exact ⟨fun h => by
          have hh := HA1.out
          simp at hh
          unfold newOk at h
          rw [hh] at h
          simp at h, fun _ => rfl, below_inL HMa.out.tch.below HB4.out⟩
      case false =>
        rw [hv] at CC HA1
        go_wp2_with (first
          | (go_at_call 28; (with_reducible refine CC.out.mono ?_); rintro e w4 ⟨rfl, hb⟩; have HM4 := Aside0.mk (HMa.out.next hb); have BG4 := Aside0.mk (blk_below BG.out hb); have R4 := Aside0.mk (Kd.C_below R2.out hb); have N4 := Aside0.mk (Nat.lt_of_lt_of_le NG.out hb.size); have hz1 : w4.cell? ⟨wr.heap.size, 1, none⟩ = some (.slice A1 f1.length c1) := (blk_cell BG4.out 1).trans rfl; clear hb)
          | (go_at_call 31; (with_reducible refine (clone_c (c := c1) R4.out LM.out).mono ?_); rintro e w5 ⟨A2, c2, rfl, hr, hb⟩; have HM5 := Aside0.mk (HM4.out.next hb); have BG5 := Aside0.mk (blk_below BG4.out hb); have HR5 := Aside0.mk hr; have N5 := Aside0.mk (Nat.lt_of_lt_of_le N4.out hb.size); have hy1 : w5.cell? ⟨wr.heap.size, 1, none⟩ = some (.slice A1 f1.length c1) := (blk_cell BG5.out 1).trans rfl; have hy2 : w5.frozen? ⟨wr.heap.size, 1, none⟩ = false := blk_frozen BG5.out 1; clear hb hr))
        have hn4 := N4.out
        have hO : ∀ k, W.heap.size ≤ k ∧ k < wr.heap.size → k < wr.heap.size := fun k hk => hk.2
        have h5 := HM5.out
        rw [HLN.out] at h5
        have X6 : Kept w5 (w5.setCell ⟨wr.heap.size, 1, none⟩ (.slice A2 f1.length c2)) (fun k => k = wr.heap.size) := (Kept.refl _ (fun k => k = wr.heap.size)).setCell (p := ⟨wr.heap.size, 1, none⟩) (.inl rfl) _
        have HM6 := Aside0.mk ((h5.kept X6 (fun k hk e => by have := hk.2; omega) (below_set h5.tch.below HM.out.tch.below.size)).next (below_drew1 (Below.refl _ _)))
        have BG6 := Aside0.mk (blk_drew (blk_put (cs' := #[.int .i64 f0, .slice A2 f1.length c2, .bool f2]) BG5.out 1 (.slice A2 f1.length c2) rfl))
        have h6 := Kd.R_mono (ok' := fun k => wr.heap.size < k ∧ wr.heap.size ≤ k) (Kd.R_bound HR5.out) (fun k hk => ⟨by have := hk.2.1; omega, by have := hk.2.1; omega⟩)
        have HR6 := Aside0.mk (Kd.R_drew (Kd.R_mono (ok' := fun k => wr.heap.size ≤ k) (Kd.R_far (p := ⟨wr.heap.size, 1, none⟩) h6 (fun k hk => by have := hk.1; simp; omega) (.slice A2 f1.length c2)) (fun k hk => hk.2)))
        have PRE := Aside0.mk (app_pre (f0 := f0) (f2 := f2) HM6.out hO HR6.out (by have := HM.out.tch.below.size; omega))
        have NP := Aside0.mk (show wr.heap.size ≠ pb from fun e => by have := HM.out.own.1; omega)
        clear h5 h6 X6 hO hn4
        generalize w5.setCell ⟨wr.heap.size, 1, none⟩ (.slice A2 f1.length c2) = w6 at *
        have k62 : w6.drew.cell? ⟨pb, 2, none⟩ = some (.slice A' i c') := (blk_cell HM6.out.tch.blk 2).trans rfl
        have k60 : w6.drew.cell? ⟨wr.heap.size, 0, none⟩ = some (.int .i64 f0) := (blk_cell BG6.out 0).trans rfl
        have k61 : w6.drew.cell? ⟨wr.heap.size, 1, none⟩ = some (.slice A2 f1.length c2) := (blk_cell BG6.out 1).trans rfl
        have k63 : w6.drew.cell? ⟨wr.heap.size, 2, none⟩ = some (.bool f2) := (blk_cell BG6.out 2).trans rfl
        refine start_ (n := 11) (S := fun w' => w'.cell? ⟨pb, 2, none⟩ = some (.slice A' i c') ∧ w'.cell? ⟨wr.heap.size, 0, none⟩ = some (.int .i64 f0) ∧ w'.cell? ⟨wr.heap.size, 1, none⟩ = some (.slice A2 f1.length c2) ∧ w'.cell? ⟨wr.heap.size, 2, none⟩ = some (.bool f2)) (ds := [7, 10]) #[false, false, false, false, false, false, false, false, false, false, false] (by kernel_rfl) rfl rfl ⟨k62, k60, k61, k63⟩ (fun hHeld => ?_)
        refine pure_ (i := 0) (N := some 49) (v := ?_) (a' := ?_) #[true, false, false, false, false, false, false, false, false, false, false] rfl rfl (by kernel_rfl) (fun _ _ _ h => h) (Or.inl ⟨by rfl, ?_⟩) ?_ ?_
        rotate_left
        · intro w'
          go_simp
          with_reducible rfl
        rotate_left
        · simp only [Act.put, List.setIfInBounds_toArray, List.set_cons_zero, List.set_cons_succ, i64_w, i32_w]
          rfl
        refine pure_ (i := 1) (N := some 50) (v := ?_) (a' := ?_) #[true, true, false, false, false, false, false, false, false, false, false] rfl rfl (by kernel_rfl) (fun _ _ _ h => h) (Or.inl ⟨by rfl, ?_⟩) ?_ ?_
        rotate_left
        · intro w'
          go_simp
          with_reducible rfl
        rotate_left
        · simp only [Act.put, List.setIfInBounds_toArray, List.set_cons_zero, List.set_cons_succ, i64_w, i32_w]
          rfl
        refine pure_ (i := 2) (N := some 51) (v := ?_) (a' := ?_) #[true, true, true, false, false, false, false, false, false, false, false] rfl rfl (by kernel_rfl) (fun _ _ _ h => h) (Or.inl ⟨by rfl, ?_⟩) ?_ ?_
        rotate_left
        · intro w'
          go_simp
          with_reducible rfl
        rotate_left
        · simp only [Act.put, List.setIfInBounds_toArray, List.set_cons_zero, List.set_cons_succ, i64_w, i32_w]
          rfl
        refine pure_ (i := 3) (N := some 52) (v := ?_) (a' := ?_) #[true, true, true, true, false, false, false, false, false, false, false] rfl rfl (by kernel_rfl) (fun _ _ _ h => h) (Or.inl ⟨by rfl, ?_⟩) ?_ ?_
        rotate_left
        · intro w'
          go_simp
          with_reducible rfl
        rotate_left
        · simp only [Act.put, List.setIfInBounds_toArray, List.set_cons_zero, List.set_cons_succ, i64_w, i32_w]
          rfl
        refine take_ (i := 4) (N := some 53) (v := ?_) (a' := ?_) #[true, true, true, true, true, false, false, false, false, false, false] rfl rfl (by kernel_rfl) (fun _ _ _ h => h) (Or.inl ⟨by rfl, ?_⟩) hHeld ?_ ?_
        rotate_left
        · rintro w' ⟨s0, s1, s2, s3⟩
          go_simp
          with_reducible rfl
        rotate_left
        · simp only [Act.put, List.setIfInBounds_toArray, List.set_cons_zero, List.set_cons_succ, i64_w, i32_w]
          rfl
        refine take_ (i := 5) (N := some 54) (v := ?_) (a' := ?_) #[true, true, true, true, true, true, false, false, false, false, false] rfl rfl (by kernel_rfl) (fun _ _ _ h => h) (Or.inl ⟨by rfl, ?_⟩) hHeld ?_ ?_
        rotate_left
        · rintro w' ⟨s0, s1, s2, s3⟩
          go_simp
          with_reducible rfl
        rotate_left
        · simp only [Act.put, List.setIfInBounds_toArray, List.set_cons_zero, List.set_cons_succ, i64_w, i32_w]
          rfl
        refine one_ (i := 6) (N := some 55) #[true, true, true, true, true, true, true, false, false, false, false] rfl rfl (by kernel_rfl) (by decide) (fun K hK => ?_)
        refine value_ (w1 := ?_) (v := ?_) (by rfl) rfl ?_ ?_
        rotate_left 2
        · go_simp
          constructor
          · rfl
          · rfl
        refine hK.out _ _ ⟨(Lib.cell?_alloc_some _ k62), (Lib.cell?_alloc_some _ k60), (Lib.cell?_alloc_some _ k61), (Lib.cell?_alloc_some _ k63)⟩ (fun hHeld => ?_)
        clear hK K
        refine norm_ (a' := ?_) ?_ ?_
        rotate_left
        · show Act.put _ (some 55) _ = _
          simp only [Act.put, List.setIfInBounds_toArray, List.set_cons_zero, List.set_cons_succ, i64_w, i32_w]
          rfl
        refine last_ (i := 7) (N := some 56) #[true, true, true, true, true, true, true, true, false, false, false] rfl rfl (by kernel_rfl) (by decide) (fun K hK => ?_)
        refine Kd.S_append_step k27 (w0 := W) W.heap.size (by rfl) (.tmp 53) (.tmp 55) 22 27 (.agg #[.int .i64 0, .slice none 0 0, .bool false]) 40 rfl Try.underlying22 info27 rfl (by decide) (by omega) (.slice A' i c') (l.take i) (⟨f0, f1, f2⟩ : S27) [.int .i64 f0, .slice A2 f1.length c2, .bool f2] (fun _ => True) (fun k => some k = (Value.slice A2 f1.length c2).ownBlock) rfl rfl PRE.out.1 PRE.out.2.1 (fun _ _ => trivial) PRE.out.2.2 HM6.out.tch.below HM6.out.tch.below.size (by rw [HLN.out]; omega) ?_
        intro v1 w9 ho hb hg hat
        obtain ⟨Av, cv, rfl⟩ := Kd.S_slice ho
        have HO := Aside0.mk ho
        have HB9 := Aside0.mk hb
        have HG9 := Aside0.mk hg
        have hp9 := blk_grown HM6.out.tch.blk hg (Kd.S_ne HM6.out.reg HM6.out.tch.blk (by decide))
        have kp9 : w9.cell? ⟨pb, 2, none⟩ = some (.slice A' i c') := (blk_cell hp9 2).trans rfl
        have kf9 : w9.frozen? ⟨pb, 2, none⟩ = false := blk_frozen hp9 2
        clear ho hb hg hat hp9
        refine hK.out _ _ ?_
        clear hK K
        refine norm_ (a' := ?_) ?_ ?_
        rotate_left
        · show Act.put _ (some 56) _ = _
          simp only [Act.put, List.setIfInBounds_toArray, List.set_cons_zero, List.set_cons_succ, i64_w, i32_w]
          rfl
        refine pure_ (i := 8) (N := some 57) (v := ?_) (a' := ?_) #[true, true, true, true, true, true, true, true, true, false, false] rfl rfl (by kernel_rfl) (fun _ _ _ h => h) (Or.inl ⟨by rfl, ?_⟩) ?_ ?_
        rotate_left
        · intro w'
          go_simp
          with_reducible rfl
        rotate_left
        · simp only [Act.put, List.setIfInBounds_toArray, List.set_cons_zero, List.set_cons_succ, i64_w, i32_w]
          rfl
        refine pure_ (i := 9) (N := some 58) (v := ?_) (a' := ?_) #[true, true, true, true, true, true, true, true, true, true, false] rfl rfl (by kernel_rfl) (fun _ _ _ h => h) (Or.inl ⟨by rfl, ?_⟩) ?_ ?_
        rotate_left
        · intro w'
          go_simp
          with_reducible rfl
        rotate_left
        · simp only [Act.put, List.setIfInBounds_toArray, List.set_cons_zero, List.set_cons_succ, i64_w, i32_w]
          rfl
        refine last_ (i := 10) (N := none) #[true, true, true, true, true, true, true, true, true, true, true] rfl rfl (by kernel_rfl) (by decide) (fun K hK => ?_)
        refine skip_ (w1 := ?_) (by rfl) rfl ?_ ?_
        rotate_left
        · go_simp
          rfl
        refine hK.out _ _ ?_
        clear hK K
        refine done_ (by kernel_rfl) ?_
        go_wp2
        have h9 := HO.out
        rw [show (l.take i ++ [(⟨f0, f1, f2⟩ : S27)]).length = i + 1 by rw [List.length_append, HLN.out]; rfl] at h9
        refine ⟨⟨i + 1, _, LT.out, by first | rfl | go_num, ⟨by rw [ET.out]; exact HM6.out.append h9 HG9.out HB9.out⟩, ⟨by rw [ET.out, HA1.out]; simp [GD.out]⟩⟩, ?_⟩
        have := LT.out
        simp [intOf]
        omega
    case neg =>
      obtain rfl : i = l.length := by omega
      rw [List.take_length] at HM HA
      rw [List.drop_length] at HA
      go_wp2
      go_ret2
      exact ⟨fun _ => ⟨pb, r, q, vr, rfl, HM.out⟩, fun h => by have hh := HA.out; rw [mayF] at hh; unfold newOk at h; rw [hh] at h; simp at h; omega, HM.out.tch.below⟩
end Go.Proofs.Ytkanhnhagjopkaa.M

/-
  Layer 2: the answers that the document gives (live): the walk. No condition.
-/
namespace Go.Proofs.Ytkanhnhagjopkaa.M
open Go.RowKit Go.Proofs.YtkanhnhagjopkaaW.PrintWords Go.Proofs.YtkanhnhagjopkaaW.PrintLast Go.Proofs.Ytkanhnhagjopkaa.Num
set_option linter.unusedVariables false
set_option linter.unusedSimpArgs false
theorem C_ints {W : World} {b t : Nat} (l : List Int) (hl : l.length ≤ 9223372036854775807) (h : W.heap[b]? = some (.cells (nums .i64 l).toArray t (0, 0))) : Kd.C (Kd.int .i64) W (some ⟨b, 0, none⟩) l.length l := by
  refine ⟨rfl, hl, fun _ => ⟨_, rfl, fun j p hj => ⟨[.int .i64 p], rfl, rfl, fun i u hi => ?_⟩⟩⟩
  have e1 : (Kd.int .i64).sz = 1 := rfl
  have h0 : i = 0 := by
    have := (List.getElem?_eq_some_iff.1 hi).1
    simp at this
    exact this
  subst h0
  rw [e1, add_plain, blk_cell h]
  simp at hi
  subst hi
  simp [nums, hj]
def liveL : List S27 := [⟨0, [5, 6], true⟩, ⟨64, [7], false⟩]
theorem live_rows {W : World} {b0 b1 b2 : Nat} (h0 : W.heap[b0]? = some (.cells #[.int .i64 5, .int .i64 6] 2 (0, 0))) (h1 : W.heap[b1]? = some (.cells #[.int .i64 7] 2 (0, 0)))
    (h2 : W.heap[b2]? = some (.cells #[.int .i64 0, .slice (some ⟨b0, 0, none⟩) 2 2, .bool true, .int .i64 64, .slice (some ⟨b1, 0, none⟩) 1 1, .bool false] 27 (0, 0))) : Kd.C k27 W (some ⟨b2, 0, none⟩) 2 liveL := by
  refine ⟨rfl, by omega, fun _ => ⟨_, rfl, fun j p hj => ?_⟩⟩
  have hsz : k27.sz = 3 := rfl
  match j, hj with
  | 0, hj =>
    simp [liveL] at hj
    subst hj
    refine ⟨_, rfl, k27_mk W (⟨0, [5, 6], true⟩ : S27) (A1 := some ⟨b0, 0, none⟩) (c1 := 2) (by simp) (C_ints [5, 6] (by simp) h0), fun i u hi => ?_⟩
    have hil := (List.getElem?_eq_some_iff.1 hi).1
    rw [add_plain, blk_cell h2, hsz]
    match i, hi with
    | 0, hi => exact hi
    | 1, hi => exact hi
    | 2, hi => exact hi
  | 1, hj =>
    simp [liveL] at hj
    subst hj
    refine ⟨_, rfl, k27_mk W (⟨64, [7], false⟩ : S27) (A1 := some ⟨b1, 0, none⟩) (c1 := 1) (by simp) (C_ints [7] (by simp) h1), fun i u hi => ?_⟩
    have hil := (List.getElem?_eq_some_iff.1 hi).1
    rw [add_plain, blk_cell h2, hsz]
    match i, hi with
    | 0, hi => exact hi
    | 1, hi => exact hi
    | 2, hi => exact hi
  | j + 2, hj => simp [liveL] at hj
theorem live_new : newOk liveL = true := by decide +kernel
theorem live_good : ∀ o ∈ liveL, goodR o := mayF_good liveL [] (by have := live_new; unfold newOk at this; simp only [Bool.and_eq_true] at this; exact this.2)
theorem live_1 : loadV liveL 8 = (6, 0) ∧ touchF liveL 8 [] = [8] := by decide
theorem live_2 : loadV liveL 16 = (0, 11) ∧ touchF liveL 16 [8] = [8] := by decide
theorem live_3 : storeE liveL 64 = 11 ∧ storeT liveL 64 [] = [] ∧ storeL liveL 64 1 = liveL := by
  refine ⟨by decide, by decide, ?_⟩
  have : findI liveL 64 = some 1 := by decide
  unfold storeL
  rw [this]
  rfl
set_option maxHeartbeats 16000000 in
theorem live_c (W : World) : Calls Try.prog 8 #[] W fun e w' => e = .returned (.bool true) ∧ Below W.heap.size W w' := by
  have hs0 : (W.alloc (.cells #[.int .i64 5, .int .i64 6] 2)).heap.size = W.heap.size + 1 := by simp
  have hs1 : ((W.alloc (.cells #[.int .i64 5, .int .i64 6] 2)).alloc (.cells #[.int .i64 7] 2)).heap.size = W.heap.size + 2 := by simp
  have B0 := blk_alloc (blk_alloc (blk_new W (.cells #[.int .i64 5, .int .i64 6] 2)) (.cells #[.int .i64 7] 2)) (.cells #[.int .i64 0, .slice (some ⟨W.heap.size, 0, none⟩) 2 2, .bool true, .int .i64 64, .slice (some ⟨W.heap.size + 1, 0, none⟩) 1 1, .bool false] 27)
  have B1 := hs0 ▸ blk_alloc (blk_new (W.alloc (.cells #[.int .i64 5, .int .i64 6] 2)) (.cells #[.int .i64 7] 2)) (.cells #[.int .i64 0, .slice (some ⟨W.heap.size, 0, none⟩) 2 2, .bool true, .int .i64 64, .slice (some ⟨W.heap.size + 1, 0, none⟩) 1 1, .bool false] 27)
  have B2 := hs1 ▸ blk_new ((W.alloc (.cells #[.int .i64 5, .int .i64 6] 2)).alloc (.cells #[.int .i64 7] 2)) (.cells #[.int .i64 0, .slice (some ⟨W.heap.size, 0, none⟩) 2 2, .bool true, .int .i64 64, .slice (some ⟨W.heap.size + 1, 0, none⟩) 1 1, .bool false] 27)
  have NC := Aside0.mk (new_c (c := 2) (live_rows B0 B1 B2) (by decide) (by decide))
  have HB := Aside0.mk (below_alloc (below_alloc (below_alloc (Below.refl W.heap.size W) (.cells #[.int .i64 5, .int .i64 6] 2)) (.cells #[.int .i64 7] 2)) (.cells #[.int .i64 0, .slice (some ⟨W.heap.size, 0, none⟩) 2 2, .bool true, .int .i64 64, .slice (some ⟨W.heap.size + 1, 0, none⟩) 1 1, .bool false] 27))
  have e2 : liveL.length = 2 := rfl
  rw [e2] at NC
  have T1 : True := trivial
  clear B0 B1 B2 hs0 hs1 e2
  go_enter Try.func8, Try.ntmps8
  go_wp2_with (first
    | (go_at_call 9; (with_reducible refine NC.out.mono ?_); rintro e w4 ⟨h1, h2, hb⟩; obtain ⟨pb, r, q, vr, rfl, hm⟩ := h1 live_new; have HM4 := Aside0.mk hm; have HB4 := Aside0.mk (below_inL HB.out hb); clear h1 h2 hb hm)
    | (clear T1; go_at_call 10; (with_reducible refine (load_c HM4.out live_good (by decide) (by decide) 8 (by decide) (by decide)).mono ?_); rintro e w5 ⟨he, hm, hk⟩; rw [live_1.1] at he; rw [live_1.2] at hm; subst he; have HM5 := Aside0.mk hm; clear hm hk)
    | (go_at_call 10; (with_reducible refine (load_c HM5.out live_good (by decide) (by decide) 16 (by decide) (by decide)).mono ?_); rintro e w6 ⟨he, hm, hk⟩; rw [live_2.1] at he; rw [live_2.2] at hm; subst he; have HM6 := Aside0.mk hm; clear hm hk)
    | (go_at_call 11; (with_reducible refine (store_c HM6.out live_good (by decide) (by decide) 64 (by decide) (by decide) 1).mono ?_); rintro e w7 ⟨he, hm, hk⟩; rw [live_3.1] at he; rw [live_3.2.1, live_3.2.2] at hm; subst he; have HM7 := Aside0.mk hm; clear hm hk)
    | (go_at_call 15; (with_reducible refine (footM_c HM7.out (by decide) (by decide)).mono ?_); rintro e w8 ⟨A0, c0, A1, c1, r', q', he, hr0, hr1, hm, hk, -, -⟩; replace he : e = .returned (.agg #[.slice A0 1 c0, .slice A1 0 c1]) := he; subst he; have HR0 := Aside0.mk (show 1 ≤ c0 ∧ Kd.C (Kd.int .i64) w8 A0 1 [8] from (Kd.R_reads' hr0).2); have HR1 := Aside0.mk (show 0 ≤ c1 ∧ Kd.C (Kd.int .i64) w8 A1 0 [] from (Kd.R_reads' hr1).2); have HB8 := Aside0.mk (below_inL HB.out hm.tch.below); clear hr0 hr1 hm hk)
    | (go_at_call 16; have C16 := (show Calls Try.prog 16 #[.agg #[.slice A0 1 c0, .slice A1 0 c1], .agg #[.slice (some ⟨w8.heap.size, 0, none⟩) 1 1, .slice none 0 0]] (w8.alloc (.cells #[.int .i64 8] 2)) (fun e w' => e = .returned (.bool true) ∧ Below (w8.alloc (.cells #[.int .i64 8] 2)).heap.size (w8.alloc (.cells #[.int .i64 8] 2)) w') from cotterref02_SameFoot.calls 10 A0 c0 [8] A1 c1 [] (some ⟨w8.heap.size, 0, none⟩) 1 [8] none 0 [] true (w8.alloc (.cells #[.int .i64 8] 2)) (Kd.C_alloc HR0.out.2 _) HR0.out.1 (Kd.C_alloc HR1.out.2 _) HR1.out.1 (C_ints [8] (by decide) (blk_new w8 _)) (by decide) (Kd.C_nil _ _) (by decide) (by decide +kernel)); (with_reducible refine C16.mono ?_); rintro e w9 ⟨rfl, hb⟩; have HB9 := Aside0.mk (below_inL (below_alloc HB8.out (.cells #[.int .i64 8] 2)) hb); clear hb C16))
  go_ret
  exact ⟨rfl, HB9.out⟩
end Go.Proofs.Ytkanhnhagjopkaa.M

/-
  Layer 2: MemStays: plain, and the walk. Conditions: lengths that any memory can hold, numbers of 64 bits.
-/
namespace Go.Proofs.Ytkanhnhagjopkaa.M
open Go.RowKit Go.Proofs.YtkanhnhagjopkaaW.PrintWords Go.Proofs.YtkanhnhagjopkaaW.PrintLast Go.Proofs.Ytkanhnhagjopkaa.Num
set_option linter.unusedVariables false
set_option linter.unusedSimpArgs false
/-- Another word stands there: all else is as it was. -/
theorem set_rd (l : List S27) (i j : Nat) (x : S27) (hi : i < l.length) : rd_T27 (l.set i x) (j : Nat) = if j = i then x else rd_T27 l (j : Nat) := by
  unfold rd_T27
  simp only [Int.toNat_natCast, List.getD_eq_getElem?_getD]
  by_cases h : j = i
  · subst h
    simp [hi]
  · rw [if_neg h, List.getElem?_set_ne (fun e => h e.symm)]
theorem storeL_cases (l : List S27) (a v : Int) : (storeE l a = 11 ∧ storeL l a v = l) ∨ ∃ i, findI l a = some i ∧ i < l.length ∧ storeE l a = 0 ∧ storeL l a v = l.set i ⟨(rd_T27 l i).f0, (rd_T27 l i).f1.set (nth l i a) v, (rd_T27 l i).f2⟩ ∧ inR a (rd_T27 l i) = true := by
  unfold storeE storeL
  cases h : findI l a with
  | none => exact .inl ⟨rfl, rfl⟩
  | some i =>
    have hf := h
    unfold findI at hf
    split at hf
    · rw [List.findIdx?_eq_some_iff_getElem] at hf
      obtain ⟨hi, hin, _⟩ := hf
      cases h2 : (rd_T27 l i).f2 with
      | false => exact .inl ⟨by simp [h2], by simp [h2]⟩
      | true => exact .inr ⟨i, rfl, hi, by simp [h2], by simp [h2], by rw [rd27_at l i hi]; exact hin⟩
    · cases hf
theorem good_store {l : List S27} (G : ∀ o ∈ l, goodR o) (a v : Int) : ∀ o ∈ storeL l a v, goodR o := by
  rcases storeL_cases l a v with ⟨_, h⟩ | ⟨i, _, hi, _, h, _⟩
  · rw [h]; exact G
  · rw [h]
    intro o ho
    rcases List.mem_or_eq_of_mem_set ho with ho | rfl
    · exact G o ho
    · have := G l[i] (List.getElem_mem hi)
      rw [rd27_at l i hi]
      unfold goodR at *
      simpa using this
theorem storeL_length (l : List S27) (a v : Int) : (storeL l a v).length = l.length := by
  rcases storeL_cases l a v with ⟨_, h⟩ | ⟨i, _, hi, _, h, _⟩
  · rw [h]
  · rw [h]; simp
theorem find_in {l : List S27} {b : Int} {j : Nat} (h : findI l b = some j) : okA b = true ∧ j < l.length ∧ inR b (rd_T27 l j) = true := by
  unfold findI at h
  split at h
  · next hk =>
    rw [List.findIdx?_eq_some_iff_getElem] at h
    obtain ⟨hj, hin, _⟩ := h
    exact ⟨hk, hj, by rw [rd27_at l j hj]; exact hin⟩
  · cases h
theorem nth_lt {l : List S27} {a : Int} {i : Nat} (h : inR a (rd_T27 l i) = true) : nth l i a < (rd_T27 l i).f1.length := by
  unfold inR at h
  simp only [Bool.and_eq_true, decide_eq_true_eq] at h
  unfold nth
  omega
theorem touch_len (l : List S27) (a : Int) (xs : List Int) : (touchF l a xs).length ≤ xs.length + 1 := by
  unfold touchF
  cases findI l a <;> simp
theorem storeT_len (l : List S27) (a : Int) (xs : List Int) : (storeT l a xs).length ≤ xs.length + 1 := by
  unfold storeT
  cases findI l a with
  | none => simp
  | some i =>
    dsimp only
    split <;> simp
theorem newOk_good {l : List S27} (h : newOk l = true) : (∀ o ∈ l, goodR o) ∧ l.length ≤ 16 := by
  unfold newOk at h
  simp only [Bool.and_eq_true, decide_eq_true_eq] at h
  exact ⟨mayF_good l [] h.2, h.1⟩
end Go.Proofs.Ytkanhnhagjopkaa.M

namespace Go.Proofs.Ytkanhnhagjopkaa.M
end Go.Proofs.Ytkanhnhagjopkaa.M
/-
  Layer 2: the document's memory: its predicate, and where a word stands (find): the walk. Conditions: a memory that may be.
-/
namespace Go.Proofs.Ytkanhnhagjopkaa.M
open Go.RowKit Go.Proofs.YtkanhnhagjopkaaW.PrintWords Go.Proofs.YtkanhnhagjopkaaW.PrintLast Go.Proofs.Ytkanhnhagjopkaa.Num
set_option linter.unusedVariables false
set_option linter.unusedSimpArgs false
def tb36.T6 : Bool × List (List Nat × List Nat) := (true, [([], []), ([], []), ([1], [1]), ([2], [2]), ([3], [3]), ([], []), ([4, 5], [4, 5]), ([6], [6]), ([7], [7]), ([0, 8], [0, 8]), ([9], [9]), ([10], [10]), ([10], [10]), ([12, 10], [10, 12]), ([13, 10], [10, 13]), ([14, 10], [10, 14]), ([10], [10]), ([15, 16, 10], [10, 15, 16]), ([17, 10], [10, 17]), ([18, 10], [10, 18]), ([11, 19, 10], [10, 11, 19]), ([10], [10]), ([21, 10], [10, 21]), ([22, 10], [10, 22]), ([23, 10], [10, 23]), ([10], [10]), ([24, 25, 10], [10, 24, 25]), ([26, 10], [10, 26]), ([27, 10], [10, 27]), ([28, 10], [10, 28]), ([29, 10], [10, 29]), ([20, 30, 10], [10, 20, 30]), ([10, 31], [10, 31])])
def tb36.B6 : List Nat := [0, 0, 2, 6, 14, 0, 62, 126, 254, 511, 1023, 2047, 2047, 6143, 14335, 30719, 2047, 129023, 260095, 522239, 1048575, 2047, 2099199, 6293503, 14682111, 2047, 65013759, 132122623, 266340351, 534775807, 1071646719, 2147483647, 4294967295]
theorem tb36.tab6 : rtab .any (opsOf Try.f36 6) = tb36.T6 := by kernel_rfl
theorem tb36.bits6 : waitsOk tb36.T6.2 tb36.B6 = true := by kernel_rfl
def tb36.T7 : Bool × List (List Nat × List Nat) := (true, [([], []), ([], []), ([], []), ([2], [2]), ([3], [3]), ([4], [4]), ([], []), ([5, 6], [5, 6]), ([7], [7]), ([8], [8]), ([1, 9], [1, 9]), ([10], [10]), ([0, 0], [0]), ([11, 12, 0, 1, 2, 3, 4, 5, 6, 7, 8, 9, 10, 11, 12], [11]), ([13, 0, 1, 2, 3, 4, 5, 6, 7, 8, 9, 10, 11, 12, 13], [])])
def tb36.B7 : List Nat := [0, 0, 0, 4, 12, 28, 0, 124, 252, 508, 1022, 2046, 1, 8191, 16383]
theorem tb36.tab7 : rtab .any (opsOf Try.f36 7) = tb36.T7 := by kernel_rfl
theorem tb36.bits7 : waitsOk tb36.T7.2 tb36.B7 = true := by kernel_rfl
/-- The document's memory: its block, its regions (blocks of O1), the rows of what was touched (O2, O3). -/
structure RefG (O1 O2 O3 : Nat → Prop) (w W : World) (pb : Nat) (vr v0 v1 : Value) (l : List S27) (xs ys : List Int) : Prop where
  below : Below w.heap.size w W
  ge : w.heap.size ≤ pb
  blk : W.heap[pb]? = some (.cells #[vr, v0, v1] 74 (0, 0))
  reg : Kd.S k27 27 W w.heap.size O1 vr l
  r0 : Kd.R (Kd.int .i64) 2 W w.heap.size O2 v0 xs
  r1 : Kd.R (Kd.int .i64) 2 W w.heap.size O3 v1 ys
  d12 : ∀ k, O1 k → ¬ O2 k
  d13 : ∀ k, O1 k → ¬ O3 k
  d23 : ∀ k, O2 k → ¬ O3 k
  pbn : ¬ O1 pb ∧ ¬ O2 pb ∧ ¬ O3 pb
  lt : ∀ k, O1 k ∨ O2 k ∨ O3 k → k < W.heap.size
section
variable {O1 O2 O3 : Nat → Prop} {w W W' : World} {pb : Nat} {vr v0 v1 : Value} {l : List S27} {xs ys : List Int}
theorem RefG.next (H : RefG O1 O2 O3 w W pb vr v0 v1 l xs ys) (hb : Below W.heap.size W W') : RefG O1 O2 O3 w W' pb vr v0 v1 l xs ys :=
  ⟨below_then H.below H.below.size hb, H.ge, blk_below H.blk hb, Kd.S_below H.reg hb, Kd.R_below H.r0 hb, Kd.R_below H.r1 hb, H.d12, H.d13, H.d23, H.pbn, fun k hk => Nat.lt_of_lt_of_le (H.lt k hk) hb.size⟩
theorem RefG.kept (H : RefG O1 O2 O3 w W pb vr v0 v1 l xs ys) {X : Nat → Prop} (hk : Kept W W' X) (hX : ∀ k, O1 k ∨ O2 k ∨ O3 k ∨ k = pb → ¬ X k) (hb : Below w.heap.size w W') : RefG O1 O2 O3 w W' pb vr v0 v1 l xs ys :=
  ⟨hb, H.ge, blk_kept H.blk hk (hX _ (.inr (.inr (.inr rfl)))), Kd.S_kept H.reg hk (fun k h => hX k (.inl h)), Kd.R_kept H.r0 hk (fun k h => hX k (.inr (.inl h))), Kd.R_kept H.r1 hk (fun k h => hX k (.inr (.inr (.inl h)))), H.d12, H.d13, H.d23, H.pbn, fun k h => Nat.lt_of_lt_of_le (H.lt k h) hk.1⟩
end
/-- What find answers. -/
def FindA (l : List S27) (a : Int) (e : Ending) : Prop :=
  (findI l a = none ∧ e = .returned (.tuple #[.int .i64 0, .int .i64 0, .bool false])) ∨
  ∃ i, findI l a = some i ∧ i < l.length ∧ nth l i a < (rd_T27 l i).f1.length ∧ e = .returned (.tuple #[.int .i64 (i : Nat), .int .i64 (nth l i a : Nat), .bool true])
set_option maxHeartbeats 4000000 in
theorem find_c {W : World} {pb : Nat} {A : Option Addr} {c : Nat} {v0 v1 : Value} {l : List S27} (hblk : W.heap[pb]? = some (.cells #[.slice A l.length c, v0, v1] 74 (0, 0))) (hC : Kd.C k27 W A l.length l) (hcc : l.length ≤ c) (G : ∀ o ∈ l, goodR o) (hm : l.length ≤ 1000) (a : Int) (a0 : -9223372036854775808 ≤ a) (a1 : a ≤ 9223372036854775807) :
    Calls Try.prog 36 #[.pointer (some ⟨pb, 0, none⟩), .int .i64 a] W fun e w' => FindA l a e ∧ Below W.heap.size W w' := by
  have HBL := Aside0.mk hblk
  have GG := Aside0.mk G
  have HC := Aside0.mk hC
  have hcc' : (l.length : Int) ≤ (c : Int) := by omega
  have k2 : W.cell? ⟨pb, 0, none⟩ = some (.slice A l.length c) := (blk_cell hblk 0).trans rfl
  clear hblk G hC hcc
  by_cases h0 : a < 0
  case pos =>
    clear hcc'
    go_enter Try.func36, Try.ntmps36
    go_wp2
    go_ret3
    exact ⟨.inl ⟨by unfold findI okA; rw [if_neg (by simp; omega)], rfl⟩, Below.refl _ _⟩
  by_cases h1 : a % 8 = 0
  case neg =>
    clear hcc'
    have H1 := Aside0.mk h1
    go_enter Try.func36, Try.ntmps36
    go_wp2
    go_ret3
    exact ⟨.inl ⟨by have := H1.out; unfold findI okA; rw [if_neg (by simp; omega)], rfl⟩, Below.refl _ _⟩
  have OK := Aside0.mk (show okA a = true by unfold okA; simp; omega)
  go_enter Try.func36, Try.ntmps36
  go_wp2
  clear h1 k2
  go_loopw [7] (fun v7 wr => ∃ i : Nat, i ≤ l.length ∧ v7 = .int .i64 i ∧ Aside0 (∀ j, (hj : j < l.length) → j < i → inR a l[j] = false) ∧ Aside0 (Below W.heap.size W wr)) (fun v7 _ => l.length - (intOf v7).toNat)
  case atStart => exact ⟨0, Nat.zero_le _, rfl, ⟨fun j _ h => by omega⟩, ⟨Below.refl _ _⟩⟩
  case round =>
    obtain ⟨i, hi, rfl, HA, HB⟩ := hrel
    have k2 : wr.cell? ⟨pb, 0, none⟩ = some (.slice A l.length c) := (blk_cell (blk_below HBL.out HB.out) 0).trans rfl
    by_cases hlt : i < l.length
    case pos =>
      obtain ⟨ad, A1, c1, e, hx0, hx1, hx2, k1, r1⟩ := at_T27 (Kd.C_below HC.out HB.out) (i : Int) (by omega) (by omega)
      cases e
      simp only [Int.toNat_natCast] at hx0 hx1 hx2
      have EL := Aside0.mk (rd27_at l i hlt)
      have GI := GG.out _ (List.getElem_mem hlt)
      have LT := Aside0.mk hlt
      rw [← EL.out] at GI
      have FS := Aside0.mk (fun h => find_some OK.out hlt (by rw [← EL.out]; exact h) HA.out)
      have HN := Aside0.mk (fun h : inR a (rd_T27 l i) = false => show ∀ j, (hj : j < l.length) → j < i + 1 → inR a l[j] = false from fun j hj hji => by
        by_cases e : j = i
        · subst e
          rw [← EL.out]; exact h
        · exact HA.out j hj (by omega))
      have hil : (i : Int) < (l.length : Int) := by omega
      obtain ⟨o, ho⟩ : ∃ o, o = rd_T27 l i := ⟨_, rfl⟩
      rw [← ho] at hx0 hx1 hx2 k1 GI FS HN
      have HO := Aside0.mk ho
      clear r1 ho hx2 k1
      unfold goodR at GI
      obtain ⟨d, HD, hd2⟩ : ∃ d, Aside0 (wrap64 (a - o.f0) = d) ∧ (o.f0 ≤ a → d = a - o.f0) := ⟨_, ⟨rfl⟩, fun h => wrap64_id (by omega) (by omega)⟩
      obtain ⟨e, HE, he2⟩ : ∃ e, Aside0 (wrap64 (8 * (o.f1.length : Int)) = e) ∧ e = 8 * (o.f1.length : Int) := ⟨_, ⟨rfl⟩, wrap64_id (by omega) (by omega)⟩
      obtain ⟨m, hm0⟩ : ∃ m, m = nth l i a := ⟨_, rfl⟩
      by_cases hb : o.f0 ≤ a
      case neg =>
        have hv : decide (o.f0 ≤ a) = false := decide_eq_false hb
        have HI := Aside0.mk (HN.out (by unfold inR; simp; omega))
        clear he2 hd2 hm0 GI FS HN hb
        go_wp2
        refine start_ (n := 33) (S := fun w' => w'.cell? ⟨pb, 0, none⟩ = some (.slice (some ad) l.length c) ∧ w'.cell? (ad.add (i * 3)) = some (.int .i64 o.f0) ∧ w'.cell? ⟨(ad.add (i * 3)).block, (ad.add (i * 3)).off + 1, none⟩ = some (.slice A1 o.f1.length c1)) (ds := []) #[false, false, false, false, false, false, false, false, false, false, false, false, false, false, false, false, false, false, false, false, false, false, false, false, false, false, false, false, false, false, false, false, false] (by kernel_rfl) rfl rfl ⟨k2, hx0, hx1⟩ (fun hHeld => ?_)
        refine with_tabW tb36.tab6 tb36.bits6 (fun HT_ HW_ => ?_)
        refine pure_ (i := 0) (N := some 24) (v := ?_) (a' := ?_) #[true, false, false, false, false, false, false, false, false, false, false, false, false, false, false, false, false, false, false, false, false, false, false, false, false, false, false, false, false, false, false, false, false] rfl rfl (any_of HT_.out (by kernel_rfl)) (fun _ _ _ h => h) (Or.inl ⟨by rfl, ?_⟩) ?_ ?_
        rotate_left
        · intro w'
          go_simp
          with_reducible rfl
        rotate_left
        · simp only [Act.put, List.setIfInBounds_toArray, List.set_cons_zero, List.set_cons_succ, i64_w, i32_w]
          rfl
        refine pure_ (i := 1) (N := some 25) (v := ?_) (a' := ?_) #[true, true, false, false, false, false, false, false, false, false, false, false, false, false, false, false, false, false, false, false, false, false, false, false, false, false, false, false, false, false, false, false, false] rfl rfl (any_of HT_.out (by kernel_rfl)) (fun _ _ _ h => h) (Or.inl ⟨by rfl, ?_⟩) ?_ ?_
        rotate_left
        · intro w'
          go_simp
          with_reducible rfl
        rotate_left
        · simp only [Act.put, List.setIfInBounds_toArray, List.set_cons_zero, List.set_cons_succ, i64_w, i32_w]
          rfl
        refine pure_ (i := 2) (N := some 26) (v := ?_) (a' := ?_) #[true, true, true, false, false, false, false, false, false, false, false, false, false, false, false, false, false, false, false, false, false, false, false, false, false, false, false, false, false, false, false, false, false] rfl rfl (any_of HT_.out (by kernel_rfl)) (fun _ _ _ h => h) (Or.inl ⟨by rfl, ?_⟩) ?_ ?_
        rotate_left
        · intro w'
          go_simp
          with_reducible rfl
        rotate_left
        · simp only [Act.put, List.setIfInBounds_toArray, List.set_cons_zero, List.set_cons_succ, i64_w, i32_w]
          rfl
        refine pure_ (i := 3) (N := some 27) (v := ?_) (a' := ?_) #[true, true, true, true, false, false, false, false, false, false, false, false, false, false, false, false, false, false, false, false, false, false, false, false, false, false, false, false, false, false, false, false, false] rfl rfl (any_of HT_.out (by kernel_rfl)) (fun _ _ _ h => h) (Or.inl ⟨by rfl, ?_⟩) ?_ ?_
        rotate_left
        · intro w'
          go_simp
          with_reducible rfl
        rotate_left
        · simp only [Act.put, List.setIfInBounds_toArray, List.set_cons_zero, List.set_cons_succ, i64_w, i32_w]
          rfl
        refine pure_ (i := 5) (N := some 29) (v := ?_) (a' := ?_) #[true, true, true, true, false, true, false, false, false, false, false, false, false, false, false, false, false, false, false, false, false, false, false, false, false, false, false, false, false, false, false, false, false] rfl rfl (any_of HT_.out (by kernel_rfl)) (fun _ _ _ h => h) (Or.inl ⟨by rfl, ?_⟩) ?_ ?_
        rotate_left
        · intro w'
          go_simp
          with_reducible rfl
        rotate_left
        · simp only [Act.put, List.setIfInBounds_toArray, List.set_cons_zero, List.set_cons_succ, i64_w, i32_w]
          rfl
        refine take_ (i := 4) (N := some 28) (v := ?_) (a' := ?_) #[true, true, true, true, true, true, false, false, false, false, false, false, false, false, false, false, false, false, false, false, false, false, false, false, false, false, false, false, false, false, false, false, false] rfl rfl (take_ofW HT_.out HW_.out (by kernel_rfl)) (fun _ _ _ h => h) (Or.inl ⟨by rfl, ?_⟩) hHeld ?_ ?_
        rotate_left
        · rintro w' ⟨s0, s1, s2⟩
          go_simp
          with_reducible rfl
        rotate_left
        · simp only [Act.put, List.setIfInBounds_toArray, List.set_cons_zero, List.set_cons_succ, i64_w, i32_w]
          rfl
        refine pure_ (i := 6) (N := some 30) (v := ?_) (a' := ?_) #[true, true, true, true, true, true, true, false, false, false, false, false, false, false, false, false, false, false, false, false, false, false, false, false, false, false, false, false, false, false, false, false, false] rfl rfl (any_of HT_.out (by kernel_rfl)) (fun _ _ _ h => h) (Or.inl ⟨by rfl, ?_⟩) ?_ ?_
        rotate_left
        · intro w'
          go_simp
          with_reducible rfl
        rotate_left
        · simp only [Act.put, List.setIfInBounds_toArray, List.set_cons_zero, List.set_cons_succ, i64_w, i32_w]
          rfl
        refine pure_ (i := 7) (N := some 31) (v := ?_) (a' := ?_) #[true, true, true, true, true, true, true, true, false, false, false, false, false, false, false, false, false, false, false, false, false, false, false, false, false, false, false, false, false, false, false, false, false] rfl rfl (any_of HT_.out (by kernel_rfl)) (fun _ _ _ h => h) (Or.inl ⟨by rfl, ?_⟩) ?_ ?_
        rotate_left
        · intro w'
          go_simp
          with_reducible rfl
        rotate_left
        · simp only [Act.put, List.setIfInBounds_toArray, List.set_cons_zero, List.set_cons_succ, i64_w, i32_w]
          rfl
        refine take_ (i := 8) (N := some 32) (v := ?_) (a' := ?_) #[true, true, true, true, true, true, true, true, true, false, false, false, false, false, false, false, false, false, false, false, false, false, false, false, false, false, false, false, false, false, false, false, false] rfl rfl (take_ofW HT_.out HW_.out (by kernel_rfl)) (fun _ _ _ h => h) (Or.inl ⟨by rfl, ?_⟩) hHeld ?_ ?_
        rotate_left
        · rintro w' ⟨s0, s1, s2⟩
          go_simp
          with_reducible rfl
        rotate_left
        · simp only [Act.put, List.setIfInBounds_toArray, List.set_cons_zero, List.set_cons_succ, i64_w, i32_w]
          rfl
        refine pure_ (i := 9) (N := some 33) (v := ?_) (a' := ?_) #[true, true, true, true, true, true, true, true, true, true, false, false, false, false, false, false, false, false, false, false, false, false, false, false, false, false, false, false, false, false, false, false, false] rfl rfl (any_of HT_.out (by kernel_rfl)) (fun _ _ _ h => h) (Or.inl ⟨by rfl, ?_⟩) ?_ ?_
        rotate_left
        · intro w'
          go_simp
          with_reducible rfl
        rotate_left
        · simp only [Act.put, List.setIfInBounds_toArray, List.set_cons_zero, List.set_cons_succ, i64_w, i32_w]
          rfl
        refine pure_ (i := 10) (N := some 34) (v := ?_) (a' := ?_) #[true, true, true, true, true, true, true, true, true, true, true, false, false, false, false, false, false, false, false, false, false, false, false, false, false, false, false, false, false, false, false, false, false] rfl rfl (any_of HT_.out (by kernel_rfl)) (fun _ _ _ h => h) (Or.inl ⟨by rfl, ?_⟩) ?_ ?_
        rotate_left
        · intro w'
          go_simp
          with_reducible rfl
        rotate_left
        · simp only [Act.put, List.setIfInBounds_toArray, List.set_cons_zero, List.set_cons_succ, i64_w, i32_w]
          rfl
        refine pure_ (i := 11) (N := some 35) (v := undef) (a' := ?_) #[true, true, true, true, true, true, true, true, true, true, true, true, false, false, false, false, false, false, false, false, false, false, false, false, false, false, false, false, false, false, false, false, false] rfl rfl (any_of HT_.out (by kernel_rfl)) (fun _ _ _ h => h) (Or.inr ⟨by rfl, rfl⟩) ?_ ?_
        rotate_left
        · simp only [Act.put, List.setIfInBounds_toArray, List.set_cons_zero, List.set_cons_succ, i64_w, i32_w]
          rfl
        refine pure_ (i := 12) (N := some 36) (v := undef) (a' := ?_) #[true, true, true, true, true, true, true, true, true, true, true, true, true, false, false, false, false, false, false, false, false, false, false, false, false, false, false, false, false, false, false, false, false] rfl rfl (any_of HT_.out (by kernel_rfl)) (fun _ _ _ h => h) (Or.inr ⟨by rfl, rfl⟩) ?_ ?_
        rotate_left
        · simp only [Act.put, List.setIfInBounds_toArray, List.set_cons_zero, List.set_cons_succ, i64_w, i32_w]
          rfl
        refine pure_ (i := 13) (N := some 37) (v := undef) (a' := ?_) #[true, true, true, true, true, true, true, true, true, true, true, true, true, true, false, false, false, false, false, false, false, false, false, false, false, false, false, false, false, false, false, false, false] rfl rfl (any_of HT_.out (by kernel_rfl)) (fun _ _ _ h => h) (Or.inr ⟨by rfl, rfl⟩) ?_ ?_
        rotate_left
        · simp only [Act.put, List.setIfInBounds_toArray, List.set_cons_zero, List.set_cons_succ, i64_w, i32_w]
          rfl
        refine pure_ (i := 14) (N := some 38) (v := undef) (a' := ?_) #[true, true, true, true, true, true, true, true, true, true, true, true, true, true, true, false, false, false, false, false, false, false, false, false, false, false, false, false, false, false, false, false, false] rfl rfl (any_of HT_.out (by kernel_rfl)) (fun _ _ _ h => h) (Or.inr ⟨by rfl, rfl⟩) ?_ ?_
        rotate_left
        · simp only [Act.put, List.setIfInBounds_toArray, List.set_cons_zero, List.set_cons_succ, i64_w, i32_w]
          rfl
        refine pure_ (i := 15) (N := some 39) (v := undef) (a' := ?_) #[true, true, true, true, true, true, true, true, true, true, true, true, true, true, true, true, false, false, false, false, false, false, false, false, false, false, false, false, false, false, false, false, false] rfl rfl (any_of HT_.out (by kernel_rfl)) (fun _ _ _ h => h) (Or.inr ⟨by rfl, rfl⟩) ?_ ?_
        rotate_left
        · simp only [Act.put, List.setIfInBounds_toArray, List.set_cons_zero, List.set_cons_succ, i64_w, i32_w]
          rfl
        refine pure_ (i := 16) (N := some 40) (v := undef) (a' := ?_) #[true, true, true, true, true, true, true, true, true, true, true, true, true, true, true, true, true, false, false, false, false, false, false, false, false, false, false, false, false, false, false, false, false] rfl rfl (any_of HT_.out (by kernel_rfl)) (fun _ _ _ h => h) (Or.inr ⟨by rfl, rfl⟩) ?_ ?_
        rotate_left
        · simp only [Act.put, List.setIfInBounds_toArray, List.set_cons_zero, List.set_cons_succ, i64_w, i32_w]
          rfl
        refine pure_ (i := 17) (N := some 41) (v := undef) (a' := ?_) #[true, true, true, true, true, true, true, true, true, true, true, true, true, true, true, true, true, true, false, false, false, false, false, false, false, false, false, false, false, false, false, false, false] rfl rfl (any_of HT_.out (by kernel_rfl)) (fun _ _ _ h => h) (Or.inr ⟨by rfl, rfl⟩) ?_ ?_
        rotate_left
        · simp only [Act.put, List.setIfInBounds_toArray, List.set_cons_zero, List.set_cons_succ, i64_w, i32_w]
          rfl
        refine pure_ (i := 18) (N := some 42) (v := undef) (a' := ?_) #[true, true, true, true, true, true, true, true, true, true, true, true, true, true, true, true, true, true, true, false, false, false, false, false, false, false, false, false, false, false, false, false, false] rfl rfl (any_of HT_.out (by kernel_rfl)) (fun _ _ _ h => h) (Or.inr ⟨by rfl, rfl⟩) ?_ ?_
        rotate_left
        · simp only [Act.put, List.setIfInBounds_toArray, List.set_cons_zero, List.set_cons_succ, i64_w, i32_w]
          rfl
        refine pure_ (i := 19) (N := some 43) (v := undef) (a' := ?_) #[true, true, true, true, true, true, true, true, true, true, true, true, true, true, true, true, true, true, true, true, false, false, false, false, false, false, false, false, false, false, false, false, false] rfl rfl (any_of HT_.out (by kernel_rfl)) (fun _ _ _ h => h) (Or.inr ⟨by rfl, rfl⟩) ?_ ?_
        rotate_left
        · simp only [Act.put, List.setIfInBounds_toArray, List.set_cons_zero, List.set_cons_succ, i64_w, i32_w]
          rfl
        refine pure_ (i := 20) (N := some 44) (v := undef) (a' := ?_) #[true, true, true, true, true, true, true, true, true, true, true, true, true, true, true, true, true, true, true, true, true, false, false, false, false, false, false, false, false, false, false, false, false] rfl rfl (any_of HT_.out (by kernel_rfl)) (fun _ _ _ h => h) (Or.inr ⟨by rfl, rfl⟩) ?_ ?_
        rotate_left
        · simp only [Act.put, List.setIfInBounds_toArray, List.set_cons_zero, List.set_cons_succ, i64_w, i32_w]
          rfl
        refine pure_ (i := 21) (N := some 45) (v := undef) (a' := ?_) #[true, true, true, true, true, true, true, true, true, true, true, true, true, true, true, true, true, true, true, true, true, true, false, false, false, false, false, false, false, false, false, false, false] rfl rfl (any_of HT_.out (by kernel_rfl)) (fun _ _ _ h => h) (Or.inr ⟨by rfl, rfl⟩) ?_ ?_
        rotate_left
        · simp only [Act.put, List.setIfInBounds_toArray, List.set_cons_zero, List.set_cons_succ, i64_w, i32_w]
          rfl
        refine pure_ (i := 22) (N := some 46) (v := undef) (a' := ?_) #[true, true, true, true, true, true, true, true, true, true, true, true, true, true, true, true, true, true, true, true, true, true, true, false, false, false, false, false, false, false, false, false, false] rfl rfl (any_of HT_.out (by kernel_rfl)) (fun _ _ _ h => h) (Or.inr ⟨by rfl, rfl⟩) ?_ ?_
        rotate_left
        · simp only [Act.put, List.setIfInBounds_toArray, List.set_cons_zero, List.set_cons_succ, i64_w, i32_w]
          rfl
        refine pure_ (i := 23) (N := some 47) (v := undef) (a' := ?_) #[true, true, true, true, true, true, true, true, true, true, true, true, true, true, true, true, true, true, true, true, true, true, true, true, false, false, false, false, false, false, false, false, false] rfl rfl (any_of HT_.out (by kernel_rfl)) (fun _ _ _ h => h) (Or.inr ⟨by rfl, rfl⟩) ?_ ?_
        rotate_left
        · simp only [Act.put, List.setIfInBounds_toArray, List.set_cons_zero, List.set_cons_succ, i64_w, i32_w]
          rfl
        refine pure_ (i := 24) (N := some 48) (v := undef) (a' := ?_) #[true, true, true, true, true, true, true, true, true, true, true, true, true, true, true, true, true, true, true, true, true, true, true, true, true, false, false, false, false, false, false, false, false] rfl rfl (any_of HT_.out (by kernel_rfl)) (fun _ _ _ h => h) (Or.inr ⟨by rfl, rfl⟩) ?_ ?_
        rotate_left
        · simp only [Act.put, List.setIfInBounds_toArray, List.set_cons_zero, List.set_cons_succ, i64_w, i32_w]
          rfl
        refine pure_ (i := 25) (N := some 49) (v := undef) (a' := ?_) #[true, true, true, true, true, true, true, true, true, true, true, true, true, true, true, true, true, true, true, true, true, true, true, true, true, true, false, false, false, false, false, false, false] rfl rfl (any_of HT_.out (by kernel_rfl)) (fun _ _ _ h => h) (Or.inr ⟨by rfl, rfl⟩) ?_ ?_
        rotate_left
        · simp only [Act.put, List.setIfInBounds_toArray, List.set_cons_zero, List.set_cons_succ, i64_w, i32_w]
          rfl
        refine pure_ (i := 26) (N := some 50) (v := undef) (a' := ?_) #[true, true, true, true, true, true, true, true, true, true, true, true, true, true, true, true, true, true, true, true, true, true, true, true, true, true, true, false, false, false, false, false, false] rfl rfl (any_of HT_.out (by kernel_rfl)) (fun _ _ _ h => h) (Or.inr ⟨by rfl, rfl⟩) ?_ ?_
        rotate_left
        · simp only [Act.put, List.setIfInBounds_toArray, List.set_cons_zero, List.set_cons_succ, i64_w, i32_w]
          rfl
        refine pure_ (i := 27) (N := some 51) (v := undef) (a' := ?_) #[true, true, true, true, true, true, true, true, true, true, true, true, true, true, true, true, true, true, true, true, true, true, true, true, true, true, true, true, false, false, false, false, false] rfl rfl (any_of HT_.out (by kernel_rfl)) (fun _ _ _ h => h) (Or.inr ⟨by rfl, rfl⟩) ?_ ?_
        rotate_left
        · simp only [Act.put, List.setIfInBounds_toArray, List.set_cons_zero, List.set_cons_succ, i64_w, i32_w]
          rfl
        refine pure_ (i := 28) (N := some 52) (v := undef) (a' := ?_) #[true, true, true, true, true, true, true, true, true, true, true, true, true, true, true, true, true, true, true, true, true, true, true, true, true, true, true, true, true, false, false, false, false] rfl rfl (any_of HT_.out (by kernel_rfl)) (fun _ _ _ h => h) (Or.inr ⟨by rfl, rfl⟩) ?_ ?_
        rotate_left
        · simp only [Act.put, List.setIfInBounds_toArray, List.set_cons_zero, List.set_cons_succ, i64_w, i32_w]
          rfl
        refine pure_ (i := 29) (N := some 53) (v := undef) (a' := ?_) #[true, true, true, true, true, true, true, true, true, true, true, true, true, true, true, true, true, true, true, true, true, true, true, true, true, true, true, true, true, true, false, false, false] rfl rfl (any_of HT_.out (by kernel_rfl)) (fun _ _ _ h => h) (Or.inr ⟨by rfl, rfl⟩) ?_ ?_
        rotate_left
        · simp only [Act.put, List.setIfInBounds_toArray, List.set_cons_zero, List.set_cons_succ, i64_w, i32_w]
          rfl
        refine pure_ (i := 30) (N := some 54) (v := undef) (a' := ?_) #[true, true, true, true, true, true, true, true, true, true, true, true, true, true, true, true, true, true, true, true, true, true, true, true, true, true, true, true, true, true, true, false, false] rfl rfl (any_of HT_.out (by kernel_rfl)) (fun _ _ _ h => h) (Or.inr ⟨by rfl, rfl⟩) ?_ ?_
        rotate_left
        · simp only [Act.put, List.setIfInBounds_toArray, List.set_cons_zero, List.set_cons_succ, i64_w, i32_w]
          rfl
        refine pure_ (i := 31) (N := some 55) (v := undef) (a' := ?_) #[true, true, true, true, true, true, true, true, true, true, true, true, true, true, true, true, true, true, true, true, true, true, true, true, true, true, true, true, true, true, true, true, false] rfl rfl (any_of HT_.out (by kernel_rfl)) (fun _ _ _ h => h) (Or.inr ⟨by rfl, rfl⟩) ?_ ?_
        rotate_left
        · simp only [Act.put, List.setIfInBounds_toArray, List.set_cons_zero, List.set_cons_succ, i64_w, i32_w]
          rfl
        refine pure_ (i := 32) (N := some 56) (v := ?_) (a' := ?_) #[true, true, true, true, true, true, true, true, true, true, true, true, true, true, true, true, true, true, true, true, true, true, true, true, true, true, true, true, true, true, true, true, true] rfl rfl (any_of HT_.out (by kernel_rfl)) (fun _ _ _ h => h) (Or.inl ⟨by rfl, ?_⟩) ?_ ?_
        rotate_left
        · intro w'
          go_simp
          with_reducible rfl
        rotate_left
        · simp only [Act.put, List.setIfInBounds_toArray, List.set_cons_zero, List.set_cons_succ, i64_w, i32_w]
          rfl
        refine done_ (done_of HT_.out (by kernel_rfl)) ?_
        go_wp2
        refine ⟨⟨i + 1, LT.out, by first | rfl | go_num, HI, ⟨below_drew1 HB.out⟩⟩, ?_⟩
        have := LT.out
        simp [intOf]
        omega
      case pos =>
        replace hd2 := hd2 hb
        have hv : decide (o.f0 ≤ a) = true := decide_eq_true hb
        by_cases hb2 : d < e
        case neg =>
          have hv2 : decide (d < e) = false := decide_eq_false hb2
          have HI := Aside0.mk (HN.out (by unfold inR; simp; omega))
          have hd3 := HD.out
          have he3 := HE.out
          clear he2 hd2 hm0 GI FS HN hb hb2
          go_wp2
          refine start_ (n := 33) (S := fun w' => w'.cell? ⟨pb, 0, none⟩ = some (.slice (some ad) l.length c) ∧ w'.cell? (ad.add (i * 3)) = some (.int .i64 o.f0) ∧ w'.cell? ⟨(ad.add (i * 3)).block, (ad.add (i * 3)).off + 1, none⟩ = some (.slice A1 o.f1.length c1)) (ds := []) #[false, false, false, false, false, false, false, false, false, false, false, false, false, false, false, false, false, false, false, false, false, false, false, false, false, false, false, false, false, false, false, false, false] (by kernel_rfl) rfl rfl ⟨k2, hx0, hx1⟩ (fun hHeld => ?_)
          refine with_tabW tb36.tab6 tb36.bits6 (fun HT_ HW_ => ?_)
          refine pure_ (i := 0) (N := some 24) (v := ?_) (a' := ?_) #[true, false, false, false, false, false, false, false, false, false, false, false, false, false, false, false, false, false, false, false, false, false, false, false, false, false, false, false, false, false, false, false, false] rfl rfl (any_of HT_.out (by kernel_rfl)) (fun _ _ _ h => h) (Or.inl ⟨by rfl, ?_⟩) ?_ ?_
          rotate_left
          · intro w'
            go_simp
            with_reducible rfl
          rotate_left
          · simp only [Act.put, List.setIfInBounds_toArray, List.set_cons_zero, List.set_cons_succ, i64_w, i32_w]
            rfl
          refine pure_ (i := 1) (N := some 25) (v := ?_) (a' := ?_) #[true, true, false, false, false, false, false, false, false, false, false, false, false, false, false, false, false, false, false, false, false, false, false, false, false, false, false, false, false, false, false, false, false] rfl rfl (any_of HT_.out (by kernel_rfl)) (fun _ _ _ h => h) (Or.inl ⟨by rfl, ?_⟩) ?_ ?_
          rotate_left
          · intro w'
            go_simp
            with_reducible rfl
          rotate_left
          · simp only [Act.put, List.setIfInBounds_toArray, List.set_cons_zero, List.set_cons_succ, i64_w, i32_w]
            rfl
          refine pure_ (i := 2) (N := some 26) (v := ?_) (a' := ?_) #[true, true, true, false, false, false, false, false, false, false, false, false, false, false, false, false, false, false, false, false, false, false, false, false, false, false, false, false, false, false, false, false, false] rfl rfl (any_of HT_.out (by kernel_rfl)) (fun _ _ _ h => h) (Or.inl ⟨by rfl, ?_⟩) ?_ ?_
          rotate_left
          · intro w'
            go_simp
            with_reducible rfl
          rotate_left
          · simp only [Act.put, List.setIfInBounds_toArray, List.set_cons_zero, List.set_cons_succ, i64_w, i32_w]
            rfl
          refine pure_ (i := 3) (N := some 27) (v := ?_) (a' := ?_) #[true, true, true, true, false, false, false, false, false, false, false, false, false, false, false, false, false, false, false, false, false, false, false, false, false, false, false, false, false, false, false, false, false] rfl rfl (any_of HT_.out (by kernel_rfl)) (fun _ _ _ h => h) (Or.inl ⟨by rfl, ?_⟩) ?_ ?_
          rotate_left
          · intro w'
            go_simp
            with_reducible rfl
          rotate_left
          · simp only [Act.put, List.setIfInBounds_toArray, List.set_cons_zero, List.set_cons_succ, i64_w, i32_w]
            rfl
          refine pure_ (i := 5) (N := some 29) (v := ?_) (a' := ?_) #[true, true, true, true, false, true, false, false, false, false, false, false, false, false, false, false, false, false, false, false, false, false, false, false, false, false, false, false, false, false, false, false, false] rfl rfl (any_of HT_.out (by kernel_rfl)) (fun _ _ _ h => h) (Or.inl ⟨by rfl, ?_⟩) ?_ ?_
          rotate_left
          · intro w'
            go_simp
            with_reducible rfl
          rotate_left
          · simp only [Act.put, List.setIfInBounds_toArray, List.set_cons_zero, List.set_cons_succ, i64_w, i32_w]
            rfl
          refine take_ (i := 4) (N := some 28) (v := ?_) (a' := ?_) #[true, true, true, true, true, true, false, false, false, false, false, false, false, false, false, false, false, false, false, false, false, false, false, false, false, false, false, false, false, false, false, false, false] rfl rfl (take_ofW HT_.out HW_.out (by kernel_rfl)) (fun _ _ _ h => h) (Or.inl ⟨by rfl, ?_⟩) hHeld ?_ ?_
          rotate_left
          · rintro w' ⟨s0, s1, s2⟩
            go_simp
            with_reducible rfl
          rotate_left
          · simp only [Act.put, List.setIfInBounds_toArray, List.set_cons_zero, List.set_cons_succ, i64_w, i32_w]
            rfl
          refine pure_ (i := 6) (N := some 30) (v := ?_) (a' := ?_) #[true, true, true, true, true, true, true, false, false, false, false, false, false, false, false, false, false, false, false, false, false, false, false, false, false, false, false, false, false, false, false, false, false] rfl rfl (any_of HT_.out (by kernel_rfl)) (fun _ _ _ h => h) (Or.inl ⟨by rfl, ?_⟩) ?_ ?_
          rotate_left
          · intro w'
            go_simp
            with_reducible rfl
          rotate_left
          · simp only [Act.put, List.setIfInBounds_toArray, List.set_cons_zero, List.set_cons_succ, i64_w, i32_w]
            rfl
          refine pure_ (i := 7) (N := some 31) (v := ?_) (a' := ?_) #[true, true, true, true, true, true, true, true, false, false, false, false, false, false, false, false, false, false, false, false, false, false, false, false, false, false, false, false, false, false, false, false, false] rfl rfl (any_of HT_.out (by kernel_rfl)) (fun _ _ _ h => h) (Or.inl ⟨by rfl, ?_⟩) ?_ ?_
          rotate_left
          · intro w'
            go_simp
            with_reducible rfl
          rotate_left
          · simp only [Act.put, List.setIfInBounds_toArray, List.set_cons_zero, List.set_cons_succ, i64_w, i32_w]
            rfl
          refine take_ (i := 8) (N := some 32) (v := ?_) (a' := ?_) #[true, true, true, true, true, true, true, true, true, false, false, false, false, false, false, false, false, false, false, false, false, false, false, false, false, false, false, false, false, false, false, false, false] rfl rfl (take_ofW HT_.out HW_.out (by kernel_rfl)) (fun _ _ _ h => h) (Or.inl ⟨by rfl, ?_⟩) hHeld ?_ ?_
          rotate_left
          · rintro w' ⟨s0, s1, s2⟩
            go_simp
            with_reducible rfl
          rotate_left
          · simp only [Act.put, List.setIfInBounds_toArray, List.set_cons_zero, List.set_cons_succ, i64_w, i32_w]
            rfl
          refine pure_ (i := 9) (N := some 33) (v := ?_) (a' := ?_) #[true, true, true, true, true, true, true, true, true, true, false, false, false, false, false, false, false, false, false, false, false, false, false, false, false, false, false, false, false, false, false, false, false] rfl rfl (any_of HT_.out (by kernel_rfl)) (fun _ _ _ h => h) (Or.inl ⟨by rfl, ?_⟩) ?_ ?_
          rotate_left
          · intro w'
            go_simp
            with_reducible rfl
          rotate_left
          · simp only [Act.put, List.setIfInBounds_toArray, List.set_cons_zero, List.set_cons_succ, i64_w, i32_w]
            rfl
          refine pure_ (i := 10) (N := some 34) (v := ?_) (a' := ?_) #[true, true, true, true, true, true, true, true, true, true, true, false, false, false, false, false, false, false, false, false, false, false, false, false, false, false, false, false, false, false, false, false, false] rfl rfl (any_of HT_.out (by kernel_rfl)) (fun _ _ _ h => h) (Or.inl ⟨by rfl, ?_⟩) ?_ ?_
          rotate_left
          · intro w'
            go_simp
            with_reducible rfl
          rotate_left
          · simp only [Act.put, List.setIfInBounds_toArray, List.set_cons_zero, List.set_cons_succ, i64_w, i32_w]
            rfl
          refine pure_ (i := 11) (N := some 35) (v := ?_) (a' := ?_) #[true, true, true, true, true, true, true, true, true, true, true, true, false, false, false, false, false, false, false, false, false, false, false, false, false, false, false, false, false, false, false, false, false] rfl rfl (any_of HT_.out (by kernel_rfl)) (fun _ _ _ h => h) (Or.inl ⟨by rfl, ?_⟩) ?_ ?_
          rotate_left
          · intro w'
            go_simp
            with_reducible rfl
          rotate_left
          · simp only [Act.put, List.setIfInBounds_toArray, List.set_cons_zero, List.set_cons_succ, i64_w, i32_w]
            rfl
          refine pure_ (i := 12) (N := some 36) (v := ?_) (a' := ?_) #[true, true, true, true, true, true, true, true, true, true, true, true, true, false, false, false, false, false, false, false, false, false, false, false, false, false, false, false, false, false, false, false, false] rfl rfl (any_of HT_.out (by kernel_rfl)) (fun _ _ _ h => h) (Or.inl ⟨by rfl, ?_⟩) ?_ ?_
          rotate_left
          · intro w'
            go_simp
            with_reducible rfl
          rotate_left
          · simp only [Act.put, List.setIfInBounds_toArray, List.set_cons_zero, List.set_cons_succ, i64_w, i32_w]
            rfl
          refine pure_ (i := 13) (N := some 37) (v := ?_) (a' := ?_) #[true, true, true, true, true, true, true, true, true, true, true, true, true, true, false, false, false, false, false, false, false, false, false, false, false, false, false, false, false, false, false, false, false] rfl rfl (any_of HT_.out (by kernel_rfl)) (fun _ _ _ h => h) (Or.inl ⟨by rfl, ?_⟩) ?_ ?_
          rotate_left
          · intro w'
            go_simp
            with_reducible rfl
          rotate_left
          · simp only [Act.put, List.setIfInBounds_toArray, List.set_cons_zero, List.set_cons_succ, i64_w, i32_w]
            rfl
          refine pure_ (i := 14) (N := some 38) (v := ?_) (a' := ?_) #[true, true, true, true, true, true, true, true, true, true, true, true, true, true, true, false, false, false, false, false, false, false, false, false, false, false, false, false, false, false, false, false, false] rfl rfl (any_of HT_.out (by kernel_rfl)) (fun _ _ _ h => h) (Or.inl ⟨by rfl, ?_⟩) ?_ ?_
          rotate_left
          · intro w'
            go_simp
            with_reducible rfl
          rotate_left
          · simp only [Act.put, List.setIfInBounds_toArray, List.set_cons_zero, List.set_cons_succ, i64_w, i32_w]
            rfl
          refine pure_ (i := 16) (N := some 40) (v := ?_) (a' := ?_) #[true, true, true, true, true, true, true, true, true, true, true, true, true, true, true, false, true, false, false, false, false, false, false, false, false, false, false, false, false, false, false, false, false] rfl rfl (any_of HT_.out (by kernel_rfl)) (fun _ _ _ h => h) (Or.inl ⟨by rfl, ?_⟩) ?_ ?_
          rotate_left
          · intro w'
            go_simp
            with_reducible rfl
          rotate_left
          · simp only [Act.put, List.setIfInBounds_toArray, List.set_cons_zero, List.set_cons_succ, i64_w, i32_w]
            rfl
          refine pure_ (i := 21) (N := some 45) (v := ?_) (a' := ?_) #[true, true, true, true, true, true, true, true, true, true, true, true, true, true, true, false, true, false, false, false, false, true, false, false, false, false, false, false, false, false, false, false, false] rfl rfl (any_of HT_.out (by kernel_rfl)) (fun _ _ _ h => h) (Or.inl ⟨by rfl, ?_⟩) ?_ ?_
          rotate_left
          · intro w'
            go_simp
            with_reducible rfl
          rotate_left
          · simp only [Act.put, List.setIfInBounds_toArray, List.set_cons_zero, List.set_cons_succ, i64_w, i32_w]
            rfl
          refine pure_ (i := 22) (N := some 46) (v := ?_) (a' := ?_) #[true, true, true, true, true, true, true, true, true, true, true, true, true, true, true, false, true, false, false, false, false, true, true, false, false, false, false, false, false, false, false, false, false] rfl rfl (any_of HT_.out (by kernel_rfl)) (fun _ _ _ h => h) (Or.inl ⟨by rfl, ?_⟩) ?_ ?_
          rotate_left
          · intro w'
            go_simp
            with_reducible rfl
          rotate_left
          · simp only [Act.put, List.setIfInBounds_toArray, List.set_cons_zero, List.set_cons_succ, i64_w, i32_w]
            rfl
          refine pure_ (i := 23) (N := some 47) (v := ?_) (a' := ?_) #[true, true, true, true, true, true, true, true, true, true, true, true, true, true, true, false, true, false, false, false, false, true, true, true, false, false, false, false, false, false, false, false, false] rfl rfl (any_of HT_.out (by kernel_rfl)) (fun _ _ _ h => h) (Or.inl ⟨by rfl, ?_⟩) ?_ ?_
          rotate_left
          · intro w'
            go_simp
            with_reducible rfl
          rotate_left
          · simp only [Act.put, List.setIfInBounds_toArray, List.set_cons_zero, List.set_cons_succ, i64_w, i32_w]
            rfl
          refine pure_ (i := 25) (N := some 49) (v := ?_) (a' := ?_) #[true, true, true, true, true, true, true, true, true, true, true, true, true, true, true, false, true, false, false, false, false, true, true, true, false, true, false, false, false, false, false, false, false] rfl rfl (any_of HT_.out (by kernel_rfl)) (fun _ _ _ h => h) (Or.inl ⟨by rfl, ?_⟩) ?_ ?_
          rotate_left
          · intro w'
            go_simp
            with_reducible rfl
          rotate_left
          · simp only [Act.put, List.setIfInBounds_toArray, List.set_cons_zero, List.set_cons_succ, i64_w, i32_w]
            rfl
          refine take_ (i := 15) (N := some 39) (v := ?_) (a' := ?_) #[true, true, true, true, true, true, true, true, true, true, true, true, true, true, true, true, true, false, false, false, false, true, true, true, false, true, false, false, false, false, false, false, false] rfl rfl (take_ofW HT_.out HW_.out (by kernel_rfl)) (fun _ _ _ h => h) (Or.inl ⟨by rfl, ?_⟩) hHeld ?_ ?_
          rotate_left
          · rintro w' ⟨s0, s1, s2⟩
            go_simp
            with_reducible rfl
          rotate_left
          · simp only [Act.put, List.setIfInBounds_toArray, List.set_cons_zero, List.set_cons_succ, i64_w, i32_w]
            rfl
          refine pure_ (i := 17) (N := some 41) (v := ?_) (a' := ?_) #[true, true, true, true, true, true, true, true, true, true, true, true, true, true, true, true, true, true, false, false, false, true, true, true, false, true, false, false, false, false, false, false, false] rfl rfl (any_of HT_.out (by kernel_rfl)) (fun _ _ _ h => h) (Or.inl ⟨by rfl, ?_⟩) ?_ ?_
          rotate_left
          · intro w'
            go_simp
            with_reducible rfl
          rotate_left
          · simp only [Act.put, List.setIfInBounds_toArray, List.set_cons_zero, List.set_cons_succ, i64_w, i32_w]
            rfl
          refine pure_ (i := 18) (N := some 42) (v := ?_) (a' := ?_) #[true, true, true, true, true, true, true, true, true, true, true, true, true, true, true, true, true, true, true, false, false, true, true, true, false, true, false, false, false, false, false, false, false] rfl rfl (any_of HT_.out (by kernel_rfl)) (fun _ _ _ h => h) (Or.inl ⟨by rfl, ?_⟩) ?_ ?_
          rotate_left
          · intro w'
            go_simp
            with_reducible rfl
          rotate_left
          · simp only [Act.put, List.setIfInBounds_toArray, List.set_cons_zero, List.set_cons_succ, i64_w, i32_w]
            rfl
          refine take_ (i := 19) (N := some 43) (v := ?_) (a' := ?_) #[true, true, true, true, true, true, true, true, true, true, true, true, true, true, true, true, true, true, true, true, false, true, true, true, false, true, false, false, false, false, false, false, false] rfl rfl (take_ofW HT_.out HW_.out (by kernel_rfl)) (fun _ _ _ h => h) (Or.inl ⟨by rfl, ?_⟩) hHeld ?_ ?_
          rotate_left
          · rintro w' ⟨s0, s1, s2⟩
            go_simp
            with_reducible rfl
          rotate_left
          · simp only [Act.put, List.setIfInBounds_toArray, List.set_cons_zero, List.set_cons_succ, i64_w, i32_w]
            rfl
          refine pure_ (i := 20) (N := some 44) (v := ?_) (a' := ?_) #[true, true, true, true, true, true, true, true, true, true, true, true, true, true, true, true, true, true, true, true, true, true, true, true, false, true, false, false, false, false, false, false, false] rfl rfl (any_of HT_.out (by kernel_rfl)) (fun _ _ _ h => h) (Or.inl ⟨by rfl, ?_⟩) ?_ ?_
          rotate_left
          · intro w'
            go_simp
            with_reducible rfl
          rotate_left
          · simp only [Act.put, List.setIfInBounds_toArray, List.set_cons_zero, List.set_cons_succ, i64_w, i32_w]
            rfl
          refine take_ (i := 24) (N := some 48) (v := ?_) (a' := ?_) #[true, true, true, true, true, true, true, true, true, true, true, true, true, true, true, true, true, true, true, true, true, true, true, true, true, true, false, false, false, false, false, false, false] rfl rfl (take_ofW HT_.out HW_.out (by kernel_rfl)) (fun _ _ _ h => h) (Or.inl ⟨by rfl, ?_⟩) hHeld ?_ ?_
          rotate_left
          · rintro w' ⟨s0, s1, s2⟩
            go_simp
            with_reducible rfl
          rotate_left
          · simp only [Act.put, List.setIfInBounds_toArray, List.set_cons_zero, List.set_cons_succ, i64_w, i32_w]
            rfl
          refine pure_ (i := 26) (N := some 50) (v := ?_) (a' := ?_) #[true, true, true, true, true, true, true, true, true, true, true, true, true, true, true, true, true, true, true, true, true, true, true, true, true, true, true, false, false, false, false, false, false] rfl rfl (any_of HT_.out (by kernel_rfl)) (fun _ _ _ h => h) (Or.inl ⟨by rfl, ?_⟩) ?_ ?_
          rotate_left
          · intro w'
            go_simp
            with_reducible rfl
          rotate_left
          · simp only [Act.put, List.setIfInBounds_toArray, List.set_cons_zero, List.set_cons_succ, i64_w, i32_w]
            rfl
          refine pure_ (i := 27) (N := some 51) (v := ?_) (a' := ?_) #[true, true, true, true, true, true, true, true, true, true, true, true, true, true, true, true, true, true, true, true, true, true, true, true, true, true, true, true, false, false, false, false, false] rfl rfl (any_of HT_.out (by kernel_rfl)) (fun _ _ _ h => h) (Or.inl ⟨by rfl, ?_⟩) ?_ ?_
          rotate_left
          · intro w'
            go_simp
            with_reducible rfl
          rotate_left
          · simp only [Act.put, List.setIfInBounds_toArray, List.set_cons_zero, List.set_cons_succ, i64_w, i32_w]
            rfl
          refine take_ (i := 28) (N := some 52) (v := ?_) (a' := ?_) #[true, true, true, true, true, true, true, true, true, true, true, true, true, true, true, true, true, true, true, true, true, true, true, true, true, true, true, true, true, false, false, false, false] rfl rfl (take_ofW HT_.out HW_.out (by kernel_rfl)) (fun _ _ _ h => h) (Or.inl ⟨by rfl, ?_⟩) hHeld ?_ ?_
          rotate_left
          · rintro w' ⟨s0, s1, s2⟩
            go_simp
            with_reducible rfl
          rotate_left
          · simp only [Act.put, List.setIfInBounds_toArray, List.set_cons_zero, List.set_cons_succ, i64_w, i32_w]
            rfl
          refine pure_ (i := 29) (N := some 53) (v := ?_) (a' := ?_) #[true, true, true, true, true, true, true, true, true, true, true, true, true, true, true, true, true, true, true, true, true, true, true, true, true, true, true, true, true, true, false, false, false] rfl rfl (any_of HT_.out (by kernel_rfl)) (fun _ _ _ h => h) (Or.inl ⟨by rfl, ?_⟩) ?_ ?_
          rotate_left
          · intro w'
            go_simp
            with_reducible rfl
          rotate_left
          · simp only [Act.put, List.setIfInBounds_toArray, List.set_cons_zero, List.set_cons_succ, i64_w, i32_w]
            rfl
          refine pure_ (i := 30) (N := some 54) (v := ?_) (a' := ?_) #[true, true, true, true, true, true, true, true, true, true, true, true, true, true, true, true, true, true, true, true, true, true, true, true, true, true, true, true, true, true, true, false, false] rfl rfl (any_of HT_.out (by kernel_rfl)) (fun _ _ _ h => h) (Or.inl ⟨by rfl, ?_⟩) ?_ ?_
          rotate_left
          · intro w'
            go_simp
            with_reducible rfl
          rotate_left
          · simp only [Act.put, List.setIfInBounds_toArray, List.set_cons_zero, List.set_cons_succ, i64_w, i32_w]
            rfl
          refine pure_ (i := 31) (N := some 55) (v := ?_) (a' := ?_) #[true, true, true, true, true, true, true, true, true, true, true, true, true, true, true, true, true, true, true, true, true, true, true, true, true, true, true, true, true, true, true, true, false] rfl rfl (any_of HT_.out (by kernel_rfl)) (fun _ _ _ h => h) (Or.inl ⟨by rfl, ?_⟩) ?_ ?_
          rotate_left
          · intro w'
            go_simp
            with_reducible rfl
          rotate_left
          · simp only [Act.put, List.setIfInBounds_toArray, List.set_cons_zero, List.set_cons_succ, i64_w, i32_w]
            rfl
          refine pure_ (i := 32) (N := some 56) (v := ?_) (a' := ?_) #[true, true, true, true, true, true, true, true, true, true, true, true, true, true, true, true, true, true, true, true, true, true, true, true, true, true, true, true, true, true, true, true, true] rfl rfl (any_of HT_.out (by kernel_rfl)) (fun _ _ _ h => h) (Or.inl ⟨by rfl, ?_⟩) ?_ ?_
          rotate_left
          · intro w'
            go_simp
            with_reducible rfl
          rotate_left
          · simp only [Act.put, List.setIfInBounds_toArray, List.set_cons_zero, List.set_cons_succ, i64_w, i32_w]
            rfl
          refine done_ (done_of HT_.out (by kernel_rfl)) ?_
          go_wp2
          refine ⟨⟨i + 1, LT.out, by first | rfl | go_num, HI, ⟨below_drew1 HB.out⟩⟩, ?_⟩
          have := LT.out
          simp [intOf]
          omega
        case pos =>
          have hv2 : decide (d < e) = true := decide_eq_true hb2
          have HF := Aside0.mk (FS.out (by unfold inR; simp; omega))
          have HM := Aside0.mk (show m < o.f1.length ∧ m = nth l i a from ⟨by rw [hm0]; unfold nth; rw [← HO.out]; omega, hm0⟩)
          have hq : wrap64 (d.tdiv 8) = (m : Int) := by
            rw [hm0]
            unfold nth
            rw [← HO.out, Int.tdiv_eq_ediv_of_nonneg (by omega), wrap64_id (by omega) (by omega)]
            omega
          have hd3 := HD.out
          have he3 := HE.out
          clear he2 hd2 hm0 GI FS HN hb hb2
          go_wp2
          refine start_ (n := 33) (S := fun w' => w'.cell? ⟨pb, 0, none⟩ = some (.slice (some ad) l.length c) ∧ w'.cell? (ad.add (i * 3)) = some (.int .i64 o.f0) ∧ w'.cell? ⟨(ad.add (i * 3)).block, (ad.add (i * 3)).off + 1, none⟩ = some (.slice A1 o.f1.length c1)) (ds := []) #[false, false, false, false, false, false, false, false, false, false, false, false, false, false, false, false, false, false, false, false, false, false, false, false, false, false, false, false, false, false, false, false, false] (by kernel_rfl) rfl rfl ⟨k2, hx0, hx1⟩ (fun hHeld => ?_)
          refine with_tabW tb36.tab6 tb36.bits6 (fun HT_ HW_ => ?_)
          refine pure_ (i := 0) (N := some 24) (v := ?_) (a' := ?_) #[true, false, false, false, false, false, false, false, false, false, false, false, false, false, false, false, false, false, false, false, false, false, false, false, false, false, false, false, false, false, false, false, false] rfl rfl (any_of HT_.out (by kernel_rfl)) (fun _ _ _ h => h) (Or.inl ⟨by rfl, ?_⟩) ?_ ?_
          rotate_left
          · intro w'
            go_simp
            with_reducible rfl
          rotate_left
          · simp only [Act.put, List.setIfInBounds_toArray, List.set_cons_zero, List.set_cons_succ, i64_w, i32_w]
            rfl
          refine pure_ (i := 1) (N := some 25) (v := ?_) (a' := ?_) #[true, true, false, false, false, false, false, false, false, false, false, false, false, false, false, false, false, false, false, false, false, false, false, false, false, false, false, false, false, false, false, false, false] rfl rfl (any_of HT_.out (by kernel_rfl)) (fun _ _ _ h => h) (Or.inl ⟨by rfl, ?_⟩) ?_ ?_
          rotate_left
          · intro w'
            go_simp
            with_reducible rfl
          rotate_left
          · simp only [Act.put, List.setIfInBounds_toArray, List.set_cons_zero, List.set_cons_succ, i64_w, i32_w]
            rfl
          refine pure_ (i := 2) (N := some 26) (v := ?_) (a' := ?_) #[true, true, true, false, false, false, false, false, false, false, false, false, false, false, false, false, false, false, false, false, false, false, false, false, false, false, false, false, false, false, false, false, false] rfl rfl (any_of HT_.out (by kernel_rfl)) (fun _ _ _ h => h) (Or.inl ⟨by rfl, ?_⟩) ?_ ?_
          rotate_left
          · intro w'
            go_simp
            with_reducible rfl
          rotate_left
          · simp only [Act.put, List.setIfInBounds_toArray, List.set_cons_zero, List.set_cons_succ, i64_w, i32_w]
            rfl
          refine pure_ (i := 3) (N := some 27) (v := ?_) (a' := ?_) #[true, true, true, true, false, false, false, false, false, false, false, false, false, false, false, false, false, false, false, false, false, false, false, false, false, false, false, false, false, false, false, false, false] rfl rfl (any_of HT_.out (by kernel_rfl)) (fun _ _ _ h => h) (Or.inl ⟨by rfl, ?_⟩) ?_ ?_
          rotate_left
          · intro w'
            go_simp
            with_reducible rfl
          rotate_left
          · simp only [Act.put, List.setIfInBounds_toArray, List.set_cons_zero, List.set_cons_succ, i64_w, i32_w]
            rfl
          refine pure_ (i := 5) (N := some 29) (v := ?_) (a' := ?_) #[true, true, true, true, false, true, false, false, false, false, false, false, false, false, false, false, false, false, false, false, false, false, false, false, false, false, false, false, false, false, false, false, false] rfl rfl (any_of HT_.out (by kernel_rfl)) (fun _ _ _ h => h) (Or.inl ⟨by rfl, ?_⟩) ?_ ?_
          rotate_left
          · intro w'
            go_simp
            with_reducible rfl
          rotate_left
          · simp only [Act.put, List.setIfInBounds_toArray, List.set_cons_zero, List.set_cons_succ, i64_w, i32_w]
            rfl
          refine take_ (i := 4) (N := some 28) (v := ?_) (a' := ?_) #[true, true, true, true, true, true, false, false, false, false, false, false, false, false, false, false, false, false, false, false, false, false, false, false, false, false, false, false, false, false, false, false, false] rfl rfl (take_ofW HT_.out HW_.out (by kernel_rfl)) (fun _ _ _ h => h) (Or.inl ⟨by rfl, ?_⟩) hHeld ?_ ?_
          rotate_left
          · rintro w' ⟨s0, s1, s2⟩
            go_simp
            with_reducible rfl
          rotate_left
          · simp only [Act.put, List.setIfInBounds_toArray, List.set_cons_zero, List.set_cons_succ, i64_w, i32_w]
            rfl
          refine pure_ (i := 6) (N := some 30) (v := ?_) (a' := ?_) #[true, true, true, true, true, true, true, false, false, false, false, false, false, false, false, false, false, false, false, false, false, false, false, false, false, false, false, false, false, false, false, false, false] rfl rfl (any_of HT_.out (by kernel_rfl)) (fun _ _ _ h => h) (Or.inl ⟨by rfl, ?_⟩) ?_ ?_
          rotate_left
          · intro w'
            go_simp
            with_reducible rfl
          rotate_left
          · simp only [Act.put, List.setIfInBounds_toArray, List.set_cons_zero, List.set_cons_succ, i64_w, i32_w]
            rfl
          refine pure_ (i := 7) (N := some 31) (v := ?_) (a' := ?_) #[true, true, true, true, true, true, true, true, false, false, false, false, false, false, false, false, false, false, false, false, false, false, false, false, false, false, false, false, false, false, false, false, false] rfl rfl (any_of HT_.out (by kernel_rfl)) (fun _ _ _ h => h) (Or.inl ⟨by rfl, ?_⟩) ?_ ?_
          rotate_left
          · intro w'
            go_simp
            with_reducible rfl
          rotate_left
          · simp only [Act.put, List.setIfInBounds_toArray, List.set_cons_zero, List.set_cons_succ, i64_w, i32_w]
            rfl
          refine take_ (i := 8) (N := some 32) (v := ?_) (a' := ?_) #[true, true, true, true, true, true, true, true, true, false, false, false, false, false, false, false, false, false, false, false, false, false, false, false, false, false, false, false, false, false, false, false, false] rfl rfl (take_ofW HT_.out HW_.out (by kernel_rfl)) (fun _ _ _ h => h) (Or.inl ⟨by rfl, ?_⟩) hHeld ?_ ?_
          rotate_left
          · rintro w' ⟨s0, s1, s2⟩
            go_simp
            with_reducible rfl
          rotate_left
          · simp only [Act.put, List.setIfInBounds_toArray, List.set_cons_zero, List.set_cons_succ, i64_w, i32_w]
            rfl
          refine pure_ (i := 9) (N := some 33) (v := ?_) (a' := ?_) #[true, true, true, true, true, true, true, true, true, true, false, false, false, false, false, false, false, false, false, false, false, false, false, false, false, false, false, false, false, false, false, false, false] rfl rfl (any_of HT_.out (by kernel_rfl)) (fun _ _ _ h => h) (Or.inl ⟨by rfl, ?_⟩) ?_ ?_
          rotate_left
          · intro w'
            go_simp
            with_reducible rfl
          rotate_left
          · simp only [Act.put, List.setIfInBounds_toArray, List.set_cons_zero, List.set_cons_succ, i64_w, i32_w]
            rfl
          refine pure_ (i := 10) (N := some 34) (v := ?_) (a' := ?_) #[true, true, true, true, true, true, true, true, true, true, true, false, false, false, false, false, false, false, false, false, false, false, false, false, false, false, false, false, false, false, false, false, false] rfl rfl (any_of HT_.out (by kernel_rfl)) (fun _ _ _ h => h) (Or.inl ⟨by rfl, ?_⟩) ?_ ?_
          rotate_left
          · intro w'
            go_simp
            with_reducible rfl
          rotate_left
          · simp only [Act.put, List.setIfInBounds_toArray, List.set_cons_zero, List.set_cons_succ, i64_w, i32_w]
            rfl
          refine pure_ (i := 11) (N := some 35) (v := ?_) (a' := ?_) #[true, true, true, true, true, true, true, true, true, true, true, true, false, false, false, false, false, false, false, false, false, false, false, false, false, false, false, false, false, false, false, false, false] rfl rfl (any_of HT_.out (by kernel_rfl)) (fun _ _ _ h => h) (Or.inl ⟨by rfl, ?_⟩) ?_ ?_
          rotate_left
          · intro w'
            go_simp
            with_reducible rfl
          rotate_left
          · simp only [Act.put, List.setIfInBounds_toArray, List.set_cons_zero, List.set_cons_succ, i64_w, i32_w]
            rfl
          refine pure_ (i := 12) (N := some 36) (v := ?_) (a' := ?_) #[true, true, true, true, true, true, true, true, true, true, true, true, true, false, false, false, false, false, false, false, false, false, false, false, false, false, false, false, false, false, false, false, false] rfl rfl (any_of HT_.out (by kernel_rfl)) (fun _ _ _ h => h) (Or.inl ⟨by rfl, ?_⟩) ?_ ?_
          rotate_left
          · intro w'
            go_simp
            with_reducible rfl
          rotate_left
          · simp only [Act.put, List.setIfInBounds_toArray, List.set_cons_zero, List.set_cons_succ, i64_w, i32_w]
            rfl
          refine pure_ (i := 13) (N := some 37) (v := ?_) (a' := ?_) #[true, true, true, true, true, true, true, true, true, true, true, true, true, true, false, false, false, false, false, false, false, false, false, false, false, false, false, false, false, false, false, false, false] rfl rfl (any_of HT_.out (by kernel_rfl)) (fun _ _ _ h => h) (Or.inl ⟨by rfl, ?_⟩) ?_ ?_
          rotate_left
          · intro w'
            go_simp
            with_reducible rfl
          rotate_left
          · simp only [Act.put, List.setIfInBounds_toArray, List.set_cons_zero, List.set_cons_succ, i64_w, i32_w]
            rfl
          refine pure_ (i := 14) (N := some 38) (v := ?_) (a' := ?_) #[true, true, true, true, true, true, true, true, true, true, true, true, true, true, true, false, false, false, false, false, false, false, false, false, false, false, false, false, false, false, false, false, false] rfl rfl (any_of HT_.out (by kernel_rfl)) (fun _ _ _ h => h) (Or.inl ⟨by rfl, ?_⟩) ?_ ?_
          rotate_left
          · intro w'
            go_simp
            with_reducible rfl
          rotate_left
          · simp only [Act.put, List.setIfInBounds_toArray, List.set_cons_zero, List.set_cons_succ, i64_w, i32_w]
            rfl
          refine pure_ (i := 16) (N := some 40) (v := ?_) (a' := ?_) #[true, true, true, true, true, true, true, true, true, true, true, true, true, true, true, false, true, false, false, false, false, false, false, false, false, false, false, false, false, false, false, false, false] rfl rfl (any_of HT_.out (by kernel_rfl)) (fun _ _ _ h => h) (Or.inl ⟨by rfl, ?_⟩) ?_ ?_
          rotate_left
          · intro w'
            go_simp
            with_reducible rfl
          rotate_left
          · simp only [Act.put, List.setIfInBounds_toArray, List.set_cons_zero, List.set_cons_succ, i64_w, i32_w]
            rfl
          refine pure_ (i := 21) (N := some 45) (v := ?_) (a' := ?_) #[true, true, true, true, true, true, true, true, true, true, true, true, true, true, true, false, true, false, false, false, false, true, false, false, false, false, false, false, false, false, false, false, false] rfl rfl (any_of HT_.out (by kernel_rfl)) (fun _ _ _ h => h) (Or.inl ⟨by rfl, ?_⟩) ?_ ?_
          rotate_left
          · intro w'
            go_simp
            with_reducible rfl
          rotate_left
          · simp only [Act.put, List.setIfInBounds_toArray, List.set_cons_zero, List.set_cons_succ, i64_w, i32_w]
            rfl
          refine pure_ (i := 22) (N := some 46) (v := ?_) (a' := ?_) #[true, true, true, true, true, true, true, true, true, true, true, true, true, true, true, false, true, false, false, false, false, true, true, false, false, false, false, false, false, false, false, false, false] rfl rfl (any_of HT_.out (by kernel_rfl)) (fun _ _ _ h => h) (Or.inl ⟨by rfl, ?_⟩) ?_ ?_
          rotate_left
          · intro w'
            go_simp
            with_reducible rfl
          rotate_left
          · simp only [Act.put, List.setIfInBounds_toArray, List.set_cons_zero, List.set_cons_succ, i64_w, i32_w]
            rfl
          refine pure_ (i := 23) (N := some 47) (v := ?_) (a' := ?_) #[true, true, true, true, true, true, true, true, true, true, true, true, true, true, true, false, true, false, false, false, false, true, true, true, false, false, false, false, false, false, false, false, false] rfl rfl (any_of HT_.out (by kernel_rfl)) (fun _ _ _ h => h) (Or.inl ⟨by rfl, ?_⟩) ?_ ?_
          rotate_left
          · intro w'
            go_simp
            with_reducible rfl
          rotate_left
          · simp only [Act.put, List.setIfInBounds_toArray, List.set_cons_zero, List.set_cons_succ, i64_w, i32_w]
            rfl
          refine pure_ (i := 25) (N := some 49) (v := ?_) (a' := ?_) #[true, true, true, true, true, true, true, true, true, true, true, true, true, true, true, false, true, false, false, false, false, true, true, true, false, true, false, false, false, false, false, false, false] rfl rfl (any_of HT_.out (by kernel_rfl)) (fun _ _ _ h => h) (Or.inl ⟨by rfl, ?_⟩) ?_ ?_
          rotate_left
          · intro w'
            go_simp
            with_reducible rfl
          rotate_left
          · simp only [Act.put, List.setIfInBounds_toArray, List.set_cons_zero, List.set_cons_succ, i64_w, i32_w]
            rfl
          refine take_ (i := 15) (N := some 39) (v := ?_) (a' := ?_) #[true, true, true, true, true, true, true, true, true, true, true, true, true, true, true, true, true, false, false, false, false, true, true, true, false, true, false, false, false, false, false, false, false] rfl rfl (take_ofW HT_.out HW_.out (by kernel_rfl)) (fun _ _ _ h => h) (Or.inl ⟨by rfl, ?_⟩) hHeld ?_ ?_
          rotate_left
          · rintro w' ⟨s0, s1, s2⟩
            go_simp
            with_reducible rfl
          rotate_left
          · simp only [Act.put, List.setIfInBounds_toArray, List.set_cons_zero, List.set_cons_succ, i64_w, i32_w]
            rfl
          refine pure_ (i := 17) (N := some 41) (v := ?_) (a' := ?_) #[true, true, true, true, true, true, true, true, true, true, true, true, true, true, true, true, true, true, false, false, false, true, true, true, false, true, false, false, false, false, false, false, false] rfl rfl (any_of HT_.out (by kernel_rfl)) (fun _ _ _ h => h) (Or.inl ⟨by rfl, ?_⟩) ?_ ?_
          rotate_left
          · intro w'
            go_simp
            with_reducible rfl
          rotate_left
          · simp only [Act.put, List.setIfInBounds_toArray, List.set_cons_zero, List.set_cons_succ, i64_w, i32_w]
            rfl
          refine pure_ (i := 18) (N := some 42) (v := ?_) (a' := ?_) #[true, true, true, true, true, true, true, true, true, true, true, true, true, true, true, true, true, true, true, false, false, true, true, true, false, true, false, false, false, false, false, false, false] rfl rfl (any_of HT_.out (by kernel_rfl)) (fun _ _ _ h => h) (Or.inl ⟨by rfl, ?_⟩) ?_ ?_
          rotate_left
          · intro w'
            go_simp
            with_reducible rfl
          rotate_left
          · simp only [Act.put, List.setIfInBounds_toArray, List.set_cons_zero, List.set_cons_succ, i64_w, i32_w]
            rfl
          refine take_ (i := 19) (N := some 43) (v := ?_) (a' := ?_) #[true, true, true, true, true, true, true, true, true, true, true, true, true, true, true, true, true, true, true, true, false, true, true, true, false, true, false, false, false, false, false, false, false] rfl rfl (take_ofW HT_.out HW_.out (by kernel_rfl)) (fun _ _ _ h => h) (Or.inl ⟨by rfl, ?_⟩) hHeld ?_ ?_
          rotate_left
          · rintro w' ⟨s0, s1, s2⟩
            go_simp
            with_reducible rfl
          rotate_left
          · simp only [Act.put, List.setIfInBounds_toArray, List.set_cons_zero, List.set_cons_succ, i64_w, i32_w]
            rfl
          refine pure_ (i := 20) (N := some 44) (v := ?_) (a' := ?_) #[true, true, true, true, true, true, true, true, true, true, true, true, true, true, true, true, true, true, true, true, true, true, true, true, false, true, false, false, false, false, false, false, false] rfl rfl (any_of HT_.out (by kernel_rfl)) (fun _ _ _ h => h) (Or.inl ⟨by rfl, ?_⟩) ?_ ?_
          rotate_left
          · intro w'
            go_simp
            with_reducible rfl
          rotate_left
          · simp only [Act.put, List.setIfInBounds_toArray, List.set_cons_zero, List.set_cons_succ, i64_w, i32_w]
            rfl
          refine take_ (i := 24) (N := some 48) (v := ?_) (a' := ?_) #[true, true, true, true, true, true, true, true, true, true, true, true, true, true, true, true, true, true, true, true, true, true, true, true, true, true, false, false, false, false, false, false, false] rfl rfl (take_ofW HT_.out HW_.out (by kernel_rfl)) (fun _ _ _ h => h) (Or.inl ⟨by rfl, ?_⟩) hHeld ?_ ?_
          rotate_left
          · rintro w' ⟨s0, s1, s2⟩
            go_simp
            with_reducible rfl
          rotate_left
          · simp only [Act.put, List.setIfInBounds_toArray, List.set_cons_zero, List.set_cons_succ, i64_w, i32_w]
            rfl
          refine pure_ (i := 26) (N := some 50) (v := ?_) (a' := ?_) #[true, true, true, true, true, true, true, true, true, true, true, true, true, true, true, true, true, true, true, true, true, true, true, true, true, true, true, false, false, false, false, false, false] rfl rfl (any_of HT_.out (by kernel_rfl)) (fun _ _ _ h => h) (Or.inl ⟨by rfl, ?_⟩) ?_ ?_
          rotate_left
          · intro w'
            go_simp
            with_reducible rfl
          rotate_left
          · simp only [Act.put, List.setIfInBounds_toArray, List.set_cons_zero, List.set_cons_succ, i64_w, i32_w]
            rfl
          refine pure_ (i := 27) (N := some 51) (v := ?_) (a' := ?_) #[true, true, true, true, true, true, true, true, true, true, true, true, true, true, true, true, true, true, true, true, true, true, true, true, true, true, true, true, false, false, false, false, false] rfl rfl (any_of HT_.out (by kernel_rfl)) (fun _ _ _ h => h) (Or.inl ⟨by rfl, ?_⟩) ?_ ?_
          rotate_left
          · intro w'
            go_simp
            with_reducible rfl
          rotate_left
          · simp only [Act.put, List.setIfInBounds_toArray, List.set_cons_zero, List.set_cons_succ, i64_w, i32_w]
            rfl
          refine take_ (i := 28) (N := some 52) (v := ?_) (a' := ?_) #[true, true, true, true, true, true, true, true, true, true, true, true, true, true, true, true, true, true, true, true, true, true, true, true, true, true, true, true, true, false, false, false, false] rfl rfl (take_ofW HT_.out HW_.out (by kernel_rfl)) (fun _ _ _ h => h) (Or.inl ⟨by rfl, ?_⟩) hHeld ?_ ?_
          rotate_left
          · rintro w' ⟨s0, s1, s2⟩
            go_simp
            with_reducible rfl
          rotate_left
          · simp only [Act.put, List.setIfInBounds_toArray, List.set_cons_zero, List.set_cons_succ, i64_w, i32_w]
            rfl
          refine pure_ (i := 29) (N := some 53) (v := ?_) (a' := ?_) #[true, true, true, true, true, true, true, true, true, true, true, true, true, true, true, true, true, true, true, true, true, true, true, true, true, true, true, true, true, true, false, false, false] rfl rfl (any_of HT_.out (by kernel_rfl)) (fun _ _ _ h => h) (Or.inl ⟨by rfl, ?_⟩) ?_ ?_
          rotate_left
          · intro w'
            go_simp
            with_reducible rfl
          rotate_left
          · simp only [Act.put, List.setIfInBounds_toArray, List.set_cons_zero, List.set_cons_succ, i64_w, i32_w]
            rfl
          refine pure_ (i := 30) (N := some 54) (v := ?_) (a' := ?_) #[true, true, true, true, true, true, true, true, true, true, true, true, true, true, true, true, true, true, true, true, true, true, true, true, true, true, true, true, true, true, true, false, false] rfl rfl (any_of HT_.out (by kernel_rfl)) (fun _ _ _ h => h) (Or.inl ⟨by rfl, ?_⟩) ?_ ?_
          rotate_left
          · intro w'
            go_simp
            with_reducible rfl
          rotate_left
          · simp only [Act.put, List.setIfInBounds_toArray, List.set_cons_zero, List.set_cons_succ, i64_w, i32_w]
            rfl
          refine pure_ (i := 31) (N := some 55) (v := ?_) (a' := ?_) #[true, true, true, true, true, true, true, true, true, true, true, true, true, true, true, true, true, true, true, true, true, true, true, true, true, true, true, true, true, true, true, true, false] rfl rfl (any_of HT_.out (by kernel_rfl)) (fun _ _ _ h => h) (Or.inl ⟨by rfl, ?_⟩) ?_ ?_
          rotate_left
          · intro w'
            go_simp
            with_reducible rfl
          rotate_left
          · simp only [Act.put, List.setIfInBounds_toArray, List.set_cons_zero, List.set_cons_succ, i64_w, i32_w]
            rfl
          refine pure_ (i := 32) (N := some 56) (v := ?_) (a' := ?_) #[true, true, true, true, true, true, true, true, true, true, true, true, true, true, true, true, true, true, true, true, true, true, true, true, true, true, true, true, true, true, true, true, true] rfl rfl (any_of HT_.out (by kernel_rfl)) (fun _ _ _ h => h) (Or.inl ⟨by rfl, ?_⟩) ?_ ?_
          rotate_left
          · intro w'
            go_simp
            with_reducible rfl
          rotate_left
          · simp only [Act.put, List.setIfInBounds_toArray, List.set_cons_zero, List.set_cons_succ, i64_w, i32_w]
            rfl
          refine done_ (done_of HT_.out (by kernel_rfl)) ?_
          go_wp2
          refine start_ (n := 15) (S := fun w' => w'.cell? ⟨pb, 0, none⟩ = some (.slice (some ad) l.length c) ∧ w'.cell? (ad.add (i * 3)) = some (.int .i64 o.f0)) (ds := []) #[false, false, false, false, false, false, false, false, false, false, false, false, false, false, false] (by kernel_rfl) rfl rfl ⟨k2, hx0⟩ (fun hHeld => ?_)
          refine with_tabW tb36.tab7 tb36.bits7 (fun HT_ HW_ => ?_)
          refine pure_ (i := 0) (N := some 57) (v := ?_) (a' := ?_) #[true, false, false, false, false, false, false, false, false, false, false, false, false, false, false] rfl rfl (any_of HT_.out (by kernel_rfl)) (fun _ _ _ h => h) (Or.inl ⟨by rfl, ?_⟩) ?_ ?_
          rotate_left
          · intro w'
            go_simp
            with_reducible rfl
          rotate_left
          · simp only [Act.put, List.setIfInBounds_toArray, List.set_cons_zero, List.set_cons_succ, i64_w, i32_w]
            rfl
          refine pure_ (i := 1) (N := some 58) (v := ?_) (a' := ?_) #[true, true, false, false, false, false, false, false, false, false, false, false, false, false, false] rfl rfl (any_of HT_.out (by kernel_rfl)) (fun _ _ _ h => h) (Or.inl ⟨by rfl, ?_⟩) ?_ ?_
          rotate_left
          · intro w'
            go_simp
            with_reducible rfl
          rotate_left
          · simp only [Act.put, List.setIfInBounds_toArray, List.set_cons_zero, List.set_cons_succ, i64_w, i32_w]
            rfl
          refine pure_ (i := 2) (N := some 59) (v := ?_) (a' := ?_) #[true, true, true, false, false, false, false, false, false, false, false, false, false, false, false] rfl rfl (any_of HT_.out (by kernel_rfl)) (fun _ _ _ h => h) (Or.inl ⟨by rfl, ?_⟩) ?_ ?_
          rotate_left
          · intro w'
            go_simp
            with_reducible rfl
          rotate_left
          · simp only [Act.put, List.setIfInBounds_toArray, List.set_cons_zero, List.set_cons_succ, i64_w, i32_w]
            rfl
          refine pure_ (i := 3) (N := some 60) (v := ?_) (a' := ?_) #[true, true, true, true, false, false, false, false, false, false, false, false, false, false, false] rfl rfl (any_of HT_.out (by kernel_rfl)) (fun _ _ _ h => h) (Or.inl ⟨by rfl, ?_⟩) ?_ ?_
          rotate_left
          · intro w'
            go_simp
            with_reducible rfl
          rotate_left
          · simp only [Act.put, List.setIfInBounds_toArray, List.set_cons_zero, List.set_cons_succ, i64_w, i32_w]
            rfl
          refine pure_ (i := 4) (N := some 61) (v := ?_) (a' := ?_) #[true, true, true, true, true, false, false, false, false, false, false, false, false, false, false] rfl rfl (any_of HT_.out (by kernel_rfl)) (fun _ _ _ h => h) (Or.inl ⟨by rfl, ?_⟩) ?_ ?_
          rotate_left
          · intro w'
            go_simp
            with_reducible rfl
          rotate_left
          · simp only [Act.put, List.setIfInBounds_toArray, List.set_cons_zero, List.set_cons_succ, i64_w, i32_w]
            rfl
          refine pure_ (i := 6) (N := some 63) (v := ?_) (a' := ?_) #[true, true, true, true, true, false, true, false, false, false, false, false, false, false, false] rfl rfl (any_of HT_.out (by kernel_rfl)) (fun _ _ _ h => h) (Or.inl ⟨by rfl, ?_⟩) ?_ ?_
          rotate_left
          · intro w'
            go_simp
            with_reducible rfl
          rotate_left
          · simp only [Act.put, List.setIfInBounds_toArray, List.set_cons_zero, List.set_cons_succ, i64_w, i32_w]
            rfl
          refine pure_ (i := 12) (N := some 4) (v := ?_) (a' := ?_) #[true, true, true, true, true, false, true, false, false, false, false, false, true, false, false] rfl rfl (any_of HT_.out (by kernel_rfl)) (fun _ _ _ h => h) (Or.inl ⟨by rfl, ?_⟩) ?_ ?_
          rotate_left
          · intro w'
            go_simp
            with_reducible rfl
          rotate_left
          · simp only [Act.put, List.setIfInBounds_toArray, List.set_cons_zero, List.set_cons_succ, i64_w, i32_w]
            rfl
          refine take_ (i := 5) (N := some 62) (v := ?_) (a' := ?_) #[true, true, true, true, true, true, true, false, false, false, false, false, true, false, false] rfl rfl (take_ofW HT_.out HW_.out (by kernel_rfl)) (fun _ _ _ h => h) (Or.inl ⟨by rfl, ?_⟩) hHeld ?_ ?_
          rotate_left
          · rintro w' ⟨s0, s1⟩
            go_simp
            with_reducible rfl
          rotate_left
          · simp only [Act.put, List.setIfInBounds_toArray, List.set_cons_zero, List.set_cons_succ, i64_w, i32_w]
            rfl
          refine pure_ (i := 7) (N := some 64) (v := ?_) (a' := ?_) #[true, true, true, true, true, true, true, true, false, false, false, false, true, false, false] rfl rfl (any_of HT_.out (by kernel_rfl)) (fun _ _ _ h => h) (Or.inl ⟨by rfl, ?_⟩) ?_ ?_
          rotate_left
          · intro w'
            go_simp
            with_reducible rfl
          rotate_left
          · simp only [Act.put, List.setIfInBounds_toArray, List.set_cons_zero, List.set_cons_succ, i64_w, i32_w]
            rfl
          refine pure_ (i := 8) (N := some 65) (v := ?_) (a' := ?_) #[true, true, true, true, true, true, true, true, true, false, false, false, true, false, false] rfl rfl (any_of HT_.out (by kernel_rfl)) (fun _ _ _ h => h) (Or.inl ⟨by rfl, ?_⟩) ?_ ?_
          rotate_left
          · intro w'
            go_simp
            with_reducible rfl
          rotate_left
          · simp only [Act.put, List.setIfInBounds_toArray, List.set_cons_zero, List.set_cons_succ, i64_w, i32_w]
            rfl
          refine take_ (i := 9) (N := some 66) (v := ?_) (a' := ?_) #[true, true, true, true, true, true, true, true, true, true, false, false, true, false, false] rfl rfl (take_ofW HT_.out HW_.out (by kernel_rfl)) (fun _ _ _ h => h) (Or.inl ⟨by rfl, ?_⟩) hHeld ?_ ?_
          rotate_left
          · rintro w' ⟨s0, s1⟩
            go_simp
            with_reducible rfl
          rotate_left
          · simp only [Act.put, List.setIfInBounds_toArray, List.set_cons_zero, List.set_cons_succ, i64_w, i32_w]
            rfl
          refine pure_ (i := 10) (N := some 67) (v := ?_) (a' := ?_) #[true, true, true, true, true, true, true, true, true, true, true, false, true, false, false] rfl rfl (any_of HT_.out (by kernel_rfl)) (fun _ _ _ h => h) (Or.inl ⟨by rfl, ?_⟩) ?_ ?_
          rotate_left
          · intro w'
            go_simp
            with_reducible rfl
          rotate_left
          · simp only [Act.put, List.setIfInBounds_toArray, List.set_cons_zero, List.set_cons_succ, i64_w, i32_w]
            rfl
          refine pure_ (i := 11) (N := some 68) (v := ?_) (a' := ?_) #[true, true, true, true, true, true, true, true, true, true, true, true, true, false, false] rfl rfl (any_of HT_.out (by kernel_rfl)) (fun _ _ _ h => h) (Or.inl ⟨by rfl, ?_⟩) ?_ ?_
          rotate_left
          · intro w'
            go_simp
            with_reducible rfl
          rotate_left
          · simp only [Act.put, List.setIfInBounds_toArray, List.set_cons_zero, List.set_cons_succ, i64_w, i32_w]
            rfl
          refine pure_ (i := 13) (N := some 5) (v := ?_) (a' := ?_) #[true, true, true, true, true, true, true, true, true, true, true, true, true, true, false] rfl rfl (any_of HT_.out (by kernel_rfl)) (fun _ _ _ h => h) (Or.inl ⟨by rfl, ?_⟩) ?_ ?_
          rotate_left
          · intro w'
            go_simp
            with_reducible rfl
          rotate_left
          · simp only [Act.put, List.setIfInBounds_toArray, List.set_cons_zero, List.set_cons_succ, i64_w, i32_w]
            rfl
          refine pure_ (i := 14) (N := some 6) (v := ?_) (a' := ?_) #[true, true, true, true, true, true, true, true, true, true, true, true, true, true, true] rfl rfl (any_of HT_.out (by kernel_rfl)) (fun _ _ _ h => h) (Or.inl ⟨by rfl, ?_⟩) ?_ ?_
          rotate_left
          · intro w'
            go_simp
            with_reducible rfl
          rotate_left
          · simp only [Act.put, List.setIfInBounds_toArray, List.set_cons_zero, List.set_cons_succ, i64_w, i32_w]
            rfl
          refine done_ (done_of HT_.out (by kernel_rfl)) ?_
          go_wp2
          go_ret3
          refine ⟨.inr ⟨i, HF.out, LT.out, ?_, ?_⟩, below_drew1 (below_drew1 HB.out)⟩
          · rw [← HM.out.2, ← HO.out]
            exact HM.out.1
          · rw [← HM.out.2]
            rfl
    case neg =>
      obtain rfl : i = l.length := by omega
      go_wp2
      go_ret3
      exact ⟨.inl ⟨find_none (fun j hj => HA.out j hj hj), rfl⟩, HB.out⟩
end Go.Proofs.Ytkanhnhagjopkaa.M

