/-
  Texts of the proofs of LinkLinks, cut to what the proofs reach and packed by a program of this session (wip/packs.py). Each part begins with what it says; conditions: those told there.
-/
import Derived.Test.YteaealmnmmcbpaaPJA4
/-
  Layer 7: an object laid behind all others (lay): the walk. Conditions: those told at each.
-/
namespace Go.Proofs.Yteaealmnmmcbpaa.M
open Go.RowKit Go.Proofs.YteaealmnmmcbpaaW.PrintWords Go.Proofs.YteaealmnmmcbpaaW.PrintLast Go.Proofs.Yteaealmnmmcbpaa.Num Go.Proofs.Yteaealmnmmcbpaa.Seven
set_option linter.unusedVariables false
set_option linter.unusedSimpArgs false
/-- What lay has done. -/
def Laid (w W w' : World) (b mb : Nat) (e : Ending) (res : Option LkS) : Prop := Below w.heap.size w w' ∧ KeepQ W w' ∧ match res with | none => e = .returned (.bool false) | some y => e = .returned (.bool true) ∧ ∃ vc' v1' v2', Lk w w' w'.heap.size b mb y vc' v1' v2' y.syms
def SymSmall (s : S36) : Prop := s.f0.size ≤ 28 ∧ 0 ≤ s.f2 ∧ s.f2 < 65536
def LkSmall (x : LkS) : Prop := 0 ≤ x.nc ∧ x.nc ≤ 1048576 ∧ 0 ≤ x.nd ∧ x.nd ≤ 1048576 ∧ 0 ≤ x.th ∧ x.th ≤ 1048576 ∧ x.syms.length ≤ 100000 ∧ x.code.length ≤ 1048576 ∧ x.data.length ≤ 1048576
theorem rd_SS {l : List S36} {i : Nat} (h : i < l.length) : rd_T36 l (i : Int) = l[i] := by simp [rd_T36, List.getD_eq_getElem?_getD, List.getElem?_eq_getElem h]
def layStep (y : LkS) (s : S36) : LkS := { y with syms := y.syms ++ [layOne y s], th := if s.f1 = 3 then y.th + 1 else y.th }
theorem laySyms_step {y : LkS} {s : S36} {ss : List S36} (h : (y.syms.any fun x => decide (x.f0 = s.f0)) = false) : laySyms y (s :: ss) = laySyms (layStep y s) ss := by
  simp only [laySyms]
  rw [if_neg (by rw [h]; simp)]
  rfl
theorem lay_two {y : LkS} {s0 : ByteArray} {s2 : Int} : layStep y ⟨s0, 2, s2⟩ = { y with syms := y.syms ++ [⟨s0, 2, s2 + y.nd⟩] } := by simp [layStep, layOne]
theorem lay_three {y : LkS} {s0 : ByteArray} {s2 : Int} : layStep y ⟨s0, 3, s2⟩ = { y with th := y.th + 1, syms := y.syms ++ [⟨s0, 3, s2 + y.nc⟩] } := by simp [layStep, layOne]
theorem lay_else {y : LkS} {s0 : ByteArray} {s1 s2 : Int} (h2 : ¬ s1 = 2) (h3 : ¬ s1 = 3) : layStep y ⟨s0, s1, s2⟩ = { y with syms := y.syms ++ [⟨s0, s1, s2 + y.nc⟩] } := by simp [layStep, layOne, h2, h3]
/-- The end of a round, for any relation. -/
theorem round_end {j n : Nat} {R' : Value → Prop} (hj : j < n) (hs : j < 9000000000000000000) (h : R' (.int .i64 ((j + 1 : Nat) : Int))) : R' (.int .i64 (wrap64 ((j : Int) + 1))) ∧ n - (intOf (.int .i64 (wrap64 ((j : Int) + 1)))).toNat < n - (intOf (.int .i64 (j : Int))).toNat := by
  have e1 : wrap64 ((j : Int) + 1) = ((j + 1 : Nat) : Int) := by rw [wrap64_id (by omega) (by omega)]; omega
  rw [e1]
  clear e1
  exact ⟨h, by simp [intOf]; omega⟩
set_option maxHeartbeats 8000000 in
set_option maxRecDepth 100000 in
theorem lay_c {w W : World} {B b mb : Nat} {x : LkS} {vc v1 v2 : Value} (H : Lk w W B b mb x vc v1 v2 x.syms) (o : S40) {A1 A2 A3 : Option Addr} {c1 c2 c3 : Nat} (h1 : Kd.C (Kd.int .i64) w A1 o.f1.length o.f1) (h2 : Kd.C k36 w A2 o.f2.length o.f2)
    (hs : ∀ s ∈ o.f2, SymSmall s) (hx : LkSmall x) (z1 : o.f2.length ≤ 1000) (z2 : o.f0.size ≤ 65536) (z3 : o.f1.length ≤ 4096) (hlc : o.f1.length ≤ c1) :
    Calls Try.prog 21 #[.pointer (some ⟨b, 0, none⟩), .agg #[.string o.f0, .slice A1 o.f1.length c1, .slice A2 o.f2.length c2, .slice A3 o.f3.length c3]] W fun e w' => Laid w W w' b mb e (layO x o) := by
  obtain ⟨Ac, cc, rfl, hcc, -⟩ := Kd.R_reads H.rc
  obtain ⟨Ad, cd, rfl, hcd, -⟩ := Kd.R_reads H.r1
  obtain ⟨res, hres⟩ : ∃ res, res = layO x o := ⟨_, rfl⟩
  rw [← hres]
  have HRES := Aside0.mk hres
  have H1 := Aside0.mk h1
  have H2 := Aside0.mk h2
  have HSY := Aside0.mk hs
  have HX := Aside0.mk hx
  have Z := Aside0.mk (show o.f2.length ≤ 1000 ∧ o.f0.size ≤ 65536 ∧ o.f1.length ≤ 4096 from ⟨z1, z2, z3⟩)
  have HL0 := Aside0.mk ((H.alloc (.cells #[.string o.f0, .slice A1 o.f1.length c1, .slice A2 o.f2.length c2, .slice A3 o.f3.length c3] 40)).up (B' := (W.alloc (.cells #[.string o.f0, .slice A1 o.f1.length c1, .slice A2 o.f2.length c2, .slice A3 o.f3.length c3] 40)).heap.size) (H.alloc (.cells #[.string o.f0, .slice A1 o.f1.length c1, .slice A2 o.f2.length c2, .slice A3 o.f3.length c3] 40)).lt (Nat.le_refl _))
  have BO0 := Aside0.mk (blk_new W (.cells #[.string o.f0, .slice A1 o.f1.length c1, .slice A2 o.f2.length c2, .slice A3 o.f3.length c3] 40))
  have KQ0 := Aside0.mk (KeepQ.alloc (w := W) (.cells #[.string o.f0, .slice A1 o.f1.length c1, .slice A2 o.f2.length c2, .slice A3 o.f3.length c3] 40))
  clear h1 h2 hs hx z1 z2 z3 H hres
  go_enter Try.func21, Try.ntmps21
  go_wp2
  generalize W.alloc (.cells #[.string o.f0, .slice A1 o.f1.length c1, .slice A2 o.f2.length c2, .slice A3 o.f3.length c3] 40) = W1 at *
  generalize W.heap.size = g0 at *
  go_loopw [12] (fun v12 wr => ∃ (j : Nat) (y : LkS) (v2' : Value), j ≤ o.f2.length ∧ v12 = .int .i64 j ∧ Aside0 (Lk w wr wr.heap.size b mb y (.slice Ac x.code.length cc) (.slice Ad x.data.length cd) v2' y.syms) ∧ Aside0 (KeepQ W1 wr) ∧ Aside0 (laySyms x o.f2 = laySyms y (o.f2.drop j)) ∧ Aside0 (y.nc = x.nc ∧ y.nd = x.nd ∧ y.code = x.code ∧ y.data = x.data ∧ 0 ≤ y.th ∧ y.th ≤ x.th + j ∧ y.syms.length = x.syms.length + j)) (fun v12 _ => o.f2.length - (intOf v12).toNat)
  case atStart => exact ⟨0, x, v2, Nat.zero_le _, rfl, HL0, ⟨KeepQ.refl _⟩, ⟨rfl⟩, ⟨rfl, rfl, rfl, rfl, by have := HX.out; unfold LkSmall at this; omega, by omega, by omega⟩⟩
  case round =>
    clear HL0
    obtain ⟨j, y, v2', hj, rfl, HL, KQ, HF, HY⟩ := hrel
    obtain ⟨Ay, cy, rfl, hcy, -⟩ := Kd.R_reads HL.out.r2
    have hlt0 := HL.out.lt
    by_cases hlt : j < o.f2.length
    case pos =>
      obtain ⟨ad, rfl, hy0, hy1, hy2⟩ := at_T36 (Kd.C_below H2.out HL.out.below) (j : Int) (by omega) (by omega)
      have SM := Aside0.mk (HSY.out _ (List.getElem_mem hlt))
      have FS := Aside0.mk (HF.out.trans (congrArg (laySyms y) (List.drop_eq_getElem_cons hlt)))
      rw [rd_SS hlt] at hy0 hy1 hy2
      simp only [Int.toNat_natCast] at hy0 hy1 hy2
      generalize o.f2[j] = s at *
      obtain ⟨s0, s1, s2⟩ := s
      dsimp only at hy0 hy1 hy2
      have hjl : (j : Int) < (o.f2.length : Int) := by omega
      obtain ⟨n, D, hm, hf, hln⟩ := HL.out.mp
      have LO := Aside0.mk (fun (W' : World) (h : W'.ownsMap (H := Unit) Try.prog 9 RSym mb n D) => (map_look h hf s0 (by have := SM.out.1; simp only [maxLen]; simp only at this; omega)).1)
      have HM := Aside0.mk (hm.alloc (.cells #[.string s0, .int .i64 s1, .int .i64 s2] 36))
      have BO := Aside0.mk (blk_alloc HL.out.obj (.cells #[.string s0, .int .i64 s1, .int .i64 s2] 36))
      have BS := Aside0.mk (blk_new wr (.cells #[.string s0, .int .i64 s1, .int .i64 s2] 36))
      have hu := Try.underlying54
      generalize hsv : ((y.syms.find? fun s => decide (s.f0 = s0)).getD z36) = sv at LO
      obtain ⟨q0, q1, q2⟩ := sv
      simp only [symV] at LO
      obtain ⟨fb, hfb⟩ : ∃ fb, fb = (y.syms.any fun s => decide (s.f0 = s0)) := ⟨_, rfl⟩
      rw [← hfb] at LO
      have FB := Aside0.mk hfb
      clear HF hm hf hln hfb hsv
      go_wp2
      refine start_ (n := 13) (S := fun w' => w'.cell? ⟨b, 6, none⟩ = some (.map (some mb)) ∧ w'.cell? ⟨wr.heap.size, 0, none⟩ = some (.string s0) ∧ (Instr.lookup 54 (.map (some mb)) (.string s0) true).run Try.prog w' = .ok (.tuple #[.agg #[.string q0, .int .i64 q1, .int .i64 q2], .bool fb]) w') (ds := [11]) #[false, false, false, false, false, false, false, false, false, false, false, false, false] (by kernel_rfl) rfl rfl ⟨(blk_cell (blk_drew BO.out) 6).trans rfl, (blk_cell (blk_drew BS.out) 0).trans rfl, LO.out _ (HM.out.drew)⟩ (fun hHeld => ?_)
      refine pure_ (i := 0) (N := some 17) (v := ?_) (a' := ?_) #[true, false, false, false, false, false, false, false, false, false, false, false, false] rfl rfl (by kernel_rfl) (fun _ _ _ h => h) (Or.inl ⟨by rfl, ?_⟩) ?_ ?_
      rotate_left
      · intro w'
        go_simp
        with_reducible rfl
      rotate_left
      · simp only [Act.put, List.setIfInBounds_toArray, List.set_cons_zero, List.set_cons_succ, i64_w, i32_w]
        rfl
      refine pure_ (i := 1) (N := some 18) (v := ?_) (a' := ?_) #[true, true, false, false, false, false, false, false, false, false, false, false, false] rfl rfl (by kernel_rfl) (fun _ _ _ h => h) (Or.inl ⟨by rfl, ?_⟩) ?_ ?_
      rotate_left
      · intro w'
        go_simp
        with_reducible rfl
      rotate_left
      · simp only [Act.put, List.setIfInBounds_toArray, List.set_cons_zero, List.set_cons_succ, i64_w, i32_w]
        rfl
      refine pure_ (i := 2) (N := some 19) (v := ?_) (a' := ?_) #[true, true, true, false, false, false, false, false, false, false, false, false, false] rfl rfl (by kernel_rfl) (fun _ _ _ h => h) (Or.inl ⟨by rfl, ?_⟩) ?_ ?_
      rotate_left
      · intro w'
        go_simp
        with_reducible rfl
      rotate_left
      · simp only [Act.put, List.setIfInBounds_toArray, List.set_cons_zero, List.set_cons_succ, i64_w, i32_w]
        rfl
      refine pure_ (i := 4) (N := some 21) (v := ?_) (a' := ?_) #[true, true, true, false, true, false, false, false, false, false, false, false, false] rfl rfl (by kernel_rfl) (fun _ _ _ h => h) (Or.inl ⟨by rfl, ?_⟩) ?_ ?_
      rotate_left
      · intro w'
        go_simp
        with_reducible rfl
      rotate_left
      · simp only [Act.put, List.setIfInBounds_toArray, List.set_cons_zero, List.set_cons_succ, i64_w, i32_w]
        rfl
      refine take_ (i := 3) (N := some 20) (v := ?_) (a' := ?_) #[true, true, true, true, true, false, false, false, false, false, false, false, false] rfl rfl (by kernel_rfl) (fun _ _ _ h => h) (Or.inl ⟨by rfl, ?_⟩) hHeld ?_ ?_
      rotate_left
      · rintro w' ⟨s0, s1, s2⟩
        go_simp
        with_reducible rfl
      rotate_left
      · simp only [Act.put, List.setIfInBounds_toArray, List.set_cons_zero, List.set_cons_succ, i64_w, i32_w]
        rfl
      refine take_ (i := 5) (N := some 22) (v := ?_) (a' := ?_) #[true, true, true, true, true, true, false, false, false, false, false, false, false] rfl rfl (by kernel_rfl) (fun _ _ _ h => h) (Or.inl ⟨by rfl, ?_⟩) hHeld ?_ ?_
      rotate_left
      · rintro w' ⟨s0, s1, s2⟩
        go_simp
        with_reducible rfl
      rotate_left
      · simp only [Act.put, List.setIfInBounds_toArray, List.set_cons_zero, List.set_cons_succ, i64_w, i32_w]
        rfl
      refine take_ (i := 6) (N := some 23) (v := ?_) (a' := ?_) #[true, true, true, true, true, true, true, false, false, false, false, false, false] rfl rfl (by kernel_rfl) (fun _ _ _ h => h) (Or.inl ⟨by rfl, ?_⟩) hHeld ?_ ?_
      rotate_left
      · rintro w' ⟨s0, s1, s2⟩
        go_simp
        with_reducible rfl
      rotate_left
      · simp only [Act.put, List.setIfInBounds_toArray, List.set_cons_zero, List.set_cons_succ, i64_w, i32_w]
        rfl
      refine pure_ (i := 7) (N := some 16) (v := ?_) (a' := ?_) #[true, true, true, true, true, true, true, true, false, false, false, false, false] rfl rfl (by kernel_rfl) (fun _ _ _ h => h) (Or.inl ⟨by rfl, ?_⟩) ?_ ?_
      rotate_left
      · intro w'
        go_simp
        with_reducible rfl
      rotate_left
      · simp only [Act.put, List.setIfInBounds_toArray, List.set_cons_zero, List.set_cons_succ, i64_w, i32_w]
        rfl
      refine pure_ (i := 8) (N := some 24) (v := ?_) (a' := ?_) #[true, true, true, true, true, true, true, true, true, false, false, false, false] rfl rfl (by kernel_rfl) (fun _ _ _ h => h) (Or.inl ⟨by rfl, ?_⟩) ?_ ?_
      rotate_left
      · intro w'
        go_simp
        with_reducible rfl
      rotate_left
      · simp only [Act.put, List.setIfInBounds_toArray, List.set_cons_zero, List.set_cons_succ, i64_w, i32_w]
        rfl
      refine pure_ (i := 9) (N := some 25) (v := ?_) (a' := ?_) #[true, true, true, true, true, true, true, true, true, true, false, false, false] rfl rfl (by kernel_rfl) (fun _ _ _ h => h) (Or.inl ⟨by rfl, ?_⟩) ?_ ?_
      rotate_left
      · intro w'
        go_simp
        with_reducible rfl
      rotate_left
      · simp only [Act.put, List.setIfInBounds_toArray, List.set_cons_zero, List.set_cons_succ, i64_w, i32_w]
        rfl
      refine one_ (i := 10) (N := some 7) #[true, true, true, true, true, true, true, true, true, true, true, false, false] rfl rfl (by kernel_rfl) (by decide) (fun K hK => ?_)
      refine value_ (w1 := ?_) (v := ?_) (by rfl) rfl ?_ ?_
      rotate_left 2
      · go_simp
        constructor
        · rfl
        · rfl
      refine hK.out _ _ ⟨(blk_cell (blk_alloc (blk_drew BO.out) _) 6).trans rfl, (blk_cell (blk_alloc (blk_drew BS.out) _) 0).trans rfl, LO.out _ ((HM.out.drew).alloc _)⟩ (fun hHeld => ?_)
      clear hK K
      refine norm_ (a' := ?_) ?_ ?_
      rotate_left
      · show Act.put _ (some 7) _ = _
        simp only [Act.put, List.setIfInBounds_toArray, List.set_cons_zero, List.set_cons_succ, i64_w, i32_w]
        rfl
      refine last_ (i := 11) (N := none) #[true, true, true, true, true, true, true, true, true, true, true, true, false] rfl rfl (by kernel_rfl) (by decide) (fun K hK => ?_)
      refine skip_ (w1 := ?_) (by rfl) rfl ?_ ?_
      rotate_left
      · go_simp
        rfl
      refine hK.out _ _ ?_
      clear hK K
      refine pure_ (i := 12) (N := some 8) (v := ?_) (a' := ?_) #[true, true, true, true, true, true, true, true, true, true, true, true, true] rfl rfl (by kernel_rfl) (fun _ _ _ h => h) (Or.inl ⟨by rfl, ?_⟩) ?_ ?_
      rotate_left
      · intro w'
        go_simp
        with_reducible rfl
      rotate_left
      · simp only [Act.put, List.setIfInBounds_toArray, List.set_cons_zero, List.set_cons_succ, i64_w, i32_w]
        rfl
      refine done_ (by kernel_rfl) ?_
      have HL5 := Aside0.mk (((HL.out.alloc (.cells #[.string s0, .int .i64 s1, .int .i64 s2] 36)).alloc (.cells #[.string q0, .int .i64 q1, .int .i64 q2] 36)).next (below_drew1 (Below.refl _ _)))
      have KQ5 := Aside0.mk (KQ.out.trans ((KeepQ.alloc (.cells #[.string s0, .int .i64 s1, .int .i64 s2] 36)).trans (KeepQ.alloc (.cells #[.string q0, .int .i64 q1, .int .i64 q2] 36))).drew)
      have BS5 := Aside0.mk (blk_drew (blk_alloc BS.out (.cells #[.string q0, .int .i64 q1, .int .i64 q2] 36)))
      clear hHeld LO HM BO BS hu hy0 hy1 hy2
      generalize ((wr.alloc (.cells #[.string s0, .int .i64 s1, .int .i64 s2] 36)).alloc (.cells #[.string q0, .int .i64 q1, .int .i64 q2] 36)).drew = w5 at *
      generalize wr.heap.size = gs at *
      cases fb with
      | true =>
        have hrn : res = none := by rw [HRES.out]; unfold layO; rw [FS.out]; simp only [laySyms]; rw [if_pos FB.out.symm]; rfl
        go_wp2
        go_ret
        rw [hrn]
        exact ⟨HL5.out.below, KQ0.out.trans KQ5.out, rfl⟩
      | false =>
        have NB := Aside0.mk FB.out.symm
        have ks1 : w5.cell? ⟨gs, 1, none⟩ = some (.int .i64 s1) := (blk_cell BS5.out 1).trans rfl
        have hgb : gs ≠ b := by have := HL5.out.hh; omega
        have fz : w5.frozen? ⟨gs, 2, none⟩ = false := blk_frozen BS5.out 2
        obtain ⟨n1, n2, n3, n4, n5, n6, n7, n8, n9, n10⟩ : 0 ≤ y.nc ∧ y.nc ≤ 1048576 ∧ 0 ≤ y.nd ∧ y.nd ≤ 1048576 ∧ 0 ≤ y.th ∧ y.th ≤ 2000000 ∧ y.syms.length ≤ 200000 ∧ 0 ≤ s2 ∧ s2 < 65536 ∧ s0.size ≤ 28 := by
          have hsm := SM.out
          have hsy := HY.out
          have hxx := HX.out
          have hzz := Z.out
          unfold SymSmall at hsm
          unfold LkSmall at hxx
          simp only at hsm
          omega
        by_cases h2 : s1 = 2
        case pos =>
          subst h2
          go_wp2
          have ew : wrap64 (s2 + y.nd) = s2 + y.nd := by rw [wrap64_id (by omega) (by omega)]
          refine start_ (n := 10) (S := fun w' => w'.cell? ⟨gs, 2, none⟩ = some (.int .i64 s2) ∧ w'.cell? ⟨b, 1, none⟩ = some (.int .i64 y.nd)) (ds := [9]) #[false, false, false, false, false, false, false, false, false, false] (by kernel_rfl) rfl rfl ⟨(blk_cell (blk_drew BS5.out) 2).trans rfl, (blk_cell (blk_drew HL5.out.obj) 1).trans rfl⟩ (fun hHeld => ?_)
          refine pure_ (i := 0) (N := some 40) (v := ?_) (a' := ?_) #[true, false, false, false, false, false, false, false, false, false] rfl rfl (by kernel_rfl) (fun _ _ _ h => h) (Or.inl ⟨by rfl, ?_⟩) ?_ ?_
          rotate_left
          · intro w'
            go_simp
            with_reducible rfl
          rotate_left
          · simp only [Act.put, List.setIfInBounds_toArray, List.set_cons_zero, List.set_cons_succ, i64_w, i32_w]
            rfl
          refine pure_ (i := 2) (N := some 42) (v := ?_) (a' := ?_) #[true, false, true, false, false, false, false, false, false, false] rfl rfl (by kernel_rfl) (fun _ _ _ h => h) (Or.inl ⟨by rfl, ?_⟩) ?_ ?_
          rotate_left
          · intro w'
            go_simp
            with_reducible rfl
          rotate_left
          · simp only [Act.put, List.setIfInBounds_toArray, List.set_cons_zero, List.set_cons_succ, i64_w, i32_w]
            rfl
          refine pure_ (i := 3) (N := some 43) (v := ?_) (a' := ?_) #[true, false, true, true, false, false, false, false, false, false] rfl rfl (by kernel_rfl) (fun _ _ _ h => h) (Or.inl ⟨by rfl, ?_⟩) ?_ ?_
          rotate_left
          · intro w'
            go_simp
            with_reducible rfl
          rotate_left
          · simp only [Act.put, List.setIfInBounds_toArray, List.set_cons_zero, List.set_cons_succ, i64_w, i32_w]
            rfl
          refine pure_ (i := 4) (N := some 44) (v := ?_) (a' := ?_) #[true, false, true, true, true, false, false, false, false, false] rfl rfl (by kernel_rfl) (fun _ _ _ h => h) (Or.inl ⟨by rfl, ?_⟩) ?_ ?_
          rotate_left
          · intro w'
            go_simp
            with_reducible rfl
          rotate_left
          · simp only [Act.put, List.setIfInBounds_toArray, List.set_cons_zero, List.set_cons_succ, i64_w, i32_w]
            rfl
          refine pure_ (i := 5) (N := some 45) (v := ?_) (a' := ?_) #[true, false, true, true, true, true, false, false, false, false] rfl rfl (by kernel_rfl) (fun _ _ _ h => h) (Or.inl ⟨by rfl, ?_⟩) ?_ ?_
          rotate_left
          · intro w'
            go_simp
            with_reducible rfl
          rotate_left
          · simp only [Act.put, List.setIfInBounds_toArray, List.set_cons_zero, List.set_cons_succ, i64_w, i32_w]
            rfl
          refine take_ (i := 1) (N := some 41) (v := ?_) (a' := ?_) #[true, true, true, true, true, true, false, false, false, false] rfl rfl (by kernel_rfl) (fun _ _ _ h => h) (Or.inl ⟨by rfl, ?_⟩) hHeld ?_ ?_
          rotate_left
          · rintro w' ⟨s0, s1⟩
            go_simp
            with_reducible rfl
          rotate_left
          · simp only [Act.put, List.setIfInBounds_toArray, List.set_cons_zero, List.set_cons_succ, i64_w, i32_w]
            rfl
          refine take_ (i := 6) (N := some 46) (v := ?_) (a' := ?_) #[true, true, true, true, true, true, true, false, false, false] rfl rfl (by kernel_rfl) (fun _ _ _ h => h) (Or.inl ⟨by rfl, ?_⟩) hHeld ?_ ?_
          rotate_left
          · rintro w' ⟨s0, s1⟩
            go_simp
            with_reducible rfl
          rotate_left
          · simp only [Act.put, List.setIfInBounds_toArray, List.set_cons_zero, List.set_cons_succ, i64_w, i32_w]
            rfl
          refine pure_ (i := 7) (N := some 47) (v := ?_) (a' := ?_) #[true, true, true, true, true, true, true, true, false, false] rfl rfl (by kernel_rfl) (fun _ _ _ h => h) (Or.inl ⟨by rfl, ?_⟩) ?_ ?_
          rotate_left
          · intro w'
            go_simp
            with_reducible rfl
          rotate_left
          · simp only [Act.put, List.setIfInBounds_toArray, List.set_cons_zero, List.set_cons_succ, i64_w, i32_w]
            rfl
          refine pure_ (i := 8) (N := some 48) (v := ?_) (a' := ?_) #[true, true, true, true, true, true, true, true, true, false] rfl rfl (by kernel_rfl) (fun _ _ _ h => h) (Or.inl ⟨by rfl, ?_⟩) ?_ ?_
          rotate_left
          · intro w'
            go_simp
            with_reducible rfl
          rotate_left
          · simp only [Act.put, List.setIfInBounds_toArray, List.set_cons_zero, List.set_cons_succ, i64_w, i32_w]
            rfl
          refine last_ (i := 9) (N := none) #[true, true, true, true, true, true, true, true, true, true] rfl rfl (by kernel_rfl) (by decide) (fun K hK => ?_)
          refine skip_ (w1 := ?_) (by rfl) rfl ?_ ?_
          rotate_left
          · go_simp
            rfl
          refine hK.out _ _ ?_
          clear hK K
          refine done_ (by kernel_rfl) ?_
          have HL6 := Aside0.mk ((HL5.out.far (p := ⟨gs, 2, none⟩) (Nat.le_refl _) (.int .i64 (s2 + y.nd))).next (below_drew1 (Below.refl _ _)))
          have KQ6 := Aside0.mk (KQ5.out.trans (KeepQ.put BS5.out (by simp) 2 (.int .i64 (s2 + y.nd))).drew)
          have BS6 := Aside0.mk (blk_drew (blk_put BS5.out 2 (.int .i64 (s2 + y.nd)) (cs' := #[.string s0, .int .i64 2, .int .i64 (s2 + y.nd)]) rfl))
          clear hHeld HL5 KQ5 BS5 ew fz
          generalize (w5.setCell ⟨gs, 2, none⟩ (.int .i64 (s2 + y.nd))).drew = w6 at *
          obtain ⟨n6, D6, hm6, hf6, hl6⟩ := HL6.out.mp
          have HM6 := Aside0.mk hm6
          have N6 := Aside0.mk (show n6 < maxLen by simp only [maxLen]; omega)
          have K6 := Aside0.mk (WideMaps.keyOf_string_mk Try.underlying9 (show s0.size ≤ maxLen by simp only [maxLen]; omega))
          clear ks1
          go_wp2
          refine start_ (n := 8) (S := fun w' => w'.cell? ⟨b, 6, none⟩ = some (.map (some mb)) ∧ w'.cell? ⟨gs, 0, none⟩ = some (.string s0) ∧ w'.cell? ⟨gs, 1, none⟩ = some (.int .i64 2) ∧ w'.cell? ⟨gs, 2, none⟩ = some (.int .i64 (s2 + y.nd))) (ds := [7]) #[false, false, false, false, false, false, false, false] (by kernel_rfl) rfl rfl ⟨(blk_cell (blk_drew HL6.out.obj) 6).trans rfl, (blk_cell (blk_drew BS6.out) 0).trans rfl, (blk_cell (blk_drew BS6.out) 1).trans rfl, (blk_cell (blk_drew BS6.out) 2).trans rfl⟩ (fun hHeld => ?_)
          refine pure_ (i := 0) (N := some 67) (v := ?_) (a' := ?_) #[true, false, false, false, false, false, false, false] rfl rfl (by kernel_rfl) (fun _ _ _ h => h) (Or.inl ⟨by rfl, ?_⟩) ?_ ?_
          rotate_left
          · intro w'
            go_simp
            with_reducible rfl
          rotate_left
          · simp only [Act.put, List.setIfInBounds_toArray, List.set_cons_zero, List.set_cons_succ, i64_w, i32_w]
            rfl
          refine pure_ (i := 1) (N := some 68) (v := ?_) (a' := ?_) #[true, true, false, false, false, false, false, false] rfl rfl (by kernel_rfl) (fun _ _ _ h => h) (Or.inl ⟨by rfl, ?_⟩) ?_ ?_
          rotate_left
          · intro w'
            go_simp
            with_reducible rfl
          rotate_left
          · simp only [Act.put, List.setIfInBounds_toArray, List.set_cons_zero, List.set_cons_succ, i64_w, i32_w]
            rfl
          refine pure_ (i := 2) (N := some 69) (v := ?_) (a' := ?_) #[true, true, true, false, false, false, false, false] rfl rfl (by kernel_rfl) (fun _ _ _ h => h) (Or.inl ⟨by rfl, ?_⟩) ?_ ?_
          rotate_left
          · intro w'
            go_simp
            with_reducible rfl
          rotate_left
          · simp only [Act.put, List.setIfInBounds_toArray, List.set_cons_zero, List.set_cons_succ, i64_w, i32_w]
            rfl
          refine pure_ (i := 4) (N := some 71) (v := ?_) (a' := ?_) #[true, true, true, false, true, false, false, false] rfl rfl (by kernel_rfl) (fun _ _ _ h => h) (Or.inl ⟨by rfl, ?_⟩) ?_ ?_
          rotate_left
          · intro w'
            go_simp
            with_reducible rfl
          rotate_left
          · simp only [Act.put, List.setIfInBounds_toArray, List.set_cons_zero, List.set_cons_succ, i64_w, i32_w]
            rfl
          refine take_ (i := 3) (N := some 70) (v := ?_) (a' := ?_) #[true, true, true, true, true, false, false, false] rfl rfl (by kernel_rfl) (fun _ _ _ h => h) (Or.inl ⟨by rfl, ?_⟩) hHeld ?_ ?_
          rotate_left
          · rintro w' ⟨s0, s1, s2, s3⟩
            go_simp
            with_reducible rfl
          rotate_left
          · simp only [Act.put, List.setIfInBounds_toArray, List.set_cons_zero, List.set_cons_succ, i64_w, i32_w]
            rfl
          refine take_ (i := 5) (N := some 72) (v := ?_) (a' := ?_) #[true, true, true, true, true, true, false, false] rfl rfl (by kernel_rfl) (fun _ _ _ h => h) (Or.inl ⟨by rfl, ?_⟩) hHeld ?_ ?_
          rotate_left
          · rintro w' ⟨s0, s1, s2, s3⟩
            go_simp
            with_reducible rfl
          rotate_left
          · simp only [Act.put, List.setIfInBounds_toArray, List.set_cons_zero, List.set_cons_succ, i64_w, i32_w]
            rfl
          refine take_ (i := 6) (N := some 73) (v := ?_) (a' := ?_) #[true, true, true, true, true, true, true, false] rfl rfl (by kernel_rfl) (fun _ _ _ h => h) (Or.inl ⟨by rfl, ?_⟩) hHeld ?_ ?_
          rotate_left
          · rintro w' ⟨s0, s1, s2, s3⟩
            go_simp
            with_reducible rfl
          rotate_left
          · simp only [Act.put, List.setIfInBounds_toArray, List.set_cons_zero, List.set_cons_succ, i64_w, i32_w]
            rfl
          refine last_ (i := 7) (N := none) #[true, true, true, true, true, true, true, true] rfl rfl (by kernel_rfl) (by decide) (fun K hK => ?_)
          refine map_step (by rfl) (.tmp 70) (.tmp 72) (.tmp 73) 54 36 rfl rfl sym_law9 Try.underlying54 rfl HM6.out.drew N6.out rfl rfl (kl := symKey s0) K6.out (d := symT ⟨s0, 2, s2 + y.nd⟩) (ps := []) rfl ?_
          intro w7 hm7 hg7
          refine hK.out _ _ ?_
          clear hK K
          refine done_ (by kernel_rfl) ?_
          have HL7 := Aside0.mk ((HL6.out.next (below_drew1 (Below.refl _ _))).store (s := ⟨s0, 2, s2 + y.nd⟩) (by exact NB.out) HM6.out.drew hf6 hl6 hm7 hg7)
          have KQ7 := Aside0.mk (KQ6.out.drew.trans (KeepQ.of_map (w := w6.drew) HM6.out.drew hg7))
          have BS7 := Aside0.mk (blk_grown (blk_drew BS6.out) hg7 (by
            intro e
            injection e with e
            obtain ⟨es, clock, hb', _⟩ := HM6.out
            have := BS6.out
            rw [e, hb'] at this
            cases this))
          clear hHeld HM6 N6 K6 hm6 hf6 hl6 hm7 hg7 HL6 KQ6 BS6
          go_wp2
          refine start_ (n := 13) (S := fun w' => w'.cell? ⟨b, 5, none⟩ = some (.slice Ay y.syms.length cy) ∧ w'.cell? ⟨gs, 0, none⟩ = some (.string s0) ∧ w'.cell? ⟨gs, 1, none⟩ = some (.int .i64 2) ∧ w'.cell? ⟨gs, 2, none⟩ = some (.int .i64 (s2 + y.nd))) (ds := [12]) #[false, false, false, false, false, false, false, false, false, false, false, false, false] (by kernel_rfl) rfl rfl ⟨(blk_cell (blk_drew HL7.out.obj) 5).trans rfl, (blk_cell (blk_drew BS7.out) 0).trans rfl, (blk_cell (blk_drew BS7.out) 1).trans rfl, (blk_cell (blk_drew BS7.out) 2).trans rfl⟩ (fun hHeld => ?_)
          refine pure_ (i := 0) (N := some 74) (v := ?_) (a' := ?_) #[true, false, false, false, false, false, false, false, false, false, false, false, false] rfl rfl (by kernel_rfl) (fun _ _ _ h => h) (Or.inl ⟨by rfl, ?_⟩) ?_ ?_
          rotate_left
          · intro w'
            go_simp
            with_reducible rfl
          rotate_left
          · simp only [Act.put, List.setIfInBounds_toArray, List.set_cons_zero, List.set_cons_succ, i64_w, i32_w]
            rfl
          refine pure_ (i := 1) (N := some 75) (v := ?_) (a' := ?_) #[true, true, false, false, false, false, false, false, false, false, false, false, false] rfl rfl (by kernel_rfl) (fun _ _ _ h => h) (Or.inl ⟨by rfl, ?_⟩) ?_ ?_
          rotate_left
          · intro w'
            go_simp
            with_reducible rfl
          rotate_left
          · simp only [Act.put, List.setIfInBounds_toArray, List.set_cons_zero, List.set_cons_succ, i64_w, i32_w]
            rfl
          refine pure_ (i := 2) (N := some 76) (v := ?_) (a' := ?_) #[true, true, true, false, false, false, false, false, false, false, false, false, false] rfl rfl (by kernel_rfl) (fun _ _ _ h => h) (Or.inl ⟨by rfl, ?_⟩) ?_ ?_
          rotate_left
          · intro w'
            go_simp
            with_reducible rfl
          rotate_left
          · simp only [Act.put, List.setIfInBounds_toArray, List.set_cons_zero, List.set_cons_succ, i64_w, i32_w]
            rfl
          refine pure_ (i := 3) (N := some 77) (v := ?_) (a' := ?_) #[true, true, true, true, false, false, false, false, false, false, false, false, false] rfl rfl (by kernel_rfl) (fun _ _ _ h => h) (Or.inl ⟨by rfl, ?_⟩) ?_ ?_
          rotate_left
          · intro w'
            go_simp
            with_reducible rfl
          rotate_left
          · simp only [Act.put, List.setIfInBounds_toArray, List.set_cons_zero, List.set_cons_succ, i64_w, i32_w]
            rfl
          refine pure_ (i := 4) (N := some 78) (v := ?_) (a' := ?_) #[true, true, true, true, true, false, false, false, false, false, false, false, false] rfl rfl (by kernel_rfl) (fun _ _ _ h => h) (Or.inl ⟨by rfl, ?_⟩) ?_ ?_
          rotate_left
          · intro w'
            go_simp
            with_reducible rfl
          rotate_left
          · simp only [Act.put, List.setIfInBounds_toArray, List.set_cons_zero, List.set_cons_succ, i64_w, i32_w]
            rfl
          refine take_ (i := 5) (N := some 79) (v := ?_) (a' := ?_) #[true, true, true, true, true, true, false, false, false, false, false, false, false] rfl rfl (by kernel_rfl) (fun _ _ _ h => h) (Or.inl ⟨by rfl, ?_⟩) hHeld ?_ ?_
          rotate_left
          · rintro w' ⟨s0, s1, s2, s3⟩
            go_simp
            with_reducible rfl
          rotate_left
          · simp only [Act.put, List.setIfInBounds_toArray, List.set_cons_zero, List.set_cons_succ, i64_w, i32_w]
            rfl
          refine take_ (i := 6) (N := some 80) (v := ?_) (a' := ?_) #[true, true, true, true, true, true, true, false, false, false, false, false, false] rfl rfl (by kernel_rfl) (fun _ _ _ h => h) (Or.inl ⟨by rfl, ?_⟩) hHeld ?_ ?_
          rotate_left
          · rintro w' ⟨s0, s1, s2, s3⟩
            go_simp
            with_reducible rfl
          rotate_left
          · simp only [Act.put, List.setIfInBounds_toArray, List.set_cons_zero, List.set_cons_succ, i64_w, i32_w]
            rfl
          refine one_ (i := 7) (N := some 81) #[true, true, true, true, true, true, true, true, false, false, false, false, false] rfl rfl (by kernel_rfl) (by decide) (fun K hK => ?_)
          refine value_ (w1 := w7.drew.alloc (.cells #[.string s0, .int .i64 2, .int .i64 (s2 + y.nd)] 36)) (v := .slice (some ⟨w7.drew.heap.size, 0, none⟩) 1 1) (by rfl) rfl ?_ ?_
          · go_simp
          refine hK.out _ _ ⟨(blk_cell (blk_alloc (blk_drew HL7.out.obj) _) 5).trans rfl, (blk_cell (blk_alloc (blk_drew BS7.out) _) 0).trans rfl, (blk_cell (blk_alloc (blk_drew BS7.out) _) 1).trans rfl, (blk_cell (blk_alloc (blk_drew BS7.out) _) 2).trans rfl⟩ (fun hHeld => ?_)
          clear hK K
          refine norm_ (a' := ?_) ?_ ?_
          rotate_left
          · show Act.put _ (some 81) _ = _
            simp only [Act.put, List.setIfInBounds_toArray, List.set_cons_zero, List.set_cons_succ, i64_w, i32_w]
            rfl
          refine one_ (i := 8) (N := some 82) #[true, true, true, true, true, true, true, true, true, false, false, false, false] rfl rfl (by kernel_rfl) (by decide) (fun K hK => ?_)
          refine Kd.R_append_step k36 w.heap.size (by rfl) (.tmp 79) (.tmp 81) 27 36 (.agg #[.string ⟨#[]⟩, .int .i64 0, .int .i64 0]) 32 rfl Try.underlying27 info36 rfl (by decide) (by omega) (.slice Ay y.syms.length cy) y.syms ⟨s0, 2, s2 + y.nd⟩ [.string s0, .int .i64 2, .int .i64 (s2 + y.nd)] (fun _ => True) (fun _ => False) rfl (by first | (go_simp; done) | (go_simp; rfl)) (k36_mkM _ _ _ ⟨s0, 2, s2 + y.nd⟩) (fun _ hk => hk.elim) (fun _ _ => trivial) (R_all (Kd.R_below HL7.out.r2 (below_drew1 (Below.refl _ _)))) (below_drew1 HL7.out.below) HL7.out.below.size (by omega) ?_
          intro v8 w8 ho8 hb8 hg8 _
          have M8 := Aside0.mk ((HL7.out.next (below_drew1 (Below.refl _ _))).more2 ho8 hb8 hg8)
          have KQ8 := Aside0.mk (KQ7.out.drew.trans (KeepQ.of_grown (w := w7.drew) (Kd.R_below HL7.out.r2 (below_drew1 (Below.refl _ _))) hg8 (by simp)))
          have BS8 := Aside0.mk (show w8.heap[gs]? = _ from blk_grown (blk_drew BS7.out) hg8 (fun e => by have h1 := HL7.out.r2.1 gs e.symm; omega))
          obtain ⟨A8, c8, rfl, hc8, -⟩ := Kd.R_reads ho8
          have MP8 := Aside0.mk M8.out.2.2.2.2.2
          simp only [List.length_append, List.length_cons, List.length_nil, Nat.zero_add] at M8
          have fz8 := blk_frozen M8.out.2.1 5
          clear ho8 hb8 hg8
          refine hK.out _ _ ⟨(blk_cell (M8.out.2.1) 5).trans rfl, (blk_cell (BS8.out) 0).trans rfl, (blk_cell (BS8.out) 1).trans rfl, (blk_cell (BS8.out) 2).trans rfl⟩ (fun hHeld => ?_)
          clear hK K
          refine norm_ (a' := ?_) ?_ ?_
          rotate_left
          · show Act.put _ (some 82) _ = _
            simp only [Act.put, List.setIfInBounds_toArray, List.set_cons_zero, List.set_cons_succ, i64_w, i32_w]
            rfl
          refine pure_ (i := 9) (N := some 83) (v := ?_) (a' := ?_) #[true, true, true, true, true, true, true, true, true, true, false, false, false] rfl rfl (by kernel_rfl) (fun _ _ _ h => h) (Or.inl ⟨by rfl, ?_⟩) ?_ ?_
          rotate_left
          · intro w'
            go_simp
            with_reducible rfl
          rotate_left
          · simp only [Act.put, List.setIfInBounds_toArray, List.set_cons_zero, List.set_cons_succ, i64_w, i32_w]
            rfl
          refine pure_ (i := 10) (N := some 84) (v := ?_) (a' := ?_) #[true, true, true, true, true, true, true, true, true, true, true, false, false] rfl rfl (by kernel_rfl) (fun _ _ _ h => h) (Or.inl ⟨by rfl, ?_⟩) ?_ ?_
          rotate_left
          · intro w'
            go_simp
            with_reducible rfl
          rotate_left
          · simp only [Act.put, List.setIfInBounds_toArray, List.set_cons_zero, List.set_cons_succ, i64_w, i32_w]
            rfl
          refine pure_ (i := 11) (N := some 85) (v := ?_) (a' := ?_) #[true, true, true, true, true, true, true, true, true, true, true, true, false] rfl rfl (by kernel_rfl) (fun _ _ _ h => h) (Or.inl ⟨by rfl, ?_⟩) ?_ ?_
          rotate_left
          · intro w'
            go_simp
            with_reducible rfl
          rotate_left
          · simp only [Act.put, List.setIfInBounds_toArray, List.set_cons_zero, List.set_cons_succ, i64_w, i32_w]
            rfl
          refine last_ (i := 12) (N := none) #[true, true, true, true, true, true, true, true, true, true, true, true, true] rfl rfl (by kernel_rfl) (by decide) (fun K hK => ?_)
          refine skip_ (w1 := ?_) (by rfl) rfl ?_ ?_
          rotate_left
          · go_simp
            rfl
          refine hK.out _ _ ?_
          clear hK K
          refine done_ (by kernel_rfl) ?_
          have HL9 := Aside0.mk (Lk.build (x' := { y with syms := y.syms ++ [⟨s0, 2, s2 + y.nd⟩] }) M8.out.1 M8.out.2.1 M8.out.2.2.1 M8.out.2.2.2.1 M8.out.2.2.2.2.1 MP8.out HL7.out.hh.1 HL7.out.hh.2.2.1 5 (.slice A8 (y.syms.length + 1) c8) rfl)
          have KQ9 := Aside0.mk (KQ8.out.trans (KeepQ.put M8.out.2.1 (by simp) 5 (.slice A8 (y.syms.length + 1) c8)))
          clear hHeld
          go_wp2
          have P1 : j + 1 ≤ o.f2.length := hlt
          have P2 : j < 9000000000000000000 := by have := Z.out.1; omega
          have P3 : 0 ≤ ({ y with syms := y.syms ++ [⟨s0, 2, s2 + y.nd⟩] } : LkS).th ∧ ({ y with syms := y.syms ++ [⟨s0, 2, s2 + y.nd⟩] } : LkS).th ≤ x.th + ((j + 1 : Nat) : Int) := by have h1 := HY.out.2.2.2.2.1; have h2 := HY.out.2.2.2.2.2.1; clear n1 n2 n3 n4 n6 n7 n8 n9 n10; dsimp only; omega
          have P4 : ({ y with syms := y.syms ++ [⟨s0, 2, s2 + y.nd⟩] } : LkS).syms.length = x.syms.length + (j + 1) := by have := HY.out.2.2.2.2.2.2; clear n1 n2 n3 n4 n6 n7 n8 n9 n10; simp only [List.length_append, List.length_singleton]; omega
          have FA := Aside0.mk (show laySyms x o.f2 = laySyms { y with syms := y.syms ++ [⟨s0, 2, s2 + y.nd⟩] } (o.f2.drop (j + 1)) by rw [FS.out, laySyms_step NB.out, lay_two])
          have LA := Aside0.mk (HL9.out.up HL9.out.lt (Nat.le_refl _))
          clear n1 n2 n3 n4 n5 n6 n7 n8 n9 n10
          refine round_end (R' := fun v => ∃ (j_1 : Nat) (y_1 : LkS) (v2' : Value), j_1 ≤ o.f2.length ∧ v = .int .i64 j_1 ∧ Aside0 (Lk w (w8.setCell ⟨b, 5, none⟩ (.slice A8 (y.syms.length + 1) c8)) (w8.setCell ⟨b, 5, none⟩ (.slice A8 (y.syms.length + 1) c8)).heap.size b mb y_1 (.slice Ac x.code.length cc) (.slice Ad x.data.length cd) v2' y_1.syms) ∧ Aside0 (KeepQ W1 (w8.setCell ⟨b, 5, none⟩ (.slice A8 (y.syms.length + 1) c8))) ∧ Aside0 (laySyms x o.f2 = laySyms y_1 (o.f2.drop j_1)) ∧ Aside0 (y_1.nc = x.nc ∧ y_1.nd = x.nd ∧ y_1.code = x.code ∧ y_1.data = x.data ∧ 0 ≤ y_1.th ∧ y_1.th ≤ x.th + j_1 ∧ y_1.syms.length = x.syms.length + j_1)) hlt P2 ?_
          exact ⟨j + 1, { y with syms := y.syms ++ [⟨s0, 2, s2 + y.nd⟩] }, .slice A8 (y.syms.length + 1) c8, P1, rfl, LA, KQ9, FA, ⟨HY.out.1, HY.out.2.1, HY.out.2.2.1, HY.out.2.2.2.1, P3.1, P3.2, P4⟩⟩
        case neg =>
          have e2 : (s1 == (2 : Int)) = false := by simp [h2]
          by_cases h3 : s1 = 3
          case pos =>
            subst h3
            have kb7 : w5.cell? ⟨b, 7, none⟩ = some (.int .i64 y.th) := (blk_cell HL5.out.obj 7).trans rfl
            have kf7 : w5.frozen? ⟨b, 7, none⟩ = false := blk_frozen HL5.out.obj 7
            have et : wrap64 (y.th + 1) = y.th + 1 := wrap64_id (by omega) (by omega)
            go_wp2
            have HL5c := Aside0.mk (HL5.out.put (x' := { y with th := y.th + 1 }) 7 (.int .i64 (y.th + 1)) rfl rfl rfl rfl)
            have KQ5c := Aside0.mk (KQ5.out.trans (KeepQ.put HL5.out.obj (by simp) 7 (.int .i64 (y.th + 1))))
            have BS5c := Aside0.mk (blk_far BS5.out (p := ⟨b, 7, none⟩) hgb (.int .i64 (y.th + 1)))
            clear HL5 KQ5 BS5 kb7 kf7 et ks1 fz
            generalize w5.setCell ⟨b, 7, none⟩ (.int .i64 (y.th + 1)) = w5 at *
            have HL5 := Aside0.mk HL5c.out
            have KQ5 := Aside0.mk KQ5c.out
            have BS5 := Aside0.mk BS5c.out
            clear HL5c KQ5c BS5c
            have ks1 := trivial
            have fz : w5.frozen? ⟨gs, 2, none⟩ = false := blk_frozen BS5.out 2
            have ew : wrap64 (s2 + y.nc) = s2 + y.nc := by rw [wrap64_id (by omega) (by omega)]
            refine start_ (n := 10) (S := fun w' => w'.cell? ⟨gs, 2, none⟩ = some (.int .i64 s2) ∧ w'.cell? ⟨b, 0, none⟩ = some (.int .i64 y.nc)) (ds := [9]) #[false, false, false, false, false, false, false, false, false, false] (by kernel_rfl) rfl rfl ⟨(blk_cell (blk_drew BS5.out) 2).trans rfl, (blk_cell (blk_drew HL5.out.obj) 0).trans rfl⟩ (fun hHeld => ?_)
            refine pure_ (i := 0) (N := some 58) (v := ?_) (a' := ?_) #[true, false, false, false, false, false, false, false, false, false] rfl rfl (by kernel_rfl) (fun _ _ _ h => h) (Or.inl ⟨by rfl, ?_⟩) ?_ ?_
            rotate_left
            · intro w'
              go_simp
              with_reducible rfl
            rotate_left
            · simp only [Act.put, List.setIfInBounds_toArray, List.set_cons_zero, List.set_cons_succ, i64_w, i32_w]
              rfl
            refine pure_ (i := 2) (N := some 60) (v := ?_) (a' := ?_) #[true, false, true, false, false, false, false, false, false, false] rfl rfl (by kernel_rfl) (fun _ _ _ h => h) (Or.inl ⟨by rfl, ?_⟩) ?_ ?_
            rotate_left
            · intro w'
              go_simp
              with_reducible rfl
            rotate_left
            · simp only [Act.put, List.setIfInBounds_toArray, List.set_cons_zero, List.set_cons_succ, i64_w, i32_w]
              rfl
            refine pure_ (i := 3) (N := some 61) (v := ?_) (a' := ?_) #[true, false, true, true, false, false, false, false, false, false] rfl rfl (by kernel_rfl) (fun _ _ _ h => h) (Or.inl ⟨by rfl, ?_⟩) ?_ ?_
            rotate_left
            · intro w'
              go_simp
              with_reducible rfl
            rotate_left
            · simp only [Act.put, List.setIfInBounds_toArray, List.set_cons_zero, List.set_cons_succ, i64_w, i32_w]
              rfl
            refine pure_ (i := 4) (N := some 62) (v := ?_) (a' := ?_) #[true, false, true, true, true, false, false, false, false, false] rfl rfl (by kernel_rfl) (fun _ _ _ h => h) (Or.inl ⟨by rfl, ?_⟩) ?_ ?_
            rotate_left
            · intro w'
              go_simp
              with_reducible rfl
            rotate_left
            · simp only [Act.put, List.setIfInBounds_toArray, List.set_cons_zero, List.set_cons_succ, i64_w, i32_w]
              rfl
            refine pure_ (i := 5) (N := some 63) (v := ?_) (a' := ?_) #[true, false, true, true, true, true, false, false, false, false] rfl rfl (by kernel_rfl) (fun _ _ _ h => h) (Or.inl ⟨by rfl, ?_⟩) ?_ ?_
            rotate_left
            · intro w'
              go_simp
              with_reducible rfl
            rotate_left
            · simp only [Act.put, List.setIfInBounds_toArray, List.set_cons_zero, List.set_cons_succ, i64_w, i32_w]
              rfl
            refine take_ (i := 1) (N := some 59) (v := ?_) (a' := ?_) #[true, true, true, true, true, true, false, false, false, false] rfl rfl (by kernel_rfl) (fun _ _ _ h => h) (Or.inl ⟨by rfl, ?_⟩) hHeld ?_ ?_
            rotate_left
            · rintro w' ⟨s0, s1⟩
              go_simp
              with_reducible rfl
            rotate_left
            · simp only [Act.put, List.setIfInBounds_toArray, List.set_cons_zero, List.set_cons_succ, i64_w, i32_w]
              rfl
            refine take_ (i := 6) (N := some 64) (v := ?_) (a' := ?_) #[true, true, true, true, true, true, true, false, false, false] rfl rfl (by kernel_rfl) (fun _ _ _ h => h) (Or.inl ⟨by rfl, ?_⟩) hHeld ?_ ?_
            rotate_left
            · rintro w' ⟨s0, s1⟩
              go_simp
              with_reducible rfl
            rotate_left
            · simp only [Act.put, List.setIfInBounds_toArray, List.set_cons_zero, List.set_cons_succ, i64_w, i32_w]
              rfl
            refine pure_ (i := 7) (N := some 65) (v := ?_) (a' := ?_) #[true, true, true, true, true, true, true, true, false, false] rfl rfl (by kernel_rfl) (fun _ _ _ h => h) (Or.inl ⟨by rfl, ?_⟩) ?_ ?_
            rotate_left
            · intro w'
              go_simp
              with_reducible rfl
            rotate_left
            · simp only [Act.put, List.setIfInBounds_toArray, List.set_cons_zero, List.set_cons_succ, i64_w, i32_w]
              rfl
            refine pure_ (i := 8) (N := some 66) (v := ?_) (a' := ?_) #[true, true, true, true, true, true, true, true, true, false] rfl rfl (by kernel_rfl) (fun _ _ _ h => h) (Or.inl ⟨by rfl, ?_⟩) ?_ ?_
            rotate_left
            · intro w'
              go_simp
              with_reducible rfl
            rotate_left
            · simp only [Act.put, List.setIfInBounds_toArray, List.set_cons_zero, List.set_cons_succ, i64_w, i32_w]
              rfl
            refine last_ (i := 9) (N := none) #[true, true, true, true, true, true, true, true, true, true] rfl rfl (by kernel_rfl) (by decide) (fun K hK => ?_)
            refine skip_ (w1 := ?_) (by rfl) rfl ?_ ?_
            rotate_left
            · go_simp
              rfl
            refine hK.out _ _ ?_
            clear hK K
            refine done_ (by kernel_rfl) ?_
            have HL6 := Aside0.mk ((HL5.out.far (p := ⟨gs, 2, none⟩) (Nat.le_refl _) (.int .i64 (s2 + y.nc))).next (below_drew1 (Below.refl _ _)))
            have KQ6 := Aside0.mk (KQ5.out.trans (KeepQ.put BS5.out (by simp) 2 (.int .i64 (s2 + y.nc))).drew)
            have BS6 := Aside0.mk (blk_drew (blk_put BS5.out 2 (.int .i64 (s2 + y.nc)) (cs' := #[.string s0, .int .i64 3, .int .i64 (s2 + y.nc)]) rfl))
            clear hHeld HL5 KQ5 BS5 ew fz
            generalize (w5.setCell ⟨gs, 2, none⟩ (.int .i64 (s2 + y.nc))).drew = w6 at *
            obtain ⟨n6, D6, hm6, hf6, hl6⟩ := HL6.out.mp
            have HM6 := Aside0.mk hm6
            have N6 := Aside0.mk (show n6 < maxLen by simp only [maxLen]; omega)
            have K6 := Aside0.mk (WideMaps.keyOf_string_mk Try.underlying9 (show s0.size ≤ maxLen by simp only [maxLen]; omega))
            clear ks1
            go_wp2
            refine start_ (n := 8) (S := fun w' => w'.cell? ⟨b, 6, none⟩ = some (.map (some mb)) ∧ w'.cell? ⟨gs, 0, none⟩ = some (.string s0) ∧ w'.cell? ⟨gs, 1, none⟩ = some (.int .i64 3) ∧ w'.cell? ⟨gs, 2, none⟩ = some (.int .i64 (s2 + y.nc))) (ds := [7]) #[false, false, false, false, false, false, false, false] (by kernel_rfl) rfl rfl ⟨(blk_cell (blk_drew HL6.out.obj) 6).trans rfl, (blk_cell (blk_drew BS6.out) 0).trans rfl, (blk_cell (blk_drew BS6.out) 1).trans rfl, (blk_cell (blk_drew BS6.out) 2).trans rfl⟩ (fun hHeld => ?_)
            refine pure_ (i := 0) (N := some 67) (v := ?_) (a' := ?_) #[true, false, false, false, false, false, false, false] rfl rfl (by kernel_rfl) (fun _ _ _ h => h) (Or.inl ⟨by rfl, ?_⟩) ?_ ?_
            rotate_left
            · intro w'
              go_simp
              with_reducible rfl
            rotate_left
            · simp only [Act.put, List.setIfInBounds_toArray, List.set_cons_zero, List.set_cons_succ, i64_w, i32_w]
              rfl
            refine pure_ (i := 1) (N := some 68) (v := ?_) (a' := ?_) #[true, true, false, false, false, false, false, false] rfl rfl (by kernel_rfl) (fun _ _ _ h => h) (Or.inl ⟨by rfl, ?_⟩) ?_ ?_
            rotate_left
            · intro w'
              go_simp
              with_reducible rfl
            rotate_left
            · simp only [Act.put, List.setIfInBounds_toArray, List.set_cons_zero, List.set_cons_succ, i64_w, i32_w]
              rfl
            refine pure_ (i := 2) (N := some 69) (v := ?_) (a' := ?_) #[true, true, true, false, false, false, false, false] rfl rfl (by kernel_rfl) (fun _ _ _ h => h) (Or.inl ⟨by rfl, ?_⟩) ?_ ?_
            rotate_left
            · intro w'
              go_simp
              with_reducible rfl
            rotate_left
            · simp only [Act.put, List.setIfInBounds_toArray, List.set_cons_zero, List.set_cons_succ, i64_w, i32_w]
              rfl
            refine pure_ (i := 4) (N := some 71) (v := ?_) (a' := ?_) #[true, true, true, false, true, false, false, false] rfl rfl (by kernel_rfl) (fun _ _ _ h => h) (Or.inl ⟨by rfl, ?_⟩) ?_ ?_
            rotate_left
            · intro w'
              go_simp
              with_reducible rfl
            rotate_left
            · simp only [Act.put, List.setIfInBounds_toArray, List.set_cons_zero, List.set_cons_succ, i64_w, i32_w]
              rfl
            refine take_ (i := 3) (N := some 70) (v := ?_) (a' := ?_) #[true, true, true, true, true, false, false, false] rfl rfl (by kernel_rfl) (fun _ _ _ h => h) (Or.inl ⟨by rfl, ?_⟩) hHeld ?_ ?_
            rotate_left
            · rintro w' ⟨s0, s1, s2, s3⟩
              go_simp
              with_reducible rfl
            rotate_left
            · simp only [Act.put, List.setIfInBounds_toArray, List.set_cons_zero, List.set_cons_succ, i64_w, i32_w]
              rfl
            refine take_ (i := 5) (N := some 72) (v := ?_) (a' := ?_) #[true, true, true, true, true, true, false, false] rfl rfl (by kernel_rfl) (fun _ _ _ h => h) (Or.inl ⟨by rfl, ?_⟩) hHeld ?_ ?_
            rotate_left
            · rintro w' ⟨s0, s1, s2, s3⟩
              go_simp
              with_reducible rfl
            rotate_left
            · simp only [Act.put, List.setIfInBounds_toArray, List.set_cons_zero, List.set_cons_succ, i64_w, i32_w]
              rfl
            refine take_ (i := 6) (N := some 73) (v := ?_) (a' := ?_) #[true, true, true, true, true, true, true, false] rfl rfl (by kernel_rfl) (fun _ _ _ h => h) (Or.inl ⟨by rfl, ?_⟩) hHeld ?_ ?_
            rotate_left
            · rintro w' ⟨s0, s1, s2, s3⟩
              go_simp
              with_reducible rfl
            rotate_left
            · simp only [Act.put, List.setIfInBounds_toArray, List.set_cons_zero, List.set_cons_succ, i64_w, i32_w]
              rfl
            refine last_ (i := 7) (N := none) #[true, true, true, true, true, true, true, true] rfl rfl (by kernel_rfl) (by decide) (fun K hK => ?_)
            refine map_step (by rfl) (.tmp 70) (.tmp 72) (.tmp 73) 54 36 rfl rfl sym_law9 Try.underlying54 rfl HM6.out.drew N6.out rfl rfl (kl := symKey s0) K6.out (d := symT ⟨s0, 3, s2 + y.nc⟩) (ps := []) rfl ?_
            intro w7 hm7 hg7
            refine hK.out _ _ ?_
            clear hK K
            refine done_ (by kernel_rfl) ?_
            have HL7 := Aside0.mk ((HL6.out.next (below_drew1 (Below.refl _ _))).store (s := ⟨s0, 3, s2 + y.nc⟩) (by exact NB.out) HM6.out.drew hf6 hl6 hm7 hg7)
            have KQ7 := Aside0.mk (KQ6.out.drew.trans (KeepQ.of_map (w := w6.drew) HM6.out.drew hg7))
            have BS7 := Aside0.mk (blk_grown (blk_drew BS6.out) hg7 (by
              intro e
              injection e with e
              obtain ⟨es, clock, hb', _⟩ := HM6.out
              have := BS6.out
              rw [e, hb'] at this
              cases this))
            clear hHeld HM6 N6 K6 hm6 hf6 hl6 hm7 hg7 HL6 KQ6 BS6
            go_wp2
            refine start_ (n := 13) (S := fun w' => w'.cell? ⟨b, 5, none⟩ = some (.slice Ay y.syms.length cy) ∧ w'.cell? ⟨gs, 0, none⟩ = some (.string s0) ∧ w'.cell? ⟨gs, 1, none⟩ = some (.int .i64 3) ∧ w'.cell? ⟨gs, 2, none⟩ = some (.int .i64 (s2 + y.nc))) (ds := [12]) #[false, false, false, false, false, false, false, false, false, false, false, false, false] (by kernel_rfl) rfl rfl ⟨(blk_cell (blk_drew HL7.out.obj) 5).trans rfl, (blk_cell (blk_drew BS7.out) 0).trans rfl, (blk_cell (blk_drew BS7.out) 1).trans rfl, (blk_cell (blk_drew BS7.out) 2).trans rfl⟩ (fun hHeld => ?_)
            refine pure_ (i := 0) (N := some 74) (v := ?_) (a' := ?_) #[true, false, false, false, false, false, false, false, false, false, false, false, false] rfl rfl (by kernel_rfl) (fun _ _ _ h => h) (Or.inl ⟨by rfl, ?_⟩) ?_ ?_
            rotate_left
            · intro w'
              go_simp
              with_reducible rfl
            rotate_left
            · simp only [Act.put, List.setIfInBounds_toArray, List.set_cons_zero, List.set_cons_succ, i64_w, i32_w]
              rfl
            refine pure_ (i := 1) (N := some 75) (v := ?_) (a' := ?_) #[true, true, false, false, false, false, false, false, false, false, false, false, false] rfl rfl (by kernel_rfl) (fun _ _ _ h => h) (Or.inl ⟨by rfl, ?_⟩) ?_ ?_
            rotate_left
            · intro w'
              go_simp
              with_reducible rfl
            rotate_left
            · simp only [Act.put, List.setIfInBounds_toArray, List.set_cons_zero, List.set_cons_succ, i64_w, i32_w]
              rfl
            refine pure_ (i := 2) (N := some 76) (v := ?_) (a' := ?_) #[true, true, true, false, false, false, false, false, false, false, false, false, false] rfl rfl (by kernel_rfl) (fun _ _ _ h => h) (Or.inl ⟨by rfl, ?_⟩) ?_ ?_
            rotate_left
            · intro w'
              go_simp
              with_reducible rfl
            rotate_left
            · simp only [Act.put, List.setIfInBounds_toArray, List.set_cons_zero, List.set_cons_succ, i64_w, i32_w]
              rfl
            refine pure_ (i := 3) (N := some 77) (v := ?_) (a' := ?_) #[true, true, true, true, false, false, false, false, false, false, false, false, false] rfl rfl (by kernel_rfl) (fun _ _ _ h => h) (Or.inl ⟨by rfl, ?_⟩) ?_ ?_
            rotate_left
            · intro w'
              go_simp
              with_reducible rfl
            rotate_left
            · simp only [Act.put, List.setIfInBounds_toArray, List.set_cons_zero, List.set_cons_succ, i64_w, i32_w]
              rfl
            refine pure_ (i := 4) (N := some 78) (v := ?_) (a' := ?_) #[true, true, true, true, true, false, false, false, false, false, false, false, false] rfl rfl (by kernel_rfl) (fun _ _ _ h => h) (Or.inl ⟨by rfl, ?_⟩) ?_ ?_
            rotate_left
            · intro w'
              go_simp
              with_reducible rfl
            rotate_left
            · simp only [Act.put, List.setIfInBounds_toArray, List.set_cons_zero, List.set_cons_succ, i64_w, i32_w]
              rfl
            refine take_ (i := 5) (N := some 79) (v := ?_) (a' := ?_) #[true, true, true, true, true, true, false, false, false, false, false, false, false] rfl rfl (by kernel_rfl) (fun _ _ _ h => h) (Or.inl ⟨by rfl, ?_⟩) hHeld ?_ ?_
            rotate_left
            · rintro w' ⟨s0, s1, s2, s3⟩
              go_simp
              with_reducible rfl
            rotate_left
            · simp only [Act.put, List.setIfInBounds_toArray, List.set_cons_zero, List.set_cons_succ, i64_w, i32_w]
              rfl
            refine take_ (i := 6) (N := some 80) (v := ?_) (a' := ?_) #[true, true, true, true, true, true, true, false, false, false, false, false, false] rfl rfl (by kernel_rfl) (fun _ _ _ h => h) (Or.inl ⟨by rfl, ?_⟩) hHeld ?_ ?_
            rotate_left
            · rintro w' ⟨s0, s1, s2, s3⟩
              go_simp
              with_reducible rfl
            rotate_left
            · simp only [Act.put, List.setIfInBounds_toArray, List.set_cons_zero, List.set_cons_succ, i64_w, i32_w]
              rfl
            refine one_ (i := 7) (N := some 81) #[true, true, true, true, true, true, true, true, false, false, false, false, false] rfl rfl (by kernel_rfl) (by decide) (fun K hK => ?_)
            refine value_ (w1 := w7.drew.alloc (.cells #[.string s0, .int .i64 3, .int .i64 (s2 + y.nc)] 36)) (v := .slice (some ⟨w7.drew.heap.size, 0, none⟩) 1 1) (by rfl) rfl ?_ ?_
            · go_simp
            refine hK.out _ _ ⟨(blk_cell (blk_alloc (blk_drew HL7.out.obj) _) 5).trans rfl, (blk_cell (blk_alloc (blk_drew BS7.out) _) 0).trans rfl, (blk_cell (blk_alloc (blk_drew BS7.out) _) 1).trans rfl, (blk_cell (blk_alloc (blk_drew BS7.out) _) 2).trans rfl⟩ (fun hHeld => ?_)
            clear hK K
            refine norm_ (a' := ?_) ?_ ?_
            rotate_left
            · show Act.put _ (some 81) _ = _
              simp only [Act.put, List.setIfInBounds_toArray, List.set_cons_zero, List.set_cons_succ, i64_w, i32_w]
              rfl
            refine one_ (i := 8) (N := some 82) #[true, true, true, true, true, true, true, true, true, false, false, false, false] rfl rfl (by kernel_rfl) (by decide) (fun K hK => ?_)
            refine Kd.R_append_step k36 w.heap.size (by rfl) (.tmp 79) (.tmp 81) 27 36 (.agg #[.string ⟨#[]⟩, .int .i64 0, .int .i64 0]) 32 rfl Try.underlying27 info36 rfl (by decide) (by omega) (.slice Ay y.syms.length cy) y.syms ⟨s0, 3, s2 + y.nc⟩ [.string s0, .int .i64 3, .int .i64 (s2 + y.nc)] (fun _ => True) (fun _ => False) rfl (by first | (go_simp; done) | (go_simp; rfl)) (k36_mkM _ _ _ ⟨s0, 3, s2 + y.nc⟩) (fun _ hk => hk.elim) (fun _ _ => trivial) (R_all (Kd.R_below HL7.out.r2 (below_drew1 (Below.refl _ _)))) (below_drew1 HL7.out.below) HL7.out.below.size (by omega) ?_
            intro v8 w8 ho8 hb8 hg8 _
            have M8 := Aside0.mk ((HL7.out.next (below_drew1 (Below.refl _ _))).more2 ho8 hb8 hg8)
            have KQ8 := Aside0.mk (KQ7.out.drew.trans (KeepQ.of_grown (w := w7.drew) (Kd.R_below HL7.out.r2 (below_drew1 (Below.refl _ _))) hg8 (by simp)))
            have BS8 := Aside0.mk (show w8.heap[gs]? = _ from blk_grown (blk_drew BS7.out) hg8 (fun e => by have h1 := HL7.out.r2.1 gs e.symm; omega))
            obtain ⟨A8, c8, rfl, hc8, -⟩ := Kd.R_reads ho8
            have MP8 := Aside0.mk M8.out.2.2.2.2.2
            simp only [List.length_append, List.length_cons, List.length_nil, Nat.zero_add] at M8
            have fz8 := blk_frozen M8.out.2.1 5
            clear ho8 hb8 hg8
            refine hK.out _ _ ⟨(blk_cell (M8.out.2.1) 5).trans rfl, (blk_cell (BS8.out) 0).trans rfl, (blk_cell (BS8.out) 1).trans rfl, (blk_cell (BS8.out) 2).trans rfl⟩ (fun hHeld => ?_)
            clear hK K
            refine norm_ (a' := ?_) ?_ ?_
            rotate_left
            · show Act.put _ (some 82) _ = _
              simp only [Act.put, List.setIfInBounds_toArray, List.set_cons_zero, List.set_cons_succ, i64_w, i32_w]
              rfl
            refine pure_ (i := 9) (N := some 83) (v := ?_) (a' := ?_) #[true, true, true, true, true, true, true, true, true, true, false, false, false] rfl rfl (by kernel_rfl) (fun _ _ _ h => h) (Or.inl ⟨by rfl, ?_⟩) ?_ ?_
            rotate_left
            · intro w'
              go_simp
              with_reducible rfl
            rotate_left
            · simp only [Act.put, List.setIfInBounds_toArray, List.set_cons_zero, List.set_cons_succ, i64_w, i32_w]
              rfl
            refine pure_ (i := 10) (N := some 84) (v := ?_) (a' := ?_) #[true, true, true, true, true, true, true, true, true, true, true, false, false] rfl rfl (by kernel_rfl) (fun _ _ _ h => h) (Or.inl ⟨by rfl, ?_⟩) ?_ ?_
            rotate_left
            · intro w'
              go_simp
              with_reducible rfl
            rotate_left
            · simp only [Act.put, List.setIfInBounds_toArray, List.set_cons_zero, List.set_cons_succ, i64_w, i32_w]
              rfl
            refine pure_ (i := 11) (N := some 85) (v := ?_) (a' := ?_) #[true, true, true, true, true, true, true, true, true, true, true, true, false] rfl rfl (by kernel_rfl) (fun _ _ _ h => h) (Or.inl ⟨by rfl, ?_⟩) ?_ ?_
            rotate_left
            · intro w'
              go_simp
              with_reducible rfl
            rotate_left
            · simp only [Act.put, List.setIfInBounds_toArray, List.set_cons_zero, List.set_cons_succ, i64_w, i32_w]
              rfl
            refine last_ (i := 12) (N := none) #[true, true, true, true, true, true, true, true, true, true, true, true, true] rfl rfl (by kernel_rfl) (by decide) (fun K hK => ?_)
            refine skip_ (w1 := ?_) (by rfl) rfl ?_ ?_
            rotate_left
            · go_simp
              rfl
            refine hK.out _ _ ?_
            clear hK K
            refine done_ (by kernel_rfl) ?_
            have HL9 := Aside0.mk (Lk.build (x' := { { y with th := y.th + 1 } with syms := y.syms ++ [⟨s0, 3, s2 + y.nc⟩] }) M8.out.1 M8.out.2.1 M8.out.2.2.1 M8.out.2.2.2.1 M8.out.2.2.2.2.1 MP8.out HL7.out.hh.1 HL7.out.hh.2.2.1 5 (.slice A8 (y.syms.length + 1) c8) rfl)
            have KQ9 := Aside0.mk (KQ8.out.trans (KeepQ.put M8.out.2.1 (by simp) 5 (.slice A8 (y.syms.length + 1) c8)))
            clear hHeld
            go_wp2
            have P1 : j + 1 ≤ o.f2.length := hlt
            have P2 : j < 9000000000000000000 := by have := Z.out.1; omega
            have P3 : 0 ≤ ({ { y with th := y.th + 1 } with syms := y.syms ++ [⟨s0, 3, s2 + y.nc⟩] } : LkS).th ∧ ({ { y with th := y.th + 1 } with syms := y.syms ++ [⟨s0, 3, s2 + y.nc⟩] } : LkS).th ≤ x.th + ((j + 1 : Nat) : Int) := by have h1 := HY.out.2.2.2.2.1; have h2 := HY.out.2.2.2.2.2.1; clear n1 n2 n3 n4 n6 n7 n8 n9 n10; dsimp only; omega
            have P4 : ({ { y with th := y.th + 1 } with syms := y.syms ++ [⟨s0, 3, s2 + y.nc⟩] } : LkS).syms.length = x.syms.length + (j + 1) := by have := HY.out.2.2.2.2.2.2; clear n1 n2 n3 n4 n6 n7 n8 n9 n10; simp only [List.length_append, List.length_singleton]; omega
            have FA := Aside0.mk (show laySyms x o.f2 = laySyms { { y with th := y.th + 1 } with syms := y.syms ++ [⟨s0, 3, s2 + y.nc⟩] } (o.f2.drop (j + 1)) by rw [FS.out, laySyms_step NB.out, lay_three])
            have LA := Aside0.mk (HL9.out.up HL9.out.lt (Nat.le_refl _))
            clear n1 n2 n3 n4 n5 n6 n7 n8 n9 n10
            refine round_end (R' := fun v => ∃ (j_1 : Nat) (y_1 : LkS) (v2' : Value), j_1 ≤ o.f2.length ∧ v = .int .i64 j_1 ∧ Aside0 (Lk w (w8.setCell ⟨b, 5, none⟩ (.slice A8 (y.syms.length + 1) c8)) (w8.setCell ⟨b, 5, none⟩ (.slice A8 (y.syms.length + 1) c8)).heap.size b mb y_1 (.slice Ac x.code.length cc) (.slice Ad x.data.length cd) v2' y_1.syms) ∧ Aside0 (KeepQ W1 (w8.setCell ⟨b, 5, none⟩ (.slice A8 (y.syms.length + 1) c8))) ∧ Aside0 (laySyms x o.f2 = laySyms y_1 (o.f2.drop j_1)) ∧ Aside0 (y_1.nc = x.nc ∧ y_1.nd = x.nd ∧ y_1.code = x.code ∧ y_1.data = x.data ∧ 0 ≤ y_1.th ∧ y_1.th ≤ x.th + j_1 ∧ y_1.syms.length = x.syms.length + j_1)) hlt P2 ?_
            exact ⟨j + 1, { { y with th := y.th + 1 } with syms := y.syms ++ [⟨s0, 3, s2 + y.nc⟩] }, .slice A8 (y.syms.length + 1) c8, P1, rfl, LA, KQ9, FA, ⟨HY.out.1, HY.out.2.1, HY.out.2.2.1, HY.out.2.2.2.1, P3.1, P3.2, P4⟩⟩
          case neg =>
            have e3 : (s1 == (3 : Int)) = false := by simp [h3]
            go_wp2
            have ew : wrap64 (s2 + y.nc) = s2 + y.nc := by rw [wrap64_id (by omega) (by omega)]
            refine start_ (n := 10) (S := fun w' => w'.cell? ⟨gs, 2, none⟩ = some (.int .i64 s2) ∧ w'.cell? ⟨b, 0, none⟩ = some (.int .i64 y.nc)) (ds := [9]) #[false, false, false, false, false, false, false, false, false, false] (by kernel_rfl) rfl rfl ⟨(blk_cell (blk_drew BS5.out) 2).trans rfl, (blk_cell (blk_drew HL5.out.obj) 0).trans rfl⟩ (fun hHeld => ?_)
            refine pure_ (i := 0) (N := some 29) (v := ?_) (a' := ?_) #[true, false, false, false, false, false, false, false, false, false] rfl rfl (by kernel_rfl) (fun _ _ _ h => h) (Or.inl ⟨by rfl, ?_⟩) ?_ ?_
            rotate_left
            · intro w'
              go_simp
              with_reducible rfl
            rotate_left
            · simp only [Act.put, List.setIfInBounds_toArray, List.set_cons_zero, List.set_cons_succ, i64_w, i32_w]
              rfl
            refine pure_ (i := 2) (N := some 31) (v := ?_) (a' := ?_) #[true, false, true, false, false, false, false, false, false, false] rfl rfl (by kernel_rfl) (fun _ _ _ h => h) (Or.inl ⟨by rfl, ?_⟩) ?_ ?_
            rotate_left
            · intro w'
              go_simp
              with_reducible rfl
            rotate_left
            · simp only [Act.put, List.setIfInBounds_toArray, List.set_cons_zero, List.set_cons_succ, i64_w, i32_w]
              rfl
            refine pure_ (i := 3) (N := some 32) (v := ?_) (a' := ?_) #[true, false, true, true, false, false, false, false, false, false] rfl rfl (by kernel_rfl) (fun _ _ _ h => h) (Or.inl ⟨by rfl, ?_⟩) ?_ ?_
            rotate_left
            · intro w'
              go_simp
              with_reducible rfl
            rotate_left
            · simp only [Act.put, List.setIfInBounds_toArray, List.set_cons_zero, List.set_cons_succ, i64_w, i32_w]
              rfl
            refine pure_ (i := 4) (N := some 33) (v := ?_) (a' := ?_) #[true, false, true, true, true, false, false, false, false, false] rfl rfl (by kernel_rfl) (fun _ _ _ h => h) (Or.inl ⟨by rfl, ?_⟩) ?_ ?_
            rotate_left
            · intro w'
              go_simp
              with_reducible rfl
            rotate_left
            · simp only [Act.put, List.setIfInBounds_toArray, List.set_cons_zero, List.set_cons_succ, i64_w, i32_w]
              rfl
            refine pure_ (i := 5) (N := some 34) (v := ?_) (a' := ?_) #[true, false, true, true, true, true, false, false, false, false] rfl rfl (by kernel_rfl) (fun _ _ _ h => h) (Or.inl ⟨by rfl, ?_⟩) ?_ ?_
            rotate_left
            · intro w'
              go_simp
              with_reducible rfl
            rotate_left
            · simp only [Act.put, List.setIfInBounds_toArray, List.set_cons_zero, List.set_cons_succ, i64_w, i32_w]
              rfl
            refine take_ (i := 1) (N := some 30) (v := ?_) (a' := ?_) #[true, true, true, true, true, true, false, false, false, false] rfl rfl (by kernel_rfl) (fun _ _ _ h => h) (Or.inl ⟨by rfl, ?_⟩) hHeld ?_ ?_
            rotate_left
            · rintro w' ⟨s0, s1⟩
              go_simp
              with_reducible rfl
            rotate_left
            · simp only [Act.put, List.setIfInBounds_toArray, List.set_cons_zero, List.set_cons_succ, i64_w, i32_w]
              rfl
            refine take_ (i := 6) (N := some 35) (v := ?_) (a' := ?_) #[true, true, true, true, true, true, true, false, false, false] rfl rfl (by kernel_rfl) (fun _ _ _ h => h) (Or.inl ⟨by rfl, ?_⟩) hHeld ?_ ?_
            rotate_left
            · rintro w' ⟨s0, s1⟩
              go_simp
              with_reducible rfl
            rotate_left
            · simp only [Act.put, List.setIfInBounds_toArray, List.set_cons_zero, List.set_cons_succ, i64_w, i32_w]
              rfl
            refine pure_ (i := 7) (N := some 36) (v := ?_) (a' := ?_) #[true, true, true, true, true, true, true, true, false, false] rfl rfl (by kernel_rfl) (fun _ _ _ h => h) (Or.inl ⟨by rfl, ?_⟩) ?_ ?_
            rotate_left
            · intro w'
              go_simp
              with_reducible rfl
            rotate_left
            · simp only [Act.put, List.setIfInBounds_toArray, List.set_cons_zero, List.set_cons_succ, i64_w, i32_w]
              rfl
            refine pure_ (i := 8) (N := some 37) (v := ?_) (a' := ?_) #[true, true, true, true, true, true, true, true, true, false] rfl rfl (by kernel_rfl) (fun _ _ _ h => h) (Or.inl ⟨by rfl, ?_⟩) ?_ ?_
            rotate_left
            · intro w'
              go_simp
              with_reducible rfl
            rotate_left
            · simp only [Act.put, List.setIfInBounds_toArray, List.set_cons_zero, List.set_cons_succ, i64_w, i32_w]
              rfl
            refine last_ (i := 9) (N := none) #[true, true, true, true, true, true, true, true, true, true] rfl rfl (by kernel_rfl) (by decide) (fun K hK => ?_)
            refine skip_ (w1 := ?_) (by rfl) rfl ?_ ?_
            rotate_left
            · go_simp
              rfl
            refine hK.out _ _ ?_
            clear hK K
            refine done_ (by kernel_rfl) ?_
            have HL6 := Aside0.mk ((HL5.out.far (p := ⟨gs, 2, none⟩) (Nat.le_refl _) (.int .i64 (s2 + y.nc))).next (below_drew1 (Below.refl _ _)))
            have KQ6 := Aside0.mk (KQ5.out.trans (KeepQ.put BS5.out (by simp) 2 (.int .i64 (s2 + y.nc))).drew)
            have BS6 := Aside0.mk (blk_drew (blk_put BS5.out 2 (.int .i64 (s2 + y.nc)) (cs' := #[.string s0, .int .i64 s1, .int .i64 (s2 + y.nc)]) rfl))
            clear hHeld HL5 KQ5 BS5 ew fz
            generalize (w5.setCell ⟨gs, 2, none⟩ (.int .i64 (s2 + y.nc))).drew = w6 at *
            obtain ⟨n6, D6, hm6, hf6, hl6⟩ := HL6.out.mp
            have HM6 := Aside0.mk hm6
            have N6 := Aside0.mk (show n6 < maxLen by simp only [maxLen]; omega)
            have K6 := Aside0.mk (WideMaps.keyOf_string_mk Try.underlying9 (show s0.size ≤ maxLen by simp only [maxLen]; omega))
            clear ks1
            go_wp2
            refine start_ (n := 8) (S := fun w' => w'.cell? ⟨b, 6, none⟩ = some (.map (some mb)) ∧ w'.cell? ⟨gs, 0, none⟩ = some (.string s0) ∧ w'.cell? ⟨gs, 1, none⟩ = some (.int .i64 s1) ∧ w'.cell? ⟨gs, 2, none⟩ = some (.int .i64 (s2 + y.nc))) (ds := [7]) #[false, false, false, false, false, false, false, false] (by kernel_rfl) rfl rfl ⟨(blk_cell (blk_drew HL6.out.obj) 6).trans rfl, (blk_cell (blk_drew BS6.out) 0).trans rfl, (blk_cell (blk_drew BS6.out) 1).trans rfl, (blk_cell (blk_drew BS6.out) 2).trans rfl⟩ (fun hHeld => ?_)
            refine pure_ (i := 0) (N := some 67) (v := ?_) (a' := ?_) #[true, false, false, false, false, false, false, false] rfl rfl (by kernel_rfl) (fun _ _ _ h => h) (Or.inl ⟨by rfl, ?_⟩) ?_ ?_
            rotate_left
            · intro w'
              go_simp
              with_reducible rfl
            rotate_left
            · simp only [Act.put, List.setIfInBounds_toArray, List.set_cons_zero, List.set_cons_succ, i64_w, i32_w]
              rfl
            refine pure_ (i := 1) (N := some 68) (v := ?_) (a' := ?_) #[true, true, false, false, false, false, false, false] rfl rfl (by kernel_rfl) (fun _ _ _ h => h) (Or.inl ⟨by rfl, ?_⟩) ?_ ?_
            rotate_left
            · intro w'
              go_simp
              with_reducible rfl
            rotate_left
            · simp only [Act.put, List.setIfInBounds_toArray, List.set_cons_zero, List.set_cons_succ, i64_w, i32_w]
              rfl
            refine pure_ (i := 2) (N := some 69) (v := ?_) (a' := ?_) #[true, true, true, false, false, false, false, false] rfl rfl (by kernel_rfl) (fun _ _ _ h => h) (Or.inl ⟨by rfl, ?_⟩) ?_ ?_
            rotate_left
            · intro w'
              go_simp
              with_reducible rfl
            rotate_left
            · simp only [Act.put, List.setIfInBounds_toArray, List.set_cons_zero, List.set_cons_succ, i64_w, i32_w]
              rfl
            refine pure_ (i := 4) (N := some 71) (v := ?_) (a' := ?_) #[true, true, true, false, true, false, false, false] rfl rfl (by kernel_rfl) (fun _ _ _ h => h) (Or.inl ⟨by rfl, ?_⟩) ?_ ?_
            rotate_left
            · intro w'
              go_simp
              with_reducible rfl
            rotate_left
            · simp only [Act.put, List.setIfInBounds_toArray, List.set_cons_zero, List.set_cons_succ, i64_w, i32_w]
              rfl
            refine take_ (i := 3) (N := some 70) (v := ?_) (a' := ?_) #[true, true, true, true, true, false, false, false] rfl rfl (by kernel_rfl) (fun _ _ _ h => h) (Or.inl ⟨by rfl, ?_⟩) hHeld ?_ ?_
            rotate_left
            · rintro w' ⟨s0, s1, s2, s3⟩
              go_simp
              with_reducible rfl
            rotate_left
            · simp only [Act.put, List.setIfInBounds_toArray, List.set_cons_zero, List.set_cons_succ, i64_w, i32_w]
              rfl
            refine take_ (i := 5) (N := some 72) (v := ?_) (a' := ?_) #[true, true, true, true, true, true, false, false] rfl rfl (by kernel_rfl) (fun _ _ _ h => h) (Or.inl ⟨by rfl, ?_⟩) hHeld ?_ ?_
            rotate_left
            · rintro w' ⟨s0, s1, s2, s3⟩
              go_simp
              with_reducible rfl
            rotate_left
            · simp only [Act.put, List.setIfInBounds_toArray, List.set_cons_zero, List.set_cons_succ, i64_w, i32_w]
              rfl
            refine take_ (i := 6) (N := some 73) (v := ?_) (a' := ?_) #[true, true, true, true, true, true, true, false] rfl rfl (by kernel_rfl) (fun _ _ _ h => h) (Or.inl ⟨by rfl, ?_⟩) hHeld ?_ ?_
            rotate_left
            · rintro w' ⟨s0, s1, s2, s3⟩
              go_simp
              with_reducible rfl
            rotate_left
            · simp only [Act.put, List.setIfInBounds_toArray, List.set_cons_zero, List.set_cons_succ, i64_w, i32_w]
              rfl
            refine last_ (i := 7) (N := none) #[true, true, true, true, true, true, true, true] rfl rfl (by kernel_rfl) (by decide) (fun K hK => ?_)
            refine map_step (by rfl) (.tmp 70) (.tmp 72) (.tmp 73) 54 36 rfl rfl sym_law9 Try.underlying54 rfl HM6.out.drew N6.out rfl rfl (kl := symKey s0) K6.out (d := symT ⟨s0, s1, s2 + y.nc⟩) (ps := []) rfl ?_
            intro w7 hm7 hg7
            refine hK.out _ _ ?_
            clear hK K
            refine done_ (by kernel_rfl) ?_
            have HL7 := Aside0.mk ((HL6.out.next (below_drew1 (Below.refl _ _))).store (s := ⟨s0, s1, s2 + y.nc⟩) (by exact NB.out) HM6.out.drew hf6 hl6 hm7 hg7)
            have KQ7 := Aside0.mk (KQ6.out.drew.trans (KeepQ.of_map (w := w6.drew) HM6.out.drew hg7))
            have BS7 := Aside0.mk (blk_grown (blk_drew BS6.out) hg7 (by
              intro e
              injection e with e
              obtain ⟨es, clock, hb', _⟩ := HM6.out
              have := BS6.out
              rw [e, hb'] at this
              cases this))
            clear hHeld HM6 N6 K6 hm6 hf6 hl6 hm7 hg7 HL6 KQ6 BS6
            go_wp2
            refine start_ (n := 13) (S := fun w' => w'.cell? ⟨b, 5, none⟩ = some (.slice Ay y.syms.length cy) ∧ w'.cell? ⟨gs, 0, none⟩ = some (.string s0) ∧ w'.cell? ⟨gs, 1, none⟩ = some (.int .i64 s1) ∧ w'.cell? ⟨gs, 2, none⟩ = some (.int .i64 (s2 + y.nc))) (ds := [12]) #[false, false, false, false, false, false, false, false, false, false, false, false, false] (by kernel_rfl) rfl rfl ⟨(blk_cell (blk_drew HL7.out.obj) 5).trans rfl, (blk_cell (blk_drew BS7.out) 0).trans rfl, (blk_cell (blk_drew BS7.out) 1).trans rfl, (blk_cell (blk_drew BS7.out) 2).trans rfl⟩ (fun hHeld => ?_)
            refine pure_ (i := 0) (N := some 74) (v := ?_) (a' := ?_) #[true, false, false, false, false, false, false, false, false, false, false, false, false] rfl rfl (by kernel_rfl) (fun _ _ _ h => h) (Or.inl ⟨by rfl, ?_⟩) ?_ ?_
            rotate_left
            · intro w'
              go_simp
              with_reducible rfl
            rotate_left
            · simp only [Act.put, List.setIfInBounds_toArray, List.set_cons_zero, List.set_cons_succ, i64_w, i32_w]
              rfl
            refine pure_ (i := 1) (N := some 75) (v := ?_) (a' := ?_) #[true, true, false, false, false, false, false, false, false, false, false, false, false] rfl rfl (by kernel_rfl) (fun _ _ _ h => h) (Or.inl ⟨by rfl, ?_⟩) ?_ ?_
            rotate_left
            · intro w'
              go_simp
              with_reducible rfl
            rotate_left
            · simp only [Act.put, List.setIfInBounds_toArray, List.set_cons_zero, List.set_cons_succ, i64_w, i32_w]
              rfl
            refine pure_ (i := 2) (N := some 76) (v := ?_) (a' := ?_) #[true, true, true, false, false, false, false, false, false, false, false, false, false] rfl rfl (by kernel_rfl) (fun _ _ _ h => h) (Or.inl ⟨by rfl, ?_⟩) ?_ ?_
            rotate_left
            · intro w'
              go_simp
              with_reducible rfl
            rotate_left
            · simp only [Act.put, List.setIfInBounds_toArray, List.set_cons_zero, List.set_cons_succ, i64_w, i32_w]
              rfl
            refine pure_ (i := 3) (N := some 77) (v := ?_) (a' := ?_) #[true, true, true, true, false, false, false, false, false, false, false, false, false] rfl rfl (by kernel_rfl) (fun _ _ _ h => h) (Or.inl ⟨by rfl, ?_⟩) ?_ ?_
            rotate_left
            · intro w'
              go_simp
              with_reducible rfl
            rotate_left
            · simp only [Act.put, List.setIfInBounds_toArray, List.set_cons_zero, List.set_cons_succ, i64_w, i32_w]
              rfl
            refine pure_ (i := 4) (N := some 78) (v := ?_) (a' := ?_) #[true, true, true, true, true, false, false, false, false, false, false, false, false] rfl rfl (by kernel_rfl) (fun _ _ _ h => h) (Or.inl ⟨by rfl, ?_⟩) ?_ ?_
            rotate_left
            · intro w'
              go_simp
              with_reducible rfl
            rotate_left
            · simp only [Act.put, List.setIfInBounds_toArray, List.set_cons_zero, List.set_cons_succ, i64_w, i32_w]
              rfl
            refine take_ (i := 5) (N := some 79) (v := ?_) (a' := ?_) #[true, true, true, true, true, true, false, false, false, false, false, false, false] rfl rfl (by kernel_rfl) (fun _ _ _ h => h) (Or.inl ⟨by rfl, ?_⟩) hHeld ?_ ?_
            rotate_left
            · rintro w' ⟨s0, s1, s2, s3⟩
              go_simp
              with_reducible rfl
            rotate_left
            · simp only [Act.put, List.setIfInBounds_toArray, List.set_cons_zero, List.set_cons_succ, i64_w, i32_w]
              rfl
            refine take_ (i := 6) (N := some 80) (v := ?_) (a' := ?_) #[true, true, true, true, true, true, true, false, false, false, false, false, false] rfl rfl (by kernel_rfl) (fun _ _ _ h => h) (Or.inl ⟨by rfl, ?_⟩) hHeld ?_ ?_
            rotate_left
            · rintro w' ⟨s0, s1, s2, s3⟩
              go_simp
              with_reducible rfl
            rotate_left
            · simp only [Act.put, List.setIfInBounds_toArray, List.set_cons_zero, List.set_cons_succ, i64_w, i32_w]
              rfl
            refine one_ (i := 7) (N := some 81) #[true, true, true, true, true, true, true, true, false, false, false, false, false] rfl rfl (by kernel_rfl) (by decide) (fun K hK => ?_)
            refine value_ (w1 := w7.drew.alloc (.cells #[.string s0, .int .i64 s1, .int .i64 (s2 + y.nc)] 36)) (v := .slice (some ⟨w7.drew.heap.size, 0, none⟩) 1 1) (by rfl) rfl ?_ ?_
            · go_simp
            refine hK.out _ _ ⟨(blk_cell (blk_alloc (blk_drew HL7.out.obj) _) 5).trans rfl, (blk_cell (blk_alloc (blk_drew BS7.out) _) 0).trans rfl, (blk_cell (blk_alloc (blk_drew BS7.out) _) 1).trans rfl, (blk_cell (blk_alloc (blk_drew BS7.out) _) 2).trans rfl⟩ (fun hHeld => ?_)
            clear hK K
            refine norm_ (a' := ?_) ?_ ?_
            rotate_left
            · show Act.put _ (some 81) _ = _
              simp only [Act.put, List.setIfInBounds_toArray, List.set_cons_zero, List.set_cons_succ, i64_w, i32_w]
              rfl
            refine one_ (i := 8) (N := some 82) #[true, true, true, true, true, true, true, true, true, false, false, false, false] rfl rfl (by kernel_rfl) (by decide) (fun K hK => ?_)
            refine Kd.R_append_step k36 w.heap.size (by rfl) (.tmp 79) (.tmp 81) 27 36 (.agg #[.string ⟨#[]⟩, .int .i64 0, .int .i64 0]) 32 rfl Try.underlying27 info36 rfl (by decide) (by omega) (.slice Ay y.syms.length cy) y.syms ⟨s0, s1, s2 + y.nc⟩ [.string s0, .int .i64 s1, .int .i64 (s2 + y.nc)] (fun _ => True) (fun _ => False) rfl (by first | (go_simp; done) | (go_simp; rfl)) (k36_mkM _ _ _ ⟨s0, s1, s2 + y.nc⟩) (fun _ hk => hk.elim) (fun _ _ => trivial) (R_all (Kd.R_below HL7.out.r2 (below_drew1 (Below.refl _ _)))) (below_drew1 HL7.out.below) HL7.out.below.size (by omega) ?_
            intro v8 w8 ho8 hb8 hg8 _
            have M8 := Aside0.mk ((HL7.out.next (below_drew1 (Below.refl _ _))).more2 ho8 hb8 hg8)
            have KQ8 := Aside0.mk (KQ7.out.drew.trans (KeepQ.of_grown (w := w7.drew) (Kd.R_below HL7.out.r2 (below_drew1 (Below.refl _ _))) hg8 (by simp)))
            have BS8 := Aside0.mk (show w8.heap[gs]? = _ from blk_grown (blk_drew BS7.out) hg8 (fun e => by have h1 := HL7.out.r2.1 gs e.symm; omega))
            obtain ⟨A8, c8, rfl, hc8, -⟩ := Kd.R_reads ho8
            have MP8 := Aside0.mk M8.out.2.2.2.2.2
            simp only [List.length_append, List.length_cons, List.length_nil, Nat.zero_add] at M8
            have fz8 := blk_frozen M8.out.2.1 5
            clear ho8 hb8 hg8
            refine hK.out _ _ ⟨(blk_cell (M8.out.2.1) 5).trans rfl, (blk_cell (BS8.out) 0).trans rfl, (blk_cell (BS8.out) 1).trans rfl, (blk_cell (BS8.out) 2).trans rfl⟩ (fun hHeld => ?_)
            clear hK K
            refine norm_ (a' := ?_) ?_ ?_
            rotate_left
            · show Act.put _ (some 82) _ = _
              simp only [Act.put, List.setIfInBounds_toArray, List.set_cons_zero, List.set_cons_succ, i64_w, i32_w]
              rfl
            refine pure_ (i := 9) (N := some 83) (v := ?_) (a' := ?_) #[true, true, true, true, true, true, true, true, true, true, false, false, false] rfl rfl (by kernel_rfl) (fun _ _ _ h => h) (Or.inl ⟨by rfl, ?_⟩) ?_ ?_
            rotate_left
            · intro w'
              go_simp
              with_reducible rfl
            rotate_left
            · simp only [Act.put, List.setIfInBounds_toArray, List.set_cons_zero, List.set_cons_succ, i64_w, i32_w]
              rfl
            refine pure_ (i := 10) (N := some 84) (v := ?_) (a' := ?_) #[true, true, true, true, true, true, true, true, true, true, true, false, false] rfl rfl (by kernel_rfl) (fun _ _ _ h => h) (Or.inl ⟨by rfl, ?_⟩) ?_ ?_
            rotate_left
            · intro w'
              go_simp
              with_reducible rfl
            rotate_left
            · simp only [Act.put, List.setIfInBounds_toArray, List.set_cons_zero, List.set_cons_succ, i64_w, i32_w]
              rfl
            refine pure_ (i := 11) (N := some 85) (v := ?_) (a' := ?_) #[true, true, true, true, true, true, true, true, true, true, true, true, false] rfl rfl (by kernel_rfl) (fun _ _ _ h => h) (Or.inl ⟨by rfl, ?_⟩) ?_ ?_
            rotate_left
            · intro w'
              go_simp
              with_reducible rfl
            rotate_left
            · simp only [Act.put, List.setIfInBounds_toArray, List.set_cons_zero, List.set_cons_succ, i64_w, i32_w]
              rfl
            refine last_ (i := 12) (N := none) #[true, true, true, true, true, true, true, true, true, true, true, true, true] rfl rfl (by kernel_rfl) (by decide) (fun K hK => ?_)
            refine skip_ (w1 := ?_) (by rfl) rfl ?_ ?_
            rotate_left
            · go_simp
              rfl
            refine hK.out _ _ ?_
            clear hK K
            refine done_ (by kernel_rfl) ?_
            have HL9 := Aside0.mk (Lk.build (x' := { y with syms := y.syms ++ [⟨s0, s1, s2 + y.nc⟩] }) M8.out.1 M8.out.2.1 M8.out.2.2.1 M8.out.2.2.2.1 M8.out.2.2.2.2.1 MP8.out HL7.out.hh.1 HL7.out.hh.2.2.1 5 (.slice A8 (y.syms.length + 1) c8) rfl)
            have KQ9 := Aside0.mk (KQ8.out.trans (KeepQ.put M8.out.2.1 (by simp) 5 (.slice A8 (y.syms.length + 1) c8)))
            clear hHeld
            go_wp2
            have P1 : j + 1 ≤ o.f2.length := hlt
            have P2 : j < 9000000000000000000 := by have := Z.out.1; omega
            have P3 : 0 ≤ ({ y with syms := y.syms ++ [⟨s0, s1, s2 + y.nc⟩] } : LkS).th ∧ ({ y with syms := y.syms ++ [⟨s0, s1, s2 + y.nc⟩] } : LkS).th ≤ x.th + ((j + 1 : Nat) : Int) := by have h1 := HY.out.2.2.2.2.1; have h2 := HY.out.2.2.2.2.2.1; clear n1 n2 n3 n4 n6 n7 n8 n9 n10; dsimp only; omega
            have P4 : ({ y with syms := y.syms ++ [⟨s0, s1, s2 + y.nc⟩] } : LkS).syms.length = x.syms.length + (j + 1) := by have := HY.out.2.2.2.2.2.2; clear n1 n2 n3 n4 n6 n7 n8 n9 n10; simp only [List.length_append, List.length_singleton]; omega
            have FA := Aside0.mk (show laySyms x o.f2 = laySyms { y with syms := y.syms ++ [⟨s0, s1, s2 + y.nc⟩] } (o.f2.drop (j + 1)) by rw [FS.out, laySyms_step NB.out, lay_else h2 h3])
            have LA := Aside0.mk (HL9.out.up HL9.out.lt (Nat.le_refl _))
            clear n1 n2 n3 n4 n5 n6 n7 n8 n9 n10
            refine round_end (R' := fun v => ∃ (j_1 : Nat) (y_1 : LkS) (v2' : Value), j_1 ≤ o.f2.length ∧ v = .int .i64 j_1 ∧ Aside0 (Lk w (w8.setCell ⟨b, 5, none⟩ (.slice A8 (y.syms.length + 1) c8)) (w8.setCell ⟨b, 5, none⟩ (.slice A8 (y.syms.length + 1) c8)).heap.size b mb y_1 (.slice Ac x.code.length cc) (.slice Ad x.data.length cd) v2' y_1.syms) ∧ Aside0 (KeepQ W1 (w8.setCell ⟨b, 5, none⟩ (.slice A8 (y.syms.length + 1) c8))) ∧ Aside0 (laySyms x o.f2 = laySyms y_1 (o.f2.drop j_1)) ∧ Aside0 (y_1.nc = x.nc ∧ y_1.nd = x.nd ∧ y_1.code = x.code ∧ y_1.data = x.data ∧ 0 ≤ y_1.th ∧ y_1.th ≤ x.th + j_1 ∧ y_1.syms.length = x.syms.length + j_1)) hlt P2 ?_
            exact ⟨j + 1, { y with syms := y.syms ++ [⟨s0, s1, s2 + y.nc⟩] }, .slice A8 (y.syms.length + 1) c8, P1, rfl, LA, KQ9, FA, ⟨HY.out.1, HY.out.2.1, HY.out.2.2.1, HY.out.2.2.2.1, P3.1, P3.2, P4⟩⟩
    case neg =>
      obtain rfl : j = o.f2.length := by omega
      have FS := Aside0.mk (show laySyms x o.f2 = some y by rw [HF.out, List.drop_length]; rfl)
      have hrs := Aside0.mk (show res = some { y with code := y.code ++ bytesOf o.f0, data := y.data ++ o.f1, nc := (y.code.length : Int) + o.f0.size, nd := (y.data.length : Int) + o.f1.length } by rw [HRES.out]; unfold layO; rw [FS.out]; rfl)
      have BO := Aside0.mk (KQ.out.2 _ _ _ _ BO0.out (by decide))
      have yc := Aside0.mk (show y.code.length ≤ 1048576 ∧ y.data.length ≤ 1048576 ∧ o.f0.size ≤ 65536 ∧ o.f1.length ≤ 4096 ∧ y.code.length = x.code.length ∧ y.data.length = x.data.length by
        have hsy := HY.out
        have hxx := HX.out
        have hzz := Z.out
        unfold LkSmall at hxx
        rw [hsy.2.2.1, hsy.2.2.2.1]
        omega)
      clear HF FS HRES
      go_wp2
      refine start_ (n := 11) (S := fun w' => w'.cell? ⟨b, 2, none⟩ = some (.slice Ac x.code.length cc) ∧ w'.cell? ⟨g0, 0, none⟩ = some (.string o.f0)) (ds := [10]) #[false, false, false, false, false, false, false, false, false, false, false] (by kernel_rfl) rfl rfl ⟨(blk_cell (blk_drew HL.out.obj) 2).trans rfl, (blk_cell (blk_drew BO.out) 0).trans rfl⟩ (fun hHeld => ?_)
      refine pure_ (i := 0) (N := some 87) (v := ?_) (a' := ?_) #[true, false, false, false, false, false, false, false, false, false, false] rfl rfl (by kernel_rfl) (fun _ _ _ h => h) (Or.inl ⟨by rfl, ?_⟩) ?_ ?_
      rotate_left
      · intro w'
        go_simp
        with_reducible rfl
      rotate_left
      · simp only [Act.put, List.setIfInBounds_toArray, List.set_cons_zero, List.set_cons_succ, i64_w, i32_w]
        rfl
      refine pure_ (i := 1) (N := some 88) (v := ?_) (a' := ?_) #[true, true, false, false, false, false, false, false, false, false, false] rfl rfl (by kernel_rfl) (fun _ _ _ h => h) (Or.inl ⟨by rfl, ?_⟩) ?_ ?_
      rotate_left
      · intro w'
        go_simp
        with_reducible rfl
      rotate_left
      · simp only [Act.put, List.setIfInBounds_toArray, List.set_cons_zero, List.set_cons_succ, i64_w, i32_w]
        rfl
      refine pure_ (i := 2) (N := some 89) (v := ?_) (a' := ?_) #[true, true, true, false, false, false, false, false, false, false, false] rfl rfl (by kernel_rfl) (fun _ _ _ h => h) (Or.inl ⟨by rfl, ?_⟩) ?_ ?_
      rotate_left
      · intro w'
        go_simp
        with_reducible rfl
      rotate_left
      · simp only [Act.put, List.setIfInBounds_toArray, List.set_cons_zero, List.set_cons_succ, i64_w, i32_w]
        rfl
      refine pure_ (i := 3) (N := some 90) (v := ?_) (a' := ?_) #[true, true, true, true, false, false, false, false, false, false, false] rfl rfl (by kernel_rfl) (fun _ _ _ h => h) (Or.inl ⟨by rfl, ?_⟩) ?_ ?_
      rotate_left
      · intro w'
        go_simp
        with_reducible rfl
      rotate_left
      · simp only [Act.put, List.setIfInBounds_toArray, List.set_cons_zero, List.set_cons_succ, i64_w, i32_w]
        rfl
      refine pure_ (i := 5) (N := some 92) (v := ?_) (a' := ?_) #[true, true, true, true, false, true, false, false, false, false, false] rfl rfl (by kernel_rfl) (fun _ _ _ h => h) (Or.inl ⟨by rfl, ?_⟩) ?_ ?_
      rotate_left
      · intro w'
        go_simp
        with_reducible rfl
      rotate_left
      · simp only [Act.put, List.setIfInBounds_toArray, List.set_cons_zero, List.set_cons_succ, i64_w, i32_w]
        rfl
      refine take_ (i := 4) (N := some 91) (v := ?_) (a' := ?_) #[true, true, true, true, true, true, false, false, false, false, false] rfl rfl (by kernel_rfl) (fun _ _ _ h => h) (Or.inl ⟨by rfl, ?_⟩) hHeld ?_ ?_
      rotate_left
      · rintro w' ⟨s0, s1⟩
        go_simp
        with_reducible rfl
      rotate_left
      · simp only [Act.put, List.setIfInBounds_toArray, List.set_cons_zero, List.set_cons_succ, i64_w, i32_w]
        rfl
      refine take_ (i := 6) (N := some 93) (v := ?_) (a' := ?_) #[true, true, true, true, true, true, true, false, false, false, false] rfl rfl (by kernel_rfl) (fun _ _ _ h => h) (Or.inl ⟨by rfl, ?_⟩) hHeld ?_ ?_
      rotate_left
      · rintro w' ⟨s0, s1⟩
        go_simp
        with_reducible rfl
      rotate_left
      · simp only [Act.put, List.setIfInBounds_toArray, List.set_cons_zero, List.set_cons_succ, i64_w, i32_w]
        rfl
      refine one_ (i := 7) (N := some 94) #[true, true, true, true, true, true, true, true, false, false, false] rfl rfl (by kernel_rfl) (by decide) (fun K hK => ?_)
      refine str_step w.heap.size (by rfl) (.tmp 91) (.tmp 93) 57 9 5 rfl Try.underlying57 Try.underlying9 info5 (.slice Ac x.code.length cc) y.code o.f0 rfl rfl (Kd.R_below HL.out.rc (below_drew1 (Below.refl _ _))) (below_drew1 HL.out.below) HL.out.below.size (by have := yc.out; omega) ?_
      intro v8 w8 ho8 hb8 hg8
      have M8 := Aside0.mk ((HL.out.next (below_drew1 (Below.refl _ _))).moreC ho8 hb8 hg8)
      have KQ8 := Aside0.mk (KQ.out.drew.trans (KeepQ.of_grown (w := wr.drew) (Kd.R_below HL.out.rc (below_drew1 (Below.refl _ _))) hg8 (by simp)))
      have BO8 := Aside0.mk (KQ8.out.2 _ _ _ _ BO0.out (by decide))
      obtain ⟨A8, c8, rfl, hc8, -⟩ := Kd.R_reads ho8
      simp only [List.length_append] at M8
      have fz8 := blk_frozen M8.out.2.1 2
      clear ho8 hb8 hg8
      refine hK.out _ _ ⟨(blk_cell (M8.out.2.1) 2).trans rfl, (blk_cell (BO8.out) 0).trans rfl⟩ (fun hHeld => ?_)
      clear hK K
      refine norm_ (a' := ?_) ?_ ?_
      rotate_left
      · show Act.put _ (some 94) _ = _
        simp only [Act.put, List.setIfInBounds_toArray, List.set_cons_zero, List.set_cons_succ, i64_w, i32_w]
        rfl
      refine pure_ (i := 8) (N := some 95) (v := ?_) (a' := ?_) #[true, true, true, true, true, true, true, true, true, false, false] rfl rfl (by kernel_rfl) (fun _ _ _ h => h) (Or.inl ⟨by rfl, ?_⟩) ?_ ?_
      rotate_left
      · intro w'
        go_simp
        with_reducible rfl
      rotate_left
      · simp only [Act.put, List.setIfInBounds_toArray, List.set_cons_zero, List.set_cons_succ, i64_w, i32_w]
        rfl
      refine pure_ (i := 9) (N := some 96) (v := ?_) (a' := ?_) #[true, true, true, true, true, true, true, true, true, true, false] rfl rfl (by kernel_rfl) (fun _ _ _ h => h) (Or.inl ⟨by rfl, ?_⟩) ?_ ?_
      rotate_left
      · intro w'
        go_simp
        with_reducible rfl
      rotate_left
      · simp only [Act.put, List.setIfInBounds_toArray, List.set_cons_zero, List.set_cons_succ, i64_w, i32_w]
        rfl
      refine last_ (i := 10) (N := none) #[true, true, true, true, true, true, true, true, true, true, true] rfl rfl (by kernel_rfl) (by decide) (fun K hK => ?_)
      refine skip_ (w1 := ?_) (by rfl) rfl ?_ ?_
      rotate_left
      · go_simp
        rfl
      refine hK.out _ _ ?_
      clear hK K
      refine done_ (by kernel_rfl) ?_
      have HL9 := Aside0.mk (Lk.build (x' := { y with code := y.code ++ bytesOf o.f0 }) M8.out.1 M8.out.2.1 M8.out.2.2.1 M8.out.2.2.2.1 M8.out.2.2.2.2.1 M8.out.2.2.2.2.2 HL.out.hh.1 HL.out.hh.2.2.1 2 (.slice A8 (y.code.length + (bytesOf o.f0).length) c8) rfl)
      have KQ9 := Aside0.mk (KQ8.out.trans (KeepQ.put M8.out.2.1 (by simp) 2 (.slice A8 (y.code.length + (bytesOf o.f0).length) c8)))
      have BO9 := Aside0.mk (KQ9.out.2 _ _ _ _ BO0.out (by decide))
      clear hHeld M8 KQ8 BO8 BO HL KQ fz8
      generalize w8.setCell ⟨b, 2, none⟩ (.slice A8 (y.code.length + (bytesOf o.f0).length) c8) = w9 at *
      go_wp2
      refine start_ (n := 13) (S := fun w' => w'.cell? ⟨b, 4, none⟩ = some (.slice Ad x.data.length cd) ∧ w'.cell? ⟨g0, 1, none⟩ = some (.slice A1 o.f1.length c1)) (ds := [12]) #[false, false, false, false, false, false, false, false, false, false, false, false, false] (by kernel_rfl) rfl rfl ⟨(blk_cell (blk_drew HL9.out.obj) 4).trans rfl, (blk_cell (blk_drew BO9.out) 1).trans rfl⟩ (fun hHeld => ?_)
      refine pure_ (i := 0) (N := some 97) (v := ?_) (a' := ?_) #[true, false, false, false, false, false, false, false, false, false, false, false, false] rfl rfl (by kernel_rfl) (fun _ _ _ h => h) (Or.inl ⟨by rfl, ?_⟩) ?_ ?_
      rotate_left
      · intro w'
        go_simp
        with_reducible rfl
      rotate_left
      · simp only [Act.put, List.setIfInBounds_toArray, List.set_cons_zero, List.set_cons_succ, i64_w, i32_w]
        rfl
      refine pure_ (i := 1) (N := some 98) (v := ?_) (a' := ?_) #[true, true, false, false, false, false, false, false, false, false, false, false, false] rfl rfl (by kernel_rfl) (fun _ _ _ h => h) (Or.inl ⟨by rfl, ?_⟩) ?_ ?_
      rotate_left
      · intro w'
        go_simp
        with_reducible rfl
      rotate_left
      · simp only [Act.put, List.setIfInBounds_toArray, List.set_cons_zero, List.set_cons_succ, i64_w, i32_w]
        rfl
      refine pure_ (i := 2) (N := some 99) (v := ?_) (a' := ?_) #[true, true, true, false, false, false, false, false, false, false, false, false, false] rfl rfl (by kernel_rfl) (fun _ _ _ h => h) (Or.inl ⟨by rfl, ?_⟩) ?_ ?_
      rotate_left
      · intro w'
        go_simp
        with_reducible rfl
      rotate_left
      · simp only [Act.put, List.setIfInBounds_toArray, List.set_cons_zero, List.set_cons_succ, i64_w, i32_w]
        rfl
      refine pure_ (i := 3) (N := some 100) (v := ?_) (a' := ?_) #[true, true, true, true, false, false, false, false, false, false, false, false, false] rfl rfl (by kernel_rfl) (fun _ _ _ h => h) (Or.inl ⟨by rfl, ?_⟩) ?_ ?_
      rotate_left
      · intro w'
        go_simp
        with_reducible rfl
      rotate_left
      · simp only [Act.put, List.setIfInBounds_toArray, List.set_cons_zero, List.set_cons_succ, i64_w, i32_w]
        rfl
      refine pure_ (i := 4) (N := some 101) (v := ?_) (a' := ?_) #[true, true, true, true, true, false, false, false, false, false, false, false, false] rfl rfl (by kernel_rfl) (fun _ _ _ h => h) (Or.inl ⟨by rfl, ?_⟩) ?_ ?_
      rotate_left
      · intro w'
        go_simp
        with_reducible rfl
      rotate_left
      · simp only [Act.put, List.setIfInBounds_toArray, List.set_cons_zero, List.set_cons_succ, i64_w, i32_w]
        rfl
      refine pure_ (i := 6) (N := some 103) (v := ?_) (a' := ?_) #[true, true, true, true, true, false, true, false, false, false, false, false, false] rfl rfl (by kernel_rfl) (fun _ _ _ h => h) (Or.inl ⟨by rfl, ?_⟩) ?_ ?_
      rotate_left
      · intro w'
        go_simp
        with_reducible rfl
      rotate_left
      · simp only [Act.put, List.setIfInBounds_toArray, List.set_cons_zero, List.set_cons_succ, i64_w, i32_w]
        rfl
      refine take_ (i := 5) (N := some 102) (v := ?_) (a' := ?_) #[true, true, true, true, true, true, true, false, false, false, false, false, false] rfl rfl (by kernel_rfl) (fun _ _ _ h => h) (Or.inl ⟨by rfl, ?_⟩) hHeld ?_ ?_
      rotate_left
      · rintro w' ⟨s0, s1⟩
        go_simp
        with_reducible rfl
      rotate_left
      · simp only [Act.put, List.setIfInBounds_toArray, List.set_cons_zero, List.set_cons_succ, i64_w, i32_w]
        rfl
      refine take_ (i := 7) (N := some 104) (v := ?_) (a' := ?_) #[true, true, true, true, true, true, true, true, false, false, false, false, false] rfl rfl (by kernel_rfl) (fun _ _ _ h => h) (Or.inl ⟨by rfl, ?_⟩) hHeld ?_ ?_
      rotate_left
      · rintro w' ⟨s0, s1⟩
        go_simp
        with_reducible rfl
      rotate_left
      · simp only [Act.put, List.setIfInBounds_toArray, List.set_cons_zero, List.set_cons_succ, i64_w, i32_w]
        rfl
      refine one_ (i := 8) (N := some 105) #[true, true, true, true, true, true, true, true, true, false, false, false, false] rfl rfl (by kernel_rfl) (by decide) (fun K hK => ?_)
      refine Kd.R_append_rows_step (Kd.int .i64) w.heap.size (by rfl) (.tmp 102) (.tmp 104) 26 2 (.int .i64 0) 8 rfl Try.underlying26 info2 rfl (by decide) (by omega) (.slice Ad x.data.length cd) y.data o.f1 A1 o.f1.length c1 (fun _ => True) (fun _ => False) rfl rfl (R_all (Kd.R_below HL9.out.r1 (below_drew1 (Below.refl _ _)))) (Kd.C_below H1.out (below_drew1 HL9.out.below)) (fun _ _ h => h) (fun _ hk => hk.elim) (fun _ _ => trivial) (below_drew1 HL9.out.below) HL9.out.below.size (by have := yc.out; omega) ?_
      intro v10 w10 ho10 hb10 hg10 _
      have M10 := Aside0.mk ((HL9.out.next (below_drew1 (Below.refl _ _))).more1 ho10 hb10 hg10)
      have KQ10 := Aside0.mk (KQ9.out.drew.trans (KeepQ.of_grown (w := w9.drew) (Kd.R_below HL9.out.r1 (below_drew1 (Below.refl _ _))) hg10 (by simp)))
      have BO10 := Aside0.mk (KQ10.out.2 _ _ _ _ BO0.out (by decide))
      obtain ⟨A10, c10, rfl, hc10, -⟩ := Kd.R_reads ho10
      simp only [List.length_append] at M10
      have fz10 := blk_frozen M10.out.2.1 4
      clear ho10 hb10 hg10
      refine hK.out _ _ ⟨(blk_cell (M10.out.2.1) 4).trans rfl, (blk_cell (BO10.out) 1).trans rfl⟩ (fun hHeld => ?_)
      clear hK K
      refine norm_ (a' := ?_) ?_ ?_
      rotate_left
      · show Act.put _ (some 105) _ = _
        simp only [Act.put, List.setIfInBounds_toArray, List.set_cons_zero, List.set_cons_succ, i64_w, i32_w]
        rfl
      refine pure_ (i := 9) (N := some 106) (v := ?_) (a' := ?_) #[true, true, true, true, true, true, true, true, true, true, false, false, false] rfl rfl (by kernel_rfl) (fun _ _ _ h => h) (Or.inl ⟨by rfl, ?_⟩) ?_ ?_
      rotate_left
      · intro w'
        go_simp
        with_reducible rfl
      rotate_left
      · simp only [Act.put, List.setIfInBounds_toArray, List.set_cons_zero, List.set_cons_succ, i64_w, i32_w]
        rfl
      refine pure_ (i := 10) (N := some 107) (v := ?_) (a' := ?_) #[true, true, true, true, true, true, true, true, true, true, true, false, false] rfl rfl (by kernel_rfl) (fun _ _ _ h => h) (Or.inl ⟨by rfl, ?_⟩) ?_ ?_
      rotate_left
      · intro w'
        go_simp
        with_reducible rfl
      rotate_left
      · simp only [Act.put, List.setIfInBounds_toArray, List.set_cons_zero, List.set_cons_succ, i64_w, i32_w]
        rfl
      refine pure_ (i := 11) (N := some 108) (v := ?_) (a' := ?_) #[true, true, true, true, true, true, true, true, true, true, true, true, false] rfl rfl (by kernel_rfl) (fun _ _ _ h => h) (Or.inl ⟨by rfl, ?_⟩) ?_ ?_
      rotate_left
      · intro w'
        go_simp
        with_reducible rfl
      rotate_left
      · simp only [Act.put, List.setIfInBounds_toArray, List.set_cons_zero, List.set_cons_succ, i64_w, i32_w]
        rfl
      refine last_ (i := 12) (N := none) #[true, true, true, true, true, true, true, true, true, true, true, true, true] rfl rfl (by kernel_rfl) (by decide) (fun K hK => ?_)
      refine skip_ (w1 := ?_) (by rfl) rfl ?_ ?_
      rotate_left
      · go_simp
        rfl
      refine hK.out _ _ ?_
      clear hK K
      refine done_ (by kernel_rfl) ?_
      have HL11 := Aside0.mk (Lk.build (x' := { y with code := y.code ++ bytesOf o.f0, data := y.data ++ o.f1 }) M10.out.1 M10.out.2.1 M10.out.2.2.1 M10.out.2.2.2.1 M10.out.2.2.2.2.1 M10.out.2.2.2.2.2 HL9.out.hh.1 HL9.out.hh.2.2.1 4 (.slice A10 (y.data.length + o.f1.length) c10) rfl)
      have KQ11 := Aside0.mk (KQ10.out.trans (KeepQ.put M10.out.2.1 (by simp) 4 (.slice A10 (y.data.length + o.f1.length) c10)))
      clear hHeld M10 KQ10 BO10 BO9 HL9 KQ9 fz10
      generalize w10.setCell ⟨b, 4, none⟩ (.slice A10 (y.data.length + o.f1.length) c10) = w11 at *
      have f0 : w11.frozen? ⟨b, 0, none⟩ = false := blk_frozen HL11.out.obj 0
      have f1 : w11.frozen? ⟨b, 1, none⟩ = false := blk_frozen HL11.out.obj 1
      have k0 : w11.cell? ⟨b, 0, none⟩ = some (.int .i64 y.nc) := (blk_cell HL11.out.obj 0).trans rfl
      have k1 : w11.cell? ⟨b, 1, none⟩ = some (.int .i64 y.nd) := (blk_cell HL11.out.obj 1).trans rfl
      go_wp2
      refine start_ (n := 16) (S := fun w' => w'.cell? ⟨b, 2, none⟩ = some (.slice A8 (y.code.length + (bytesOf o.f0).length) c8) ∧ w'.cell? ⟨b, 4, none⟩ = some (.slice A10 (y.data.length + o.f1.length) c10)) (ds := [15]) #[false, false, false, false, false, false, false, false, false, false, false, false, false, false, false, false] (by kernel_rfl) rfl rfl ⟨(blk_cell (blk_drew HL11.out.obj) 2).trans rfl, (blk_cell (blk_drew HL11.out.obj) 4).trans rfl⟩ (fun hHeld => ?_)
      refine pure_ (i := 0) (N := some 109) (v := ?_) (a' := ?_) #[true, false, false, false, false, false, false, false, false, false, false, false, false, false, false, false] rfl rfl (by kernel_rfl) (fun _ _ _ h => h) (Or.inl ⟨by rfl, ?_⟩) ?_ ?_
      rotate_left
      · intro w'
        go_simp
        with_reducible rfl
      rotate_left
      · simp only [Act.put, List.setIfInBounds_toArray, List.set_cons_zero, List.set_cons_succ, i64_w, i32_w]
        rfl
      refine pure_ (i := 1) (N := some 110) (v := ?_) (a' := ?_) #[true, true, false, false, false, false, false, false, false, false, false, false, false, false, false, false] rfl rfl (by kernel_rfl) (fun _ _ _ h => h) (Or.inl ⟨by rfl, ?_⟩) ?_ ?_
      rotate_left
      · intro w'
        go_simp
        with_reducible rfl
      rotate_left
      · simp only [Act.put, List.setIfInBounds_toArray, List.set_cons_zero, List.set_cons_succ, i64_w, i32_w]
        rfl
      refine pure_ (i := 2) (N := some 111) (v := ?_) (a' := ?_) #[true, true, true, false, false, false, false, false, false, false, false, false, false, false, false, false] rfl rfl (by kernel_rfl) (fun _ _ _ h => h) (Or.inl ⟨by rfl, ?_⟩) ?_ ?_
      rotate_left
      · intro w'
        go_simp
        with_reducible rfl
      rotate_left
      · simp only [Act.put, List.setIfInBounds_toArray, List.set_cons_zero, List.set_cons_succ, i64_w, i32_w]
        rfl
      refine pure_ (i := 3) (N := some 112) (v := ?_) (a' := ?_) #[true, true, true, true, false, false, false, false, false, false, false, false, false, false, false, false] rfl rfl (by kernel_rfl) (fun _ _ _ h => h) (Or.inl ⟨by rfl, ?_⟩) ?_ ?_
      rotate_left
      · intro w'
        go_simp
        with_reducible rfl
      rotate_left
      · simp only [Act.put, List.setIfInBounds_toArray, List.set_cons_zero, List.set_cons_succ, i64_w, i32_w]
        rfl
      refine pure_ (i := 6) (N := some 115) (v := ?_) (a' := ?_) #[true, true, true, true, false, false, true, false, false, false, false, false, false, false, false, false] rfl rfl (by kernel_rfl) (fun _ _ _ h => h) (Or.inl ⟨by rfl, ?_⟩) ?_ ?_
      rotate_left
      · intro w'
        go_simp
        with_reducible rfl
      rotate_left
      · simp only [Act.put, List.setIfInBounds_toArray, List.set_cons_zero, List.set_cons_succ, i64_w, i32_w]
        rfl
      refine pure_ (i := 7) (N := some 116) (v := ?_) (a' := ?_) #[true, true, true, true, false, false, true, true, false, false, false, false, false, false, false, false] rfl rfl (by kernel_rfl) (fun _ _ _ h => h) (Or.inl ⟨by rfl, ?_⟩) ?_ ?_
      rotate_left
      · intro w'
        go_simp
        with_reducible rfl
      rotate_left
      · simp only [Act.put, List.setIfInBounds_toArray, List.set_cons_zero, List.set_cons_succ, i64_w, i32_w]
        rfl
      refine pure_ (i := 8) (N := some 117) (v := ?_) (a' := ?_) #[true, true, true, true, false, false, true, true, true, false, false, false, false, false, false, false] rfl rfl (by kernel_rfl) (fun _ _ _ h => h) (Or.inl ⟨by rfl, ?_⟩) ?_ ?_
      rotate_left
      · intro w'
        go_simp
        with_reducible rfl
      rotate_left
      · simp only [Act.put, List.setIfInBounds_toArray, List.set_cons_zero, List.set_cons_succ, i64_w, i32_w]
        rfl
      refine pure_ (i := 9) (N := some 118) (v := ?_) (a' := ?_) #[true, true, true, true, false, false, true, true, true, true, false, false, false, false, false, false] rfl rfl (by kernel_rfl) (fun _ _ _ h => h) (Or.inl ⟨by rfl, ?_⟩) ?_ ?_
      rotate_left
      · intro w'
        go_simp
        with_reducible rfl
      rotate_left
      · simp only [Act.put, List.setIfInBounds_toArray, List.set_cons_zero, List.set_cons_succ, i64_w, i32_w]
        rfl
      refine take_ (i := 4) (N := some 113) (v := ?_) (a' := ?_) #[true, true, true, true, true, false, true, true, true, true, false, false, false, false, false, false] rfl rfl (by kernel_rfl) (fun _ _ _ h => h) (Or.inl ⟨by rfl, ?_⟩) hHeld ?_ ?_
      rotate_left
      · rintro w' ⟨s0, s1⟩
        go_simp
        with_reducible rfl
      rotate_left
      · simp only [Act.put, List.setIfInBounds_toArray, List.set_cons_zero, List.set_cons_succ, i64_w, i32_w]
        rfl
      refine pure_ (i := 5) (N := some 114) (v := ?_) (a' := ?_) #[true, true, true, true, true, true, true, true, true, true, false, false, false, false, false, false] rfl rfl (by kernel_rfl) (fun _ _ _ h => h) (Or.inl ⟨by rfl, ?_⟩) ?_ ?_
      rotate_left
      · intro w'
        go_simp
        with_reducible rfl
      rotate_left
      · simp only [Act.put, List.setIfInBounds_toArray, List.set_cons_zero, List.set_cons_succ, i64_w, i32_w]
        rfl
      refine take_ (i := 10) (N := some 119) (v := ?_) (a' := ?_) #[true, true, true, true, true, true, true, true, true, true, true, false, false, false, false, false] rfl rfl (by kernel_rfl) (fun _ _ _ h => h) (Or.inl ⟨by rfl, ?_⟩) hHeld ?_ ?_
      rotate_left
      · rintro w' ⟨s0, s1⟩
        go_simp
        with_reducible rfl
      rotate_left
      · simp only [Act.put, List.setIfInBounds_toArray, List.set_cons_zero, List.set_cons_succ, i64_w, i32_w]
        rfl
      refine pure_ (i := 11) (N := some 120) (v := ?_) (a' := ?_) #[true, true, true, true, true, true, true, true, true, true, true, true, false, false, false, false] rfl rfl (by kernel_rfl) (fun _ _ _ h => h) (Or.inl ⟨by rfl, ?_⟩) ?_ ?_
      rotate_left
      · intro w'
        go_simp
        with_reducible rfl
      rotate_left
      · simp only [Act.put, List.setIfInBounds_toArray, List.set_cons_zero, List.set_cons_succ, i64_w, i32_w]
        rfl
      refine pure_ (i := 12) (N := some 121) (v := ?_) (a' := ?_) #[true, true, true, true, true, true, true, true, true, true, true, true, true, false, false, false] rfl rfl (by kernel_rfl) (fun _ _ _ h => h) (Or.inl ⟨by rfl, ?_⟩) ?_ ?_
      rotate_left
      · intro w'
        go_simp
        with_reducible rfl
      rotate_left
      · simp only [Act.put, List.setIfInBounds_toArray, List.set_cons_zero, List.set_cons_succ, i64_w, i32_w]
        rfl
      refine pure_ (i := 13) (N := some 122) (v := ?_) (a' := ?_) #[true, true, true, true, true, true, true, true, true, true, true, true, true, true, false, false] rfl rfl (by kernel_rfl) (fun _ _ _ h => h) (Or.inl ⟨by rfl, ?_⟩) ?_ ?_
      rotate_left
      · intro w'
        go_simp
        with_reducible rfl
      rotate_left
      · simp only [Act.put, List.setIfInBounds_toArray, List.set_cons_zero, List.set_cons_succ, i64_w, i32_w]
        rfl
      refine pure_ (i := 14) (N := some 123) (v := ?_) (a' := ?_) #[true, true, true, true, true, true, true, true, true, true, true, true, true, true, true, false] rfl rfl (by kernel_rfl) (fun _ _ _ h => h) (Or.inl ⟨by rfl, ?_⟩) ?_ ?_
      rotate_left
      · intro w'
        go_simp
        with_reducible rfl
      rotate_left
      · simp only [Act.put, List.setIfInBounds_toArray, List.set_cons_zero, List.set_cons_succ, i64_w, i32_w]
        rfl
      refine last_ (i := 15) (N := none) #[true, true, true, true, true, true, true, true, true, true, true, true, true, true, true, true] rfl rfl (by kernel_rfl) (by decide) (fun K hK => ?_)
      refine skip_ (w1 := ?_) (by rfl) rfl ?_ ?_
      rotate_left
      · go_simp
        rfl
      refine hK.out _ _ ?_
      clear hK K
      refine done_ (by kernel_rfl) ?_
      have HL12 := Aside0.mk (((HL11.out.put (x' := { y with code := y.code ++ bytesOf o.f0, data := y.data ++ o.f1, nc := (y.code.length : Int) + (bytesOf o.f0).length }) 0 (.int .i64 ((y.code.length : Int) + (bytesOf o.f0).length)) rfl rfl rfl rfl).put (x' := { y with code := y.code ++ bytesOf o.f0, data := y.data ++ o.f1, nc := (y.code.length : Int) + (bytesOf o.f0).length, nd := (y.data.length : Int) + o.f1.length }) 1 (.int .i64 ((y.data.length : Int) + o.f1.length)) rfl rfl rfl rfl).next (below_drew1 (Below.refl _ _)))
      have KQ12 := Aside0.mk (KQ11.out.trans ((KeepQ.put HL11.out.obj (by simp) 0 (.int .i64 ((y.code.length : Int) + (bytesOf o.f0).length))).trans (KeepQ.put (HL11.out.put (x' := { y with code := y.code ++ bytesOf o.f0, data := y.data ++ o.f1, nc := (y.code.length : Int) + (bytesOf o.f0).length }) 0 (.int .i64 ((y.code.length : Int) + (bytesOf o.f0).length)) rfl rfl rfl rfl).obj (by simp) 1 (.int .i64 ((y.data.length : Int) + o.f1.length)))).drew)
      clear hHeld HL11 KQ11 f0 f1 k0 k1
      generalize ((w11.setCell ⟨b, 0, none⟩ (.int .i64 ((y.code.length : Int) + (bytesOf o.f0).length))).setCell ⟨b, 1, none⟩ (.int .i64 ((y.data.length : Int) + o.f1.length))).drew = w12 at *
      rw [bytesOf_length] at HL12
      go_wp2
      go_ret
      rw [hrs.out]
      exact ⟨HL12.out.below, KQ0.out.trans KQ12.out, rfl, _, _, _, HL12.out.up HL12.out.lt (Nat.le_refl _)⟩
end Go.Proofs.Yteaealmnmmcbpaa.M

-- Written by a program of this session (wip/ownprint.py) over the translation. Lean checks it.
namespace Go.Proofs.Yteaealmnmmcbpaa.M
open Go.RowKit Go.Proofs.YteaealmnmmcbpaaW.PrintWords Go.Proofs.YteaealmnmmcbpaaW.PrintLast
set_option linter.unusedVariables false
set_option linter.unusedSimpArgs false

/-! ### cotterref06_Copy: function 19 -/
def cotterref06_Copy.f (a0_0 : ByteArray) (l0_1 : List Int) (l0_2 : List (S36)) (l0_3 : List (S45)) : Option (ByteArray × List Int × (List (S36)) × (List (S45))) := if ([] : List Int).length + l0_1.length < 17592186044416 then (if ([] : List (S36)).length + l0_2.length < 4398046511104 then (if ([] : List (S45)).length + l0_3.length < 3518437208883 then (some (a0_0, (([] : List Int) ++ l0_1), (([] : List (S36)) ++ l0_2), (([] : List (S45)) ++ l0_3))) else (none)) else (none)) else (none)
set_option maxHeartbeats 8000000 in
set_option maxRecDepth 100000 in
theorem cotterref06_Copy.calls (a0_0 : ByteArray) (A0_1 : Option Addr) (c0_1 : Nat) (l0_1 : List Int) (A0_2 : Option Addr) (c0_2 : Nat) (l0_2 : List (S36)) (A0_3 : Option Addr) (c0_3 : Nat) (l0_3 : List (S45)) (r1 : ByteArray) (r2 : List Int) (r3 : List (S36)) (r4 : List (S45)) (w : World) (hr0_1 : Kd.C (Kd.int .i64) w A0_1 l0_1.length l0_1) (hc0_1 : l0_1.length ≤ c0_1) (hr0_2 : Kd.C k36 w A0_2 l0_2.length l0_2) (hc0_2 : l0_2.length ≤ c0_2) (hr0_3 : Kd.C k45 w A0_3 l0_3.length l0_3) (hc0_3 : l0_3.length ≤ c0_3) (h : cotterref06_Copy.f a0_0 l0_1 l0_2 l0_3 = some (r1, r2, r3, r4)) :
    Calls Try.prog 19 #[.agg #[.string a0_0, .slice A0_1 l0_1.length c0_1, .slice A0_2 l0_2.length c0_2, .slice A0_3 l0_3.length c0_3]] w fun e w' => ∃ v1_ v2_ v3_ : Value, e = .returned (.agg #[.string r1, v1_, v2_, v3_]) ∧ Kd.R (Kd.int .i64) 2 w' w.heap.size (fun _ => True) v1_ r2 ∧ Kd.R k36 36 w' w.heap.size (fun _ => True) v2_ r3 ∧ Kd.R k45 45 w' w.heap.size (fun _ => True) v3_ r4 ∧ Below w.heap.size w w' := by
  have hu40 := Try.underlying40
  have HR0_1 := Aside0.mk hr0_1
  have HC0_1 := Aside0.mk hc0_1
  clear hr0_1 hc0_1
  have HR0_2 := Aside0.mk hr0_2
  have HC0_2 := Aside0.mk hc0_2
  clear hr0_2 hc0_2
  have HR0_3 := Aside0.mk hr0_3
  have HC0_3 := Aside0.mk hc0_3
  clear hr0_3 hc0_3
  have HB := Aside0.mk (Below.refl w.heap.size w)
  have H : (if ([] : List Int).length + l0_1.length < 17592186044416 then (if ([] : List (S36)).length + l0_2.length < 4398046511104 then (if ([] : List (S45)).length + l0_3.length < 3518437208883 then (some (a0_0, (([] : List Int) ++ l0_1), (([] : List (S36)) ++ l0_2), (([] : List (S45)) ++ l0_3))) else (none)) else (none)) else (none)) = some (r1, r2, r3, r4) := h
  clear h
  by_cases c2 : ([] : List Int).length + l0_1.length < 17592186044416
  · rw [if_pos c2] at H
    have LMc2 := Aside0.mk c2
    clear c2
    obtain ⟨y159, hy159⟩ : ∃ y_ : List Int, y_ = (([] : List Int) ++ l0_1) := ⟨_, rfl⟩
    replace H : (if ([] : List (S36)).length + l0_2.length < 4398046511104 then (if ([] : List (S45)).length + l0_3.length < 3518437208883 then (some (a0_0, y159, (([] : List (S36)) ++ l0_2), (([] : List (S45)) ++ l0_3))) else (none)) else (none)) = some (r1, r2, r3, r4) := by first | (rw [hy159]; with_reducible exact H) | (have H2_ := (Option.bind_some _ _).symm.trans H; rw [hy159]; with_reducible exact H2_) | (have H2_ := (Option.bind_some _ _).symm.trans H; with_reducible exact H2_) | with_reducible exact H | (rw [hy159]; exact H) | exact H
    have Ny159 := Aside0.mk hy159
    clear hy159
    by_cases c3 : ([] : List (S36)).length + l0_2.length < 4398046511104
    · rw [if_pos c3] at H
      have LMc3 := Aside0.mk c3
      clear c3
      obtain ⟨y162, hy162⟩ : ∃ y_ : List (S36), y_ = (([] : List (S36)) ++ l0_2) := ⟨_, rfl⟩
      replace H : (if ([] : List (S45)).length + l0_3.length < 3518437208883 then (some (a0_0, y159, y162, (([] : List (S45)) ++ l0_3))) else (none)) = some (r1, r2, r3, r4) := by first | (rw [hy162]; with_reducible exact H) | (have H2_ := (Option.bind_some _ _).symm.trans H; rw [hy162]; with_reducible exact H2_) | (have H2_ := (Option.bind_some _ _).symm.trans H; with_reducible exact H2_) | with_reducible exact H | (rw [hy162]; exact H) | exact H
      have Ny162 := Aside0.mk hy162
      clear hy162
      by_cases c4 : ([] : List (S45)).length + l0_3.length < 3518437208883
      · rw [if_pos c4] at H
        have LMc4 := Aside0.mk c4
        clear c4
        obtain ⟨y165, hy165⟩ : ∃ y_ : List (S45), y_ = (([] : List (S45)) ++ l0_3) := ⟨_, rfl⟩
        replace H : (some (a0_0, y159, y162, y165)) = some (r1, r2, r3, r4) := by first | (rw [hy165]; with_reducible exact H) | (have H2_ := (Option.bind_some _ _).symm.trans H; rw [hy165]; with_reducible exact H2_) | (have H2_ := (Option.bind_some _ _).symm.trans H; with_reducible exact H2_) | with_reducible exact H | (rw [hy165]; exact H) | exact H
        have Ny165 := Aside0.mk hy165
        clear hy165
        simp only [Option.some.injEq, Prod.mk.injEq] at H
        obtain ⟨rfl, rfl, rfl, rfl⟩ := H
        go_enter Try.func19, Try.ntmps19
        go_wp2_with (first | ((with_reducible refine gate_dst (N := 1) rfl ?_); refine box_event ?hg (N := 1) ?hd (cs := #[.string a0_0, .slice A0_1 l0_1.length c0_1, .slice A0_2 l0_2.length c0_2, .slice A0_3 l0_3.length c0_3]) (t := 40) ?hr ?_; (case hd => rfl); (case hg => rfl); (case hr => first | (go_simp; done) | (go_simp; rfl)); intro gb156 hg w5 hbox hb; have n0_ := Aside0.mk (below_step (by repeat (first | (with_reducible first | exact HB.out | apply below_alloc | apply pw_below_drewN | apply below_drew1) | exact HB.out)) hb); have n1_ := Aside0.mk (hbox); have n2_ := Aside0.mk ((by rw [hg]; exact (below_size (by repeat (first | (with_reducible first | exact HB.out | apply below_alloc | apply pw_below_drewN | apply below_drew1) | exact HB.out))) : w.heap.size ≤ gb156)); have n3_ := Aside0.mk ((by rw [hg]; exact (below_size (by repeat (first | (with_reducible first | exact HB.out | apply below_alloc | apply pw_below_drewN | apply below_drew1) | exact HB.out))) : w.heap.size ≤ gb156)); clear HB; have HB := n0_; have BK156 := n1_; have GW156 := n2_; have GE156 := n3_; clear n0_ n1_ n2_ n3_; clear hb hbox hg) | ((with_reducible refine gate_dst (N := 2) rfl ?_); refine box_event ?hg (N := 2) ?hd (cs := #[.string (⟨#[]⟩ : ByteArray), .slice none 0 0, .slice none 0 0, .slice none 0 0]) (t := 40) ?hr ?_; (case hd => rfl); (case hg => rfl); (case hr => first | (go_simp; done) | (go_simp; rfl)); intro gb157 hg w6 hbox hb; have n0_ := Aside0.mk (blk_below (g := gb156) (o := .cells #[.string a0_0, .slice A0_1 l0_1.length c0_1, .slice A0_2 l0_2.length c0_2, .slice A0_3 l0_3.length c0_3] 40 (0, 0)) (by (with_reducible repeat (first | refine blk_drewN ?_ _ | refine blk_drew ?_ | refine blk_alloc ?_ _)); exact BK156.out) hb); have n1_ := Aside0.mk (below_step (by repeat (first | (with_reducible first | exact HB.out | apply below_alloc | apply pw_below_drewN | apply below_drew1 | refine below_set ?_ GE156.out) | exact HB.out)) hb); have n2_ := Aside0.mk (hbox); have n3_ := Aside0.mk ((by rw [hg]; exact (below_size (by repeat (first | (with_reducible first | exact HB.out | apply below_alloc | apply pw_below_drewN | apply below_drew1 | refine below_set ?_ GE156.out) | exact HB.out))) : w.heap.size ≤ gb157)); have n4_ := Aside0.mk ((by rw [hg]; exact (below_size (by repeat (first | (with_reducible first | exact HB.out | apply below_alloc | apply pw_below_drewN | apply below_drew1 | refine below_set ?_ GE156.out) | exact HB.out))) : w.heap.size ≤ gb157)); have n5_ := Aside0.mk ((by rw [hg]; exact Nat.ne_of_lt (blk_lt (g := gb156) (o := .cells #[.string a0_0, .slice A0_1 l0_1.length c0_1, .slice A0_2 l0_2.length c0_2, .slice A0_3 l0_3.length c0_3] 40 (0, 0)) (by (with_reducible repeat (first | refine blk_drewN ?_ _ | refine blk_drew ?_ | refine blk_alloc ?_ _)); exact BK156.out)) : gb156 ≠ gb157)); have n6_ := Aside0.mk ((by rw [hg]; exact Nat.ne_of_gt (blk_lt (g := gb156) (o := .cells #[.string a0_0, .slice A0_1 l0_1.length c0_1, .slice A0_2 l0_2.length c0_2, .slice A0_3 l0_3.length c0_3] 40 (0, 0)) (by (with_reducible repeat (first | refine blk_drewN ?_ _ | refine blk_drew ?_ | refine blk_alloc ?_ _)); exact BK156.out)) : gb157 ≠ gb156)); clear BK156; clear HB; have BK156 := n0_; have HB := n1_; have BK157 := n2_; have GW157 := n3_; have GE157 := n4_; have NB156_157 := n5_; have NB157_156 := n6_; clear n0_ n1_ n2_ n3_ n4_ n5_ n6_; clear hb hbox hg; have hnb7 := NB156_157.out; have hnc7 := NB157_156.out; have hcz8_0 : w6.cell? ⟨gb156, 0, none⟩ = some (.string a0_0) := (blk_cell BK156.out 0).trans rfl; have hcz8_1 : w6.cell? ⟨gb156, 1, none⟩ = some (.slice A0_1 l0_1.length c0_1) := (blk_cell BK156.out 1).trans rfl; have hcz8_2 : w6.cell? ⟨gb156, 2, none⟩ = some (.slice A0_2 l0_2.length c0_2) := (blk_cell BK156.out 2).trans rfl; have hcz8_3 : w6.cell? ⟨gb156, 3, none⟩ = some (.slice A0_3 l0_3.length c0_3) := (blk_cell BK156.out 3).trans rfl; have hfz8_0 := blk_frozen BK156.out 0; have hfz8_1 := blk_frozen BK156.out 1; have hfz8_2 := blk_frozen BK156.out 2; have hfz8_3 := blk_frozen BK156.out 3) | ((with_reducible refine gate_dst (N := 3) rfl ?_); refine box_event ?hg (N := 3) ?hd (cs := #[.string (⟨#[]⟩ : ByteArray), .slice none 0 0, .slice none 0 0, .slice none 0 0]) (t := 40) ?hr ?_; (case hd => rfl); (case hg => rfl); (case hr => first | (go_simp; done) | (go_simp; rfl)); intro gb158 hg w9 hbox hb; have n0_ := Aside0.mk (blk_below (g := gb156) (o := .cells #[.string a0_0, .slice A0_1 l0_1.length c0_1, .slice A0_2 l0_2.length c0_2, .slice A0_3 l0_3.length c0_3] 40 (0, 0)) (by (with_reducible repeat (first | refine blk_drewN ?_ _ | refine blk_drew ?_ | refine blk_alloc ?_ _)); exact BK156.out) hb); have n1_ := Aside0.mk (blk_below (g := gb157) (o := .cells #[.string (⟨#[]⟩ : ByteArray), .slice none 0 0, .slice none 0 0, .slice none 0 0] 40 (0, 0)) (by (with_reducible repeat (first | refine blk_drewN ?_ _ | refine blk_drew ?_ | refine blk_alloc ?_ _)); exact BK157.out) hb); have n2_ := Aside0.mk (below_step (by repeat (first | (with_reducible first | exact HB.out | apply below_alloc | apply pw_below_drewN | apply below_drew1 | refine below_set ?_ GE156.out | refine below_set ?_ GE157.out) | exact HB.out)) hb); have n3_ := Aside0.mk (hbox); have n4_ := Aside0.mk ((by rw [hg]; exact (below_size (by repeat (first | (with_reducible first | exact HB.out | apply below_alloc | apply pw_below_drewN | apply below_drew1 | refine below_set ?_ GE156.out | refine below_set ?_ GE157.out) | exact HB.out))) : w.heap.size ≤ gb158)); have n5_ := Aside0.mk ((by rw [hg]; exact (below_size (by repeat (first | (with_reducible first | exact HB.out | apply below_alloc | apply pw_below_drewN | apply below_drew1 | refine below_set ?_ GE156.out | refine below_set ?_ GE157.out) | exact HB.out))) : w.heap.size ≤ gb158)); have n6_ := Aside0.mk ((by rw [hg]; exact Nat.ne_of_lt (blk_lt (g := gb156) (o := .cells #[.string a0_0, .slice A0_1 l0_1.length c0_1, .slice A0_2 l0_2.length c0_2, .slice A0_3 l0_3.length c0_3] 40 (0, 0)) (by (with_reducible repeat (first | refine blk_drewN ?_ _ | refine blk_drew ?_ | refine blk_alloc ?_ _)); exact BK156.out)) : gb156 ≠ gb158)); have n7_ := Aside0.mk ((by rw [hg]; exact Nat.ne_of_gt (blk_lt (g := gb156) (o := .cells #[.string a0_0, .slice A0_1 l0_1.length c0_1, .slice A0_2 l0_2.length c0_2, .slice A0_3 l0_3.length c0_3] 40 (0, 0)) (by (with_reducible repeat (first | refine blk_drewN ?_ _ | refine blk_drew ?_ | refine blk_alloc ?_ _)); exact BK156.out)) : gb158 ≠ gb156)); have n8_ := Aside0.mk ((by rw [hg]; exact Nat.ne_of_lt (blk_lt (g := gb157) (o := .cells #[.string (⟨#[]⟩ : ByteArray), .slice none 0 0, .slice none 0 0, .slice none 0 0] 40 (0, 0)) (by (with_reducible repeat (first | refine blk_drewN ?_ _ | refine blk_drew ?_ | refine blk_alloc ?_ _)); exact BK157.out)) : gb157 ≠ gb158)); have n9_ := Aside0.mk ((by rw [hg]; exact Nat.ne_of_gt (blk_lt (g := gb157) (o := .cells #[.string (⟨#[]⟩ : ByteArray), .slice none 0 0, .slice none 0 0, .slice none 0 0] 40 (0, 0)) (by (with_reducible repeat (first | refine blk_drewN ?_ _ | refine blk_drew ?_ | refine blk_alloc ?_ _)); exact BK157.out)) : gb158 ≠ gb157)); clear BK156; clear BK157; clear HB; have BK156 := n0_; have BK157 := n1_; have HB := n2_; have BK158 := n3_; have GW158 := n4_; have GE158 := n5_; have NB156_158 := n6_; have NB158_156 := n7_; have NB157_158 := n8_; have NB158_157 := n9_; clear n0_ n1_ n2_ n3_ n4_ n5_ n6_ n7_ n8_ n9_; clear hb hbox hg; have hnb10 := NB158_156.out; have hnc10 := NB156_158.out; have hnb11 := NB158_157.out; have hnc11 := NB157_158.out; have hcz12_0 : w9.cell? ⟨gb158, 0, none⟩ = some (.string (⟨#[]⟩ : ByteArray)) := (blk_cell BK158.out 0).trans rfl; have hcz12_1 : w9.cell? ⟨gb158, 1, none⟩ = some (.slice none 0 0) := (blk_cell BK158.out 1).trans rfl; have hcz12_2 : w9.cell? ⟨gb158, 2, none⟩ = some (.slice none 0 0) := (blk_cell BK158.out 2).trans rfl; have hcz12_3 : w9.cell? ⟨gb158, 3, none⟩ = some (.slice none 0 0) := (blk_cell BK158.out 3).trans rfl; have hfz12_0 := blk_frozen BK158.out 0; have hfz12_1 := blk_frozen BK158.out 1; have hfz12_2 := blk_frozen BK158.out 2; have hfz12_3 := blk_frozen BK158.out 3; have hcz13_0 : w9.cell? ⟨gb156, 0, none⟩ = some (.string a0_0) := (blk_cell BK156.out 0).trans rfl; have hcz13_1 : w9.cell? ⟨gb156, 1, none⟩ = some (.slice A0_1 l0_1.length c0_1) := (blk_cell BK156.out 1).trans rfl; have hcz13_2 : w9.cell? ⟨gb156, 2, none⟩ = some (.slice A0_2 l0_2.length c0_2) := (blk_cell BK156.out 2).trans rfl; have hcz13_3 : w9.cell? ⟨gb156, 3, none⟩ = some (.slice A0_3 l0_3.length c0_3) := (blk_cell BK156.out 3).trans rfl; have hfz13_0 := blk_frozen BK156.out 0; have hfz13_1 := blk_frozen BK156.out 1; have hfz13_2 := blk_frozen BK156.out 2; have hfz13_3 := blk_frozen BK156.out 3) | ((with_reducible refine gate_builtin (b := .append) (xs := #[.tmp 8, .tmp 10]) rfl ?_); at_builtin; refine Kd.R_append_rows (Kd.int .i64) (w0 := w) w.heap.size rfl (.tmp 8) (.tmp 10) 26 2 (.int .i64 0) 8 rfl Try.underlying26 info2 rfl (by decide) (by omega) (.slice none 0 0) ([] : List Int) l0_1 _ _ _ (fun _ => True) (fun _ => False) rfl rfl ?aO ?aR (fun _ _ h => h) (fun _ h => h.elim) ?aF ?aB ?aS ?aL ?_; (case aR => exact Kd.C_below HR0_1.out (by repeat (first | (with_reducible first | exact HB.out | apply below_alloc | apply pw_below_drewN | apply below_drew1 | refine below_set ?_ GE156.out | refine below_set ?_ GE157.out | refine below_set ?_ GE158.out) | exact HB.out))); (case aB => exact (by repeat (first | (with_reducible first | exact HB.out | apply below_alloc | apply pw_below_drewN | apply below_drew1 | refine below_set ?_ GE156.out | refine below_set ?_ GE157.out | refine below_set ?_ GE158.out) | exact HB.out))); (case aF => exact (fun _ _ => trivial)); (case aO => exact ((Kd.R_nil _ _ _ _ (fun _ => True)))); (case aS => exact (below_size (by repeat (first | (with_reducible first | exact HB.out | apply below_alloc | apply pw_below_drewN | apply below_drew1 | refine below_set ?_ GE156.out | refine below_set ?_ GE157.out | refine below_set ?_ GE158.out) | exact HB.out)))); (case aL => have := LMc2.out; omega); intro v160 w14 ho hb hg hat; rw [← Ny159.out] at ho; have n0_ := Aside0.mk (blk_grown (g := gb156) (o := .cells #[.string a0_0, .slice A0_1 l0_1.length c0_1, .slice A0_2 l0_2.length c0_2, .slice A0_3 l0_3.length c0_3] 40 (0, 0)) (by (with_reducible repeat (first | refine blk_drewN ?_ _ | refine blk_drew ?_ | refine blk_alloc ?_ _)); refine blk_far ?_ NB156_158.out _; (with_reducible repeat (first | refine blk_drewN ?_ _ | refine blk_drew ?_ | refine blk_alloc ?_ _)); refine blk_far ?_ NB156_158.out _; (with_reducible repeat (first | refine blk_drewN ?_ _ | refine blk_drew ?_ | refine blk_alloc ?_ _)); refine blk_far ?_ NB156_158.out _; (with_reducible repeat (first | refine blk_drewN ?_ _ | refine blk_drew ?_ | refine blk_alloc ?_ _)); refine blk_far ?_ NB156_158.out _; (with_reducible repeat (first | refine blk_drewN ?_ _ | refine blk_drew ?_ | refine blk_alloc ?_ _)); exact BK156.out) hg (by simp [Value.ownBlock])); have n1_ := Aside0.mk (blk_grown (g := gb157) (o := .cells #[.string (⟨#[]⟩ : ByteArray), .slice none 0 0, .slice none 0 0, .slice none 0 0] 40 (0, 0)) (by (with_reducible repeat (first | refine blk_drewN ?_ _ | refine blk_drew ?_ | refine blk_alloc ?_ _)); refine blk_far ?_ NB157_158.out _; (with_reducible repeat (first | refine blk_drewN ?_ _ | refine blk_drew ?_ | refine blk_alloc ?_ _)); refine blk_far ?_ NB157_158.out _; (with_reducible repeat (first | refine blk_drewN ?_ _ | refine blk_drew ?_ | refine blk_alloc ?_ _)); refine blk_far ?_ NB157_158.out _; (with_reducible repeat (first | refine blk_drewN ?_ _ | refine blk_drew ?_ | refine blk_alloc ?_ _)); refine blk_far ?_ NB157_158.out _; (with_reducible repeat (first | refine blk_drewN ?_ _ | refine blk_drew ?_ | refine blk_alloc ?_ _)); exact BK157.out) hg (by simp [Value.ownBlock])); have n2_ := Aside0.mk (blk_grown (g := gb158) (o := .cells #[.string a0_0, .slice none 0 0, .slice none 0 0, .slice none 0 0] 40 (0, 0)) (by (with_reducible repeat (first | refine blk_drewN ?_ _ | refine blk_drew ?_ | refine blk_alloc ?_ _)); refine blk_put (cs := #[.string a0_0, .slice none 0 0, .slice none 0 0, .slice none 0 0]) ?_ 3 _ rfl; (with_reducible repeat (first | refine blk_drewN ?_ _ | refine blk_drew ?_ | refine blk_alloc ?_ _)); refine blk_put (cs := #[.string a0_0, .slice none 0 0, .slice none 0 0, .slice none 0 0]) ?_ 2 _ rfl; (with_reducible repeat (first | refine blk_drewN ?_ _ | refine blk_drew ?_ | refine blk_alloc ?_ _)); refine blk_put (cs := #[.string a0_0, .slice none 0 0, .slice none 0 0, .slice none 0 0]) ?_ 1 _ rfl; (with_reducible repeat (first | refine blk_drewN ?_ _ | refine blk_drew ?_ | refine blk_alloc ?_ _)); refine blk_put (cs := #[.string (⟨#[]⟩ : ByteArray), .slice none 0 0, .slice none 0 0, .slice none 0 0]) ?_ 0 _ rfl; (with_reducible repeat (first | refine blk_drewN ?_ _ | refine blk_drew ?_ | refine blk_alloc ?_ _)); exact BK158.out) hg (by simp [Value.ownBlock])); have n3_ := Aside0.mk (hb); have n4_ := Aside0.mk (ho); clear BK156; clear BK157; clear BK158; clear HB; have BK156 := n0_; have BK157 := n1_; have BK158 := n2_; have HB := n3_; have HO161 := n4_; clear n0_ n1_ n2_ n3_ n4_; clear ho hb hg hat; obtain ⟨Ao15, co15, eo15⟩ := Kd.R_slice HO161.out; subst eo15; have hcz16_0 : w14.cell? ⟨gb158, 0, none⟩ = some (.string a0_0) := (blk_cell BK158.out 0).trans rfl; have hcz16_1 : w14.cell? ⟨gb158, 1, none⟩ = some (.slice none 0 0) := (blk_cell BK158.out 1).trans rfl; have hcz16_2 : w14.cell? ⟨gb158, 2, none⟩ = some (.slice none 0 0) := (blk_cell BK158.out 2).trans rfl; have hcz16_3 : w14.cell? ⟨gb158, 3, none⟩ = some (.slice none 0 0) := (blk_cell BK158.out 3).trans rfl; have hfz16_0 := blk_frozen BK158.out 0; have hfz16_1 := blk_frozen BK158.out 1; have hfz16_2 := blk_frozen BK158.out 2; have hfz16_3 := blk_frozen BK158.out 3; have hcz17_0 : w14.cell? ⟨gb156, 0, none⟩ = some (.string a0_0) := (blk_cell BK156.out 0).trans rfl; have hcz17_1 : w14.cell? ⟨gb156, 1, none⟩ = some (.slice A0_1 l0_1.length c0_1) := (blk_cell BK156.out 1).trans rfl; have hcz17_2 : w14.cell? ⟨gb156, 2, none⟩ = some (.slice A0_2 l0_2.length c0_2) := (blk_cell BK156.out 2).trans rfl; have hcz17_3 : w14.cell? ⟨gb156, 3, none⟩ = some (.slice A0_3 l0_3.length c0_3) := (blk_cell BK156.out 3).trans rfl; have hfz17_0 := blk_frozen BK156.out 0; have hfz17_1 := blk_frozen BK156.out 1; have hfz17_2 := blk_frozen BK156.out 2; have hfz17_3 := blk_frozen BK156.out 3) | ((with_reducible refine gate_builtin (b := .append) (xs := #[.tmp 14, .tmp 16]) rfl ?_); at_builtin; refine Kd.R_append_rows k36 (w0 := w) w.heap.size rfl (.tmp 14) (.tmp 16) 27 36 (.agg #[(.string ⟨#[]⟩), (.int .i64 0), (.int .i64 0)]) 32 rfl Try.underlying27 info36 rfl (by decide) (by omega) (.slice none 0 0) ([] : List (S36)) l0_2 _ _ _ (fun _ => True) (fun _ => False) rfl rfl ?aO ?aR (fun _ _ h => h) (fun _ h => h.elim) ?aF ?aB ?aS ?aL ?_; (case aR => exact Kd.C_below HR0_2.out (by repeat (first | (with_reducible first | exact HB.out | apply below_alloc | apply pw_below_drewN | apply below_drew1 | refine below_set ?_ GE156.out | refine below_set ?_ GE157.out | refine below_set ?_ GE158.out) | exact HB.out))); (case aB => exact (by repeat (first | (with_reducible first | exact HB.out | apply below_alloc | apply pw_below_drewN | apply below_drew1 | refine below_set ?_ GE156.out | refine below_set ?_ GE157.out | refine below_set ?_ GE158.out) | exact HB.out))); (case aF => exact (fun _ _ => trivial)); (case aO => exact ((Kd.R_nil _ _ _ _ (fun _ => True)))); (case aS => exact (below_size (by repeat (first | (with_reducible first | exact HB.out | apply below_alloc | apply pw_below_drewN | apply below_drew1 | refine below_set ?_ GE156.out | refine below_set ?_ GE157.out | refine below_set ?_ GE158.out) | exact HB.out)))); (case aL => have := LMc3.out; omega); intro v163 w18 ho hb hg hat; rw [← Ny162.out] at ho; have n0_ := Aside0.mk (blk_grown (g := gb156) (o := .cells #[.string a0_0, .slice A0_1 l0_1.length c0_1, .slice A0_2 l0_2.length c0_2, .slice A0_3 l0_3.length c0_3] 40 (0, 0)) (by (with_reducible repeat (first | refine blk_drewN ?_ _ | refine blk_drew ?_ | refine blk_alloc ?_ _)); refine blk_far ?_ NB156_158.out _; (with_reducible repeat (first | refine blk_drewN ?_ _ | refine blk_drew ?_ | refine blk_alloc ?_ _)); exact BK156.out) hg (by simp [Value.ownBlock])); have n1_ := Aside0.mk (blk_grown (g := gb157) (o := .cells #[.string (⟨#[]⟩ : ByteArray), .slice none 0 0, .slice none 0 0, .slice none 0 0] 40 (0, 0)) (by (with_reducible repeat (first | refine blk_drewN ?_ _ | refine blk_drew ?_ | refine blk_alloc ?_ _)); refine blk_far ?_ NB157_158.out _; (with_reducible repeat (first | refine blk_drewN ?_ _ | refine blk_drew ?_ | refine blk_alloc ?_ _)); exact BK157.out) hg (by simp [Value.ownBlock])); have n2_ := Aside0.mk (blk_grown (g := gb158) (o := .cells #[.string a0_0, .slice Ao15 y159.length co15, .slice none 0 0, .slice none 0 0] 40 (0, 0)) (by (with_reducible repeat (first | refine blk_drewN ?_ _ | refine blk_drew ?_ | refine blk_alloc ?_ _)); refine blk_put (cs := #[.string a0_0, .slice none 0 0, .slice none 0 0, .slice none 0 0]) ?_ 1 _ rfl; (with_reducible repeat (first | refine blk_drewN ?_ _ | refine blk_drew ?_ | refine blk_alloc ?_ _)); exact BK158.out) hg (by simp [Value.ownBlock])); have n3_ := Aside0.mk (Kd.R_grown (by (with_reducible repeat (first | apply Kd.R_alloc | apply Kd.R_drewN | apply Kd.R_drew)); exact (Kd.R_mono (Kd.R_far (p := ⟨gb158, 1, none⟩) (Kd.R_types HO161.out BK158.out (by decide)) (fun _ hk => hk.2) (.slice Ao15 y159.length co15)) (fun _ h_ => h_.1))) hg (fun _ _ => by simp [Value.ownBlock])); have n4_ := Aside0.mk (hb); have n5_ := Aside0.mk (ho); clear BK156; clear BK157; clear BK158; clear HO161; clear HB; have BK156 := n0_; have BK157 := n1_; have BK158 := n2_; have HO161 := n3_; have HB := n4_; have HO164 := n5_; clear n0_ n1_ n2_ n3_ n4_ n5_; clear ho hb hg hat; obtain ⟨Ao19, co19, eo19⟩ := Kd.R_slice HO164.out; subst eo19; have hcz20_0 : w18.cell? ⟨gb158, 0, none⟩ = some (.string a0_0) := (blk_cell BK158.out 0).trans rfl; have hcz20_1 : w18.cell? ⟨gb158, 1, none⟩ = some (.slice Ao15 y159.length co15) := (blk_cell BK158.out 1).trans rfl; have hcz20_2 : w18.cell? ⟨gb158, 2, none⟩ = some (.slice none 0 0) := (blk_cell BK158.out 2).trans rfl; have hcz20_3 : w18.cell? ⟨gb158, 3, none⟩ = some (.slice none 0 0) := (blk_cell BK158.out 3).trans rfl; have hfz20_0 := blk_frozen BK158.out 0; have hfz20_1 := blk_frozen BK158.out 1; have hfz20_2 := blk_frozen BK158.out 2; have hfz20_3 := blk_frozen BK158.out 3; have hcz21_0 : w18.cell? ⟨gb156, 0, none⟩ = some (.string a0_0) := (blk_cell BK156.out 0).trans rfl; have hcz21_1 : w18.cell? ⟨gb156, 1, none⟩ = some (.slice A0_1 l0_1.length c0_1) := (blk_cell BK156.out 1).trans rfl; have hcz21_2 : w18.cell? ⟨gb156, 2, none⟩ = some (.slice A0_2 l0_2.length c0_2) := (blk_cell BK156.out 2).trans rfl; have hcz21_3 : w18.cell? ⟨gb156, 3, none⟩ = some (.slice A0_3 l0_3.length c0_3) := (blk_cell BK156.out 3).trans rfl; have hfz21_0 := blk_frozen BK156.out 0; have hfz21_1 := blk_frozen BK156.out 1; have hfz21_2 := blk_frozen BK156.out 2; have hfz21_3 := blk_frozen BK156.out 3) | ((with_reducible refine gate_builtin (b := .append) (xs := #[.tmp 20, .tmp 22]) rfl ?_); at_builtin; refine Kd.R_append_rows k45 (w0 := w) w.heap.size rfl (.tmp 20) (.tmp 22) 38 45 (.agg #[(.int .i64 0), (.int .i64 0), (.string ⟨#[]⟩), (.int .i64 0)]) 40 rfl Try.underlying38 info45 rfl (by decide) (by omega) (.slice none 0 0) ([] : List (S45)) l0_3 _ _ _ (fun _ => True) (fun _ => False) rfl rfl ?aO ?aR (fun _ _ h => h) (fun _ h => h.elim) ?aF ?aB ?aS ?aL ?_; (case aR => exact Kd.C_below HR0_3.out (by repeat (first | (with_reducible first | exact HB.out | apply below_alloc | apply pw_below_drewN | apply below_drew1 | refine below_set ?_ GE156.out | refine below_set ?_ GE157.out | refine below_set ?_ GE158.out) | exact HB.out))); (case aB => exact (by repeat (first | (with_reducible first | exact HB.out | apply below_alloc | apply pw_below_drewN | apply below_drew1 | refine below_set ?_ GE156.out | refine below_set ?_ GE157.out | refine below_set ?_ GE158.out) | exact HB.out))); (case aF => exact (fun _ _ => trivial)); (case aO => exact ((Kd.R_nil _ _ _ _ (fun _ => True)))); (case aS => exact (below_size (by repeat (first | (with_reducible first | exact HB.out | apply below_alloc | apply pw_below_drewN | apply below_drew1 | refine below_set ?_ GE156.out | refine below_set ?_ GE157.out | refine below_set ?_ GE158.out) | exact HB.out)))); (case aL => have := LMc4.out; omega); intro v166 w22 ho hb hg hat; rw [← Ny165.out] at ho; have n0_ := Aside0.mk (blk_grown (g := gb156) (o := .cells #[.string a0_0, .slice A0_1 l0_1.length c0_1, .slice A0_2 l0_2.length c0_2, .slice A0_3 l0_3.length c0_3] 40 (0, 0)) (by (with_reducible repeat (first | refine blk_drewN ?_ _ | refine blk_drew ?_ | refine blk_alloc ?_ _)); refine blk_far ?_ NB156_158.out _; (with_reducible repeat (first | refine blk_drewN ?_ _ | refine blk_drew ?_ | refine blk_alloc ?_ _)); exact BK156.out) hg (by simp [Value.ownBlock])); have n1_ := Aside0.mk (blk_grown (g := gb157) (o := .cells #[.string (⟨#[]⟩ : ByteArray), .slice none 0 0, .slice none 0 0, .slice none 0 0] 40 (0, 0)) (by (with_reducible repeat (first | refine blk_drewN ?_ _ | refine blk_drew ?_ | refine blk_alloc ?_ _)); refine blk_far ?_ NB157_158.out _; (with_reducible repeat (first | refine blk_drewN ?_ _ | refine blk_drew ?_ | refine blk_alloc ?_ _)); exact BK157.out) hg (by simp [Value.ownBlock])); have n2_ := Aside0.mk (blk_grown (g := gb158) (o := .cells #[.string a0_0, .slice Ao15 y159.length co15, .slice Ao19 y162.length co19, .slice none 0 0] 40 (0, 0)) (by (with_reducible repeat (first | refine blk_drewN ?_ _ | refine blk_drew ?_ | refine blk_alloc ?_ _)); refine blk_put (cs := #[.string a0_0, .slice Ao15 y159.length co15, .slice none 0 0, .slice none 0 0]) ?_ 2 _ rfl; (with_reducible repeat (first | refine blk_drewN ?_ _ | refine blk_drew ?_ | refine blk_alloc ?_ _)); exact BK158.out) hg (by simp [Value.ownBlock])); have n3_ := Aside0.mk (Kd.R_grown (by (with_reducible repeat (first | apply Kd.R_alloc | apply Kd.R_drewN | apply Kd.R_drew)); exact (Kd.R_mono (Kd.R_far (p := ⟨gb158, 2, none⟩) (Kd.R_types HO161.out BK158.out (by decide)) (fun _ hk => hk.2) (.slice Ao19 y162.length co19)) (fun _ h_ => h_.1))) hg (fun _ _ => by simp [Value.ownBlock])); have n4_ := Aside0.mk (Kd.R_grown (by (with_reducible repeat (first | apply Kd.R_alloc | apply Kd.R_drewN | apply Kd.R_drew)); exact (Kd.R_mono (Kd.R_far (p := ⟨gb158, 2, none⟩) (Kd.R_types HO164.out BK158.out (by decide)) (fun _ hk => hk.2) (.slice Ao19 y162.length co19)) (fun _ h_ => h_.1))) hg (fun _ _ => by simp [Value.ownBlock])); have n5_ := Aside0.mk (hb); have n6_ := Aside0.mk (ho); clear BK156; clear BK157; clear BK158; clear HO161; clear HO164; clear HB; have BK156 := n0_; have BK157 := n1_; have BK158 := n2_; have HO161 := n3_; have HO164 := n4_; have HB := n5_; have HO167 := n6_; clear n0_ n1_ n2_ n3_ n4_ n5_ n6_; clear ho hb hg hat; obtain ⟨Ao23, co23, eo23⟩ := Kd.R_slice HO167.out; subst eo23; have hcz24_0 : w22.cell? ⟨gb158, 0, none⟩ = some (.string a0_0) := (blk_cell BK158.out 0).trans rfl; have hcz24_1 : w22.cell? ⟨gb158, 1, none⟩ = some (.slice Ao15 y159.length co15) := (blk_cell BK158.out 1).trans rfl; have hcz24_2 : w22.cell? ⟨gb158, 2, none⟩ = some (.slice Ao19 y162.length co19) := (blk_cell BK158.out 2).trans rfl; have hcz24_3 : w22.cell? ⟨gb158, 3, none⟩ = some (.slice none 0 0) := (blk_cell BK158.out 3).trans rfl; have hfz24_0 := blk_frozen BK158.out 0; have hfz24_1 := blk_frozen BK158.out 1; have hfz24_2 := blk_frozen BK158.out 2; have hfz24_3 := blk_frozen BK158.out 3; have hcz25_0 : w22.cell? ⟨gb157, 0, none⟩ = some (.string (⟨#[]⟩ : ByteArray)) := (blk_cell BK157.out 0).trans rfl; have hcz25_1 : w22.cell? ⟨gb157, 1, none⟩ = some (.slice none 0 0) := (blk_cell BK157.out 1).trans rfl; have hcz25_2 : w22.cell? ⟨gb157, 2, none⟩ = some (.slice none 0 0) := (blk_cell BK157.out 2).trans rfl; have hcz25_3 : w22.cell? ⟨gb157, 3, none⟩ = some (.slice none 0 0) := (blk_cell BK157.out 3).trans rfl; have hfz25_0 := blk_frozen BK157.out 0; have hfz25_1 := blk_frozen BK157.out 1; have hfz25_2 := blk_frozen BK157.out 2; have hfz25_3 := blk_frozen BK157.out 3))
        refine bodyPost_ret (results_cell_row rfl _ _ gb157 40 #[.string a0_0, .slice Ao15 y159.length co15, .slice Ao19 y162.length co19, .slice Ao23 y165.length co23] (0, 0) _ rfl (by (with_reducible repeat (first | refine blk_drewN ?_ _ | refine blk_drew ?_ | refine blk_alloc ?_ _)); refine blk_put (cs := #[.string a0_0, .slice Ao15 y159.length co15, .slice Ao19 y162.length co19, .slice none 0 0]) ?_ 3 _ rfl; (with_reducible repeat (first | refine blk_drewN ?_ _ | refine blk_drew ?_ | refine blk_alloc ?_ _)); refine blk_put (cs := #[.string a0_0, .slice Ao15 y159.length co15, .slice none 0 0, .slice none 0 0]) ?_ 2 _ rfl; (with_reducible repeat (first | refine blk_drewN ?_ _ | refine blk_drew ?_ | refine blk_alloc ?_ _)); refine blk_put (cs := #[.string a0_0, .slice none 0 0, .slice none 0 0, .slice none 0 0]) ?_ 1 _ rfl; (with_reducible repeat (first | refine blk_drewN ?_ _ | refine blk_drew ?_ | refine blk_alloc ?_ _)); refine blk_put (cs := #[.string (⟨#[]⟩ : ByteArray), .slice none 0 0, .slice none 0 0, .slice none 0 0]) ?_ 0 _ rfl; (with_reducible repeat (first | refine blk_drewN ?_ _ | refine blk_drew ?_ | refine blk_alloc ?_ _)); refine blk_far ?_ NB157_158.out _; (with_reducible repeat (first | refine blk_drewN ?_ _ | refine blk_drew ?_ | refine blk_alloc ?_ _)); exact BK157.out) Try.underlying40 rfl (by kernel_rfl)) rfl ?_
        exact ⟨_, _, _, by first | rfl | (simp [errW_none, errW_some] <;> rfl) | (simp [*, errW_none, errW_some] <;> rfl), by (with_reducible repeat (first | apply Kd.R_alloc | apply Kd.R_drewN | apply Kd.R_drew)); exact Kd.R_mono (Kd.R_far (p := ⟨gb157, 3, none⟩) (Kd.R_far (p := ⟨gb157, 2, none⟩) (Kd.R_far (p := ⟨gb157, 1, none⟩) (Kd.R_far (p := ⟨gb157, 0, none⟩) (Kd.R_far (p := ⟨gb158, 3, none⟩) (Kd.R_types (Kd.R_types HO161.out BK158.out (by decide)) BK157.out (by decide)) (fun _ hk => hk.1.2) (.slice Ao23 y165.length co23)) (fun _ hk => hk.2) (.string a0_0)) (fun _ hk => hk.2) (.slice Ao15 y159.length co15)) (fun _ hk => hk.2) (.slice Ao19 y162.length co19)) (fun _ hk => hk.2) (.slice Ao23 y165.length co23)) (fun _ hk => trivial), by (with_reducible repeat (first | apply Kd.R_alloc | apply Kd.R_drewN | apply Kd.R_drew)); exact Kd.R_mono (Kd.R_far (p := ⟨gb157, 3, none⟩) (Kd.R_far (p := ⟨gb157, 2, none⟩) (Kd.R_far (p := ⟨gb157, 1, none⟩) (Kd.R_far (p := ⟨gb157, 0, none⟩) (Kd.R_far (p := ⟨gb158, 3, none⟩) (Kd.R_types (Kd.R_types HO164.out BK158.out (by decide)) BK157.out (by decide)) (fun _ hk => hk.1.2) (.slice Ao23 y165.length co23)) (fun _ hk => hk.2) (.string a0_0)) (fun _ hk => hk.2) (.slice Ao15 y159.length co15)) (fun _ hk => hk.2) (.slice Ao19 y162.length co19)) (fun _ hk => hk.2) (.slice Ao23 y165.length co23)) (fun _ hk => trivial), by (with_reducible repeat (first | apply Kd.R_alloc | apply Kd.R_drewN | apply Kd.R_drew)); exact Kd.R_mono (Kd.R_far (p := ⟨gb157, 3, none⟩) (Kd.R_far (p := ⟨gb157, 2, none⟩) (Kd.R_far (p := ⟨gb157, 1, none⟩) (Kd.R_far (p := ⟨gb157, 0, none⟩) (Kd.R_far (p := ⟨gb158, 3, none⟩) (Kd.R_types (Kd.R_types HO167.out BK158.out (by decide)) BK157.out (by decide)) (fun _ hk => hk.1.2) (.slice Ao23 y165.length co23)) (fun _ hk => hk.2) (.string a0_0)) (fun _ hk => hk.2) (.slice Ao15 y159.length co15)) (fun _ hk => hk.2) (.slice Ao19 y162.length co19)) (fun _ hk => hk.2) (.slice Ao23 y165.length co23)) (fun _ hk => trivial), by repeat (first | (with_reducible first | exact HB.out | apply below_alloc | apply pw_below_drewN | apply below_drew1 | refine below_set ?_ GE156.out | refine below_set ?_ GE157.out | refine below_set ?_ GE158.out) | exact HB.out)⟩
      · rw [if_neg c4] at H
        exact absurd H (by simp)
    · rw [if_neg c3] at H
      exact absurd H (by simp)
  · rw [if_neg c2] at H
    exact absurd H (by simp)

/-! ### cotterref01_sized: function 32 -/
def cotterref01_sized.f (a0 : Int) : Option (Bool) := if a0 = 1 then (some true) else (if a0 = 4 then (some true) else (some (a0 == 8)))
set_option maxHeartbeats 8000000 in
set_option maxRecDepth 100000 in
theorem cotterref01_sized.calls (a0 : Int) (r : Bool) (w : World) (h : cotterref01_sized.f a0 = some r) :
    Calls Try.prog 32 #[.int .i64 a0] w fun e w' => e = .returned (.bool r) ∧ Drawn0 w w' := by
  have H : (if a0 = 1 then (some true) else (if a0 = 4 then (some true) else (some (a0 == 8)))) = some r := h
  clear h
  by_cases c2 : a0 = 1
  · rw [if_pos c2] at H
    have c2b0 : (a0 == 1) = true := beq_iff_eq.mpr c2
    have c2b1 : (a0 != 1) = false := bne_eq_false_iff_eq.mpr c2
    clear c2
    obtain rfl := Option.some.inj H
    go_enter Try.func32, Try.ntmps32
    go_wp2
    go_ret
    exact ⟨by first | rfl | (simp; done) | (simp [*]; done), by repeat (first | exact Drawn0.refl _ | apply Drawn0.step)⟩
  · rw [if_neg c2] at H
    have c2b0 : (a0 == 1) = false := beq_eq_false_iff_ne.mpr c2
    have c2b1 : (a0 != 1) = true := bne_iff_ne.mpr c2
    by_cases c3 : a0 = 4
    · rw [if_pos c3] at H
      have c3b0 : (a0 == 4) = true := beq_iff_eq.mpr c3
      have c3b1 : (a0 != 4) = false := bne_eq_false_iff_eq.mpr c3
      clear c3
      obtain rfl := Option.some.inj H
      go_enter Try.func32, Try.ntmps32
      go_wp2
      go_ret
      exact ⟨by first | rfl | (simp; done) | (simp [*]; done), by repeat (first | exact Drawn0.refl _ | apply Drawn0.step)⟩
    · rw [if_neg c3] at H
      have c3b0 : (a0 == 4) = false := beq_eq_false_iff_ne.mpr c3
      have c3b1 : (a0 != 4) = true := bne_iff_ne.mpr c3
      obtain rfl := Option.some.inj H
      go_enter Try.func32, Try.ntmps32
      go_wp2
      go_ret
      exact ⟨by first | rfl | (simp; done) | (simp [*]; done), by repeat (first | exact Drawn0.refl _ | apply Drawn0.step)⟩

/-! ### cotterref01_Bytes: function 31 -/
mutual
def cotterref01_Bytes.j0 : Nat → Int → Int → Option (ByteArray × Int)
  | 0, _, _ => none
  | k + 1, x0, x1 => cotterref01_Bytes.l0 k x1 ([] : List Int) (IntKind.u64.wrap (x0)) 0
def cotterref01_Bytes.l0 : Nat → Int → List Int → Int → Int → Option (ByteArray × Int)
  | 0, _, _, _, _ => none
  | k + 1, x1, x7, x8, x9 => if x9 < x1 then (if x7.length < 140737488355328 then (cotterref01_Bytes.l0 k x1 (x7 ++ [(Int.tmod x8 256) % 256]) (IntKind.u64.wrap (Int.tdiv x8 256)) (wrap64 (x9 + 1))) else (none)) else (some (strOfNums x7, 0))
end
def cotterref01_Bytes.f (k : Nat) (a0 : Int) (a1 : Int) : Option (ByteArray × Int) := (cotterref01_sized.f a1).bind fun t168 => (if t168 = true then (if a1 < 8 then (if 0 ≤ (IntKind.u64.wrap (wrap64 ((wrap64 (8 * a1)) - 1))) then (if a0 < (wrap64 (-(shl .i64 1 (IntKind.u64.wrap (wrap64 ((wrap64 (8 * a1)) - 1)))))) then (some ((⟨#[]⟩ : ByteArray), 7)) else (if a0 ≥ (shl .i64 1 (IntKind.u64.wrap (wrap64 ((wrap64 (8 * a1)) - 1)))) then (some ((⟨#[]⟩ : ByteArray), 7)) else (cotterref01_Bytes.j0 k a0 a1))) else (none)) else (cotterref01_Bytes.j0 k a0 a1)) else (some ((⟨#[]⟩ : ByteArray), 1)))
set_option maxHeartbeats 8000000 in
set_option maxRecDepth 100000 in
theorem cotterref01_Bytes.calls (k : Nat) (a0 : Int) (a1 : Int) (r1 : ByteArray) (r2 : Int) (w : World) (h : cotterref01_Bytes.f k a0 a1 = some (r1, r2)) :
    Calls Try.prog 31 #[.int .i64 a0, .int .i64 a1] w fun e w' => e = .returned (.tuple #[.string r1, .int .i64 r2]) ∧ Below w.heap.size w w' := by
  have HB := Aside0.mk (Below.refl w.heap.size w)
  have H : ((cotterref01_sized.f a1).bind fun t168 => (if t168 = true then (if a1 < 8 then (if 0 ≤ (IntKind.u64.wrap (wrap64 ((wrap64 (8 * a1)) - 1))) then (if a0 < (wrap64 (-(shl .i64 1 (IntKind.u64.wrap (wrap64 ((wrap64 (8 * a1)) - 1)))))) then (some ((⟨#[]⟩ : ByteArray), 7)) else (if a0 ≥ (shl .i64 1 (IntKind.u64.wrap (wrap64 ((wrap64 (8 * a1)) - 1)))) then (some ((⟨#[]⟩ : ByteArray), 7)) else (cotterref01_Bytes.j0 k a0 a1))) else (none)) else (cotterref01_Bytes.j0 k a0 a1)) else (some ((⟨#[]⟩ : ByteArray), 1)))) = some (r1, r2) := h
  clear h
  replace H := Option.bind_eq_some_iff.mp H
  obtain ⟨t168, A30, H⟩ := H
  replace H : (if t168 = true then (if a1 < 8 then (if 0 ≤ (IntKind.u64.wrap (wrap64 ((wrap64 (8 * a1)) - 1))) then (if a0 < (wrap64 (-(shl .i64 1 (IntKind.u64.wrap (wrap64 ((wrap64 (8 * a1)) - 1)))))) then (some ((⟨#[]⟩ : ByteArray), 7)) else (if a0 ≥ (shl .i64 1 (IntKind.u64.wrap (wrap64 ((wrap64 (8 * a1)) - 1)))) then (some ((⟨#[]⟩ : ByteArray), 7)) else (cotterref01_Bytes.j0 k a0 a1))) else (none)) else (cotterref01_Bytes.j0 k a0 a1)) else (some ((⟨#[]⟩ : ByteArray), 1))) = some (r1, r2) := H
  have A3 := Aside0.mk A30
  clear A30
  by_cases c4 : t168 = true
  · subst c4
    have H1 : (if a1 < 8 then (if 0 ≤ (IntKind.u64.wrap (wrap64 ((wrap64 (8 * a1)) - 1))) then (if a0 < (wrap64 (-(shl .i64 1 (IntKind.u64.wrap (wrap64 ((wrap64 (8 * a1)) - 1)))))) then (some ((⟨#[]⟩ : ByteArray), 7)) else (if a0 ≥ (shl .i64 1 (IntKind.u64.wrap (wrap64 ((wrap64 (8 * a1)) - 1)))) then (some ((⟨#[]⟩ : ByteArray), 7)) else (cotterref01_Bytes.j0 k a0 a1))) else (none)) else (cotterref01_Bytes.j0 k a0 a1)) = some (r1, r2) := by rw [if_pos rfl] at H; exact H
    clear H
    have H := H1
    clear H1
    have HC5 := Aside0.mk H
    clear H
    go_enter Try.func31, Try.ntmps31
    go_upto_if 14 with (first | ((with_reducible refine gate_callee (f := 32) rfl ?_); refine goesL_ (some 11) rfl rfl Try.func32 (by kernel_rfl) rfl #[.int .i64 a1] rfl (by (try simp only [List.map_toArray, List.map_cons, List.map_nil]); first | done | rfl | (simp only [List.length_drop, List.length_take]; rfl)) ?_; (with_reducible refine (cotterref01_sized.calls a1 true _ A3.out).mono ?_); rintro e w' ⟨rfl, ⟨nd, rfl⟩⟩; refine ⟨_, rfl, ?_⟩))
    (try simp only [Act.put, List.setIfInBounds_toArray, List.set_cons_zero, List.set_cons_succ])
    go_cut [] (fun wc => ∃ (kq : Nat), Aside0 (cotterref01_Bytes.j0 kq a0 a1 = some (r1, r2)) ∧ Aside0 (kq ≤ k) ∧ Aside0 (Below w.heap.size w wc))
    case first =>
      have H := HC5.out
      clear HC5
      by_cases c6 : a1 < 8
      · rw [if_pos c6] at H
        have c6b0 : decide (a1 < 8) = true := decide_eq_true c6
        clear c6
        (first | rw [c6b0] | (simp only [i64_w, i32_w]; rw [c6b0]) | skip)
        obtain ⟨ji7, hji7⟩ : ∃ j_ : Int, (IntKind.u64.wrap (wrap64 ((wrap64 (8 * a1)) - 1))) = j_ := ⟨_, rfl⟩
        replace H : (if 0 ≤ (ji7) then (if a0 < (wrap64 (-(shl .i64 1 (ji7)))) then (some ((⟨#[]⟩ : ByteArray), 7)) else (if a0 ≥ (shl .i64 1 (ji7)) then (some ((⟨#[]⟩ : ByteArray), 7)) else (cotterref01_Bytes.j0 k a0 a1))) else (none)) = some (r1, r2) := by first | (rw [hji7] at H; exact H) | (simp only [hji7] at H ⊢; exact H)
        by_cases c8 : 0 ≤ (ji7)
        · rw [if_pos c8] at H
          have c8b0 := eq_true c8
          have c8b1 : decide (0 ≤ (ji7)) = true := decide_eq_true c8
          clear c8
          obtain ⟨ji9, hji9⟩ : ∃ j_ : Int, (shl .i64 1 (ji7)) = j_ := ⟨_, rfl⟩
          replace H : (if a0 < (wrap64 (-(ji9))) then (some ((⟨#[]⟩ : ByteArray), 7)) else (if a0 ≥ (ji9) then (some ((⟨#[]⟩ : ByteArray), 7)) else (cotterref01_Bytes.j0 k a0 a1))) = some (r1, r2) := by first | (rw [hji9] at H; exact H) | (simp only [hji9] at H ⊢; exact H)
          have hji9_ : (IntKind.i64.wrap (1 * 2 ^ min (ji7).toNat 64)) = ji9 := hji9
          have hji9z : (ji7) ≤ 64 → (IntKind.i64.wrap (1 * 2 ^ (ji7).toNat)) = ji9 := shl_small hji9
          have hji9u : (IntKind.i64.wrap (2 ^ min (ji7).toNat 64)) = ji9 := by have h_ := hji9_; rw [Int.one_mul] at h_; exact h_
          have hji9v : (ji7) ≤ 64 → (IntKind.i64.wrap (2 ^ (ji7).toNat)) = ji9 := fun hle_ => by have h_ := hji9z hle_; rw [Int.one_mul] at h_; exact h_
          have hji9y : (wrap64 (1 * 2 ^ min (ji7).toNat 64)) = ji9 := (i64_w _).symm.trans hji9_
          have hji9x : (ji7) ≤ 64 → (wrap64 (1 * 2 ^ (ji7).toNat)) = ji9 := fun h_ => (i64_w _).symm.trans (hji9z h_)
          by_cases c10 : a0 < (wrap64 (-(ji9)))
          · rw [if_pos c10] at H
            have c10b0 : decide (a0 < (wrap64 (-(ji9)))) = true := decide_eq_true c10
            clear c10
            simp only [Option.some.injEq, Prod.mk.injEq] at H
            obtain ⟨rfl, rfl⟩ := H
            go_wp2
            go_ret2
            exact ⟨by first | rfl | (simp [errW_none, errW_some] <;> rfl) | (simp only [← hji7, ← hji9]; first | rfl | (simp [errW_none, errW_some] <;> rfl)) | (simp [*, errW_none, errW_some] <;> rfl), by repeat (first | (with_reducible first | exact HB.out | apply below_alloc | apply pw_below_drewN | apply below_drew1) | exact HB.out)⟩
          · rw [if_neg c10] at H
            have c10b0 : decide (a0 < (wrap64 (-(ji9)))) = false := decide_eq_false c10
            clear c10
            by_cases c11 : a0 ≥ (ji9)
            · rw [if_pos c11] at H
              have c11b0 : decide ((ji9) ≤ a0) = true := decide_eq_true c11
              clear c11
              simp only [Option.some.injEq, Prod.mk.injEq] at H
              obtain ⟨rfl, rfl⟩ := H
              go_wp2
              go_ret2
              exact ⟨by first | rfl | (simp [errW_none, errW_some] <;> rfl) | (simp only [← hji7, ← hji9]; first | rfl | (simp [errW_none, errW_some] <;> rfl)) | (simp [*, errW_none, errW_some] <;> rfl), by repeat (first | (with_reducible first | exact HB.out | apply below_alloc | apply pw_below_drewN | apply below_drew1) | exact HB.out)⟩
            · rw [if_neg c11] at H
              have c11b0 : decide ((ji9) ≤ a0) = false := decide_eq_false c11
              clear c11
              have H' := Aside0.mk H
              clear H
              go_wp2
              go_meet
              case rel => exact ⟨_, H', ⟨by first | omega | exact Nat.le_refl _⟩, ⟨by repeat (first | (with_reducible first | exact HB.out | apply below_alloc | apply pw_below_drewN | apply below_drew1) | exact HB.out)⟩⟩
        · rw [if_neg c8] at H
          exact absurd H (by simp)
      · rw [if_neg c6] at H
        have c6b0 : decide (a1 < 8) = false := decide_eq_false c6
        clear c6
        (first | rw [c6b0] | (simp only [i64_w, i32_w]; rw [c6b0]) | skip)
        have H' := Aside0.mk H
        clear H
        go_wp2
        go_meet
        case rel => exact ⟨_, H', ⟨by first | omega | exact Nat.le_refl _⟩, ⟨by repeat (first | (with_reducible first | exact HB.out | apply below_alloc | apply pw_below_drewN | apply below_drew1) | exact HB.out)⟩⟩
    case rest =>
      clear HC5
      try clear c1
      try clear p2
      try clear c3
      try clear c4
      try clear c6
      try clear c6b0
      try clear p6
      try clear c8
      try clear c8b0
      try clear c8b1
      try clear c10
      try clear c10b0
      try clear c11
      try clear c11b0
      obtain ⟨kq, HA, HJ4, HB⟩ := hcut
      cases kq with
      | zero => exact absurd HA.out (by simp [cotterref01_Bytes.j0])
      | succ kj4 =>
        have H := HA.out
        clear HA
        simp only [cotterref01_Bytes.j0] at H
        have H' := Aside0.mk H
        clear H
        go_wp2
        go_loopg [7, 8, 9] kj4 (fun kq v7 v8 v9 w' => ∃ (x7_2 : List Int) (x8_2 : Int) (x9_2 : Int), v8 = .int .u64 x8_2 ∧ v9 = .int .i64 x9_2 ∧ Aside0 (cotterref01_Bytes.l0 kq a1 x7_2 x8_2 x9_2 = some (r1, r2)) ∧ Aside0 (kq ≤ kj4) ∧ Aside0 (Kd.R (Kd.int .u8) 5 w' w.heap.size (fun _ => True) v7 x7_2) ∧ Aside0 (Below w.heap.size w w'))
        case atStart => exact ⟨(([] : List Int)), (IntKind.u64.wrap (a0)), (0), (by first | rfl | (simp; done) | (simp [*]; done)), (by first | rfl | (simp; done) | (simp [*]; done)), H', ⟨Nat.le_refl _⟩, ⟨by first | exact Kd.R_nil _ _ _ _ _ | exact Kd.N_nil _ _ _ _ _ | exact Kd.V_nil _ _ _ _ _ | exact Kd.Q_nil _ _ _ _ _ | exact Kd.S_nil _ _ _ _ _⟩, ⟨by repeat (first | (with_reducible first | exact HB.out | apply below_alloc | apply pw_below_drewN | apply below_drew1) | exact HB.out)⟩⟩
        case round =>
          clear H'
          try clear c1
          try clear p2
          try clear c3
          try clear c4
          try clear c6
          try clear c6b0
          try clear p6
          try clear c8
          try clear c8b0
          try clear c8b1
          try clear c10
          try clear c10b0
          try clear c11
          try clear c11b0
          try clear p2
          try clear p6
          obtain ⟨x7_2, x8_2, x9_2, rfl, rfl, HA, HK2, HO_7, HB⟩ := hrel
          cases gk with
          | zero => exact absurd HA.out (by simp [cotterref01_Bytes.l0])
          | succ k2 =>
            have H := HA.out
            clear HA
            simp only [cotterref01_Bytes.l0] at H
            by_cases c12 : x9_2 < a1
            · rw [if_pos c12] at H
              have c12b0 : decide (x9_2 < a1) = true := decide_eq_true c12
              clear c12
              by_cases c13 : x7_2.length < 140737488355328
              · rw [if_pos c13] at H
                have LMc13 := Aside0.mk c13
                clear c13
                obtain ⟨y169, hy169⟩ : ∃ y_ : List Int, y_ = (x7_2 ++ [(Int.tmod x8_2 256) % 256]) := ⟨_, rfl⟩
                replace H : (cotterref01_Bytes.l0 k2 a1 y169 (IntKind.u64.wrap (Int.tdiv x8_2 256)) (wrap64 (x9_2 + 1))) = some (r1, r2) := by first | (rw [hy169]; with_reducible exact H) | (have H2_ := (Option.bind_some _ _).symm.trans H; rw [hy169]; with_reducible exact H2_) | (have H2_ := (Option.bind_some _ _).symm.trans H; with_reducible exact H2_) | with_reducible exact H | (rw [hy169]; exact H) | exact H
                have Ny169 := Aside0.mk hy169
                clear hy169
                have H' := Aside0.mk H
                clear H
                go_wp2_with (first | ((with_reducible refine gate_builtin (b := .append) (xs := #[.tmp 36, .tmp 40]) rfl ?_); at_builtin; refine Kd.R_append (Kd.int .u8) (w0 := w) w.heap.size rfl (.tmp 36) (.tmp 40) 57 5 (.int .u8 0) 1 rfl Try.underlying57 info5 rfl (by decide) (by omega) u7 x7_2 ((Int.tmod x8_2 256) % 256) [.int .u8 ((Int.tmod x8_2 256) % 256)] (fun _ => True) (fun _ => False) rfl rfl ?aP (fun _ hk => hk.elim) ?aF ?aO ?aB ?aS ?aL ?_; (case aP => exact rfl); (case aB => exact (by repeat (first | (with_reducible first | exact HB.out | apply below_alloc | apply pw_below_drewN | apply below_drew1) | exact HB.out))); (case aF => exact (fun _ _ => trivial)); (case aO => exact (by (with_reducible repeat (first | apply Kd.R_alloc | apply Kd.R_drewN | apply Kd.R_drew)); exact HO_7.out)); (case aS => exact (below_size (by repeat (first | (with_reducible first | exact HB.out | apply below_alloc | apply pw_below_drewN | apply below_drew1) | exact HB.out)))); (case aL => have := LMc13.out; omega); intro v170 w14 ho hb hg hat; rw [← Ny169.out] at ho; have n0_ := Aside0.mk (hb); have n1_ := Aside0.mk (ho); clear HB; clear HO_7; have HB := n0_; have HO171 := n1_; clear n0_ n1_; clear ho hb hg hat))
                go_roundg k2
                case measure => have := HJ4.out; have := HK2.out; omega
                case rel => exact ⟨(y169), (IntKind.u64.wrap (Int.tdiv x8_2 256)), (wrap64 (x9_2 + 1)), (by first | rfl | (simp; done) | (simp [*]; done)), (by first | rfl | (simp; done) | (simp [*]; done)), H', ⟨by have := HJ4.out; have := HK2.out; omega⟩, ⟨by (with_reducible repeat (first | apply Kd.R_alloc | apply Kd.R_drewN | apply Kd.R_drew)); exact HO171.out⟩, ⟨by repeat (first | (with_reducible first | exact HB.out | apply below_alloc | apply pw_below_drewN | apply below_drew1) | exact HB.out)⟩⟩
              · rw [if_neg c13] at H
                exact absurd H (by simp)
            · rw [if_neg c12] at H
              have c12b0 : decide (x9_2 < a1) = false := decide_eq_false c12
              clear c12
              simp only [Option.some.injEq, Prod.mk.injEq] at H
              obtain ⟨rfl, rfl⟩ := H
              have hcv15 := own_string (P := Try.prog) Try.underlying57 Try.underlying5 Try.underlying9 (Kd.own_of_R HO_7.out)
              go_wp2
              go_ret2
              exact ⟨by first | rfl | (simp [errW_none, errW_some] <;> rfl) | (simp [*, errW_none, errW_some] <;> rfl), by repeat (first | (with_reducible first | exact HB.out | apply below_alloc | apply pw_below_drewN | apply below_drew1) | exact HB.out)⟩
  · replace c4 := Bool.eq_false_iff.mpr c4
    subst c4
    have H1 : (some ((⟨#[]⟩ : ByteArray), 1)) = some (r1, r2) := by rw [if_neg (show ¬ (false = true) by decide)] at H; exact H
    clear H
    have H := H1
    clear H1
    simp only [Option.some.injEq, Prod.mk.injEq] at H
    obtain ⟨rfl, rfl⟩ := H
    go_enter Try.func31, Try.ntmps31
    go_wp2_with (first | ((with_reducible refine gate_callee (f := 32) rfl ?_); refine goesL_ (some 11) rfl rfl Try.func32 (by kernel_rfl) rfl #[.int .i64 a1] rfl (by (try simp only [List.map_toArray, List.map_cons, List.map_nil]); first | done | rfl | (simp only [List.length_drop, List.length_take]; rfl)) ?_; (with_reducible refine (cotterref01_sized.calls a1 false _ A3.out).mono ?_); rintro e w' ⟨rfl, ⟨nd, rfl⟩⟩; refine ⟨_, rfl, ?_⟩))
    go_ret2
    exact ⟨by first | rfl | (simp [errW_none, errW_some] <;> rfl) | (simp [*, errW_none, errW_some] <;> rfl), by repeat (first | (with_reducible first | exact HB.out | apply below_alloc | apply pw_below_drewN | apply below_drew1) | exact HB.out)⟩

end Go.Proofs.Yteaealmnmmcbpaa.M

-- Written by a program of this session (wip/ownprint.py) over the translation. Lean checks it.
namespace Go.Proofs.Yteaealmnmmcbpaa.M
open Go.RowKit Go.Proofs.YteaealmnmmcbpaaW.PrintWords Go.Proofs.YteaealmnmmcbpaaW.PrintLast
set_option linter.unusedVariables false
set_option linter.unusedSimpArgs false

/-! ### cotterref01_Number: function 17 -/
/-! ### word_Bytes: function 35 -/
mutual
def word_Bytes.j0 : Nat → Int → Int → Option (ByteArray × Int)
  | 0, _, _ => none
  | k + 1, x0, x1 => if 0 ≤ x1 then (if (x1 : Int).toNat ≤ 281474976710656 then ((some (List.replicate (x1 : Int).toNat 0 : List Int)).bind fun y173 => (word_Bytes.l0 k x0 y173 (y173.length : Int) 0)) else (none)) else (none)
def word_Bytes.l0 : Nat → Int → List Int → Int → Int → Option (ByteArray × Int)
  | 0, _, _, _, _ => none
  | k + 1, x0, x6, x28, x29 => if x29 < x28 then (if 0 ≤ (wrap64 (8 * x29)) then (if 0 ≤ x29 then (if x29 < (x6.length : Int) then (word_Bytes.l0 k x0 (x6.set (x29 : Int).toNat ((shr .i64 x0 (wrap64 (8 * x29))) % 256)) x28 (wrap64 (x29 + 1))) else (none)) else (none)) else (none)) else (some (strOfNums x6, 0))
end
def word_Bytes.f (k : Nat) (a0 : Int) (a1 : Int) : Option (ByteArray × Int) := if a1 = 1 then (if a0 = (wrap64 (IntKind.i8.wrap (a0))) then (word_Bytes.j0 k a0 a1) else (some ((⟨#[]⟩ : ByteArray), 7))) else (if a1 = 4 then (if a0 = (wrap64 (wrap32 (a0))) then (word_Bytes.j0 k a0 a1) else (some ((⟨#[]⟩ : ByteArray), 7))) else (if a1 = 8 then (word_Bytes.j0 k a0 a1) else (some ((⟨#[]⟩ : ByteArray), 1))))
set_option maxHeartbeats 8000000 in
set_option maxRecDepth 100000 in
theorem word_Bytes.calls (k : Nat) (a0 : Int) (a1 : Int) (r1 : ByteArray) (r2 : Int) (w : World) (h : word_Bytes.f k a0 a1 = some (r1, r2)) :
    Calls Try.prog 35 #[.int .i64 a0, .int .i64 a1] w fun e w' => e = .returned (.tuple #[.string r1, .int .i64 r2]) ∧ Below w.heap.size w w' := by
  have HB := Aside0.mk (Below.refl w.heap.size w)
  have H : (if a1 = 1 then (if a0 = (wrap64 (IntKind.i8.wrap (a0))) then (word_Bytes.j0 k a0 a1) else (some ((⟨#[]⟩ : ByteArray), 7))) else (if a1 = 4 then (if a0 = (wrap64 (wrap32 (a0))) then (word_Bytes.j0 k a0 a1) else (some ((⟨#[]⟩ : ByteArray), 7))) else (if a1 = 8 then (word_Bytes.j0 k a0 a1) else (some ((⟨#[]⟩ : ByteArray), 1))))) = some (r1, r2) := h
  clear h
  have HC3 := Aside0.mk H
  clear H
  go_enter Try.func35, Try.ntmps35
  go_upto_block 0 with (fail)
  go_cut [] (fun wc => ∃ (kq : Nat), Aside0 (word_Bytes.j0 kq a0 a1 = some (r1, r2)) ∧ Aside0 (kq ≤ k) ∧ Aside0 (Below w.heap.size w wc))
  case first =>
    have H := HC3.out
    clear HC3
    by_cases c4 : a1 = 1
    · rw [if_pos c4] at H
      have c4b0 : (a1 == 1) = true := beq_iff_eq.mpr c4
      have c4b1 : (a1 != 1) = false := bne_eq_false_iff_eq.mpr c4
      clear c4
      (first | rw [c4b0] | (simp only [i64_w, i32_w]; rw [c4b0]) | skip)
      by_cases c5 : a0 = (wrap64 (IntKind.i8.wrap (a0)))
      · rw [if_pos c5] at H
        have c5b0 : (a0 == (wrap64 (IntKind.i8.wrap (a0)))) = true := beq_iff_eq.mpr c5
        have c5b1 : (a0 != (wrap64 (IntKind.i8.wrap (a0)))) = false := bne_eq_false_iff_eq.mpr c5
        clear c5
        have H' := Aside0.mk H
        clear H
        go_wp2
        go_meet
        case rel => exact ⟨_, H', ⟨by first | omega | exact Nat.le_refl _⟩, ⟨by repeat (first | (with_reducible first | exact HB.out | apply below_alloc | apply pw_below_drewN | apply below_drew1) | exact HB.out)⟩⟩
      · rw [if_neg c5] at H
        have c5b0 : (a0 == (wrap64 (IntKind.i8.wrap (a0)))) = false := beq_eq_false_iff_ne.mpr c5
        have c5b1 : (a0 != (wrap64 (IntKind.i8.wrap (a0)))) = true := bne_iff_ne.mpr c5
        simp only [Option.some.injEq, Prod.mk.injEq] at H
        obtain ⟨rfl, rfl⟩ := H
        go_wp2
        go_ret2
        exact ⟨by first | rfl | (simp [errW_none, errW_some] <;> rfl) | (simp [*, errW_none, errW_some] <;> rfl), by repeat (first | (with_reducible first | exact HB.out | apply below_alloc | apply pw_below_drewN | apply below_drew1) | exact HB.out)⟩
    · rw [if_neg c4] at H
      have c4b0 : (a1 == 1) = false := beq_eq_false_iff_ne.mpr c4
      have c4b1 : (a1 != 1) = true := bne_iff_ne.mpr c4
      (first | rw [c4b0] | (simp only [i64_w, i32_w]; rw [c4b0]) | skip)
      by_cases c6 : a1 = 4
      · rw [if_pos c6] at H
        have c6b0 : (a1 == 4) = true := beq_iff_eq.mpr c6
        have c6b1 : (a1 != 4) = false := bne_eq_false_iff_eq.mpr c6
        clear c6
        by_cases c7 : a0 = (wrap64 (wrap32 (a0)))
        · rw [if_pos c7] at H
          have c7b0 : (a0 == (wrap64 (wrap32 (a0)))) = true := beq_iff_eq.mpr c7
          have c7b1 : (a0 != (wrap64 (wrap32 (a0)))) = false := bne_eq_false_iff_eq.mpr c7
          clear c7
          have H' := Aside0.mk H
          clear H
          go_wp2
          go_meet
          case rel => exact ⟨_, H', ⟨by first | omega | exact Nat.le_refl _⟩, ⟨by repeat (first | (with_reducible first | exact HB.out | apply below_alloc | apply pw_below_drewN | apply below_drew1) | exact HB.out)⟩⟩
        · rw [if_neg c7] at H
          have c7b0 : (a0 == (wrap64 (wrap32 (a0)))) = false := beq_eq_false_iff_ne.mpr c7
          have c7b1 : (a0 != (wrap64 (wrap32 (a0)))) = true := bne_iff_ne.mpr c7
          simp only [Option.some.injEq, Prod.mk.injEq] at H
          obtain ⟨rfl, rfl⟩ := H
          go_wp2
          go_ret2
          exact ⟨by first | rfl | (simp [errW_none, errW_some] <;> rfl) | (simp [*, errW_none, errW_some] <;> rfl), by repeat (first | (with_reducible first | exact HB.out | apply below_alloc | apply pw_below_drewN | apply below_drew1) | exact HB.out)⟩
      · rw [if_neg c6] at H
        have c6b0 : (a1 == 4) = false := beq_eq_false_iff_ne.mpr c6
        have c6b1 : (a1 != 4) = true := bne_iff_ne.mpr c6
        by_cases c8 : a1 = 8
        · rw [if_pos c8] at H
          have c8b0 : (a1 == 8) = true := beq_iff_eq.mpr c8
          have c8b1 : (a1 != 8) = false := bne_eq_false_iff_eq.mpr c8
          clear c8
          have H' := Aside0.mk H
          clear H
          go_wp2
          go_meet
          case rel => exact ⟨_, H', ⟨by first | omega | exact Nat.le_refl _⟩, ⟨by repeat (first | (with_reducible first | exact HB.out | apply below_alloc | apply pw_below_drewN | apply below_drew1) | exact HB.out)⟩⟩
        · rw [if_neg c8] at H
          have c8b0 : (a1 == 8) = false := beq_eq_false_iff_ne.mpr c8
          have c8b1 : (a1 != 8) = true := bne_iff_ne.mpr c8
          simp only [Option.some.injEq, Prod.mk.injEq] at H
          obtain ⟨rfl, rfl⟩ := H
          go_wp2
          go_ret2
          exact ⟨by first | rfl | (simp [errW_none, errW_some] <;> rfl) | (simp [*, errW_none, errW_some] <;> rfl), by repeat (first | (with_reducible first | exact HB.out | apply below_alloc | apply pw_below_drewN | apply below_drew1) | exact HB.out)⟩
  case rest =>
    clear HC3
    try clear p2
    try clear c3
    try clear p3
    try clear c4
    try clear c4b0
    try clear c4b1
    try clear c5
    try clear c5b0
    try clear c5b1
    try clear c6
    try clear c6b0
    try clear c6b1
    try clear p6
    try clear c7
    try clear c7b0
    try clear c7b1
    try clear c8
    try clear c8b0
    try clear c8b1
    obtain ⟨kq, HA, HJ2, HB⟩ := hcut
    cases kq with
    | zero => exact absurd HA.out (by simp [word_Bytes.j0])
    | succ kj2 =>
      have H := HA.out
      clear HA
      simp only [word_Bytes.j0] at H
      by_cases c9 : 0 ≤ a1
      · rw [if_pos c9] at H
        have c9b0 := eq_true c9
        have c9b1 : decide (0 ≤ a1) = true := decide_eq_true c9
        clear c9
        by_cases c10 : (a1 : Int).toNat ≤ 281474976710656
        · rw [if_pos c10] at H
          have c10b0 := eq_true c10
          have c10b1 : decide ((a1 : Int).toNat ≤ 281474976710656) = true := decide_eq_true c10
          clear c10
          obtain ⟨y173, hy173⟩ : ∃ y_ : List Int, y_ = (List.replicate (a1 : Int).toNat 0) := ⟨_, rfl⟩
          replace H : (word_Bytes.l0 kj2 a0 y173 (y173.length : Int) 0) = some (r1, r2) := by first | (rw [hy173]; with_reducible exact H) | (have H2_ := (Option.bind_some _ _).symm.trans H; rw [hy173]; with_reducible exact H2_) | (have H2_ := (Option.bind_some _ _).symm.trans H; with_reducible exact H2_) | with_reducible exact H | (rw [hy173]; exact H) | exact H
          have Ny173 := Aside0.mk hy173
          clear hy173
          have H' := Aside0.mk H
          clear H
          go_wp2_with (first | ((with_reducible refine gate_dst (N := 26) rfl ?_); refine Kd.R_make (Kd.int .u8) _ 5 rfl (N := 26) rfl 57 _ _ rfl a1 rfl rfl Try.underlying57 (.int .u8 0) 1 info5 rfl (by decide) (by omega) 0 (ok := fun _ => True) (okp := fun _ => True) rfl (fun _ hk => hk) trivial (of_decide_eq_true (by first | (with_reducible assumption) | assumption)) (Nat.le_trans (Nat.mul_le_mul_right _ (of_decide_eq_true (by first | (with_reducible assumption) | assumption) : a1.toNat ≤ 281474976710656)) (by omega)) (Below.refl _ _) (Nat.le_refl _) ?_; intro v174 w11 ho12 hb hg_ hnew_; clear hg_ hnew_; (first | rw [← Ny173.out] at ho12 | (simp only [Int.reduceToNat] at ho12; rw [← Ny173.out] at ho12)); have n0_ := Aside0.mk (Kd.R_lower ho12 (below_size (by repeat (first | (with_reducible first | exact HB.out | apply below_alloc | apply pw_below_drewN | apply below_drew1) | exact HB.out)))); have n1_ := Aside0.mk (below_step (by repeat (first | (with_reducible first | exact HB.out | apply below_alloc | apply pw_below_drewN | apply below_drew1) | exact HB.out)) hb); clear HB; have HO175 := n0_; have HB := n1_; clear n0_ n1_; clear hb ho12; obtain ⟨Ao13, co13, eo13⟩ := Kd.R_slice HO175.out; subst eo13))
          go_loopg [29] kj2 (fun kq v29 w' => ∃ (x6_2 : List Int) (x29_2 : Int), v29 = .int .i64 x29_2 ∧ Aside0 (word_Bytes.l0 kq a0 x6_2 (y173.length : Int) x29_2 = some (r1, r2)) ∧ Aside0 (kq ≤ kj2) ∧ Aside0 (Kd.R (Kd.int .u8) 5 w' w.heap.size (fun _ => True) (.slice Ao13 y173.length co13) x6_2) ∧ Aside0 (Below w.heap.size w w'))
          case atStart => exact ⟨(y173), (0), (by first | rfl | (simp; done) | (simp [*]; done)), H', ⟨Nat.le_refl _⟩, ⟨by (with_reducible repeat (first | apply Kd.R_alloc | apply Kd.R_drewN | apply Kd.R_drew)); exact HO175.out⟩, ⟨by repeat (first | (with_reducible first | exact HB.out | apply below_alloc | apply pw_below_drewN | apply below_drew1) | exact HB.out)⟩⟩
          case round =>
            clear H'
            try clear c1
            try clear p2
            try clear c3
            try clear p3
            try clear c4
            try clear c4b0
            try clear c4b1
            try clear c5
            try clear c5b0
            try clear c5b1
            try clear c6
            try clear c6b0
            try clear c6b1
            try clear p6
            try clear c7
            try clear c7b0
            try clear c7b1
            try clear c8
            try clear c8b0
            try clear c8b1
            try clear c9
            try clear c9b0
            try clear c9b1
            try clear c10
            try clear c10b0
            try clear c10b1
            try clear p2
            try clear p3
            try clear p6
            obtain ⟨x6_2, x29_2, rfl, HA, HK2, HO_6, HB⟩ := hrel
            have hl6_2 := (Kd.R_reads' HO_6.out).1
            rw [hl6_2] at HO_6
            (try simp only [hl6_2])
            cases gk with
            | zero => exact absurd HA.out (by simp [word_Bytes.l0])
            | succ k2 =>
              have H := HA.out
              clear HA
              simp only [word_Bytes.l0] at H
              by_cases c14 : x29_2 < (y173.length : Int)
              · rw [if_pos c14] at H
                have c14b0 : decide (x29_2 < (y173.length : Int)) = true := decide_eq_true c14
                (try simp only [hl6_2] at c14b0)
                clear c14
                obtain ⟨ji15, hji15⟩ : ∃ j_ : Int, (wrap64 (8 * x29_2)) = j_ := ⟨_, rfl⟩
                replace H : (if 0 ≤ (ji15) then (if 0 ≤ x29_2 then (if x29_2 < (x6_2.length : Int) then (word_Bytes.l0 k2 a0 (x6_2.set (x29_2 : Int).toNat ((shr .i64 a0 (ji15)) % 256)) (y173.length : Int) (wrap64 (x29_2 + 1))) else (none)) else (none)) else (none)) = some (r1, r2) := by first | (rw [hji15] at H; exact H) | (simp only [hji15] at H ⊢; exact H)
                have hji15w : (IntKind.i64.wrap (8 * x29_2)) = ji15 := (i64_w _).trans hji15
                by_cases c16 : 0 ≤ (ji15)
                · rw [if_pos c16] at H
                  have c16b0 := eq_true c16
                  have c16b1 : decide (0 ≤ (ji15)) = true := decide_eq_true c16
                  clear c16
                  obtain ⟨ji17, hji17⟩ : ∃ j_ : Int, (shr .i64 a0 (ji15)) = j_ := ⟨_, rfl⟩
                  replace H : (if 0 ≤ x29_2 then (if x29_2 < (x6_2.length : Int) then (word_Bytes.l0 k2 a0 (x6_2.set (x29_2 : Int).toNat ((ji17) % 256)) (y173.length : Int) (wrap64 (x29_2 + 1))) else (none)) else (none)) = some (r1, r2) := by first | (rw [hji17] at H; exact H) | (simp only [hji17] at H ⊢; exact H)
                  have hji17_ : (a0 / 2 ^ min (ji15).toNat 64) = ji17 := hji17
                  have hji17z : (ji15) ≤ 64 → (a0 / 2 ^ (ji15).toNat) = ji17 := shr_small hji17
                  by_cases c18 : 0 ≤ x29_2
                  · rw [if_pos c18] at H
                    have c18b0 : decide (0 ≤ x29_2) = true := decide_eq_true c18
                    clear c18
                    by_cases c19 : x29_2 < (x6_2.length : Int)
                    · rw [if_pos c19] at H
                      have c19b0 : decide (x29_2 < (x6_2.length : Int)) = true := decide_eq_true c19
                      (try simp only [hl6_2] at c19b0)
                      clear c19
                      obtain ⟨y176, hy176⟩ : ∃ y_ : List Int, y_ = (x6_2.set (x29_2 : Int).toNat ((ji17) % 256)) := ⟨_, rfl⟩
                      replace H : (word_Bytes.l0 k2 a0 y176 (y173.length : Int) (wrap64 (x29_2 + 1))) = some (r1, r2) := by first | (rw [hy176]; with_reducible exact H) | (have H2_ := (Option.bind_some _ _).symm.trans H; rw [hy176]; with_reducible exact H2_) | (have H2_ := (Option.bind_some _ _).symm.trans H; with_reducible exact H2_) | with_reducible exact H | (rw [hy176]; exact H) | exact H
                      have Ny176 := Aside0.mk hy176
                      clear hy176
                      have H' := Aside0.mk H
                      clear H
                      have p20 : 0 ≤ (x29_2 : Int) := of_decide_eq_true (by first | (with_reducible assumption) | assumption)
                      have q20 : (x29_2 : Int) < ((x6_2.length : Int) : Int) := of_decide_eq_true (by first | (with_reducible assumption) | assumption)
                      obtain ⟨go20, co20, eo20, gb20, gl20, cl20, HG20⟩ := Kd.R_form HO_6.out (by omega)
                      (first | cases eo20 | (injection eo20 with ea_ en_ ec_; (first | subst ea_ | (injection ea_ with ea_; subst ea_)); subst ec_; clear en_))
                      have GB20 := Aside0.mk gb20
                      have GG20 := Aside0.mk HG20
                      clear gb20 gl20 HG20
                      obtain ⟨hx20_0, hf20_0⟩ := Kd.R_celln 0 HO_6.out (x29_2 : Int) p20 q20
                      replace p20 := eq_true p20
                      replace q20 := eq_true q20
                      have HP21 := Kd.R_putg HO_6.out (x29_2 : Int) ((ji17) % 256)
                      go_wp2_with (first | ((with_reducible refine gate_store (t := 5) (p := 39) rfl ?_); refine store_event (t := 5) (p := 39) (v := ?vo_w22) (w1 := (wr.setCell ⟨go20, (x29_2 : Int).toNat, none⟩ (.int .u8 ((ji17) % 256)))) ?hg ?ho ?hn ?hr ?_; (case ho => rfl); (case hg => rfl); (case hn => rfl); (case hr => first | (go_simp; done) | (go_simp; rfl)); intro w22 hw; have hg : wr.grownBy w22 (some go20) := (by rw [hw]; exact HP21.2); have hp_ : Kd.R (Kd.int .u8) 5 w22 w.heap.size (fun _ => True) (.slice (some ⟨go20, 0, none⟩) x6_2.length co13) y176 := (by rw [hw, Ny176.out]; exact HP21.1); clear HP21; have n0_ := Aside0.mk (hp_); have n1_ := Aside0.mk ((by rw [hw]; exact below_set (HB.out) GB20.out : Below w.heap.size w w22)); clear HO_6; clear HB; have HO_6 := n0_; have HB := n1_; clear n0_ n1_; clear hg hw hp_))
                      (try simp only [← hl6_2])
                      go_roundg k2
                      case measure => have := HJ2.out; have := HK2.out; omega
                      case rel => exact ⟨(y176), (wrap64 (x29_2 + 1)), (by first | rfl | (simp; done) | (simp [*]; done)), H', ⟨by have := HJ2.out; have := HK2.out; omega⟩, ⟨by (try simp only [hl6_2]); (with_reducible repeat (first | apply Kd.R_alloc | apply Kd.R_drewN | apply Kd.R_drew)); exact HO_6.out⟩, ⟨by repeat (first | (with_reducible first | exact HB.out | apply below_alloc | apply pw_below_drewN | apply below_drew1) | exact HB.out)⟩⟩
                    · rw [if_neg c19] at H
                      exact absurd H (by simp)
                  · rw [if_neg c18] at H
                    exact absurd H (by simp)
                · rw [if_neg c16] at H
                  exact absurd H (by simp)
              · rw [if_neg c14] at H
                have c14b0 : decide (x29_2 < (y173.length : Int)) = false := decide_eq_false c14
                (try simp only [hl6_2] at c14b0)
                clear c14
                simp only [Option.some.injEq, Prod.mk.injEq] at H
                obtain ⟨rfl, rfl⟩ := H
                have hcv23 := own_string (P := Try.prog) Try.underlying57 Try.underlying5 Try.underlying9 (Kd.own_of_R HO_6.out)
                go_wp2
                go_ret2
                exact ⟨by first | rfl | (simp [errW_none, errW_some] <;> rfl) | (simp [*, errW_none, errW_some] <;> rfl), by repeat (first | (with_reducible first | exact HB.out | apply below_alloc | apply pw_below_drewN | apply below_drew1) | exact HB.out)⟩
        · rw [if_neg c10] at H
          exact absurd H (by simp)
      · rw [if_neg c9] at H
        exact absurd H (by simp)

end Go.Proofs.Yteaealmnmmcbpaa.M

/-
  What word.Bytes and word.Number answer, said by plain functions. Conditions: a number of 64 bits with a sign; a text of at most 2^47 bytes.
-/
namespace Go.Proofs.Yteaealmnmmcbpaa.Word1
open Go.RowKit Go.Proofs.Yteaealmnmmcbpaa.M Go.Proofs.Yteaealmnmmcbpaa.Num Go.Proofs.Yteaealmnmmcbpaa.Seven Go.Proofs.YteaealmnmmcbpaaW.PrintWords Go.Proofs.YteaealmnmmcbpaaW.PrintLast

def Fits (n size : Int) : Prop := size = 1 ∧ -128 ≤ n ∧ n < 128 ∨ size = 4 ∧ -2147483648 ≤ n ∧ n < 2147483648 ∨ size = 8
instance (n size : Int) : Decidable (Fits n size) := by unfold Fits; exact inferInstance
/-- What Bytes answers. -/
def bytesR (n size : Int) : ByteArray × Int :=
  if size = 1 ∨ size = 4 ∨ size = 8 then if Fits n size then (strOfNums (leL n size.toNat), 0) else (⟨#[]⟩, 7) else (⟨#[]⟩, 1)

theorem shr_bytes (n : Int) (i : Nat) (h : i ≤ 8) : shr .i64 n (8 * (i : Int)) = n / 256 ^ i := by
  unfold shr
  have e : (8 * (i : Int)).toNat = 8 * i := by omega
  have hm : min (8 * i) IntKind.i64.bits = 8 * i := Nat.min_eq_left (by have : IntKind.i64.bits = 64 := rfl; omega)
  rw [e, hm, Int.pow_mul]
  rfl

theorem bytes_l0 (n : Int) (s : Nat) (hs : s ≤ 8) : ∀ (d k i : Nat), s - i = d → i ≤ s → d < k →
    word_Bytes.l0 k n (leL n i ++ List.replicate (s - i) 0) (s : Int) i = some (strOfNums (leL n s), 0) := by
  intro d
  induction d with
  | zero =>
    intro k i hd hi hk
    obtain ⟨k, rfl⟩ : ∃ m, k = m + 1 := ⟨k - 1, by omega⟩
    obtain rfl : i = s := by omega
    simp only [word_Bytes.l0]
    rw [if_neg (by omega), Nat.sub_self]
    simp
  | succ d ih =>
    intro k i hd hi hk
    obtain ⟨k, rfl⟩ : ∃ m, k = m + 1 := ⟨k - 1, by omega⟩
    simp only [word_Bytes.l0]
    have hw : wrap64 (8 * (i : Int)) = 8 * i := wrap64_id (by omega) (by omega)
    have hl : (leL n i ++ List.replicate (s - i) 0).length = s := by rw [List.length_append, leL_len, List.length_replicate]; omega
    rw [hw, hl, if_pos (by omega), if_pos (by omega), if_pos (by omega), if_pos (by omega), shr_bytes n i (by omega), wrap64_id (by omega) (by omega), show ((i : Int) + 1) = ((i + 1 : Nat) : Int) by omega]
    have e : (leL n i ++ List.replicate (s - i) 0).set (i : Int).toNat (n / 256 ^ i % 256) = leL n (i + 1) ++ List.replicate (s - (i + 1)) 0 := by
      rw [Int.toNat_natCast, List.set_append_right _ _ (by rw [leL_len]; exact Nat.le_refl _), leL_len, Nat.sub_self, show s - i = (s - (i + 1)) + 1 by omega, List.replicate_succ, List.set_cons_zero, leL_snoc]
      simp
    rw [e]
    exact ih k (i + 1) (by omega) (by omega) (by omega)

theorem bytes_f (n size : Int) (h0 : -9223372036854775808 ≤ n) (h1 : n < 9223372036854775808) (k : Nat) (hk : 9 < k) : word_Bytes.f k n size = some (bytesR n size) := by
  obtain ⟨k, rfl⟩ : ∃ m, k = m + 1 := ⟨k - 1, by omega⟩
  have hj : ∀ s : Nat, s ≤ 8 → word_Bytes.j0 (k + 1) n s = some (strOfNums (leL n s), 0) := by
    intro s hs
    simp only [word_Bytes.j0]
    rw [if_pos (by omega), if_pos (by omega)]
    simp only [Option.bind_some, List.length_replicate, Int.toNat_natCast]
    have h := bytes_l0 n s hs s k 0 (by omega) (by omega) (by omega)
    simpa [leL] using h
  unfold word_Bytes.f bytesR
  by_cases e1 : size = 1
  · subst e1
    have := hj 1 (by omega)
    by_cases hf : -128 ≤ n ∧ n < 128
    · rw [if_pos rfl, if_pos (by rw [wrap_i8]; unfold wrap64; omega), if_pos (by omega), if_pos (by unfold Fits; omega)]
      exact this
    · rw [if_pos rfl, if_neg (by rw [wrap_i8]; unfold wrap64; omega), if_pos (by omega), if_neg (by unfold Fits; omega)]
  · rw [if_neg e1]
    by_cases e4 : size = 4
    · subst e4
      have := hj 4 (by omega)
      by_cases hf : -2147483648 ≤ n ∧ n < 2147483648
      · rw [if_pos rfl, if_pos (by unfold wrap64 wrap32; omega), if_pos (by omega), if_pos (by unfold Fits; omega)]
        exact this
      · rw [if_pos rfl, if_neg (by unfold wrap64 wrap32; omega), if_pos (by omega), if_neg (by unfold Fits; omega)]
    · rw [if_neg e4]
      by_cases e8 : size = 8
      · subst e8
        rw [if_pos rfl, if_pos (by omega), if_pos (by unfold Fits; omega)]
        exact hj 8 (by omega)
      · rw [if_neg e8, if_neg (by omega)]

end Go.Proofs.Yteaealmnmmcbpaa.Word1

