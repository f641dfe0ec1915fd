/-
  Texts of the proofs of ImageWrites, cut to what the proofs reach and packed by a program of this session (wip/packs.py). Each part begins with what it says; conditions: those told there.
-/
import Derived.Deep.RegionWith
import Derived.StillTailTactics
import Derived.Test.YtimhcpmfhebbhaaDoorPWA8
namespace Go.Proofs.YtimhcpmfhebbhaaDoor.M
set_option maxRecDepth 100000
open Go.RowKit Go.Proofs.YtimhcpmfhebbhaaDoorW.PrintWords Go.Proofs.YtimhcpmfhebbhaaDoorW.PrintLast Go.Proofs.YtimhcpmfhebbhaaDoor.Num Go.Proofs.YtimhcpmfhebbhaaDoor.Seven Go.Proofs.YtimhcpmfhebbhaaDoor.Ins
set_option linter.unusedVariables false
set_option linter.unusedSimpArgs false
theorem setCell_drewN (w : World) (n : Nat) (a : Addr) (v : Value) : (w.drewN n).setCell a v = (w.setCell a v).drewN n := rfl
theorem alloc_drewN (w : World) (n : Nat) (o : Obj) : (w.drewN n).alloc o = (w.alloc o).drewN n := rfl
attribute [local go_sem] setCell_drewN alloc_drewN
theorem below_inL {w W w1 : World} (h : Below w.heap.size w W) (k : Below W.heap.size W w1) : Below w.heap.size w w1 := below_then h h.size k
def jumpB (op : Int) : Bool := decide (op = 20 ∨ op = 21 ∨ op = 22 ∨ op = 23 ∨ op = 25 ∨ op = 26 ∨ op = 27)
/-- Does an instruction at a place go, or point, where it may? -/
def landsB (l : List (Int × S79)) (at_ : Int) (i : S79) (data : Int) : Bool :=
 if i.f0 = 19 then decide (0 ≤ i.f3 - 1048576) && decide ((i.f3 - 1048576) % 8 = 0) && decide (i.f3 - 1048576 < 8 * data)
 else if jumpB i.f0 = true then l.any fun p => decide (p.1 = at_ + size (shp i.f0) + i.f3) else true
theorem jumps_c {w : World} (op : Int) : Calls Tryd.prog 54 #[.int .i64 op] w fun e w' => e = .returned (.bool (jumpB op)) ∧ Below w.heap.size w w' := by
 have h : image_jumps.f op = some (jumpB op) := by
  unfold image_jumps.f jumpB
  repeat' split
  all_goals simp_all
 refine (image_jumps.calls op _ w h).mono ?_
 rintro e w' ⟨h, ⟨m, rfl⟩⟩
 exact ⟨h, zB (Below.refl _ _) m⟩
theorem size_le (op : Int) : 0 ≤ size (shp op) ∧ size (shp op) ≤ 10 := by
 have h := shp_range op
 have hw := width_nonneg (shp op)
 unfold size
 split
 ·omega
 ·split <;> omega
set_option maxHeartbeats 8000000 in
set_option maxRecDepth 100000 in
/-- A jump. -/
theorem lands_jump {W : World} (hG : Glob W) {mb n : Nat} {D : SymD} {l : List (Int × S79)} (hm : W.ownsMap Tryd.prog 3 RIns mb n D) (hf : FndI D l) (at_ : Int) (i : S79) (data : Int) (h0 : 0 ≤ at_) (h1 : at_ ≤ 1000000) (hi : -4611686018427387904 ≤ i.f3 ∧ i.f3 ≤ 4611686018427387903)
 (h19 : ¬ i.f0 = 19) (hj : jumpB i.f0 = true) :
 Calls Tryd.prog 33 #[.map (some mb), .int .i64 at_, .agg #[.int .i64 i.f0, .int .i64 i.f1, .int .i64 i.f2, .int .i64 i.f3], .int .i64 data] W fun e w' => e = .returned (.bool (landsB l at_ i data)) ∧ Below W.heap.size W w' := by
 have hs := size_le i.f0
 have LO := z4 (fun (W' : World) (h : W'.ownsMap Tryd.prog 3 RIns mb n D) => ins_look h hf (at_ + size (shp i.f0) + i.f3) (by omega) (by omega))
 have HM := z4 (hm.alloc (.cells #[.int .i64 i.f0, .int .i64 i.f1, .int .i64 i.f2, .int .i64 i.f3] 79))
 have BO := z4 (blk_new W (.cells #[.int .i64 i.f0, .int .i64 i.f1, .int .i64 i.f2, .int .i64 i.f3] 79))
 have GB := z4 (hG.below (zA (Below.refl W.heap.size W) (.cells #[.int .i64 i.f0, .int .i64 i.f1, .int .i64 i.f2, .int .i64 i.f3] 79)) rfl)
 have JC := z4 (fun (w : World) => jumps_c (w := w) i.f0)
 have SC := z4 (fun (w : World) (h : Glob w) => size_c (w := w) h i.f0)
 have hv : landsB l at_ i data = l.any fun p => decide (p.1 = at_ + size (shp i.f0) + i.f3) := by unfold landsB; rw [if_neg h19, if_pos hj]
 rw [hv]
 have w1_ : wrap64 (at_ + size (shp i.f0)) = at_ + size (shp i.f0) := wrap64_id (by omega) (by omega)
 have w2_ : wrap64 (at_ + size (shp i.f0) + i.f3) = at_ + size (shp i.f0) + i.f3 := wrap64_id (by clear w1_; omega) (by clear w1_; omega)
 have e19 : (i.f0 == (19 : Int)) = false := by simp [h19]
 obtain ⟨fb, hfb⟩ : ∃ fb, fb = (l.any fun p => decide (p.1 = at_ + size (shp i.f0) + i.f3)) := ⟨_, rfl⟩
 obtain ⟨fv, hfv⟩ : ∃ fv, fv = (((l.find? fun p => decide (p.1 = at_ + size (shp i.f0) + i.f3)).map (·.2)).getD zIns) := ⟨_, rfl⟩
 rw [← hfb, ← hfv] at LO
 rw [← hfb]
 simp only [insV] at LO
 rw [hj] at JC
 clear hfb hfv hv hm hf hG h19 hj
 go_enter Tryd.func33, Tryd.ntmps33
 go_wp2_with (first | (go_at_call 54; (with_reducible refine (JC.out _).mono ?_); rintro e w3 ⟨rfl, hb⟩; have HM3 := z4 (map_below HM.out hb); have BO3 := z4 (blk_below BO.out hb); have HB3 := z4 (below_inL (zA (Below.refl W.heap.size W) (.cells #[.int .i64 i.f0, .int .i64 i.f1, .int .i64 i.f2, .int .i64 i.f3] 79)) hb); have GB3 := z4 (GB.out.below hb rfl); clear hb HM BO GB))
 have hlk := fun (W' : World) (h : W'.ownsMap Tryd.prog 3 RIns mb n D) => LO.out W' h
 rw [← w2_, ← w1_] at hlk
 have LK := z4 hlk
 have SZ := z4 (fun (w : World) (h : Glob w) => size_still i.f0 w h)
 have HW1 := z4 w1_
 have HW2 := z4 w2_
 clear hlk LO w1_ w2_ SC JC
 refine start_ (n := 16) (S := fun w' => w'.cell? ⟨W.heap.size, 0, none⟩ = some (.int .i64 i.f0) ∧ w'.cell? ⟨W.heap.size, 3, none⟩ = some (.int .i64 i.f3) ∧ (Instr.lookup 75 (.map (some mb)) (.int .i64 (wrap64 (wrap64 (at_ + size (shp i.f0)) + i.f3))) true).run Tryd.prog w' = .ok (.tuple #[.agg #[.int .i64 fv.f0, .int .i64 fv.f1, .int .i64 fv.f2, .int .i64 fv.f3], .bool fb]) w') (ds := [14]) #[false, false, false, false, false, false, false, false, false, false, false, false, false, false, false, false] (by kernel_rfl) rfl rfl ⟨(zC (zI BO3.out) 0).trans rfl, (zC (zI BO3.out) 3).trans rfl, LK.out _ (HM3.out.drew)⟩ (fun hHeld => ?_)
 refine pure_ (i := 0) (N := some 36) (v := ?_) (a' := ?_) #[true, false, false, false, false, false, false, false, false, false, false, false, false, false, false, false] rfl rfl (by kernel_rfl) (fun _ _ _ h => h) (Or.inl ⟨by rfl, ?_⟩) ?_ ?_
 rotate_left
 ·intro w'
  go_simp
  with_reducible rfl
 rotate_left
 ·simp only [Act.put, z1, z2, z3, i64_w, i32_w]
  rfl
 refine pure_ (i := 1) (N := some 37) (v := ?_) (a' := ?_) #[true, true, false, false, false, false, false, false, false, false, false, false, false, false, false, false] rfl rfl (by kernel_rfl) (fun _ _ _ h => h) (Or.inl ⟨by rfl, ?_⟩) ?_ ?_
 rotate_left
 ·intro w'
  go_simp
  with_reducible rfl
 rotate_left
 ·simp only [Act.put, z1, z2, z3, i64_w, i32_w]
  rfl
 refine pure_ (i := 2) (N := some 38) (v := ?_) (a' := ?_) #[true, true, true, false, false, false, false, false, false, false, false, false, false, false, false, false] rfl rfl (by kernel_rfl) (fun _ _ _ h => h) (Or.inl ⟨by rfl, ?_⟩) ?_ ?_
 rotate_left
 ·intro w'
  go_simp
  with_reducible rfl
 rotate_left
 ·simp only [Act.put, z1, z2, z3, i64_w, i32_w]
  rfl
 refine pure_ (i := 6) (N := some 42) (v := ?_) (a' := ?_) #[true, true, true, false, false, false, true, false, false, false, false, false, false, false, false, false] rfl rfl (by kernel_rfl) (fun _ _ _ h => h) (Or.inl ⟨by rfl, ?_⟩) ?_ ?_
 rotate_left
 ·intro w'
  go_simp
  with_reducible rfl
 rotate_left
 ·simp only [Act.put, z1, z2, z3, i64_w, i32_w]
  rfl
 refine take_ (i := 3) (N := some 39) (v := ?_) (a' := ?_) #[true, true, true, true, false, false, true, false, false, false, false, false, false, false, false, false] rfl rfl (by kernel_rfl) (fun _ _ _ h => h) (Or.inl ⟨by rfl, ?_⟩) hHeld ?_ ?_
 rotate_left
 ·rintro w' ⟨s0, s1, s2⟩
  go_simp
  with_reducible rfl
 rotate_left
 ·simp only [Act.put, z1, z2, z3, i64_w, i32_w]
  rfl
 refine take_ (i := 7) (N := some 43) (v := ?_) (a' := ?_) #[true, true, true, true, false, false, true, true, false, false, false, false, false, false, false, false] rfl rfl (by kernel_rfl) (fun _ _ _ h => h) (Or.inl ⟨by rfl, ?_⟩) hHeld ?_ ?_
 rotate_left
 ·rintro w' ⟨s0, s1, s2⟩
  go_simp
  with_reducible rfl
 rotate_left
 ·simp only [Act.put, z1, z2, z3, i64_w, i32_w]
  rfl
 refine join_ (σ := Nat) 2 #[true, true, true, true, true, true, true, true, true, true, true, true, true, true, false, false] (fun b => [(40, .int .i64 (size (shp i.f0))), (10, .pointer (some ⟨b, 0, none⟩)), (41, .int .i64 (wrap64 (at_ + size (shp i.f0)))), (44, .int .i64 (wrap64 (wrap64 (at_ + size (shp i.f0)) + i.f3))), (45, .tuple #[.agg #[.int .i64 fv.f0, .int .i64 fv.f1, .int .i64 fv.f2, .int .i64 fv.f3], .bool fb]), (35, .tuple #[.agg #[.int .i64 fv.f0, .int .i64 fv.f1, .int .i64 fv.f2, .int .i64 fv.f3], .bool fb]), (46, .agg #[.int .i64 fv.f0, .int .i64 fv.f1, .int .i64 fv.f2, .int .i64 fv.f3]), (47, .bool fb)]) (fun b w' => Aside0 (w' = ((w3.alloc (.cells #[.int .i64 0, .int .i64 0, .int .i64 0, .int .i64 0] 79)).drew) ∧ b = w3.heap.size)) ?_ ?_
 rotate_left
 ·intro hCont
  refine two_ (i := 4) (j := 13) (Ni := some 40) (Nj := some 10) #[true, true, true, true, true, false, true, true, false, false, false, false, false, false, false, false] #[true, true, true, true, false, false, true, true, false, false, false, false, false, true, false, false] rfl rfl rfl rfl (by kernel_rfl) (by decide) (by decide) (fun K hK => ?_) (fun K hK => ?_)
  ·skip
   refine goes_ Tryd.func53 (by kernel_rfl) rfl #[.int .i64 i.f0] (by rfl) rfl rfl (by simp only [z9, List.map_cons, List.map_nil]; rfl) ?_
   with_reducible refine (SZ.out _ (GB3.out.below (zD (Below.refl _ _)) rfl)).mono ?_
   rintro e w4 ⟨rfl, rfl⟩
   refine ⟨_, rfl, ?_⟩
   refine hK.out _ _ ⟨(zC (zI BO3.out) 0).trans rfl, (zC (zI BO3.out) 3).trans rfl, LK.out _ (HM3.out.drew)⟩ (fun hHeld => ?_)
   clear hK K
   refine norm_ (a' := ?_) ?_ ?_
   rotate_left
   ·show Act.put _ (some 40) _ = _
    simp only [Act.put, z1, z2, z3, i64_w, i32_w]
    rfl
   refine pure_ (i := 5) (N := some 41) (v := ?_) (a' := ?_) #[true, true, true, true, true, true, true, true, false, false, false, false, false, false, false, false] rfl rfl (by kernel_rfl) (fun _ _ _ h => h) (Or.inl ⟨by rfl, ?_⟩) ?_ ?_
   rotate_left
   ·intro w'
    go_simp
    with_reducible rfl
   rotate_left
   ·simp only [Act.put, z1, z2, z3, i64_w, i32_w]
    rfl
   refine pure_ (i := 8) (N := some 44) (v := ?_) (a' := ?_) #[true, true, true, true, true, true, true, true, true, false, false, false, false, false, false, false] rfl rfl (by kernel_rfl) (fun _ _ _ h => h) (Or.inl ⟨by rfl, ?_⟩) ?_ ?_
   rotate_left
   ·intro w'
    go_simp
    with_reducible rfl
   rotate_left
   ·simp only [Act.put, z1, z2, z3, i64_w, i32_w]
    rfl
   refine take_ (i := 9) (N := some 45) (v := ?_) (a' := ?_) #[true, true, true, true, true, true, true, true, true, true, false, false, false, false, false, false] rfl rfl (by kernel_rfl) (fun _ _ _ h => h) (Or.inl ⟨by rfl, ?_⟩) hHeld ?_ ?_
   rotate_left
   ·rintro w' ⟨s0, s1, s2⟩
    go_simp
    with_reducible rfl
   rotate_left
   ·simp only [Act.put, z1, z2, z3, i64_w, i32_w]
    rfl
   refine pure_ (i := 10) (N := some 35) (v := ?_) (a' := ?_) #[true, true, true, true, true, true, true, true, true, true, true, false, false, false, false, false] rfl rfl (by kernel_rfl) (fun _ _ _ h => h) (Or.inl ⟨by rfl, ?_⟩) ?_ ?_
   rotate_left
   ·intro w'
    go_simp
    with_reducible rfl
   rotate_left
   ·simp only [Act.put, z1, z2, z3, i64_w, i32_w]
    rfl
   refine pure_ (i := 11) (N := some 46) (v := ?_) (a' := ?_) #[true, true, true, true, true, true, true, true, true, true, true, true, false, false, false, false] rfl rfl (by kernel_rfl) (fun _ _ _ h => h) (Or.inl ⟨by rfl, ?_⟩) ?_ ?_
   rotate_left
   ·intro w'
    go_simp
    with_reducible rfl
   rotate_left
   ·simp only [Act.put, z1, z2, z3, i64_w, i32_w]
    rfl
   refine pure_ (i := 12) (N := some 47) (v := ?_) (a' := ?_) #[true, true, true, true, true, true, true, true, true, true, true, true, true, false, false, false] rfl rfl (by kernel_rfl) (fun _ _ _ h => h) (Or.inl ⟨by rfl, ?_⟩) ?_ ?_
   rotate_left
   ·intro w'
    go_simp
    with_reducible rfl
   rotate_left
   ·simp only [Act.put, z1, z2, z3, i64_w, i32_w]
    rfl
   refine one_ (i := 13) (N := some 10) #[true, true, true, true, true, true, true, true, true, true, true, true, true, true, false, false] rfl rfl (by kernel_rfl) (by decide) (fun K hK => ?_)
   refine value_ (w1 := ?_) (v := ?_) (by rfl) rfl ?_ ?_
   rotate_left 2
   ·go_simp
    constructor
    ·rfl
    ·rfl
   refine hK.out _ _ ⟨(zC (zI (zG BO3.out _)) 0).trans rfl, (zC (zI (zG BO3.out _)) 3).trans rfl, LK.out _ ((HM3.out.alloc _).drew)⟩ (fun hHeld => ?_)
   clear hK K
   refine norm_ (a' := ?_) ?_ ?_
   rotate_left
   ·show Act.put _ (some 10) _ = _
    simp only [Act.put, z1, z2, z3, i64_w, i32_w]
    rfl
   exact norm_ (by simp only [putAll, Act.put, z1, z2, z3]) (hCont w3.heap.size _ ⟨⟨rfl, rfl⟩⟩)
  ·skip
   refine value_ (w1 := ?_) (v := ?_) (by rfl) rfl ?_ ?_
   rotate_left 2
   ·go_simp
    constructor
    ·rfl
    ·rfl
   refine hK.out _ _ ⟨(zC (zI (zG BO3.out _)) 0).trans rfl, (zC (zI (zG BO3.out _)) 3).trans rfl, LK.out _ ((HM3.out.alloc _).drew)⟩ (fun hHeld => ?_)
   clear hK K
   refine norm_ (a' := ?_) ?_ ?_
   rotate_left
   ·show Act.put _ (some 10) _ = _
    simp only [Act.put, z1, z2, z3, i64_w, i32_w]
    rfl
   refine one_ (i := 4) (N := some 40) #[true, true, true, true, true, false, true, true, false, false, false, false, false, true, false, false] rfl rfl (by kernel_rfl) (by decide) (fun K hK => ?_)
   refine goes_ Tryd.func53 (by kernel_rfl) rfl #[.int .i64 i.f0] (by rfl) rfl rfl (by simp only [z9, List.map_cons, List.map_nil]; rfl) ?_
   with_reducible refine (SZ.out _ (GB3.out.below (zD (zA (Below.refl _ _) _)) rfl)).mono ?_
   rintro e w4 ⟨rfl, rfl⟩
   refine ⟨_, rfl, ?_⟩
   refine hK.out _ _ ⟨(zC (zI (zG BO3.out _)) 0).trans rfl, (zC (zI (zG BO3.out _)) 3).trans rfl, LK.out _ ((HM3.out.alloc _).drew)⟩ (fun hHeld => ?_)
   clear hK K
   refine norm_ (a' := ?_) ?_ ?_
   rotate_left
   ·show Act.put _ (some 40) _ = _
    simp only [Act.put, z1, z2, z3, i64_w, i32_w]
    rfl
   refine pure_ (i := 5) (N := some 41) (v := ?_) (a' := ?_) #[true, true, true, true, true, true, true, true, false, false, false, false, false, true, false, false] rfl rfl (by kernel_rfl) (fun _ _ _ h => h) (Or.inl ⟨by rfl, ?_⟩) ?_ ?_
   rotate_left
   ·intro w'
    go_simp
    with_reducible rfl
   rotate_left
   ·simp only [Act.put, z1, z2, z3, i64_w, i32_w]
    rfl
   refine pure_ (i := 8) (N := some 44) (v := ?_) (a' := ?_) #[true, true, true, true, true, true, true, true, true, false, false, false, false, true, false, false] rfl rfl (by kernel_rfl) (fun _ _ _ h => h) (Or.inl ⟨by rfl, ?_⟩) ?_ ?_
   rotate_left
   ·intro w'
    go_simp
    with_reducible rfl
   rotate_left
   ·simp only [Act.put, z1, z2, z3, i64_w, i32_w]
    rfl
   refine take_ (i := 9) (N := some 45) (v := ?_) (a' := ?_) #[true, true, true, true, true, true, true, true, true, true, false, false, false, true, false, false] rfl rfl (by kernel_rfl) (fun _ _ _ h => h) (Or.inl ⟨by rfl, ?_⟩) hHeld ?_ ?_
   rotate_left
   ·rintro w' ⟨s0, s1, s2⟩
    go_simp
    with_reducible rfl
   rotate_left
   ·simp only [Act.put, z1, z2, z3, i64_w, i32_w]
    rfl
   refine pure_ (i := 10) (N := some 35) (v := ?_) (a' := ?_) #[true, true, true, true, true, true, true, true, true, true, true, false, false, true, false, false] rfl rfl (by kernel_rfl) (fun _ _ _ h => h) (Or.inl ⟨by rfl, ?_⟩) ?_ ?_
   rotate_left
   ·intro w'
    go_simp
    with_reducible rfl
   rotate_left
   ·simp only [Act.put, z1, z2, z3, i64_w, i32_w]
    rfl
   refine pure_ (i := 11) (N := some 46) (v := ?_) (a' := ?_) #[true, true, true, true, true, true, true, true, true, true, true, true, false, true, false, false] rfl rfl (by kernel_rfl) (fun _ _ _ h => h) (Or.inl ⟨by rfl, ?_⟩) ?_ ?_
   rotate_left
   ·intro w'
    go_simp
    with_reducible rfl
   rotate_left
   ·simp only [Act.put, z1, z2, z3, i64_w, i32_w]
    rfl
   refine pure_ (i := 12) (N := some 47) (v := ?_) (a' := ?_) #[true, true, true, true, true, true, true, true, true, true, true, true, true, true, false, false] rfl rfl (by kernel_rfl) (fun _ _ _ h => h) (Or.inl ⟨by rfl, ?_⟩) ?_ ?_
   rotate_left
   ·intro w'
    go_simp
    with_reducible rfl
   rotate_left
   ·simp only [Act.put, z1, z2, z3, i64_w, i32_w]
    rfl
   exact norm_ (by simp only [putAll, Act.put, z1, z2, z3]) (hCont w3.heap.size _ ⟨⟨rfl, rfl⟩⟩)
 rintro b w8 ⟨⟨rfl, rfl⟩⟩
 have hHeld : ((w3.alloc (.cells #[.int .i64 0, .int .i64 0, .int .i64 0, .int .i64 0] 79)).drew).cell? ⟨W.heap.size, 0, none⟩ = some (.int .i64 i.f0) ∧ ((w3.alloc (.cells #[.int .i64 0, .int .i64 0, .int .i64 0, .int .i64 0] 79)).drew).cell? ⟨W.heap.size, 3, none⟩ = some (.int .i64 i.f3) ∧ (Instr.lookup 75 (.map (some mb)) (.int .i64 (wrap64 (wrap64 (at_ + size (shp i.f0)) + i.f3))) true).run Tryd.prog ((w3.alloc (.cells #[.int .i64 0, .int .i64 0, .int .i64 0, .int .i64 0] 79)).drew) = .ok (.tuple #[.agg #[.int .i64 fv.f0, .int .i64 fv.f1, .int .i64 fv.f2, .int .i64 fv.f3], .bool fb]) ((w3.alloc (.cells #[.int .i64 0, .int .i64 0, .int .i64 0, .int .i64 0] 79)).drew) := ⟨(zC (zI (zG BO3.out _)) 0).trans rfl, (zC (zI (zG BO3.out _)) 3).trans rfl, LK.out _ ((HM3.out.alloc _).drew)⟩
 refine norm_ (a' := ?_) ?_ ?_
 rotate_left
 ·simp only [putAll, Act.put, z1, z2, z3]
  rfl
 refine last_ (i := 14) (N := none) #[true, true, true, true, true, true, true, true, true, true, true, true, true, true, true, false] rfl rfl (by kernel_rfl) (by decide) (fun K hK => ?_)
 refine skip_ (w1 := ?_) (by rfl) rfl ?_ ?_
 rotate_left
 ·go_simp
  rfl
 refine hK.out _ _ ?_
 clear hK K
 refine pure_ (i := 15) (N := some 11) (v := ?_) (a' := ?_) #[true, true, true, true, true, true, true, true, true, true, true, true, true, true, true, true] rfl rfl (by kernel_rfl) (fun _ _ _ h => h) (Or.inl ⟨by rfl, ?_⟩) ?_ ?_
 rotate_left
 ·intro w'
  go_simp
  with_reducible rfl
 rotate_left
 ·simp only [Act.put, z1, z2, z3, i64_w, i32_w]
  rfl
 refine done_ (by kernel_rfl) ?_
 clear hHeld
 have HB5 := z4 (zD HB3.out)
 go_wp2
 go_ret
 exact ⟨rfl, zD (zA HB3.out _)⟩
end Go.Proofs.YtimhcpmfhebbhaaDoor.M
namespace Go.Proofs.YtimhcpmfhebbhaaDoor.M
set_option maxRecDepth 100000
open Go.RowKit Go.Proofs.YtimhcpmfhebbhaaDoorW.PrintWords Go.Proofs.YtimhcpmfhebbhaaDoorW.PrintLast Go.Proofs.YtimhcpmfhebbhaaDoor.Num Go.Proofs.YtimhcpmfhebbhaaDoor.Seven Go.Proofs.YtimhcpmfhebbhaaDoor.Ins
set_option linter.unusedVariables false
set_option linter.unusedSimpArgs false
theorem and7 (x : Int) : bits .and .i64 x 7 = x % 8 := by
 rw [bits_and_i64]
 have h2 : (BitVec.ofInt 64 (7 : Int)).toNat = 2 ^ 3 - 1 := by decide
 rw [h2, Nat.and_two_pow_sub_one_eq_mod]
 have h := ofInt_toNat 64 x
 unfold wrap64
 omega
theorem lands_else {W : World} {mb n : Nat} {D : SymD} {l : List (Int × S79)} (at_ : Int) (i : S79) (data : Int) (h19 : ¬ i.f0 = 19) (hj : jumpB i.f0 = false) :
 Calls Tryd.prog 33 #[.map (some mb), .int .i64 at_, .agg #[.int .i64 i.f0, .int .i64 i.f1, .int .i64 i.f2, .int .i64 i.f3], .int .i64 data] W fun e w' => e = .returned (.bool (landsB l at_ i data)) ∧ Below W.heap.size W w' := by
 have JC := z4 (fun (w : World) => jumps_c (w := w) i.f0)
 have hv : landsB l at_ i data = true := by unfold landsB; rw [if_neg h19, hj]; rfl
 rw [hv]
 have e19 : (i.f0 == (19 : Int)) = false := by simp [h19]
 rw [hj] at JC
 clear hj hv h19
 go_enter Tryd.func33, Tryd.ntmps33
 go_wp2_with (first | (go_at_call 54; (with_reducible refine (JC.out _).mono ?_); rintro e w3 ⟨rfl, hb⟩; have HB3 := z4 (below_inL (zA (Below.refl W.heap.size W) (.cells #[.int .i64 i.f0, .int .i64 i.f1, .int .i64 i.f2, .int .i64 i.f3] 79)) hb); clear hb))
 go_ret
 exact ⟨rfl, HB3.out⟩
theorem lands_adr {W : World} {mb n : Nat} {D : SymD} {l : List (Int × S79)} (at_ : Int) (i : S79) (data : Int) (hi : -4611686018427387904 ≤ i.f3 ∧ i.f3 ≤ 4611686018427387903) (hd : 0 ≤ data ∧ data ≤ 1000000) (h19 : i.f0 = 19) :
 Calls Tryd.prog 33 #[.map (some mb), .int .i64 at_, .agg #[.int .i64 i.f0, .int .i64 i.f1, .int .i64 i.f2, .int .i64 i.f3], .int .i64 data] W fun e w' => e = .returned (.bool (landsB l at_ i data)) ∧ Below W.heap.size W w' := by
 have hv : landsB l at_ i data = (decide (0 ≤ i.f3 - 1048576) && decide ((i.f3 - 1048576) % 8 = 0) && decide (i.f3 - 1048576 < 8 * data)) := by unfold landsB; rw [if_pos h19]
 rw [hv]
 have e19 : (i.f0 == (19 : Int)) = true := by simp [h19]
 have e1 : wrap64 (i.f3 - 1048576) = i.f3 - 1048576 := wrap64_id (by omega) (by omega)
 have e2 : wrap64 (8 * data) = 8 * data := by clear e1; exact wrap64_id (by omega) (by omega)
 have e3 := and7 (i.f3 - 1048576)
 clear hv h19
 go_enter Tryd.func33, Tryd.ntmps33
 go_wp2
 all_goals go_ret
 all_goals refine ⟨?_, by repeat (first | exact Below.refl _ _ | apply zA | apply zB | apply zD)⟩
 all_goals (simp; omega)
/-- Every instruction. -/
theorem lands_c {W : World} (hG : Glob W) {mb n : Nat} {D : SymD} {l : List (Int × S79)} (hm : W.ownsMap Tryd.prog 3 RIns mb n D) (hf : FndI D l) (at_ : Int) (i : S79) (data : Int) (h0 : 0 ≤ at_) (h1 : at_ ≤ 1000000) (hd : 0 ≤ data ∧ data ≤ 1000000) (hi : (i.f0 = 19 ∨ jumpB i.f0 = true) → -4611686018427387904 ≤ i.f3 ∧ i.f3 ≤ 4611686018427387903) :
 Calls Tryd.prog 33 #[.map (some mb), .int .i64 at_, .agg #[.int .i64 i.f0, .int .i64 i.f1, .int .i64 i.f2, .int .i64 i.f3], .int .i64 data] W fun e w' => e = .returned (.bool (landsB l at_ i data)) ∧ Below W.heap.size W w' := by
 by_cases h19 : i.f0 = 19
 ·exact lands_adr (n := n) (D := D) at_ i data (hi (Or.inl h19)) hd h19
 ·cases hj : jumpB i.f0
  ·exact lands_else (n := n) (D := D) at_ i data h19 hj
  ·exact lands_jump hG hm hf at_ i data h0 h1 (hi (Or.inr hj)) h19 hj
theorem ok_bound {i : S79} (h : OkS i) (hj : i.f0 = 19 ∨ jumpB i.f0 = true) : -4611686018427387904 ≤ i.f3 ∧ i.f3 ≤ 4611686018427387903 := by
 have hw : width (shp i.f0) = 4 ∨ width (shp i.f0) = 1 := by
  unfold jumpB at hj
  simp only [decide_eq_true_eq] at hj
  rcases hj with e | e | e | e | e | e | e | e <;> rw [e] <;> decide
 have hF := h.2.1.2 (by omega)
 unfold Word1.Fits at hF
 rcases hw with e | e <;> rw [e] at hF <;> simp at hF <;> omega
end Go.Proofs.YtimhcpmfhebbhaaDoor.M
