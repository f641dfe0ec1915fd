/-
  Texts of the proofs of LinkLinks, cut to what the proofs reach and packed by a program of this session (wip/packs.py). Each part begins with what it says; conditions: those told there.
-/
import Derived.Lib.LazyBuf
import Derived.Test.YteaealmnmmcbpaaPJA5
/-
  Layer 7: a place filled in (fill): the walk. Conditions: those told at each.
-/
namespace Go.Proofs.Yteaealmnmmcbpaa.M
open Go.RowKit Go.Proofs.YteaealmnmmcbpaaW.PrintWords Go.Proofs.YteaealmnmmcbpaaW.PrintLast Go.Proofs.Yteaealmnmmcbpaa.Num Go.Proofs.Yteaealmnmmcbpaa.Seven Go.Proofs.Yteaealmnmmcbpaa.Word1
set_option linter.unusedVariables false
set_option linter.unusedSimpArgs false
/-- What stands at a relocation's place. -/
def fillN (l : List S36) (at_ : Nat) (r : S45) : Int := let s := (l.find? fun s => decide (s.f0 = r.f2)).getD z36; if r.f1 = 2 then 1048576 + 8 * s.f2 + r.f3 else s.f2 - at_ - 4
/-- The code with a place filled in; none: an address that overflows. -/
def fillF (l : List S36) (code : List Int) (at_ : Nat) (r : S45) : Option (List Int) := if r.f1 = 2 ∧ (fillN l at_ r < 0 ∨ 2147483647 < fillN l at_ r) then none else some (pokes code at_ (leL (fillN l at_ r) 4))
/-- What fill has done. -/
def Filled (w W w' : World) (B b mb : Nat) (x : LkS) (vc v1 v2 : Value) (l : List S36) (e : Ending) (res : Option (List Int)) : Prop := Below w.heap.size w w' ∧ Keeps W w' vc ∧ match res with | none => e = .returned (.int .i64 7) | some code' => e = .returned (.int .i64 0) ∧ Lk w w' B b mb { x with code := code' } vc v1 v2 l
theorem bytes4_yes {n : Int} (h0 : -2147483648 ≤ n) (h1 : n ≤ 2147483647) (W : World) : Calls Try.prog 35 #[.int .i64 n, .int .i64 4] W fun e w' => e = .returned (.tuple #[.string (strOfNums (leL n 4)), .int .i64 0]) ∧ Below W.heap.size W w' := by
  have hf := bytes_f n 4 (by omega) (by omega) 10 (by omega)
  have e : bytesR n 4 = (strOfNums (leL n 4), 0) := by
    unfold bytesR
    rw [if_pos (by omega), if_pos (by unfold Fits; omega)]
    rfl
  rw [e] at hf
  exact word_Bytes.calls 10 n 4 _ _ W hf
theorem bytes4_no {n : Int} (h0 : 2147483647 < n) (h1 : n < 9223372036854775808) (W : World) : Calls Try.prog 35 #[.int .i64 n, .int .i64 4] W fun e w' => e = .returned (.tuple #[.string ⟨#[]⟩, .int .i64 7]) ∧ Below W.heap.size W w' := by
  have hf := bytes_f n 4 (by omega) (by omega) 10 (by omega)
  have e : bytesR n 4 = (⟨#[]⟩, 7) := by
    unfold bytesR
    rw [if_pos (by omega), if_neg (by unfold Fits; omega)]
  rw [e] at hf
  exact word_Bytes.calls 10 n 4 _ _ W hf
theorem R_some {base : Nat} {W : World} {ok : Nat → Prop} {v : Value} {xs : List Int} (h : (Kd.int .u8).R 5 W base ok v xs) (hn : 0 < xs.length) : ∃ g cap, v = .slice (some ⟨g, 0, none⟩) xs.length cap ∧ xs.length ≤ cap := by
  obtain ⟨A', c', rfl, hc, _⟩ := Kd.R_reads h
  have ho := Kd.own_of_R h
  rcases ho.2 with ⟨h1, _⟩ | ⟨g, cap', cur, h1, hg, _⟩
  · injection h1 with h1 h2 h3
    omega
  · injection h1 with h1 h2 h3
    exact ⟨g, c', by rw [h1], hc⟩
/-- The copy of some bytes into the row of code, as the walk meets it. -/
theorem copy_run {W : World} {base g n cap at_ : Nat} {ok : Nat → Prop} {code : List Int} (h : Kd.R (Kd.int .u8) 5 W base ok (.slice (some ⟨g, 0, none⟩) n cap) code) (us : List Int) (hb : Bs us) (hat : at_ + us.length ≤ n) (dCap : Nat) (ty : TypeId) :
    (Builtin.copy_ #[57, 9] ty #[.slice (some ⟨g, at_, none⟩) (n - at_) dCap, .string (strOfNums us)]).run Try.prog W = .ok (goInt us.length) (W.setCells g at_ (nums .u8 us)) := by
  obtain ⟨A', c', e, _, _⟩ := Kd.R_reads h
  injection e with e1 e2 e3
  subst e2
  have hsz : (strOfNums us).size = us.length := by rw [← bytesOf_length, bytesOf_str hb]
  have hc : ∀ j, j < us.length → (W.cell? ⟨g, at_ + j, none⟩).isSome = true ∧ W.frozen? ⟨g, at_ + j, none⟩ = false := by
    intro j hj
    have := Kd.R_cell (enc := Value.int .u8) (h1 := fun _ => rfl) (0 : Int) h ((at_ + j : Nat) : Int) (by omega) (by omega)
    rw [Int.toNat_natCast] at this
    exact ⟨by rw [this.1]; rfl, this.2⟩
  have hr := run_copy_string (P := Try.prog) W 57 9 ty 5 g at_ (code.length - at_) dCap (strOfNums us) Try.underlying57 (fun w => by kernel_rfl) (by rw [hsz]; omega) (by rw [hsz]; exact fun j hj => (hc j hj).1) (by rw [hsz]; exact fun j hj => (hc j hj).2)
  rw [hr, hsz]
  have e : ((strOfNums us).data.toList.map fun x => Value.int .u8 (x.toNat : Int)) = nums .u8 us := by
    conv => rhs; rw [← bytesOf_str hb]
    simp [bytesOf, nums, List.map_map, Function.comp_def]
  rw [e]
set_option maxHeartbeats 8000000 in
set_option maxRecDepth 100000 in
theorem fill_c {w W : World} {B b mb : Nat} {x : LkS} {vc v1 v2 : Value} {l : List S36} (H : Lk w W B b mb x vc v1 v2 l) (r : S45) (hn : r.f2.size ≤ maxLen) (at_ : Nat) (hat : at_ + 4 ≤ x.code.length) (hcl : x.code.length ≤ 1048576)
    (hs0 : 0 ≤ ((l.find? fun s => decide (s.f0 = r.f2)).getD z36).f2) (hs1 : ((l.find? fun s => decide (s.f0 = r.f2)).getD z36).f2 ≤ 1048576) (hr0 : -2147483648 ≤ r.f3) (hr1 : r.f3 ≤ 2147483647) :
    Calls Try.prog 25 #[.pointer (some ⟨b, 0, none⟩), .int .i64 (at_ : Int), .agg #[.int .i64 r.f0, .int .i64 r.f1, .string r.f2, .int .i64 r.f3]] W fun e w' => Filled w W w' B b mb x vc v1 v2 l e (fillF l x.code at_ r) := by
  obtain ⟨n, D, hm, hf, hln⟩ := H.mp
  have LO := Aside0.mk (fun (W' : World) (h : W'.ownsMap (H := Unit) Try.prog 9 RSym mb n D) => (map_look h hf r.f2 hn).2)
  have HM := Aside0.mk (hm.alloc (.cells #[.int .i64 r.f0, .int .i64 r.f1, .string r.f2, .int .i64 r.f3] 45))
  have BO := Aside0.mk (blk_alloc H.obj (.cells #[.int .i64 r.f0, .int .i64 r.f1, .string r.f2, .int .i64 r.f3] 45))
  have BR := Aside0.mk (blk_new W (.cells #[.int .i64 r.f0, .int .i64 r.f1, .string r.f2, .int .i64 r.f3] 45))
  obtain ⟨g, cap, rfl, hcap⟩ := R_some H.rc (by omega)
  have hne : ¬ cap = at_ := by omega
  obtain ⟨res, hres⟩ : ∃ res, res = fillF l x.code at_ r := ⟨_, rfl⟩
  rw [← hres]
  have hu := Try.underlying54
  have HH := Aside0.mk H
  unfold fillF fillN at hres
  generalize ((l.find? fun s => decide (s.f0 = r.f2)).getD z36) = sv at *
  obtain ⟨s0, s1, s2⟩ := sv
  obtain ⟨r0, r1, r2, r3⟩ := r
  dsimp only at *
  simp only [symV] at LO
  have HRES := Aside0.mk hres
  clear hm hf hln H hres
  go_enter Try.func25, Try.ntmps25
  go_wp2
  refine start_ (n := 9) (S := fun w' => w'.cell? ⟨b, 6, none⟩ = some (.map (some mb)) ∧ w'.cell? ⟨W.heap.size, 2, none⟩ = some (.string r2) ∧ (Instr.lookup 54 (.map (some mb)) (.string r2) false).run Try.prog w' = .ok (.agg #[.string s0, .int .i64 s1, .int .i64 s2]) w') (ds := [8]) #[false, false, false, false, false, false, false, false, false] (by kernel_rfl) rfl rfl ⟨(blk_cell (blk_drew BO.out) 6).trans rfl, (blk_cell (blk_drew BR.out) 2).trans rfl, LO.out _ (HM.out.drew)⟩ (fun hHeld => ?_)
  refine pure_ (i := 0) (N := some 11) (v := ?_) (a' := ?_) #[true, false, false, false, false, false, false, false, false] rfl rfl (by kernel_rfl) (fun _ _ _ h => h) (Or.inl ⟨by rfl, ?_⟩) ?_ ?_
  rotate_left
  · intro w'
    go_simp
    with_reducible rfl
  rotate_left
  · simp only [Act.put, List.setIfInBounds_toArray, List.set_cons_zero, List.set_cons_succ, i64_w, i32_w]
    rfl
  refine pure_ (i := 1) (N := some 12) (v := ?_) (a' := ?_) #[true, true, false, false, false, false, false, false, false] rfl rfl (by kernel_rfl) (fun _ _ _ h => h) (Or.inl ⟨by rfl, ?_⟩) ?_ ?_
  rotate_left
  · intro w'
    go_simp
    with_reducible rfl
  rotate_left
  · simp only [Act.put, List.setIfInBounds_toArray, List.set_cons_zero, List.set_cons_succ, i64_w, i32_w]
    rfl
  refine pure_ (i := 2) (N := some 13) (v := ?_) (a' := ?_) #[true, true, true, false, false, false, false, false, false] rfl rfl (by kernel_rfl) (fun _ _ _ h => h) (Or.inl ⟨by rfl, ?_⟩) ?_ ?_
  rotate_left
  · intro w'
    go_simp
    with_reducible rfl
  rotate_left
  · simp only [Act.put, List.setIfInBounds_toArray, List.set_cons_zero, List.set_cons_succ, i64_w, i32_w]
    rfl
  refine pure_ (i := 4) (N := some 15) (v := ?_) (a' := ?_) #[true, true, true, false, true, false, false, false, false] rfl rfl (by kernel_rfl) (fun _ _ _ h => h) (Or.inl ⟨by rfl, ?_⟩) ?_ ?_
  rotate_left
  · intro w'
    go_simp
    with_reducible rfl
  rotate_left
  · simp only [Act.put, List.setIfInBounds_toArray, List.set_cons_zero, List.set_cons_succ, i64_w, i32_w]
    rfl
  refine take_ (i := 3) (N := some 14) (v := ?_) (a' := ?_) #[true, true, true, true, true, false, false, false, false] rfl rfl (by kernel_rfl) (fun _ _ _ h => h) (Or.inl ⟨by rfl, ?_⟩) hHeld ?_ ?_
  rotate_left
  · rintro w' ⟨s0, s1, s2⟩
    go_simp
    with_reducible rfl
  rotate_left
  · simp only [Act.put, List.setIfInBounds_toArray, List.set_cons_zero, List.set_cons_succ, i64_w, i32_w]
    rfl
  refine take_ (i := 5) (N := some 16) (v := ?_) (a' := ?_) #[true, true, true, true, true, true, false, false, false] rfl rfl (by kernel_rfl) (fun _ _ _ h => h) (Or.inl ⟨by rfl, ?_⟩) hHeld ?_ ?_
  rotate_left
  · rintro w' ⟨s0, s1, s2⟩
    go_simp
    with_reducible rfl
  rotate_left
  · simp only [Act.put, List.setIfInBounds_toArray, List.set_cons_zero, List.set_cons_succ, i64_w, i32_w]
    rfl
  refine take_ (i := 6) (N := some 17) (v := ?_) (a' := ?_) #[true, true, true, true, true, true, true, false, false] rfl rfl (by kernel_rfl) (fun _ _ _ h => h) (Or.inl ⟨by rfl, ?_⟩) hHeld ?_ ?_
  rotate_left
  · rintro w' ⟨s0, s1, s2⟩
    go_simp
    with_reducible rfl
  rotate_left
  · simp only [Act.put, List.setIfInBounds_toArray, List.set_cons_zero, List.set_cons_succ, i64_w, i32_w]
    rfl
  refine one_ (i := 7) (N := some 7) #[true, true, true, true, true, true, true, true, false] rfl rfl (by kernel_rfl) (by decide) (fun K hK => ?_)
  refine value_ (w1 := ?_) (v := ?_) (by rfl) rfl ?_ ?_
  rotate_left 2
  · go_simp
    constructor
    · rfl
    · rfl
  refine hK.out _ _ ⟨(blk_cell (blk_alloc (blk_drew BO.out) _) 6).trans rfl, (blk_cell (blk_alloc (blk_drew BR.out) _) 2).trans rfl, LO.out _ ((HM.out.drew).alloc _)⟩ (fun hHeld => ?_)
  clear hK K
  refine norm_ (a' := ?_) ?_ ?_
  rotate_left
  · show Act.put _ (some 7) _ = _
    simp only [Act.put, List.setIfInBounds_toArray, List.set_cons_zero, List.set_cons_succ, i64_w, i32_w]
    rfl
  refine last_ (i := 8) (N := none) #[true, true, true, true, true, true, true, true, true] rfl rfl (by kernel_rfl) (by decide) (fun K hK => ?_)
  refine skip_ (w1 := ?_) (by rfl) rfl ?_ ?_
  rotate_left
  · go_simp
    rfl
  refine hK.out _ _ ?_
  clear hK K
  refine done_ (by kernel_rfl) ?_
  have H2 := Aside0.mk ((((HH.out.alloc (.cells #[.int .i64 r0, .int .i64 r1, .string r2, .int .i64 r3] 45)).alloc (.cells #[.string s0, .int .i64 s1, .int .i64 s2] 36))).next (below_drew1 (Below.refl _ _)))
  have HE := Aside0.mk (below_drew1 (below_alloc (below_alloc (Below.refl W.heap.size W) (.cells #[.int .i64 r0, .int .i64 r1, .string r2, .int .i64 r3] 45)) (.cells #[.string s0, .int .i64 s1, .int .i64 s2] 36)))
  have B2 := Aside0.mk (blk_drew (blk_alloc BR.out (.cells #[.string s0, .int .i64 s1, .int .i64 s2] 36)))
  clear hHeld LO HM BO BR hu
  by_cases h1 : r1 = 2
  case neg =>
    have e1 : (r1 == (2 : Int)) = false := by simp [h1]
    have w1_ : wrap64 (s2 - (at_ : Int)) = s2 - at_ := wrap64_id (by omega) (by omega)
    have w2_ : wrap64 (s2 - (at_ : Int) - 4) = s2 - at_ - 4 := wrap64_id (by omega) (by omega)
    have BY := Aside0.mk (fun W => bytes4_yes (n := s2 - (at_ : Int) - 4) (by omega) (by omega) W)
    have hal : (at_ : Int) ≤ (x.code.length : Int) := by omega
    go_wp2_with (first | (go_at_call 35; (with_reducible refine (BY.out _).mono ?_); rintro e w1 ⟨rfl, hb⟩; have H3 := Aside0.mk (H2.out.next hb); have K3 := Aside0.mk (Keeps.of_below (vc := .slice (some ⟨g, 0, none⟩) x.code.length cap) (below_in HE.out hb)); have kr1 : w1.cell? ⟨W.heap.size, 1, none⟩ = some (.int .i64 r1) := (blk_cell (blk_below B2.out hb) 1).trans rfl; have kb2 : w1.cell? ⟨b, 2, none⟩ = some (.slice (some ⟨g, 0, none⟩) x.code.length cap) := (blk_cell H3.out.obj 2).trans rfl; have hcp := fun dc ty => copy_run (at_ := at_) H3.out.rc (leL (s2 - (at_ : Int) - 4) 4) (leL_bs _ _) (by rw [leL_len]; omega) dc ty; rw [leL_len] at hcp; clear hb H2 HE B2))
    go_ret
    rw [HRES.out]
    rw [if_neg (fun h => h1 h.1), if_neg h1]
    obtain ⟨hp1, hp2⟩ := H3.out.pokes rfl (leL (s2 - (at_ : Int) - 4) 4) at_
    exact ⟨hp1.below, K3.out.trans hp2, rfl, hp1⟩
  case pos =>
    subst h1
    have w1_ : wrap64 (8 * s2) = 8 * s2 := wrap64_id (by omega) (by omega)
    have w2_ : wrap64 (1048576 + 8 * s2) = 1048576 + 8 * s2 := wrap64_id (by omega) (by omega)
    have w3_ : wrap64 (1048576 + 8 * s2 + r3) = 1048576 + 8 * s2 + r3 := wrap64_id (by omega) (by omega)
    by_cases h2 : 2147483647 < 1048576 + 8 * s2 + r3
    case pos =>
      have BY := Aside0.mk (fun W => bytes4_no (n := 1048576 + 8 * s2 + r3) (by omega) (by omega) W)
      have hal : (at_ : Int) ≤ (x.code.length : Int) := by omega
      go_wp2_with (first | (go_at_call 35; (with_reducible refine (BY.out _).mono ?_); rintro e w1 ⟨rfl, hb⟩; have H3 := Aside0.mk (H2.out.next hb); have K3 := Aside0.mk (Keeps.of_below (vc := .slice (some ⟨g, 0, none⟩) x.code.length cap) (below_in HE.out hb)); have kr1 : w1.cell? ⟨W.heap.size, 1, none⟩ = some (.int .i64 2) := (blk_cell (blk_below B2.out hb) 1).trans rfl; have kb2 : w1.cell? ⟨b, 2, none⟩ = some (.slice (some ⟨g, 0, none⟩) x.code.length cap) := (blk_cell H3.out.obj 2).trans rfl; have hcp := fun dc ty => copy_run (at_ := at_) H3.out.rc (leL (1048576 + 8 * s2 + r3) 4) (leL_bs _ _) (by rw [leL_len]; omega) dc ty; rw [leL_len] at hcp; clear hb H2 HE B2))
      go_ret
      rw [HRES.out]
      rw [if_pos ⟨trivial, .inr (by rw [if_pos trivial]; omega)⟩]
      exact ⟨H3.out.below, K3.out, rfl⟩
    case neg =>
      have BY := Aside0.mk (fun W => bytes4_yes (n := 1048576 + 8 * s2 + r3) (by omega) (by omega) W)
      by_cases h3 : 1048576 + 8 * s2 + r3 < 0
      case pos =>
        have hal : (at_ : Int) ≤ (x.code.length : Int) := by omega
        go_wp2_with (first | (go_at_call 35; (with_reducible refine (BY.out _).mono ?_); rintro e w1 ⟨rfl, hb⟩; have H3 := Aside0.mk (H2.out.next hb); have K3 := Aside0.mk (Keeps.of_below (vc := .slice (some ⟨g, 0, none⟩) x.code.length cap) (below_in HE.out hb)); have kr1 : w1.cell? ⟨W.heap.size, 1, none⟩ = some (.int .i64 2) := (blk_cell (blk_below B2.out hb) 1).trans rfl; have kb2 : w1.cell? ⟨b, 2, none⟩ = some (.slice (some ⟨g, 0, none⟩) x.code.length cap) := (blk_cell H3.out.obj 2).trans rfl; have hcp := fun dc ty => copy_run (at_ := at_) H3.out.rc (leL (1048576 + 8 * s2 + r3) 4) (leL_bs _ _) (by rw [leL_len]; omega) dc ty; rw [leL_len] at hcp; clear hb H2 HE B2))
        go_ret
        rw [HRES.out]
        rw [if_pos ⟨trivial, .inl (by rw [if_pos trivial]; omega)⟩]
        exact ⟨H3.out.below, K3.out, rfl⟩
      case neg =>
        have hal : (at_ : Int) ≤ (x.code.length : Int) := by omega
        go_wp2_with (first | (go_at_call 35; (with_reducible refine (BY.out _).mono ?_); rintro e w1 ⟨rfl, hb⟩; have H3 := Aside0.mk (H2.out.next hb); have K3 := Aside0.mk (Keeps.of_below (vc := .slice (some ⟨g, 0, none⟩) x.code.length cap) (below_in HE.out hb)); have kr1 : w1.cell? ⟨W.heap.size, 1, none⟩ = some (.int .i64 2) := (blk_cell (blk_below B2.out hb) 1).trans rfl; have kb2 : w1.cell? ⟨b, 2, none⟩ = some (.slice (some ⟨g, 0, none⟩) x.code.length cap) := (blk_cell H3.out.obj 2).trans rfl; have hcp := fun dc ty => copy_run (at_ := at_) H3.out.rc (leL (1048576 + 8 * s2 + r3) 4) (leL_bs _ _) (by rw [leL_len]; omega) dc ty; rw [leL_len] at hcp; clear hb H2 HE B2))
        go_ret
        rw [HRES.out]
        rw [if_neg (by rw [if_pos trivial]; intro h; omega), if_pos trivial]
        obtain ⟨hp1, hp2⟩ := H3.out.pokes rfl (leL (1048576 + 8 * s2 + r3) 4) at_
        exact ⟨hp1.below, K3.out.trans hp2, rfl, hp1⟩
end Go.Proofs.Yteaealmnmmcbpaa.M

/-
  Layer 7: all relocations gone through (each), asking whether each fits: the walk. Conditions: those told at it.
-/
namespace Go.Proofs.Yteaealmnmmcbpaa.M
open Go.RowKit Go.Proofs.YteaealmnmmcbpaaW.PrintWords Go.Proofs.YteaealmnmmcbpaaW.PrintLast Go.Proofs.Yteaealmnmmcbpaa.Num
set_option linter.unusedVariables false
set_option linter.unusedSimpArgs false
def fitsAll (l : List S36) : List S45 → Int
  | [] => 0
  | r :: rs => if fitsF l r = 0 then fitsAll l rs else fitsF l r
theorem rd_SO {l : List S40} {i : Nat} (h : i < l.length) : rd_T40 l (i : Int) = l[i] := by simp [rd_T40, List.getD_eq_getElem?_getD, List.getElem?_eq_getElem h]
theorem rd_SR {l : List S45} {i : Nat} (h : i < l.length) : rd_T45 l (i : Int) = l[i] := by simp [rd_T45, List.getD_eq_getElem?_getD, List.getElem?_eq_getElem h]
theorem drop_flat {l : List S40} {k : Nat} (h : k < l.length) : (l.drop k).flatMap (·.f3) = (l[k]).f3 ++ (l.drop (k + 1)).flatMap (·.f3) := by rw [List.drop_eq_getElem_cons h, List.flatMap_cons]
theorem drop_one {l : List S45} {j : Nat} (h : j < l.length) (rest : List S45) : l.drop j ++ rest = l[j] :: (l.drop (j + 1) ++ rest) := by rw [List.drop_eq_getElem_cons h, List.cons_append]
set_option maxHeartbeats 8000000 in
set_option maxRecDepth 100000 in
theorem each_fits {w W : World} {B b mb pb : Nat} {x : LkS} {vc v1 v2 : Value} {l : List S36} (H : Lk w W B b mb x vc v1 v2 l) (hp : W.cell? ⟨pb, 0, none⟩ = some (.pointer (some ⟨b, 0, none⟩))) {A0 : Option Addr} {c0 : Nat} {l0 : List S40} (hr : Kd.C k40 w A0 l0.length l0)
    (hn : ∀ o ∈ l0, ∀ r ∈ o.f3, r.f2.size ≤ maxLen) :
    Calls Try.prog 22 #[.slice A0 l0.length c0, .func (.func 23) #[] #[.pointer (some ⟨pb, 0, none⟩)]] W fun e w' => e = .returned (.int .i64 (fitsAll l (l0.flatMap (·.f3)))) ∧ Below W.heap.size W w' := by
  have HR := Aside0.mk (Kd.C_below hr H.below)
  have HH := Aside0.mk H
  have HP := Aside0.mk hp
  have HN := Aside0.mk hn
  have hlm := hr.2.1
  have LM := Aside0.mk hlm
  clear hr H hp hn
  go_enter Try.func22, Try.ntmps22
  go_wp2
  go_loopw [5, 13] (fun v5 v13 wr => ∃ (k : Nat) (p : Int), k ≤ l0.length ∧ v13 = .int .i64 k ∧ v5 = .int .i64 p ∧ Aside0 (Below W.heap.size W wr) ∧ Aside0 (fitsAll l (l0.flatMap (·.f3)) = fitsAll l ((l0.drop k).flatMap (·.f3)))) (fun _ v13 _ => l0.length - (intOf v13).toNat)
  case atStart => exact ⟨0, 0, Nat.zero_le _, rfl, rfl, ⟨Below.refl _ _⟩, ⟨rfl⟩⟩
  case round =>
    obtain ⟨k, p, hk, rfl, rfl, HB, HF⟩ := hrel
    by_cases hlt : k < l0.length
    case pos =>
      obtain ⟨ad, A1, c1, A2, c2, A3, c3, rfl, hx0, hx1, hx2, hx3, l1, g1, l2, g2, l3, g3⟩ := at_T40 (Kd.C_below HR.out HB.out) (k : Int) (by omega) (by omega)
      have NO := Aside0.mk (HN.out _ (List.getElem_mem hlt))
      have FO := Aside0.mk (HF.out.trans (congrArg (fitsAll l) (drop_flat hlt)))
      rw [rd_SO hlt] at hx0 hx1 hx2 hx3 l1 g1 l2 g2 l3 g3
      simp only [Int.toNat_natCast] at hx0 hx1 hx2 hx3
      generalize l0[k] = o at *
      have G3 := Aside0.mk g3
      have L3 := Aside0.mk l3
      have hlk : (k : Int) < (l0.length : Int) := by omega
      clear g1 g2 g3 l1 l2 l3 HF
      go_wp2
      have BO := Aside0.mk (blk_new wr (.cells #[.string o.f0, .slice A1 o.f1.length c1, .slice A2 o.f2.length c2, .slice A3 o.f3.length c3] 40))
      have HB1 := Aside0.mk (below_alloc HB.out (.cells #[.string o.f0, .slice A1 o.f1.length c1, .slice A2 o.f2.length c2, .slice A3 o.f3.length c3] 40))
      clear hx0 hx1 hx2 hx3
      have hGW : W.heap.size ≤ wr.heap.size := HB.out.size
      have GR := Aside0.mk (Kd.C_below G3.out (below_alloc (Below.refl wr.heap.size wr) (.cells #[.string o.f0, .slice A1 o.f1.length c1, .slice A2 o.f2.length c2, .slice A3 o.f3.length c3] 40)))
      generalize wr.alloc (.cells #[.string o.f0, .slice A1 o.f1.length c1, .slice A2 o.f2.length c2, .slice A3 o.f3.length c3] 40) = wo at *
      generalize wr.heap.size = g at *
      clear G3
      go_loopw [20] (fun v20 wr2 => ∃ j : Nat, j ≤ o.f3.length ∧ v20 = .int .i64 j ∧ Aside0 (Below wo.heap.size wo wr2) ∧ Aside0 (fitsAll l (l0.flatMap (·.f3)) = fitsAll l (o.f3.drop j ++ (l0.drop (k + 1)).flatMap (·.f3)))) (fun v20 _ => o.f3.length - (intOf v20).toNat)
      case atStart => exact ⟨0, Nat.zero_le _, rfl, ⟨Below.refl _ _⟩, FO⟩
      case round =>
        clear FO
        obtain ⟨j, hj, rfl, HB2, HF2⟩ := hrel
        have ko0 : wr.cell? ⟨g, 0, none⟩ = some (.string o.f0) := (blk_cell (blk_below BO.out HB2.out) 0).trans rfl
        by_cases hjl : j < o.f3.length
        case pos =>
          obtain ⟨ad3, rfl, hy0, hy1, hy2, hy3⟩ := at_T45 (Kd.C_below GR.out HB2.out) (j : Int) (by omega) (by omega)
          have NR := Aside0.mk (NO.out _ (List.getElem_mem hjl))
          have FR := Aside0.mk (HF2.out.trans (congrArg (fitsAll l) (drop_one hjl _)))
          rw [rd_SR hjl] at hy0 hy1 hy2 hy3
          simp only [Int.toNat_natCast] at hy0 hy1 hy2 hy3
          generalize o.f3[j] = r at *
          have hjk : (j : Int) < (o.f3.length : Int) := by omega
          clear HF2
          have HB3 := Aside0.mk (below_alloc (below_in HB1.out HB2.out) (.cells #[.int .i64 r.f0, .int .i64 r.f1, .string r.f2, .int .i64 r.f3] 45))
          have AC := Aside0.mk (fun at_ => asks_c (HH.out.next HB3.out) (pw_cell_below HB3.out HP.out) r NR.out at_)
          by_cases hz : fitsF l r = 0
          case pos =>
            have FZ := Aside0.mk (show fitsAll l (l0.flatMap (·.f3)) = fitsAll l (o.f3.drop (j + 1) ++ (l0.drop (k + 1)).flatMap (·.f3)) by rw [FR.out, fitsAll, if_pos hz])
            rw [hz] at AC
            go_wp2_with (first | (go_at_call 23; (with_reducible refine (AC.out _).mono ?_); rintro e w4 ⟨rfl, hb⟩; have HB4 := Aside0.mk (below_then HB2.out (by have := HB2.out.size; exact this) (below_in (below_alloc (Below.refl wr.heap.size wr) _) hb)); clear hb))
            have hol := GR.out.2.1
            have e1 : wrap64 ((j : Int) + 1) = ((j + 1 : Nat) : Int) := by rw [wrap64_id (by omega) (by omega)]; omega
            refine ⟨⟨j + 1, by omega, by rw [e1], HB4, FZ⟩, ?_⟩
            rw [e1]
            simp [intOf]
            omega
          case neg =>
            have FZ := Aside0.mk (show fitsAll l (l0.flatMap (·.f3)) = fitsF l r by rw [FR.out, fitsAll, if_neg hz])
            have hz2 : (fitsF l r == (0 : Int)) = false := by simp [hz]
            generalize fitsF l r = fz at *
            go_wp2_with (first | (go_at_call 23; (with_reducible refine (AC.out _).mono ?_); rintro e w4 ⟨rfl, hb⟩; have HB4 := Aside0.mk (below_in HB3.out hb); clear hb))
            go_ret
            exact ⟨by rw [FZ.out]; rfl, HB4.out⟩
        case neg =>
          obtain rfl : j = o.f3.length := by omega
          rw [List.drop_length, List.nil_append] at HF2
          have HB3 := Aside0.mk (below_in HB1.out HB2.out)
          go_wp2
          refine ⟨⟨k + 1, _, by omega, by first | rfl | go_num, rfl, HB3, HF2⟩, ?_⟩
          simp [intOf]
          omega
    case neg =>
      obtain rfl : k = l0.length := by omega
      rw [List.drop_length] at HF
      go_wp2
      go_ret
      exact ⟨by rw [HF.out]; rfl, HB.out⟩
end Go.Proofs.Yteaealmnmmcbpaa.M

/-
  Layer 7: all relocations gone through (each), filling each place in: the walk. Conditions: those told at it.
-/
namespace Go.Proofs.Yteaealmnmmcbpaa.M
open Go.RowKit Go.Proofs.YteaealmnmmcbpaaW.PrintWords Go.Proofs.YteaealmnmmcbpaaW.PrintLast Go.Proofs.Yteaealmnmmcbpaa.Num
set_option linter.unusedVariables false
set_option linter.unusedSimpArgs false
/-- How much code there is. -/
def codeLen : List S40 → Nat
  | [] => 0
  | o :: os => o.f0.size + codeLen os
/-- Relocations at their places in the whole code. -/
def relsAt : Nat → List S40 → List (Nat × S45)
  | _, [] => []
  | p, o :: os => (o.f3.map fun r => (p + r.f0.toNat, r)) ++ relsAt (p + o.f0.size) os
def fillAll (l : List S36) : List Int → List (Nat × S45) → Option (List Int)
  | code, [] => some code
  | code, q :: qs => (fillF l code q.1 q.2).bind fun c => fillAll l c qs
theorem fillF_len {l : List S36} {code c : List Int} {p : Nat} {r : S45} (h : fillF l code p r = some c) : c.length = code.length := by
  unfold fillF at h
  split at h
  · cases h
  · obtain rfl := Option.some.inj h
    exact pokes_length _ _ _
/-- What an object's relocations may be. -/
def RelOk (o : S40) (r : S45) : Prop := r.f2.size ≤ maxLen ∧ 0 ≤ r.f0 ∧ r.f0 + 4 ≤ (o.f0.size : Int) ∧ -2147483648 ≤ r.f3 ∧ r.f3 ≤ 2147483647
theorem relsAt_drop {l : List S40} {k : Nat} (h : k < l.length) (p : Nat) : relsAt p (l.drop k) = ((l[k]).f3.map fun r => (p + r.f0.toNat, r)) ++ relsAt (p + (l[k]).f0.size) (l.drop (k + 1)) := by rw [List.drop_eq_getElem_cons h, relsAt]
theorem codeLen_drop {l : List S40} {k : Nat} (h : k < l.length) : codeLen (l.drop k) = (l[k]).f0.size + codeLen (l.drop (k + 1)) := by rw [List.drop_eq_getElem_cons h, codeLen]
theorem map_drop_one {l : List S45} {j : Nat} (h : j < l.length) (f : S45 → Nat × S45) (rest : List (Nat × S45)) : (l.drop j).map f ++ rest = f l[j] :: ((l.drop (j + 1)).map f ++ rest) := by rw [List.drop_eq_getElem_cons h, List.map_cons, List.cons_append]
set_option maxHeartbeats 8000000 in
set_option maxRecDepth 100000 in
theorem each_fill {w W : World} {B b mb : Nat} {x : LkS} {vc v1 v2 : Value} {l : List S36} (H : Lk w W B b mb x vc v1 v2 l) {A0 : Option Addr} {c0 : Nat} {l0 : List S40} (hr : Kd.C k40 w A0 l0.length l0)
    (hn : ∀ o ∈ l0, ∀ r ∈ o.f3, RelOk o r) (hf : ∀ t : ByteArray, 0 ≤ ((l.find? fun s => decide (s.f0 = t)).getD z36).f2 ∧ ((l.find? fun s => decide (s.f0 = t)).getD z36).f2 ≤ 1048576) (hc : x.code.length = codeLen l0) (hcl : x.code.length ≤ 1048576) :
    Calls Try.prog 22 #[.slice A0 l0.length c0, .func (.func 25) #[.pointer (some ⟨b, 0, none⟩)] #[]] W fun e w' => Filled w W w' B b mb x vc v1 v2 l e (fillAll l x.code (relsAt 0 l0)) := by
  have HR := Aside0.mk hr
  have HN := Aside0.mk hn
  have HFD := Aside0.mk hf
  have hlm := hr.2.1
  have LM := Aside0.mk hlm
  have HL0 := Aside0.mk H
  have HC0 := Aside0.mk hc
  have HCL := Aside0.mk hcl
  obtain ⟨res, hres⟩ : ∃ res, res = fillAll l x.code (relsAt 0 l0) := ⟨_, rfl⟩
  rw [← hres]
  have HRES := Aside0.mk hres
  have hvB : ∀ k, vc.ownBlock = some k → k < W.heap.size := fun k hk => Nat.lt_of_lt_of_le (H.rc.1 k hk) H.lt
  have HVB := Aside0.mk hvB
  clear hr H hn hf hc hcl hres hvB
  go_enter Try.func22, Try.ntmps22
  go_wp2
  go_loopw [5, 13] (fun v5 v13 wr => ∃ (k p : Nat) (code : List Int), k ≤ l0.length ∧ v13 = .int .i64 k ∧ v5 = .int .i64 p ∧ Aside0 (Lk w wr B b mb { x with code := code } vc v1 v2 l) ∧ Aside0 (Keeps W wr vc) ∧ Aside0 (res = fillAll l code (relsAt p (l0.drop k))) ∧ Aside0 (code.length = x.code.length ∧ p + codeLen (l0.drop k) = x.code.length)) (fun _ v13 _ => l0.length - (intOf v13).toNat)
  case atStart => exact ⟨0, 0, x.code, Nat.zero_le _, rfl, rfl, HL0, ⟨Nat.le_refl _, fun _ _ _ => rfl⟩, HRES, ⟨rfl, by rw [List.drop_zero]; have := HC0.out; omega⟩⟩
  case round =>
    clear HL0 HRES
    obtain ⟨k, p, code, hk, rfl, rfl, HL, HK, HF, HS⟩ := hrel
    by_cases hlt : k < l0.length
    case pos =>
      obtain ⟨ad, A1, c1, A2, c2, A3, c3, rfl, hx0, hx1, hx2, hx3, l1, g1, l2, g2, l3, g3⟩ := at_T40 HR.out (k : Int) (by omega) (by omega)
      have NO := Aside0.mk (HN.out _ (List.getElem_mem hlt))
      have FO := Aside0.mk (HF.out.trans (congrArg (fillAll l code) (relsAt_drop hlt p)))
      have SO := Aside0.mk (show p + ((l0[k]).f0.size + codeLen (l0.drop (k + 1))) = x.code.length by rw [← codeLen_drop hlt]; exact HS.out.2)
      rw [rd_SO hlt] at hx0 hx1 hx2 hx3 l1 g1 l2 g2 l3 g3
      simp only [Int.toNat_natCast] at hx0 hx1 hx2 hx3
      generalize l0[k] = o at *
      replace hx0 := pw_cell_below HL.out.below hx0
      replace hx1 := pw_cell_below HL.out.below hx1
      replace hx2 := pw_cell_below HL.out.below hx2
      replace hx3 := pw_cell_below HL.out.below hx3
      have G3 := Aside0.mk g3
      have hlk : (k : Int) < (l0.length : Int) := by omega
      clear g1 g2 g3 l1 l2 l3 HF
      go_wp2
      have BO := Aside0.mk (blk_new wr (.cells #[.string o.f0, .slice A1 o.f1.length c1, .slice A2 o.f2.length c2, .slice A3 o.f3.length c3] 40))
      have HL1 := Aside0.mk (HL.out.alloc (.cells #[.string o.f0, .slice A1 o.f1.length c1, .slice A2 o.f2.length c2, .slice A3 o.f3.length c3] 40))
      have HK1 := Aside0.mk (HK.out.trans (Keeps.of_below (vc := vc) (below_alloc (Below.refl wr.heap.size wr) (.cells #[.string o.f0, .slice A1 o.f1.length c1, .slice A2 o.f2.length c2, .slice A3 o.f3.length c3] 40))))
      have hgo : wr.heap.size < (wr.alloc (.cells #[.string o.f0, .slice A1 o.f1.length c1, .slice A2 o.f2.length c2, .slice A3 o.f3.length c3] 40)).heap.size := by simp
      have hgv : some wr.heap.size ≠ vc.ownBlock := fun e => by have h1 := HVB.out _ e.symm; have h2 := HK.out.1; omega
      clear hx0 hx1 hx2 hx3
      generalize wr.alloc (.cells #[.string o.f0, .slice A1 o.f1.length c1, .slice A2 o.f2.length c2, .slice A3 o.f3.length c3] 40) = wo at *
      generalize wr.heap.size = g at *
      have HGV := Aside0.mk hgv
      have HGO := Aside0.mk hgo
      clear HL HK hgv hgo
      go_loopw [20] (fun v20 wr2 => ∃ (j : Nat) (cd : List Int), j ≤ o.f3.length ∧ v20 = .int .i64 j ∧ Aside0 (Lk w wr2 B b mb { x with code := cd } vc v1 v2 l) ∧ Aside0 (Keeps wo wr2 vc) ∧ Aside0 (cd.length = x.code.length) ∧ Aside0 (res = fillAll l cd (((o.f3.drop j).map fun r => (p + r.f0.toNat, r)) ++ relsAt (p + o.f0.size) (l0.drop (k + 1))))) (fun v20 _ => o.f3.length - (intOf v20).toNat)
      case atStart => exact ⟨0, code, Nat.zero_le _, rfl, HL1, ⟨Nat.le_refl _, fun _ _ _ => rfl⟩, ⟨HS.out.1⟩, FO⟩
      case round =>
        clear FO HL1 HS
        obtain ⟨j, cd, hj, rfl, HL2, HK2, HS2, HF2⟩ := hrel
        have BO2 := Aside0.mk (show wr.heap[g]? = some (.cells #[.string o.f0, .slice A1 o.f1.length c1, .slice A2 o.f2.length c2, .slice A3 o.f3.length c3] 40 (0, 0)) from (HK2.out.2 g HGO.out HGV.out).trans BO.out)
        have ko0 : wr.cell? ⟨g, 0, none⟩ = some (.string o.f0) := (blk_cell BO2.out 0).trans rfl
        by_cases hjl : j < o.f3.length
        case pos =>
          obtain ⟨ad3, rfl, hy0, hy1, hy2, hy3⟩ := at_T45 (Kd.C_below G3.out HL2.out.below) (j : Int) (by omega) (by omega)
          have NR := Aside0.mk (NO.out _ (List.getElem_mem hjl))
          have FR := Aside0.mk (HF2.out.trans (congrArg (fillAll l cd) (map_drop_one hjl _ _)))
          rw [rd_SR hjl] at hy0 hy1 hy2 hy3
          simp only [Int.toNat_natCast] at hy0 hy1 hy2 hy3
          generalize o.f3[j] = r at *
          have hjk : (j : Int) < (o.f3.length : Int) := by omega
          clear HF2
          obtain ⟨at_, hat⟩ : ∃ a : Nat, a = p + r.f0.toNat := ⟨_, rfl⟩
          have hin := NR.out
          have hpo := SO.out
          have hcl2 := HCL.out
          have ew : wrap64 ((p : Int) + r.f0) = (at_ : Int) := by unfold RelOk at hin; rw [wrap64_id (by omega) (by omega)]; omega
          have hae : at_ + 4 ≤ cd.length := by rw [HS2.out]; unfold RelOk at hin; omega
          have HL3 := Aside0.mk (HL2.out.alloc (.cells #[.int .i64 r.f0, .int .i64 r.f1, .string r.f2, .int .i64 r.f3] 45))
          have AC := Aside0.mk (fill_c HL3.out r hin.1 at_ hae (by rw [HS2.out]; exact hcl2) (HFD.out _).1 (HFD.out _).2 hin.2.2.2.1 hin.2.2.2.2)
          have FR2 := Aside0.mk (show res = (fillF l cd at_ r).bind fun c => fillAll l c (((o.f3.drop (j + 1)).map fun r => (p + r.f0.toNat, r)) ++ relsAt (p + o.f0.size) (l0.drop (k + 1))) by rw [FR.out, hat]; rfl)
          clear hin hpo hcl2 hat FR
          cases hff : fillF l cd at_ r with
          | none =>
            have hrn : res = none := by rw [FR2.out, hff]; rfl
            rw [hff] at AC
            go_wp2_with (first | (go_at_call 25; (with_reducible refine AC.out.mono ?_); rintro e w4 ⟨hbw, hkp, rfl⟩; have HB4 := Aside0.mk hbw; have HK4 := Aside0.mk (HK1.out.trans (HK2.out.trans (Keeps.trans (Keeps.of_below (vc := vc) (below_alloc (Below.refl wr.heap.size wr) _)) hkp))); clear hbw hkp))
            go_ret
            rw [hrn]
            exact ⟨HB4.out, HK4.out, rfl⟩
          | some c =>
            have FZ := Aside0.mk (show res = fillAll l c (((o.f3.drop (j + 1)).map fun r => (p + r.f0.toNat, r)) ++ relsAt (p + o.f0.size) (l0.drop (k + 1))) by rw [FR2.out, hff]; rfl)
            have HCc := Aside0.mk ((fillF_len hff).trans HS2.out)
            rw [hff] at AC
            go_wp2_with (first | (go_at_call 25; (with_reducible refine AC.out.mono ?_); rintro e w4 ⟨hbw, hkp, rfl, hl4⟩; have HL4 := Aside0.mk hl4; have HK4 := Aside0.mk (HK2.out.trans (Keeps.trans (Keeps.of_below (vc := vc) (below_alloc (Below.refl wr.heap.size wr) _)) hkp)); clear hbw hkp hl4))
            have hol := G3.out.2.1
            have e1 : wrap64 ((j : Int) + 1) = ((j + 1 : Nat) : Int) := by rw [wrap64_id (by omega) (by omega)]; omega
            refine ⟨⟨j + 1, c, by omega, by rw [e1], HL4, HK4, HCc, FZ⟩, ?_⟩
            rw [e1]
            simp [intOf]
            omega
        case neg =>
          obtain rfl : j = o.f3.length := by omega
          rw [List.drop_length, List.map_nil, List.nil_append] at HF2
          have HK3 := Aside0.mk (HK1.out.trans HK2.out)
          have hpo := SO.out
          have hcl2 := HCL.out
          have ew : wrap64 ((p : Int) + (o.f0.size : Int)) = ((p + o.f0.size : Nat) : Int) := by rw [wrap64_id (by omega) (by omega)]; omega
          clear hpo hcl2
          go_wp2
          refine ⟨⟨k + 1, p + o.f0.size, cd, by omega, by first | rfl | go_num, by first | rfl | go_num, HL2, HK3, HF2, ⟨HS2.out, by have := SO.out; omega⟩⟩, ?_⟩
          simp [intOf]
          omega
    case neg =>
      obtain rfl : k = l0.length := by omega
      rw [List.drop_length] at HF
      have hrs : res = some code := HF.out
      go_wp2
      go_ret
      rw [hrs]
      exact ⟨HL.out.below, HK.out, rfl, HL.out⟩
end Go.Proofs.Yteaealmnmmcbpaa.M

/-
  Layer 6, plain: whether an object may be, as the program tells it (objf.Check), said by plain functions on lists. Conditions: lengths below 2^63.
-/
namespace Go.Proofs.Yteaealmnmmcbpaa.Obj
open Go.RowKit Go.Proofs.Yteaealmnmmcbpaa.M Go.Proofs.Yteaealmnmmcbpaa.Num Go.Proofs.YteaealmnmmcbpaaW.PrintWords Go.Proofs.YteaealmnmmcbpaaW.PrintLast
def named (s : ByteArray) : Prop := 0 < s.size ∧ s.size ≤ 28
instance (s : ByteArray) : Decidable (named s) := by unfold named; exact inferInstance
def relGood (code free : Int) (r : S45) : Prop :=
  named r.f2 ∧ free ≤ r.f0 ∧ r.f0 ≤ code - 4 ∧ ((r.f1 = 1 ∧ r.f3 = 0) ∨ (r.f1 = 2 ∧ -2147483648 ≤ r.f3 ∧ r.f3 ≤ 2147483647))
instance (code free : Int) (r : S45) : Decidable (relGood code free r) := by unfold relGood; exact inferInstance
def relsOk (code : Int) : Int → List S45 → Bool
  | _, [] => true
  | free, r :: rs => decide (relGood code free r) && relsOk code (r.f0 + 4) rs
def symsOk (code data : Int) (l : List S36) : Bool := l.all (symGood code data) && decide (M.distinct (symNames l) = l.length) && decide (l.length ≤ 1000)
/-- May an object be? -/
def may (code : ByteArray) (data : List Int) (syms : List S36) (rels : List S45) : Bool :=
  decide (code.size ≤ 65536) && decide (data.length ≤ 4096) && symsOk code.size data.length syms && relsOk code.size 0 rels && decide (rels.length ≤ 8000)
theorem rd_SR (l : List S45) (i : Nat) (h : i < l.length) : rd_T45 l (i : Int) = l[i] := by
  simp [rd_T45, List.getD_eq_getElem?_getD, List.getElem?_eq_getElem h]
theorem isName_f (s : ByteArray) : objf_isName.f s = some (decide (named s)) := by
  unfold objf_isName.f
  by_cases h : (s.size : Int) > 0
  · rw [if_pos h]
    congr 1
    exact decide_eq_decide.mpr ⟨fun h' => ⟨by omega, by omega⟩, fun h' => by have := h'.2; omega⟩
  · rw [if_neg h]
    congr 1
    exact (decide_eq_false (fun h' : named s => h (by have := h'.1; omega))).symm
theorem rel_l0 (l : List S45) (code : Int) (h0 : 0 ≤ code) (h1 : code ≤ 65536) (hm : l.length ≤ 9223372036854775807) : ∀ (d k i : Nat) (free : Int), l.length - i = d → i ≤ l.length → 0 ≤ free → 2 * d + 1 < k →
    objf_relocations.l0 k l code free l (l.length : Int) (i : Int) = some (relsOk code free (l.drop i) && decide (l.length ≤ 8000)) := by
  intro d
  induction d with
  | zero =>
    intro k i free hd hi hf hk
    obtain ⟨k, rfl⟩ : ∃ m, k = m + 1 := ⟨k - 1, by omega⟩
    obtain rfl : i = l.length := by omega
    simp only [objf_relocations.l0]
    rw [if_neg (by omega), List.drop_length]
    simp only [relsOk, Bool.true_and]
    congr 1
    rw [Bool.eq_iff_iff]
    simp
    omega
  | succ d ih =>
    intro k i free hd hi hf hk
    obtain ⟨k, rfl⟩ : ∃ m, k = m + 2 := ⟨k - 2, by omega⟩
    have hlt : i < l.length := by omega
    have hs := ih k (i + 1)
    have hw : wrap64 ((i : Int) + 1) = ((i + 1 : Nat) : Int) := by unfold wrap64; omega
    have hw4 : wrap64 (code - 4) = code - 4 := by unfold wrap64; omega
    simp only [objf_relocations.l0]
    rw [if_pos (by omega), if_pos (by omega), if_pos (by omega), rd_SR l i hlt, List.drop_eq_getElem_cons hlt]
    generalize l[i] = r
    obtain ⟨f0, f1, f2, f3⟩ := r
    simp only [isName_f, Option.bind_some, relsOk, relGood]
    by_cases hn : named f2
    · simp only [hn, decide_true, if_true, hw4, true_and]
      by_cases c1 : f0 < free
      · rw [if_pos c1]
        simp only [objf_relocations.j1, if_true]
        simp [show ¬ free ≤ f0 by omega]
      · rw [if_neg c1]
        by_cases c2 : f0 > code - 4
        · simp only [objf_relocations.j1, c2, decide_true, if_true]
          simp [show ¬ f0 ≤ code - 4 by omega]
        · have hw0 : wrap64 (f0 + 4) = f0 + 4 := by unfold wrap64; omega
          have hs' := hs (f0 + 4) (by omega) (by omega) (by omega) (by omega)
          simp only [objf_relocations.j1, c2, decide_false, hw, hw0, hs']
          simp only [show free ≤ f0 by omega, show f0 ≤ code - 4 by omega, true_and]
          by_cases k1 : f1 = 1
          · subst k1
            by_cases a0 : f3 = 0
            · simp [a0]
            · simp [a0]
          · by_cases k2 : f1 = 2
            · subst k2
              by_cases a1 : f3 < -2147483648
              · simp [a1, show ¬ (-2147483648 ≤ f3) by omega]
              · by_cases a2 : f3 > 2147483647
                · simp [a1, a2, show ¬ (f3 ≤ 2147483647) by omega]
                · simp [a1, a2, show (-2147483648 ≤ f3) by omega, show (f3 ≤ 2147483647) by omega]
            · simp [k1, k2]
    · simp only [hn, decide_false, objf_relocations.j1, if_true]
      simp
theorem relocations_f (l : List S45) (code : Int) (h0 : 0 ≤ code) (h1 : code ≤ 65536) (hm : l.length ≤ 9223372036854775807) (k : Nat) (hk : 2 * l.length + 1 < k) :
    objf_relocations.f k l code = some (relsOk code 0 l && decide (l.length ≤ 8000)) := by
  unfold objf_relocations.f
  have := rel_l0 l code h0 h1 hm l.length k 0 0 (by omega) (by omega) (by omega) hk
  simpa using this
theorem check_f (code : ByteArray) (data : List Int) (syms : List S36) (rels : List S45) (hm : rels.length ≤ 9223372036854775807) (k : Nat) (hk : 2 * rels.length + 1 < k) :
    objf_Check.f k code data syms rels = some (if may code data syms rels = true then 0 else 1) := by
  unfold objf_Check.f may symsOk
  by_cases c1 : (code.size : Int) > 65536
  · rw [if_pos c1]
    simp [show ¬ code.size ≤ 65536 by omega]
  rw [if_neg c1]
  by_cases c2 : (data.length : Int) > 4096
  · rw [if_pos c2]
    simp [show ¬ data.length ≤ 4096 by omega]
  rw [if_neg c2]
  unfold objf_symbols.f
  simp only [Option.bind_some, show code.size ≤ 65536 by omega, show data.length ≤ 4096 by omega, decide_true, Bool.true_and]
  by_cases c3 : (syms.all (symGood (code.size : Int) (data.length : Int)) && decide (M.distinct (symNames syms) = syms.length) && decide (syms.length ≤ 1000)) = true
  · rw [if_pos c3, relocations_f rels _ (by omega) (by omega) hm k hk]
    simp only [c3, Bool.true_and, Option.bind_some]
    cases relsOk (code.size : Int) 0 rels <;> by_cases c4 : rels.length ≤ 8000 <;> simp [c4]
  · rw [if_neg c3]
    simp [Bool.eq_false_iff.mpr c3]
end Go.Proofs.Yteaealmnmmcbpaa.Obj

/-
  Layer 7: what linking gives, plain (linkF); what may objects are bounds it. No condition.
-/
namespace Go.Proofs.Yteaealmnmmcbpaa.M
open Go.RowKit Go.Proofs.YteaealmnmmcbpaaW.PrintWords Go.Proofs.YteaealmnmmcbpaaW.PrintLast Go.Proofs.Yteaealmnmmcbpaa.Num Go.Proofs.Yteaealmnmmcbpaa.Seven Go.Proofs.Yteaealmnmmcbpaa.Obj
set_option linter.unusedVariables false
set_option linter.unusedSimpArgs false
def mayO (o : S40) : Bool := may o.f0 o.f1 o.f2 o.f3
theorem symGood_named {code data : Int} {s : S36} (h : symGood code data s = true) : named s.f0 ∧ 0 ≤ s.f2 ∧ s.f2 < (if s.f1 = 2 then data else code) ∧ (s.f1 = 1 ∨ s.f1 = 2 ∨ s.f1 = 3) := by
  unfold symGood at h
  simp only [Bool.and_eq_true, decide_eq_true_eq] at h
  exact ⟨h.1.1.2, h.1.2, h.2, h.1.1.1⟩
theorem relsOk_all : ∀ (l : List S45) (code free : Int), 0 ≤ free → relsOk code free l = true → ∀ r ∈ l, named r.f2 ∧ 0 ≤ r.f0 ∧ r.f0 ≤ code - 4 ∧ (r.f1 = 1 ∨ r.f1 = 2) ∧ -2147483648 ≤ r.f3 ∧ r.f3 ≤ 2147483647 := by
  intro l
  induction l with
  | nil => intro _ _ _ _ r hr; cases hr
  | cons x l ih =>
    intro code free hf h r hr
    simp only [relsOk, Bool.and_eq_true, decide_eq_true_eq] at h
    obtain ⟨⟨h1, h2, h3, h4⟩, h5⟩ := h
    rcases List.mem_cons.1 hr with rfl | hr
    · exact ⟨h1, by omega, h3, by omega, by omega, by omega⟩
    · exact ih code (x.f0 + 4) (by omega) h5 r hr
theorem may_parts {o : S40} (h : mayO o = true) :
    o.f0.size ≤ 65536 ∧ o.f1.length ≤ 4096 ∧ o.f2.length ≤ 1000 ∧ o.f3.length ≤ 8000 ∧ (∀ s ∈ o.f2, SymSmall s) ∧ (∀ r ∈ o.f3, RelOk o r) := by
  unfold mayO may symsOk at h
  simp only [Bool.and_eq_true, decide_eq_true_eq] at h
  obtain ⟨⟨⟨⟨h1, h2⟩, ⟨h3, h4⟩, h5⟩, h6⟩, h7⟩ := h
  refine ⟨h1, h2, h5, h7, fun s hs => ?_, fun r hr => ?_⟩
  · have := symGood_named (List.all_eq_true.1 h3 s hs)
    refine ⟨this.1.2, this.2.1, ?_⟩
    have h8 := this.2.2.1
    split at h8 <;> omega
  · have := relsOk_all o.f3 _ 0 (by omega) h6 r hr
    exact ⟨by have := this.1.2; simp only [maxLen]; omega, this.2.1, by omega, this.2.2.2.2.1, this.2.2.2.2.2⟩
theorem check_c {w : World} {o : S40} {A1 A2 A3 : Option Addr} {c1 c2 c3 : Nat} (h1 : Kd.C (Kd.int .i64) w A1 o.f1.length o.f1) (l1 : o.f1.length ≤ c1) (h2 : Kd.C k36 w A2 o.f2.length o.f2) (l2 : o.f2.length ≤ c2) (h3 : Kd.C k45 w A3 o.f3.length o.f3) (l3 : o.f3.length ≤ c3) :
    Calls Try.prog 20 #[.agg #[.string o.f0, .slice A1 o.f1.length c1, .slice A2 o.f2.length c2, .slice A3 o.f3.length c3]] w fun e w' => e = .returned (.int .i64 (if mayO o = true then 0 else 1)) ∧ Below w.heap.size w w' :=
  objf_Check.calls (2 * o.f3.length + 2) o.f0 A1 c1 o.f1 A2 c2 o.f2 A3 c3 o.f3 _ w h1 l1 h2 l2 h3 l3 (check_f _ _ _ _ h3.2.1 _ (by omega))
/-! ### All objects laid -/
def layAll (x : LkS) : List S40 → Option LkS
  | [] => some x
  | o :: os => (layO x o).bind fun y => layAll y os
/-- After k objects. -/
def Inv (k : Nat) (x : LkS) : Prop := x.nc = x.code.length ∧ x.code.length ≤ k * 65536 ∧ x.nd = x.data.length ∧ x.data.length ≤ k * 4096 ∧ x.syms.length ≤ k * 1000 ∧ 0 ≤ x.th ∧ x.th ≤ k * 1000 ∧ ∀ s ∈ x.syms, 0 ≤ s.f2 ∧ s.f2 ≤ k * 65536
theorem inv_empty : Inv 0 LkS.empty := ⟨rfl, Nat.le_refl _, rfl, Nat.le_refl _, Nat.le_refl _, by decide, by decide, fun s hs => by cases hs⟩
theorem laySyms_inv {k : Nat} : ∀ (ss : List S36) (x y : LkS), (∀ s ∈ ss, SymSmall s) → 0 ≤ x.nc → x.nc ≤ k * 65536 → 0 ≤ x.nd → x.nd ≤ k * 4096 → (∀ s ∈ x.syms, 0 ≤ s.f2 ∧ s.f2 ≤ (k + 1) * 65536) → laySyms x ss = some y →
    y.nc = x.nc ∧ y.nd = x.nd ∧ y.code = x.code ∧ y.data = x.data ∧ y.syms.length = x.syms.length + ss.length ∧ x.th ≤ y.th ∧ y.th ≤ x.th + ss.length ∧ ∀ s ∈ y.syms, 0 ≤ s.f2 ∧ s.f2 ≤ (k + 1) * 65536
  | [], x, y, _, _, _, _, _, h5, h => by
    obtain rfl := Option.some.inj h
    exact ⟨rfl, rfl, rfl, rfl, by simp, Int.le_refl _, by simp, h5⟩
  | s :: ss, x, y, h0, h1, h2, h3, h4, h5, h => by
    unfold laySyms at h
    split at h
    · cases h
    · have hs := h0 s (by simp)
      have := laySyms_inv (k := k) ss { x with syms := x.syms ++ [layOne x s], th := if s.f1 = 3 then x.th + 1 else x.th } y (fun t ht => h0 t (by simp [ht])) h1 h2 h3 h4 (by
        intro t ht
        rcases List.mem_append.1 ht with ht | ht
        · exact h5 t ht
        · obtain rfl : t = layOne x s := by simpa using ht
          unfold layOne
          unfold SymSmall at hs
          dsimp only
          split <;> omega) h
      dsimp only at this
      refine ⟨this.1, this.2.1, this.2.2.1, this.2.2.2.1, by rw [this.2.2.2.2.1]; simp only [List.length_append, List.length_cons, List.length_nil]; omega, ?_, ?_, this.2.2.2.2.2.2.2⟩
      · have h6 := this.2.2.2.2.2.1
        split at h6 <;> omega
      · have h6 := this.2.2.2.2.2.2.1
        rw [List.length_cons]
        split at h6 <;> omega
theorem layO_inv {k : Nat} {x y : LkS} {o : S40} (hx : Inv k x) (hm : mayO o = true) (h : layO x o = some y) : Inv (k + 1) y := by
  obtain ⟨m1, m2, m3, m4, m5, m6⟩ := may_parts hm
  obtain ⟨h1, h2, h3, h4, h5, h6, h7, h8⟩ := hx
  unfold layO at h
  obtain ⟨z, hz, rfl⟩ := Option.map_eq_some_iff.1 h
  have := laySyms_inv (k := k) o.f2 x z m5 (by omega) (by omega) (by omega) (by omega) (fun s hs => by have := h8 s hs; omega) hz
  obtain ⟨g1, g2, g3, g4, g5, g6, g7, g8⟩ := this
  refine ⟨?_, ?_, ?_, ?_, ?_, ?_, ?_, ?_⟩
  · simp [bytesOf_length]
  · simp only [List.length_append, bytesOf_length, g3]; omega
  · simp
  · simp only [List.length_append, g4]; omega
  · dsimp only; omega
  · dsimp only; omega
  · dsimp only; omega
  · intro s hs
    have := g8 s hs
    omega
theorem Inv.small {k : Nat} {x : LkS} (h : Inv k x) (hk : k ≤ 16) : LkSmall x := by
  obtain ⟨h1, h2, h3, h4, h5, h6, h7, h8⟩ := h
  unfold LkSmall
  omega
theorem Inv.find {k : Nat} {x : LkS} (h : Inv k x) (hk : k ≤ 16) (t : ByteArray) : 0 ≤ ((x.syms.find? fun s => decide (s.f0 = t)).getD z36).f2 ∧ ((x.syms.find? fun s => decide (s.f0 = t)).getD z36).f2 ≤ 1048576 := by
  cases e : x.syms.find? fun s => decide (s.f0 = t) with
  | none => exact ⟨by decide, by decide⟩
  | some s =>
    have := h.2.2.2.2.2.2.2 s (List.mem_of_find?_eq_some e)
    simp only [Option.getD_some]
    omega
theorem layO_code {x y : LkS} {o : S40} (h : layO x o = some y) (hs : ∀ (z : LkS), laySyms x o.f2 = some z → z.code = x.code) : y.code.length = x.code.length + o.f0.size := by
  unfold layO at h
  obtain ⟨z, hz, rfl⟩ := Option.map_eq_some_iff.1 h
  simp [bytesOf_length, hs z hz]
theorem laySyms_code : ∀ (ss : List S36) (x y : LkS), laySyms x ss = some y → y.code = x.code
  | [], x, y, h => by obtain rfl := Option.some.inj h; rfl
  | s :: ss, x, y, h => by
    unfold laySyms at h
    split at h
    · cases h
    · exact (laySyms_code ss _ y h).trans rfl
theorem layAll_code : ∀ (os : List S40) (x y : LkS), layAll x os = some y → y.code.length = x.code.length + codeLen os
  | [], x, y, h => by obtain rfl := Option.some.inj h; rfl
  | o :: os, x, y, h => by
    unfold layAll at h
    obtain ⟨z, hz, h⟩ := Option.bind_eq_some_iff.1 h
    rw [layAll_code os z y h, layO_code hz (fun z hz => laySyms_code _ _ _ hz), codeLen]
    omega
/-! ### The link -/
def linkE (e : Int) : (ByteArray × List Int × List S36) × Int := ((⟨#[]⟩, [], []), e)
def linkL (l0 : List S40) (x : LkS) : (ByteArray × List Int × List S36) × Int :=
  if fitsAll x.syms (l0.flatMap (·.f3)) ≠ 0 then linkE (fitsAll x.syms (l0.flatMap (·.f3)))
  else if 65536 < x.code.length ∨ 4096 < x.data.length ∨ 1000 < x.syms.length ∨ x.th < 1 ∨ 4 < x.th then linkE 8
  else match fillAll x.syms x.code (relsAt 0 l0) with
    | none => linkE 7
    | some c => ((strOfNums c, x.data, x.syms), 0)
/-- The image of objects, or why there is none. -/
def linkF (l0 : List S40) : (ByteArray × List Int × List S36) × Int :=
  if 16 < l0.length then linkE 1
  else if ¬ (l0.all mayO = true) then linkE 1
  else match layAll LkS.empty l0 with
    | none => linkE 5
    | some x => linkL l0 x
end Go.Proofs.Yteaealmnmmcbpaa.M

/-
  Layer 7: Link: the walk. Condition: none but what a list of objects is.
-/
namespace Go.Proofs.Yteaealmnmmcbpaa.M
open Go.RowKit Go.Proofs.YteaealmnmmcbpaaW.PrintWords Go.Proofs.YteaealmnmmcbpaaW.PrintLast Go.Proofs.Yteaealmnmmcbpaa.Num Go.Proofs.Yteaealmnmmcbpaa.Seven Go.Proofs.Yteaealmnmmcbpaa.Obj
set_option linter.unusedVariables false
set_option linter.unusedSimpArgs false
def LinkPost (w w' : World) (e : Ending) (res : (ByteArray × List Int × List S36) × Int) : Prop := ∃ v1_ v2_ : Value, e = .returned (.tuple #[.agg #[.string res.1.1, v1_, v2_], .int .i64 res.2]) ∧ Kd.R (Kd.int .i64) 2 w' w.heap.size (fun _ => True) v1_ res.1.2.1 ∧ Kd.R k36 36 w' w.heap.size (fun _ => True) v2_ res.1.2.2 ∧ Below w.heap.size w w'
theorem LinkPost.bad {w w' : World} (e : Int) (h : Below w.heap.size w w') : LinkPost w w' (.returned (.tuple #[.agg #[.string ⟨#[]⟩, .slice none 0 0, .slice none 0 0], .int .i64 e])) (linkE e) := ⟨_, _, rfl, Kd.R_nil _ _ _ _ _, Kd.R_nil _ _ _ _ _, h⟩
theorem all_take {l : List S40} {k : Nat} (h : k < l.length) {p : S40 → Bool} (ht : (l.take k).all p = true) (hp : p l[k] = true) : (l.take (k + 1)).all p = true := by
  rw [List.take_succ_eq_append_getElem h, List.all_append, ht]
  simpa using hp
theorem all_not {l : List S40} {k : Nat} (h : k < l.length) {p : S40 → Bool} (hp : p l[k] = false) : ¬ (l.all p = true) := by
  intro ha
  have := List.all_eq_true.1 ha _ (List.getElem_mem h)
  rw [hp] at this
  cases this
/-- A return without an image. -/
theorem link_bad0 {w V : World} (hb : V.heap[w.heap.size]? = some (.cells #[.string ⟨#[]⟩, .slice none 0 0, .slice none 0 0] 29 (0, 0))) (hB : Below w.heap.size w V) (e : Int) (a : Act) (ha2 : a.tmps.getD 2 undef = .pointer (some ⟨w.heap.size, 0, none⟩)) (ha3 : a.tmps.getD 3 undef = .int .i64 e) (hd : a.defers = []) :
    bodyPost Try.prog Try.f12 (fun x w' => LinkPost w w' x (linkE e)) .ret a V := by
  refine bodyPost_ret (results_ct rfl _ _ w.heap.size 29 #[.string ⟨#[]⟩, .slice none 0 0, .slice none 0 0] (0, 0) _ ha2 hb Try.underlying29 rfl (by kernel_rfl)) hd ?_
  rw [ha3]
  exact LinkPost.bad e hB
theorem link_bad {w V : World} (hb : V.heap[w.heap.size]? = some (.cells #[.string ⟨#[]⟩, .slice none 0 0, .slice none 0 0] 29 (0, 0))) (hB : Below w.heap.size w V) (e : Int) (a : Act) (ha2 : a.tmps.getD 2 undef = .pointer (some ⟨w.heap.size, 0, none⟩)) (ha3 : a.tmps.getD 3 undef = .int .i64 e) (hd : a.defers = []) :
    bodyPost Try.prog Try.f12 (fun x w' => LinkPost w w' x (linkE e)) .ret a (((V.setCell ⟨w.heap.size, 0, none⟩ (.string ⟨#[]⟩)).setCell ⟨w.heap.size, 1, none⟩ (.slice none 0 0)).setCell ⟨w.heap.size, 2, none⟩ (.slice none 0 0)) :=
  link_bad0 (blk_put (blk_put (blk_put hb 0 _ rfl) 1 _ rfl) 2 _ rfl) (((hB.setCell (Nat.le_refl _) _).setCell (Nat.le_refl _) _).setCell (Nat.le_refl _) _) e a ha2 ha3 hd
/-- A linker new made. -/
theorem lk_new {w W : World} (hb : Below w.heap.size w W) : Lk w (((W.alloc (.map #[] 0)).alloc (.cells #[.int .i64 0, .int .i64 0, .slice none 0 0, .string ⟨#[]⟩, .slice none 0 0, .slice none 0 0, .map (some W.heap.size), .int .i64 0] 59)).alloc (.cells #[.pointer (some ⟨W.heap.size + 1, 0, none⟩)] 53)) (((W.alloc (.map #[] 0)).alloc (.cells #[.int .i64 0, .int .i64 0, .slice none 0 0, .string ⟨#[]⟩, .slice none 0 0, .slice none 0 0, .map (some W.heap.size), .int .i64 0] 59)).alloc (.cells #[.pointer (some ⟨W.heap.size + 1, 0, none⟩)] 53)).heap.size (W.heap.size + 1) W.heap.size LkS.empty (.slice none 0 0) (.slice none 0 0) (.slice none 0 0) [] where
  below := below_alloc (below_alloc (below_alloc hb _) _) _
  obj := by
    refine blk_alloc ?_ _
    have := blk_new (W.alloc (.map #[] 0)) (.cells #[.int .i64 0, .int .i64 0, .slice none 0 0, .string ⟨#[]⟩, .slice none 0 0, .slice none 0 0, .map (some W.heap.size), .int .i64 0] 59)
    rw [show (W.alloc (.map #[] 0)).heap.size = W.heap.size + 1 by simp] at this
    exact this
  rc := Kd.R_nil _ _ _ _ _
  r1 := Kd.R_nil _ _ _ _ _
  r2 := Kd.R_nil _ _ _ _ _
  mp := ⟨0, _, ((World.ownsMap_made W Try.prog 9 RSym).alloc _).alloc _, fnd_nil, rfl⟩
  lt := Nat.le_refl _
  hh := by have := hb.size; simp; omega
theorem pb_new (W : World) : (((W.alloc (.map #[] 0)).alloc (.cells #[.int .i64 0, .int .i64 0, .slice none 0 0, .string ⟨#[]⟩, .slice none 0 0, .slice none 0 0, .map (some W.heap.size), .int .i64 0] 59)).alloc (.cells #[.pointer (some ⟨W.heap.size + 1, 0, none⟩)] 53)).heap[W.heap.size + 1 + 1]? = some (.cells #[.pointer (some ⟨W.heap.size + 1, 0, none⟩)] 53 (0, 0)) := by
  have := blk_new ((W.alloc (.map #[] 0)).alloc (.cells #[.int .i64 0, .int .i64 0, .slice none 0 0, .string ⟨#[]⟩, .slice none 0 0, .slice none 0 0, .map (some W.heap.size), .int .i64 0] 59)) (.cells #[.pointer (some ⟨W.heap.size + 1, 0, none⟩)] 53)
  rw [show ((W.alloc (.map #[] 0)).alloc (.cells #[.int .i64 0, .int .i64 0, .slice none 0 0, .string ⟨#[]⟩, .slice none 0 0, .slice none 0 0, .map (some W.heap.size), .int .i64 0] 59)).heap.size = W.heap.size + 1 + 1 by simp] at this
  exact this
theorem layAll_drop {l : List S40} {k : Nat} (h : k < l.length) (x : LkS) : layAll x (l.drop k) = (layO x l[k]).bind fun y => layAll y (l.drop (k + 1)) := by rw [List.drop_eq_getElem_cons h, layAll]
theorem link16 {l0 : List S40} (h : 16 < l0.length) : linkF l0 = linkE 1 := by unfold linkF; rw [if_pos h]
theorem link_not {l0 : List S40} (h : ¬ 16 < l0.length) (hn : ¬ (l0.all mayO = true)) : linkF l0 = linkE 1 := by unfold linkF; rw [if_neg h, if_pos hn]
theorem link_dup {l0 : List S40} (h : ¬ 16 < l0.length) (hn : l0.all mayO = true) (hl : layAll LkS.empty l0 = none) : linkF l0 = linkE 5 := by unfold linkF; rw [if_neg h, if_neg (by rw [hn]; simp), hl]
theorem link_ok {l0 : List S40} (h : ¬ 16 < l0.length) (hn : l0.all mayO = true) {x : LkS} (hl : layAll LkS.empty l0 = some x) : linkF l0 = linkL l0 x := by unfold linkF; rw [if_neg h, if_neg (by rw [hn]; simp), hl]
set_option maxHeartbeats 16000000 in
set_option maxRecDepth 100000 in
theorem link_c {w : World} {A0 : Option Addr} {c0 : Nat} {l0 : List S40} (hr : Kd.C k40 w A0 l0.length l0) :
    Calls Try.prog 12 #[.slice A0 l0.length c0] w fun e w' => LinkPost w w' e (linkF l0) := by
  have HR := Aside0.mk hr
  have hlm := hr.2.1
  have hmm := @run_makeMap Try.prog
  have hmf : ∀ (fn : Fn) (first cap : Array Value) (w : World), (Instr.makeFunc fn first cap).run Try.prog w = .ok (.func fn first cap) w := fun _ _ _ _ => rfl
  obtain ⟨res, hres⟩ : ∃ res, res = linkF l0 := ⟨_, rfl⟩
  rw [← hres]
  have HRES := Aside0.mk hres
  clear hr hres
  by_cases h16 : 16 < l0.length
  case pos =>
    have h16i : (16 : Int) < (l0.length : Int) := by omega
    go_enter Try.func12, Try.ntmps12
    go_wp2
    rw [HRES.out, link16 h16]
    exact link_bad0 (blk_new w _) (below_alloc (Below.refl _ _) _) 1 _ rfl rfl rfl
  case neg =>
    have h16i : ¬ (16 : Int) < (l0.length : Int) := by omega
    go_enter Try.func12, Try.ntmps12
    go_wp2
    have HB0 := Aside0.mk (below_alloc (Below.refl w.heap.size w) (.cells #[.string ⟨#[]⟩, .slice none 0 0, .slice none 0 0] 29))
    have BR0 := Aside0.mk (blk_new w (.cells #[.string ⟨#[]⟩, .slice none 0 0, .slice none 0 0] 29))
    generalize w.alloc (.cells #[.string ⟨#[]⟩, .slice none 0 0, .slice none 0 0] 29) = W1 at *
    go_loopw [17] (fun v17 wr => ∃ k : Nat, k ≤ l0.length ∧ v17 = .int .i64 k ∧ Aside0 (Below W1.heap.size W1 wr) ∧ Aside0 ((l0.take k).all mayO = true)) (fun v17 _ => l0.length - (intOf v17).toNat)
    case atStart => exact ⟨0, Nat.zero_le _, rfl, ⟨Below.refl _ _⟩, ⟨rfl⟩⟩
    case round =>
      obtain ⟨k, hk, rfl, HB, HM⟩ := hrel
      by_cases hlt : k < l0.length
      case pos =>
        have HBW := Aside0.mk (below_in HB0.out HB.out)
        obtain ⟨ad, A1, c1, A2, c2, A3, c3, rfl, hx0, hx1, hx2, hx3, l1, g1, l2, g2, l3, g3⟩ := at_T40 (Kd.C_below HR.out HBW.out) (k : Int) (by omega) (by omega)
        rw [rd_SO hlt] at hx0 hx1 hx2 hx3 l1 g1 l2 g2 l3 g3
        simp only [Int.toNat_natCast] at hx0 hx1 hx2 hx3
        have MT := Aside0.mk (fun h => all_take hlt HM.out h)
        have MN := Aside0.mk (fun h => all_not (p := mayO) hlt h)
        have BRw := Aside0.mk (blk_below BR0.out HB.out)
        generalize l0[k] = o at *
        have hlk : (k : Int) < (l0.length : Int) := by omega
        have CK := Aside0.mk (check_c (w := wr.alloc (.cells #[.string o.f0, .slice A1 o.f1.length c1, .slice A2 o.f2.length c2, .slice A3 o.f3.length c3] 40)) (Kd.C_below g1 (below_alloc (Below.refl _ _) _)) l1 (Kd.C_below g2 (below_alloc (Below.refl _ _) _)) l2 (Kd.C_below g3 (below_alloc (Below.refl _ _) _)) l3)
        clear g1 g2 g3 l1 l2 l3 HM
        cases hmo : mayO o with
        | true =>
          rw [hmo] at CK
          have MT2 := Aside0.mk (MT.out hmo)
          go_wp2_with (first | (go_at_call 20; (with_reducible refine CK.out.mono ?_); rintro e w4 ⟨rfl, hb⟩; have HB4 := Aside0.mk (below_in HB.out (below_in (below_alloc (Below.refl wr.heap.size wr) _) hb)); clear hb))
          refine ⟨⟨k + 1, by omega, by first | rfl | go_num, HB4, MT2⟩, ?_⟩
          simp [intOf]
          omega
        | false =>
          rw [hmo] at CK
          have hrn : res = linkE 1 := by rw [HRES.out]; exact link_not h16 (MN.out hmo)
          go_wp2_with (first | (go_at_call 20; (with_reducible refine CK.out.mono ?_); rintro e w4 ⟨rfl, hb⟩; have HB4 := Aside0.mk (below_in HBW.out (below_in (below_alloc (Below.refl wr.heap.size wr) _) hb)); have BR4 := Aside0.mk (blk_below (blk_alloc BRw.out _) hb); have kr0 : w4.cell? ⟨w.heap.size, 0, none⟩ = some (.string ⟨#[]⟩) := (blk_cell BR4.out 0).trans rfl; have kr1 : w4.cell? ⟨w.heap.size, 1, none⟩ = some (.slice none 0 0) := (blk_cell BR4.out 1).trans rfl; have kr2 : w4.cell? ⟨w.heap.size, 2, none⟩ = some (.slice none 0 0) := (blk_cell BR4.out 2).trans rfl; have fr0 := blk_frozen BR4.out 0; have fr1 := blk_frozen BR4.out 1; have fr2 := blk_frozen BR4.out 2; clear hb))
          rw [hrn]
          exact link_bad BR4.out HB4.out 1 _ rfl rfl rfl
      case neg =>
        obtain rfl : k = l0.length := by omega
        rw [List.take_length] at HM
        have HBW := Aside0.mk (below_in HB0.out HB.out)
        have BRw := Aside0.mk (blk_below BR0.out HB.out)
        clear HB HB0 BR0
        go_wp2
        have HL0 := Aside0.mk (lk_new HBW.out)
        have BP0 := Aside0.mk (pb_new wr)
        have BR3 := Aside0.mk (blk_alloc (blk_alloc (blk_alloc BRw.out (.map #[] 0)) (.cells #[.int .i64 0, .int .i64 0, .slice none 0 0, .string ⟨#[]⟩, .slice none 0 0, .slice none 0 0, .map (some wr.heap.size), .int .i64 0] 59)) (.cells #[.pointer (some ⟨wr.heap.size + 1, 0, none⟩)] 53))
        clear BRw HBW
        generalize ((wr.alloc (.map #[] 0)).alloc (.cells #[.int .i64 0, .int .i64 0, .slice none 0 0, .string ⟨#[]⟩, .slice none 0 0, .slice none 0 0, .map (some wr.heap.size), .int .i64 0] 59)).alloc (.cells #[.pointer (some ⟨wr.heap.size + 1, 0, none⟩)] 53) = X at *
        generalize wr.heap.size = mb at *
        go_loopw [31] (fun v31 wr => ∃ (k : Nat) (x : LkS) (vc v1 v2 : Value), k ≤ l0.length ∧ v31 = .int .i64 k ∧ Aside0 (Lk w wr wr.heap.size (mb + 1) mb x vc v1 v2 x.syms) ∧ Aside0 (KeepQ X wr) ∧ Aside0 (Inv k x) ∧ Aside0 (layAll LkS.empty l0 = layAll x (l0.drop k))) (fun v31 _ => l0.length - (intOf v31).toNat)
        case atStart => exact ⟨0, LkS.empty, _, _, _, Nat.zero_le _, rfl, HL0, ⟨KeepQ.refl _⟩, ⟨inv_empty⟩, ⟨rfl⟩⟩
        case round =>
          clear HL0
          obtain ⟨k, x, vc, v1, v2, hk, rfl, HL, KQ, HI, HF⟩ := hrel
          have BP := Aside0.mk (KQ.out.2 _ _ _ _ BP0.out (by decide))
          have BR := Aside0.mk (KQ.out.2 _ _ _ _ BR3.out (by decide))
          have kp0 : wr.cell? ⟨mb + 1 + 1, 0, none⟩ = some (.pointer (some ⟨mb + 1, 0, none⟩)) := (blk_cell BP.out 0).trans rfl
          have ltp := blk_lt BP.out
          by_cases hlt : k < l0.length
          case pos =>
            obtain ⟨ad, A1, c1, A2, c2, A3, c3, rfl, hx0, hx1, hx2, hx3, l1, g1, l2, g2, l3, g3⟩ := at_T40 HR.out (k : Int) (by omega) (by omega)
            have MO := Aside0.mk (List.all_eq_true.1 HM.out _ (List.getElem_mem hlt))
            have FO := Aside0.mk (HF.out.trans (layAll_drop hlt x))
            rw [rd_SO hlt] at hx0 hx1 hx2 hx3 l1 g1 l2 g2 l3 g3
            simp only [Int.toNat_natCast] at hx0 hx1 hx2 hx3
            generalize l0[k] = o at *
            replace hx0 := pw_cell_below HL.out.below hx0
            replace hx1 := pw_cell_below HL.out.below hx1
            replace hx2 := pw_cell_below HL.out.below hx2
            replace hx3 := pw_cell_below HL.out.below hx3
            have hlk : (k : Int) < (l0.length : Int) := by omega
            have hk16 : k ≤ 16 := by omega
            have LC := Aside0.mk (lay_c (A3 := A3) (c2 := c2) (c3 := c3) (HL.out.alloc (.cells #[.string o.f0, .slice A1 o.f1.length c1, .slice A2 o.f2.length c2, .slice A3 o.f3.length c3] 40)) o g1 g2 (may_parts MO.out).2.2.2.2.1 (HI.out.small hk16) (may_parts MO.out).2.2.1 (may_parts MO.out).1 (may_parts MO.out).2.1 l1)
            clear g1 g2 g3 l1 l2 l3 HF
            cases hlo : layO x o with
            | none =>
              rw [hlo] at LC
              have hrn : res = linkE 5 := by rw [HRES.out]; exact link_dup h16 HM.out (by rw [FO.out, hlo]; rfl)
              go_wp2_with (first | (go_at_call 21; (with_reducible refine LC.out.mono ?_); rintro e w4 ⟨hb, hq, rfl⟩; have HB4 := Aside0.mk hb; have KQ4 := Aside0.mk (KQ.out.trans ((KeepQ.alloc _).trans hq)); have BR4 := Aside0.mk (KQ4.out.2 _ _ _ _ BR3.out (by decide)); have kr0 : w4.cell? ⟨w.heap.size, 0, none⟩ = some (.string ⟨#[]⟩) := (blk_cell BR4.out 0).trans rfl; have kr1 : w4.cell? ⟨w.heap.size, 1, none⟩ = some (.slice none 0 0) := (blk_cell BR4.out 1).trans rfl; have kr2 : w4.cell? ⟨w.heap.size, 2, none⟩ = some (.slice none 0 0) := (blk_cell BR4.out 2).trans rfl; have fr0 := blk_frozen BR4.out 0; have fr1 := blk_frozen BR4.out 1; have fr2 := blk_frozen BR4.out 2; clear hb hq))
              rw [hrn]
              exact link_bad BR4.out HB4.out 5 _ rfl rfl rfl
            | some y =>
              rw [hlo] at LC
              have IY := Aside0.mk (layO_inv HI.out MO.out hlo)
              have FY := Aside0.mk (show layAll LkS.empty l0 = layAll y (l0.drop (k + 1)) by rw [FO.out, hlo]; rfl)
              go_wp2_with (first | (go_at_call 21; (with_reducible refine LC.out.mono ?_); rintro e w4 ⟨hb, hq, rfl, vc', v1', v2', hl4⟩; have HL4 := Aside0.mk hl4; have KQ4 := Aside0.mk (KQ.out.trans ((KeepQ.alloc _).trans hq)); clear hb hq hl4))
              refine ⟨⟨k + 1, y, vc', v1', v2', by omega, by first | rfl | go_num, HL4, KQ4, IY, FY⟩, ?_⟩
              simp [intOf]
              omega
          case neg =>
            obtain rfl : k = l0.length := by omega
            rw [List.drop_length] at HF
            have hrl := Aside0.mk (show res = linkL l0 x by rw [HRES.out]; exact link_ok h16 HM.out HF.out)
            have FC := Aside0.mk (layAll_code l0 LkS.empty x HF.out)
            have I16 := Aside0.mk (show l0.length ≤ 16 by omega)
            have MP := Aside0.mk (fun o ho => may_parts (List.all_eq_true.1 HM.out o ho))
            have EF := Aside0.mk (each_fits (c0 := c0) HL.out kp0 HR.out (fun o ho r hr => ((MP.out o ho).2.2.2.2.2 r hr).1))
            clear HF HM hlm HRES
            by_cases hfz : fitsAll x.syms (l0.flatMap (·.f3)) = 0
            case neg =>
              have hrn : res = linkE (fitsAll x.syms (l0.flatMap (·.f3))) := by rw [hrl.out]; unfold linkL; rw [if_pos hfz]
              have hf2 : (fitsAll x.syms (l0.flatMap (·.f3)) == (0 : Int)) = false := by simp [hfz]
              generalize fitsAll x.syms (l0.flatMap (·.f3)) = fz at *
              go_wp2_with (first | (go_at_call 22; (with_reducible refine EF.out.mono ?_); rintro e w4 ⟨rfl, hb⟩; have HB4 := Aside0.mk (below_then HL.out.below HL.out.below.size hb); have BR4 := Aside0.mk (blk_below BR.out hb); have kr0 : w4.cell? ⟨w.heap.size, 0, none⟩ = some (.string ⟨#[]⟩) := (blk_cell BR4.out 0).trans rfl; have kr1 : w4.cell? ⟨w.heap.size, 1, none⟩ = some (.slice none 0 0) := (blk_cell BR4.out 1).trans rfl; have kr2 : w4.cell? ⟨w.heap.size, 2, none⟩ = some (.slice none 0 0) := (blk_cell BR4.out 2).trans rfl; have fr0 := blk_frozen BR4.out 0; have fr1 := blk_frozen BR4.out 1; have fr2 := blk_frozen BR4.out 2; clear hb))
              rw [hrn]
              exact link_bad BR4.out HB4.out fz _ rfl rfl rfl
            case pos =>
              rw [hfz] at EF
              obtain ⟨Ac, cc, rfl, hcc, -⟩ := Kd.R_reads HL.out.rc
              obtain ⟨Ad, cd, rfl, hcd, -⟩ := Kd.R_reads HL.out.r1
              obtain ⟨As, cs, rfl, hcs, -⟩ := Kd.R_reads HL.out.r2
              have hnd := Aside0.mk HI.out.2.2.1
              have T1 : True := trivial
              by_cases q1 : (65536 : Int) < (x.code.length : Int)
              case pos =>
                have hrn : res = linkE 8 := by rw [hrl.out]; unfold linkL; rw [if_neg (fun h => h hfz), if_pos (.inl (by omega))]
                go_wp2_with (first | (clear T1; go_at_call 22; (with_reducible refine EF.out.mono ?_); rintro e w5 ⟨rfl, hb⟩; have HL5 := Aside0.mk (HL.out.next hb); have BR5 := Aside0.mk (blk_below BR.out hb); have BP5 := Aside0.mk (blk_below BP.out hb); have kp5 : w5.cell? ⟨mb + 1 + 1, 0, none⟩ = some (.pointer (some ⟨mb + 1, 0, none⟩)) := (blk_cell BP5.out 0).trans rfl; have ka : w5.cell? ⟨mb + 1, 1, none⟩ = some (.int .i64 x.nd) := (blk_cell HL5.out.obj 1).trans rfl; have kc : w5.cell? ⟨mb + 1, 2, none⟩ = some (.slice Ac x.code.length cc) := (blk_cell HL5.out.obj 2).trans rfl; have ks : w5.cell? ⟨mb + 1, 5, none⟩ = some (.slice As x.syms.length cs) := (blk_cell HL5.out.obj 5).trans rfl; have kt : w5.cell? ⟨mb + 1, 7, none⟩ = some (.int .i64 x.th) := (blk_cell HL5.out.obj 7).trans rfl; have kr0 : w5.cell? ⟨w.heap.size, 0, none⟩ = some (.string ⟨#[]⟩) := (blk_cell BR5.out 0).trans rfl; have kr1 : w5.cell? ⟨w.heap.size, 1, none⟩ = some (.slice none 0 0) := (blk_cell BR5.out 1).trans rfl; have kr2 : w5.cell? ⟨w.heap.size, 2, none⟩ = some (.slice none 0 0) := (blk_cell BR5.out 2).trans rfl; have fr0 := blk_frozen BR5.out 0; have fr1 := blk_frozen BR5.out 1; have fr2 := blk_frozen BR5.out 2; clear hb kp0 ltp))
                rw [hrn]
                exact link_bad BR5.out HL5.out.below 8 _ rfl rfl rfl
              case neg =>
                by_cases q2 : 4096 < x.nd
                case pos =>
                  have hrn : res = linkE 8 := by rw [hrl.out]; unfold linkL; rw [if_neg (fun h => h hfz), if_pos (.inr (.inl (by have := hnd.out; omega)))]
                  go_wp2_with (first | (clear T1; go_at_call 22; (with_reducible refine EF.out.mono ?_); rintro e w5 ⟨rfl, hb⟩; have HL5 := Aside0.mk (HL.out.next hb); have BR5 := Aside0.mk (blk_below BR.out hb); have BP5 := Aside0.mk (blk_below BP.out hb); have kp5 : w5.cell? ⟨mb + 1 + 1, 0, none⟩ = some (.pointer (some ⟨mb + 1, 0, none⟩)) := (blk_cell BP5.out 0).trans rfl; have ka : w5.cell? ⟨mb + 1, 1, none⟩ = some (.int .i64 x.nd) := (blk_cell HL5.out.obj 1).trans rfl; have kc : w5.cell? ⟨mb + 1, 2, none⟩ = some (.slice Ac x.code.length cc) := (blk_cell HL5.out.obj 2).trans rfl; have ks : w5.cell? ⟨mb + 1, 5, none⟩ = some (.slice As x.syms.length cs) := (blk_cell HL5.out.obj 5).trans rfl; have kt : w5.cell? ⟨mb + 1, 7, none⟩ = some (.int .i64 x.th) := (blk_cell HL5.out.obj 7).trans rfl; have kr0 : w5.cell? ⟨w.heap.size, 0, none⟩ = some (.string ⟨#[]⟩) := (blk_cell BR5.out 0).trans rfl; have kr1 : w5.cell? ⟨w.heap.size, 1, none⟩ = some (.slice none 0 0) := (blk_cell BR5.out 1).trans rfl; have kr2 : w5.cell? ⟨w.heap.size, 2, none⟩ = some (.slice none 0 0) := (blk_cell BR5.out 2).trans rfl; have fr0 := blk_frozen BR5.out 0; have fr1 := blk_frozen BR5.out 1; have fr2 := blk_frozen BR5.out 2; clear hb kp0 ltp))
                  rw [hrn]
                  exact link_bad BR5.out HL5.out.below 8 _ rfl rfl rfl
                case neg =>
                  by_cases q3 : (1000 : Int) < (x.syms.length : Int)
                  case pos =>
                    have hrn : res = linkE 8 := by rw [hrl.out]; unfold linkL; rw [if_neg (fun h => h hfz), if_pos (.inr (.inr (.inl (by omega))))]
                    go_wp2_with (first | (clear T1; go_at_call 22; (with_reducible refine EF.out.mono ?_); rintro e w5 ⟨rfl, hb⟩; have HL5 := Aside0.mk (HL.out.next hb); have BR5 := Aside0.mk (blk_below BR.out hb); have BP5 := Aside0.mk (blk_below BP.out hb); have kp5 : w5.cell? ⟨mb + 1 + 1, 0, none⟩ = some (.pointer (some ⟨mb + 1, 0, none⟩)) := (blk_cell BP5.out 0).trans rfl; have ka : w5.cell? ⟨mb + 1, 1, none⟩ = some (.int .i64 x.nd) := (blk_cell HL5.out.obj 1).trans rfl; have kc : w5.cell? ⟨mb + 1, 2, none⟩ = some (.slice Ac x.code.length cc) := (blk_cell HL5.out.obj 2).trans rfl; have ks : w5.cell? ⟨mb + 1, 5, none⟩ = some (.slice As x.syms.length cs) := (blk_cell HL5.out.obj 5).trans rfl; have kt : w5.cell? ⟨mb + 1, 7, none⟩ = some (.int .i64 x.th) := (blk_cell HL5.out.obj 7).trans rfl; have kr0 : w5.cell? ⟨w.heap.size, 0, none⟩ = some (.string ⟨#[]⟩) := (blk_cell BR5.out 0).trans rfl; have kr1 : w5.cell? ⟨w.heap.size, 1, none⟩ = some (.slice none 0 0) := (blk_cell BR5.out 1).trans rfl; have kr2 : w5.cell? ⟨w.heap.size, 2, none⟩ = some (.slice none 0 0) := (blk_cell BR5.out 2).trans rfl; have fr0 := blk_frozen BR5.out 0; have fr1 := blk_frozen BR5.out 1; have fr2 := blk_frozen BR5.out 2; clear hb kp0 ltp))
                    rw [hrn]
                    exact link_bad BR5.out HL5.out.below 8 _ rfl rfl rfl
                  case neg =>
                    by_cases q4 : x.th < 1
                    case pos =>
                      have hrn : res = linkE 8 := by rw [hrl.out]; unfold linkL; rw [if_neg (fun h => h hfz), if_pos (.inr (.inr (.inr (.inl q4))))]
                      go_wp2_with (first | (clear T1; go_at_call 22; (with_reducible refine EF.out.mono ?_); rintro e w5 ⟨rfl, hb⟩; have HL5 := Aside0.mk (HL.out.next hb); have BR5 := Aside0.mk (blk_below BR.out hb); have BP5 := Aside0.mk (blk_below BP.out hb); have kp5 : w5.cell? ⟨mb + 1 + 1, 0, none⟩ = some (.pointer (some ⟨mb + 1, 0, none⟩)) := (blk_cell BP5.out 0).trans rfl; have ka : w5.cell? ⟨mb + 1, 1, none⟩ = some (.int .i64 x.nd) := (blk_cell HL5.out.obj 1).trans rfl; have kc : w5.cell? ⟨mb + 1, 2, none⟩ = some (.slice Ac x.code.length cc) := (blk_cell HL5.out.obj 2).trans rfl; have ks : w5.cell? ⟨mb + 1, 5, none⟩ = some (.slice As x.syms.length cs) := (blk_cell HL5.out.obj 5).trans rfl; have kt : w5.cell? ⟨mb + 1, 7, none⟩ = some (.int .i64 x.th) := (blk_cell HL5.out.obj 7).trans rfl; have kr0 : w5.cell? ⟨w.heap.size, 0, none⟩ = some (.string ⟨#[]⟩) := (blk_cell BR5.out 0).trans rfl; have kr1 : w5.cell? ⟨w.heap.size, 1, none⟩ = some (.slice none 0 0) := (blk_cell BR5.out 1).trans rfl; have kr2 : w5.cell? ⟨w.heap.size, 2, none⟩ = some (.slice none 0 0) := (blk_cell BR5.out 2).trans rfl; have fr0 := blk_frozen BR5.out 0; have fr1 := blk_frozen BR5.out 1; have fr2 := blk_frozen BR5.out 2; clear hb kp0 ltp))
                      rw [hrn]
                      exact link_bad BR5.out HL5.out.below 8 _ rfl rfl rfl
                    case neg =>
                      by_cases q5 : 4 < x.th
                      case pos =>
                        have hrn : res = linkE 8 := by rw [hrl.out]; unfold linkL; rw [if_neg (fun h => h hfz), if_pos (.inr (.inr (.inr (.inr q5))))]
                        go_wp2_with (first | (clear T1; go_at_call 22; (with_reducible refine EF.out.mono ?_); rintro e w5 ⟨rfl, hb⟩; have HL5 := Aside0.mk (HL.out.next hb); have BR5 := Aside0.mk (blk_below BR.out hb); have BP5 := Aside0.mk (blk_below BP.out hb); have kp5 : w5.cell? ⟨mb + 1 + 1, 0, none⟩ = some (.pointer (some ⟨mb + 1, 0, none⟩)) := (blk_cell BP5.out 0).trans rfl; have ka : w5.cell? ⟨mb + 1, 1, none⟩ = some (.int .i64 x.nd) := (blk_cell HL5.out.obj 1).trans rfl; have kc : w5.cell? ⟨mb + 1, 2, none⟩ = some (.slice Ac x.code.length cc) := (blk_cell HL5.out.obj 2).trans rfl; have ks : w5.cell? ⟨mb + 1, 5, none⟩ = some (.slice As x.syms.length cs) := (blk_cell HL5.out.obj 5).trans rfl; have kt : w5.cell? ⟨mb + 1, 7, none⟩ = some (.int .i64 x.th) := (blk_cell HL5.out.obj 7).trans rfl; have kr0 : w5.cell? ⟨w.heap.size, 0, none⟩ = some (.string ⟨#[]⟩) := (blk_cell BR5.out 0).trans rfl; have kr1 : w5.cell? ⟨w.heap.size, 1, none⟩ = some (.slice none 0 0) := (blk_cell BR5.out 1).trans rfl; have kr2 : w5.cell? ⟨w.heap.size, 2, none⟩ = some (.slice none 0 0) := (blk_cell BR5.out 2).trans rfl; have fr0 := blk_frozen BR5.out 0; have fr1 := blk_frozen BR5.out 1; have fr2 := blk_frozen BR5.out 2; clear hb kp0 ltp))
                        rw [hrn]
                        exact link_bad BR5.out HL5.out.below 8 _ rfl rfl rfl
                      case neg =>
                        have EB := Aside0.mk (fun (W5 : World) (H5 : Lk w W5 wr.heap.size (mb + 1) mb x (.slice Ac x.code.length cc) (.slice Ad x.data.length cd) (.slice As x.syms.length cs) x.syms) => each_fill (c0 := c0) H5 HR.out (fun o ho => (MP.out o ho).2.2.2.2.2) (HI.out.find I16.out) (by have := FC.out; simpa [LkS.empty] using this) (by omega))
                        have hrl2 := Aside0.mk (show res = match fillAll x.syms x.code (relsAt 0 l0) with | none => linkE 7 | some c => ((strOfNums c, x.data, x.syms), 0) by
                          rw [hrl.out]; unfold linkL; rw [if_neg (fun h => h hfz), if_neg (by have := hnd.out; omega)] <;> cases fillAll x.syms x.code (relsAt 0 l0) <;> rfl)
                        cases hfa : fillAll x.syms x.code (relsAt 0 l0) with
                        | none =>
                          have hrn : res = linkE 7 := by rw [hrl2.out, hfa]
                          rw [hfa] at EB
                          go_wp2_with (first
                            | (clear T1; go_at_call 22; (with_reducible refine EF.out.mono ?_); rintro e w5 ⟨rfl, hb⟩; have HL5 := Aside0.mk (HL.out.next hb); have BR5 := Aside0.mk (blk_below BR.out hb); have BP5 := Aside0.mk (blk_below BP.out hb); have kp5 : w5.cell? ⟨mb + 1 + 1, 0, none⟩ = some (.pointer (some ⟨mb + 1, 0, none⟩)) := (blk_cell BP5.out 0).trans rfl; have ka : w5.cell? ⟨mb + 1, 1, none⟩ = some (.int .i64 x.nd) := (blk_cell HL5.out.obj 1).trans rfl; have kc : w5.cell? ⟨mb + 1, 2, none⟩ = some (.slice Ac x.code.length cc) := (blk_cell HL5.out.obj 2).trans rfl; have ks : w5.cell? ⟨mb + 1, 5, none⟩ = some (.slice As x.syms.length cs) := (blk_cell HL5.out.obj 5).trans rfl; have kt : w5.cell? ⟨mb + 1, 7, none⟩ = some (.int .i64 x.th) := (blk_cell HL5.out.obj 7).trans rfl; have kr0 : w5.cell? ⟨w.heap.size, 0, none⟩ = some (.string ⟨#[]⟩) := (blk_cell BR5.out 0).trans rfl; have kr1 : w5.cell? ⟨w.heap.size, 1, none⟩ = some (.slice none 0 0) := (blk_cell BR5.out 1).trans rfl; have kr2 : w5.cell? ⟨w.heap.size, 2, none⟩ = some (.slice none 0 0) := (blk_cell BR5.out 2).trans rfl; have fr0 := blk_frozen BR5.out 0; have fr1 := blk_frozen BR5.out 1; have fr2 := blk_frozen BR5.out 2; clear hb kp0 ltp)
                            | (go_at_call 22; (with_reducible refine (EB.out _ HL5.out).mono ?_); rintro e w6 ⟨hb, hk, rfl⟩; have HB6 := Aside0.mk hb; have BR6 := Aside0.mk ((hk.2 _ (blk_lt BR5.out) (Kd.R_ne HL5.out.rc BR5.out (by decide))).trans BR5.out); have kr0 : w6.cell? ⟨w.heap.size, 0, none⟩ = some (.string ⟨#[]⟩) := (blk_cell BR6.out 0).trans rfl; have kr1 : w6.cell? ⟨w.heap.size, 1, none⟩ = some (.slice none 0 0) := (blk_cell BR6.out 1).trans rfl; have kr2 : w6.cell? ⟨w.heap.size, 2, none⟩ = some (.slice none 0 0) := (blk_cell BR6.out 2).trans rfl; have fr0 := blk_frozen BR6.out 0; have fr1 := blk_frozen BR6.out 1; have fr2 := blk_frozen BR6.out 2; clear hb hk))
                          rw [hrn]
                          exact link_bad BR6.out HB6.out 7 _ rfl rfl rfl
                        | some c =>
                          have hrn : res = ((strOfNums c, x.data, x.syms), 0) := by rw [hrl2.out, hfa]
                          rw [hfa] at EB
                          go_wp2_with (first
                            | (clear T1; go_at_call 22; (with_reducible refine EF.out.mono ?_); rintro e w5 ⟨rfl, hb⟩; have HL5 := Aside0.mk (HL.out.next hb); have BR5 := Aside0.mk (blk_below BR.out hb); have BP5 := Aside0.mk (blk_below BP.out hb); have kp5 : w5.cell? ⟨mb + 1 + 1, 0, none⟩ = some (.pointer (some ⟨mb + 1, 0, none⟩)) := (blk_cell BP5.out 0).trans rfl; have ka : w5.cell? ⟨mb + 1, 1, none⟩ = some (.int .i64 x.nd) := (blk_cell HL5.out.obj 1).trans rfl; have kc : w5.cell? ⟨mb + 1, 2, none⟩ = some (.slice Ac x.code.length cc) := (blk_cell HL5.out.obj 2).trans rfl; have ks : w5.cell? ⟨mb + 1, 5, none⟩ = some (.slice As x.syms.length cs) := (blk_cell HL5.out.obj 5).trans rfl; have kt : w5.cell? ⟨mb + 1, 7, none⟩ = some (.int .i64 x.th) := (blk_cell HL5.out.obj 7).trans rfl; have kr0 : w5.cell? ⟨w.heap.size, 0, none⟩ = some (.string ⟨#[]⟩) := (blk_cell BR5.out 0).trans rfl; have kr1 : w5.cell? ⟨w.heap.size, 1, none⟩ = some (.slice none 0 0) := (blk_cell BR5.out 1).trans rfl; have kr2 : w5.cell? ⟨w.heap.size, 2, none⟩ = some (.slice none 0 0) := (blk_cell BR5.out 2).trans rfl; have fr0 := blk_frozen BR5.out 0; have fr1 := blk_frozen BR5.out 1; have fr2 := blk_frozen BR5.out 2; clear hb kp0 ltp)
                            | (go_at_call 22; (with_reducible refine (EB.out _ HL5.out).mono ?_); rintro e w6 ⟨hb, hk, rfl, hl6⟩; have HL6 := Aside0.mk hl6; have BR6 := Aside0.mk ((hk.2 _ (blk_lt BR5.out) (Kd.R_ne HL5.out.rc BR5.out (by decide))).trans BR5.out); have BP6 := Aside0.mk ((hk.2 _ (blk_lt BP5.out) (Kd.R_ne HL5.out.rc BP5.out (by decide))).trans BP5.out); have kr0 : w6.cell? ⟨w.heap.size, 0, none⟩ = some (.string ⟨#[]⟩) := (blk_cell BR6.out 0).trans rfl; have kr1 : w6.cell? ⟨w.heap.size, 1, none⟩ = some (.slice none 0 0) := (blk_cell BR6.out 1).trans rfl; have kr2 : w6.cell? ⟨w.heap.size, 2, none⟩ = some (.slice none 0 0) := (blk_cell BR6.out 2).trans rfl; have fr0 := blk_frozen BR6.out 0; have fr1 := blk_frozen BR6.out 1; have fr2 := blk_frozen BR6.out 2; clear hb hk hl6 kp5 ka kc ks kt))
                          have SC := Aside0.mk (fun (W' : World) (h : Below w6.heap.size w6 W') => own_string (P := Try.prog) (src := 57) (dst := 9) Try.underlying57 Try.underlying5 Try.underlying9 (Kd.own_of_R (Kd.R_below HL6.out.rc h)))
                          have fz3 := blk_frozen HL6.out.obj 3
                          have kz3 : w6.cell? ⟨mb + 1, 3, none⟩ = some (.string ⟨#[]⟩) := (blk_cell HL6.out.obj 3).trans rfl
                          refine start_ (n := 10) (S := fun w' => w'.cell? ⟨mb + 1 + 1, 0, none⟩ = some (.pointer (some ⟨mb + 1, 0, none⟩)) ∧ w'.cell? ⟨mb + 1, 2, none⟩ = some (.slice Ac x.code.length cc) ∧ (convert 57 9 (.slice Ac x.code.length cc)).run Try.prog w' = .ok (.string (strOfNums c)) w') (ds := [9]) #[false, false, false, false, false, false, false, false, false, false] (by kernel_rfl) rfl rfl ⟨(blk_cell (blk_drew BP6.out) 0).trans rfl, (blk_cell (blk_drew HL6.out.obj) 2).trans rfl, SC.out _ (below_drew1 (Below.refl _ _))⟩ (fun hHeld => ?_)
                          refine take_ (i := 0) (N := some 94) (v := ?_) (a' := ?_) #[true, false, false, false, false, false, false, false, false, false] rfl rfl (by kernel_rfl) (fun _ _ _ h => h) (Or.inl ⟨by rfl, ?_⟩) hHeld ?_ ?_
                          rotate_left
                          · rintro w' ⟨s0, s1, s2⟩
                            go_simp
                            with_reducible rfl
                          rotate_left
                          · simp only [Act.put, List.setIfInBounds_toArray, List.set_cons_zero, List.set_cons_succ, i64_w, i32_w]
                            rfl
                          refine take_ (i := 1) (N := some 95) (v := ?_) (a' := ?_) #[true, true, false, false, false, false, false, false, false, false] rfl rfl (by kernel_rfl) (fun _ _ _ h => h) (Or.inl ⟨by rfl, ?_⟩) hHeld ?_ ?_
                          rotate_left
                          · rintro w' ⟨s0, s1, s2⟩
                            go_simp
                            with_reducible rfl
                          rotate_left
                          · simp only [Act.put, List.setIfInBounds_toArray, List.set_cons_zero, List.set_cons_succ, i64_w, i32_w]
                            rfl
                          refine pure_ (i := 2) (N := some 96) (v := ?_) (a' := ?_) #[true, true, true, false, false, false, false, false, false, false] rfl rfl (by kernel_rfl) (fun _ _ _ h => h) (Or.inl ⟨by rfl, ?_⟩) ?_ ?_
                          rotate_left
                          · intro w'
                            go_simp
                            with_reducible rfl
                          rotate_left
                          · simp only [Act.put, List.setIfInBounds_toArray, List.set_cons_zero, List.set_cons_succ, i64_w, i32_w]
                            rfl
                          refine pure_ (i := 3) (N := some 97) (v := ?_) (a' := ?_) #[true, true, true, true, false, false, false, false, false, false] rfl rfl (by kernel_rfl) (fun _ _ _ h => h) (Or.inl ⟨by rfl, ?_⟩) ?_ ?_
                          rotate_left
                          · intro w'
                            go_simp
                            with_reducible rfl
                          rotate_left
                          · simp only [Act.put, List.setIfInBounds_toArray, List.set_cons_zero, List.set_cons_succ, i64_w, i32_w]
                            rfl
                          refine take_ (i := 4) (N := some 98) (v := ?_) (a' := ?_) #[true, true, true, true, true, false, false, false, false, false] rfl rfl (by kernel_rfl) (fun _ _ _ h => h) (Or.inl ⟨by rfl, ?_⟩) hHeld ?_ ?_
                          rotate_left
                          · rintro w' ⟨s0, s1, s2⟩
                            go_simp
                            with_reducible rfl
                          rotate_left
                          · simp only [Act.put, List.setIfInBounds_toArray, List.set_cons_zero, List.set_cons_succ, i64_w, i32_w]
                            rfl
                          refine take_ (i := 5) (N := some 99) (v := ?_) (a' := ?_) #[true, true, true, true, true, true, false, false, false, false] rfl rfl (by kernel_rfl) (fun _ _ _ h => h) (Or.inl ⟨by rfl, ?_⟩) hHeld ?_ ?_
                          rotate_left
                          · rintro w' ⟨s0, s1, s2⟩
                            go_simp
                            with_reducible rfl
                          rotate_left
                          · simp only [Act.put, List.setIfInBounds_toArray, List.set_cons_zero, List.set_cons_succ, i64_w, i32_w]
                            rfl
                          refine pure_ (i := 6) (N := some 100) (v := ?_) (a' := ?_) #[true, true, true, true, true, true, true, false, false, false] rfl rfl (by kernel_rfl) (fun _ _ _ h => h) (Or.inl ⟨by rfl, ?_⟩) ?_ ?_
                          rotate_left
                          · intro w'
                            go_simp
                            with_reducible rfl
                          rotate_left
                          · simp only [Act.put, List.setIfInBounds_toArray, List.set_cons_zero, List.set_cons_succ, i64_w, i32_w]
                            rfl
                          refine pure_ (i := 7) (N := some 101) (v := ?_) (a' := ?_) #[true, true, true, true, true, true, true, true, false, false] rfl rfl (by kernel_rfl) (fun _ _ _ h => h) (Or.inl ⟨by rfl, ?_⟩) ?_ ?_
                          rotate_left
                          · intro w'
                            go_simp
                            with_reducible rfl
                          rotate_left
                          · simp only [Act.put, List.setIfInBounds_toArray, List.set_cons_zero, List.set_cons_succ, i64_w, i32_w]
                            rfl
                          refine pure_ (i := 8) (N := some 102) (v := ?_) (a' := ?_) #[true, true, true, true, true, true, true, true, true, false] rfl rfl (by kernel_rfl) (fun _ _ _ h => h) (Or.inl ⟨by rfl, ?_⟩) ?_ ?_
                          rotate_left
                          · intro w'
                            go_simp
                            with_reducible rfl
                          rotate_left
                          · simp only [Act.put, List.setIfInBounds_toArray, List.set_cons_zero, List.set_cons_succ, i64_w, i32_w]
                            rfl
                          refine last_ (i := 9) (N := none) #[true, true, true, true, true, true, true, true, true, true] rfl rfl (by kernel_rfl) (by decide) (fun K hK => ?_)
                          refine skip_ (w1 := ?_) (by rfl) rfl ?_ ?_
                          rotate_left
                          · go_simp
                            rfl
                          refine hK.out _ _ ?_
                          clear hK K
                          refine done_ (by kernel_rfl) ?_
                          have OB7 := Aside0.mk (blk_drew (blk_put HL6.out.obj 3 (.string (strOfNums c)) rfl))
                          have BP7 := Aside0.mk (blk_drew (blk_far BP6.out (p := ⟨mb + 1, 3, none⟩) (by simp) (.string (strOfNums c))))
                          have hrb : w.heap.size ≠ mb + 1 := blk_ne BR6.out HL6.out.obj (by decide)
                          have BR7 := Aside0.mk (blk_drew (blk_far BR6.out (p := ⟨mb + 1, 3, none⟩) hrb (.string (strOfNums c))))
                          have RD := Aside0.mk (Kd.R_below (Kd.R_set (R_all HL6.out.r1) HL6.out.obj (fun q hq => by rw [mem_one rfl hq]; decide) 3 (.string (strOfNums c))) (below_drew1 (Below.refl _ _)))
                          have RS := Aside0.mk (Kd.R_below (Kd.R_set (R_all HL6.out.r2) HL6.out.obj (fun q hq => by rw [mem_one rfl hq]; decide) 3 (.string (strOfNums c))) (below_drew1 (Below.refl _ _)))
                          have HB7 := Aside0.mk (below_drew1 (HL6.out.below.setCell (p := ⟨mb + 1, 3, none⟩) HL6.out.hh.1 (.string (strOfNums c))))
                          clear hHeld kr0 kr1 kr2 fr0 fr1 fr2 HL6 BR6 BP6 SC fz3 kz3
                          generalize (w6.setCell ⟨mb + 1, 3, none⟩ (.string (strOfNums c))).drew = w7 at *
                          have kp7 : w7.cell? ⟨mb + 1 + 1, 0, none⟩ = some (.pointer (some ⟨mb + 1, 0, none⟩)) := (blk_cell BP7.out 0).trans rfl
                          have kx3 : w7.cell? ⟨mb + 1, 3, none⟩ = some (.string (strOfNums c)) := (blk_cell OB7.out 3).trans rfl
                          have kx4 : w7.cell? ⟨mb + 1, 4, none⟩ = some (.slice Ad x.data.length cd) := (blk_cell OB7.out 4).trans rfl
                          have kx5 : w7.cell? ⟨mb + 1, 5, none⟩ = some (.slice As x.syms.length cs) := (blk_cell OB7.out 5).trans rfl
                          have kr0 : w7.cell? ⟨w.heap.size, 0, none⟩ = some (.string ⟨#[]⟩) := (blk_cell BR7.out 0).trans rfl
                          have kr1 : w7.cell? ⟨w.heap.size, 1, none⟩ = some (.slice none 0 0) := (blk_cell BR7.out 1).trans rfl
                          have kr2 : w7.cell? ⟨w.heap.size, 2, none⟩ = some (.slice none 0 0) := (blk_cell BR7.out 2).trans rfl
                          have fr0 := blk_frozen BR7.out 0
                          have fr1 := blk_frozen BR7.out 1
                          have fr2 := blk_frozen BR7.out 2
                          go_wp2
                          try rw [hrn]
                          have B1 := blk_put BR7.out 0 (.string (strOfNums c)) rfl
                          have B2 := blk_put B1 1 (.slice Ad x.data.length cd) rfl
                          have B3 := blk_put B2 2 (.slice As x.syms.length cs) rfl
                          refine bodyPost_ret (results_ct rfl _ _ w.heap.size 29 #[.string (strOfNums c), .slice Ad x.data.length cd, .slice As x.syms.length cs] (0, 0) _ rfl B3 Try.underlying29 rfl (by kernel_rfl)) rfl ?_
                          exact ⟨_, _, rfl, Kd.R_set (Kd.R_set (Kd.R_set RD.out BR7.out (fun q hq => by rw [mem_one rfl hq]; decide) 0 _) B1 (fun q hq => by rw [mem_one rfl hq]; decide) 1 _) B2 (fun q hq => by rw [mem_one rfl hq]; decide) 2 _,
                            Kd.R_set (Kd.R_set (Kd.R_set RS.out BR7.out (fun q hq => by rw [mem_one rfl hq]; decide) 0 _) B1 (fun q hq => by rw [mem_one rfl hq]; decide) 1 _) B2 (fun q hq => by rw [mem_one rfl hq]; decide) 2 _,
                            ((HB7.out.setCell (Nat.le_refl _) _).setCell (Nat.le_refl _) _).setCell (Nat.le_refl _) _⟩
def link_Link.f (l0 : List S40) : Option (ByteArray × List Int × List S36 × Int) := some ((linkF l0).1.1, (linkF l0).1.2.1, (linkF l0).1.2.2, (linkF l0).2)
theorem link_Link.calls (A0 : Option Addr) (c0 : Nat) (l0 : List S40) (r1 : ByteArray) (r2 : List Int) (r3 : List S36) (r4 : Int) (w : World) (hr0 : Kd.C k40 w A0 l0.length l0) (hc0 : l0.length ≤ c0) (h : link_Link.f l0 = some (r1, r2, r3, r4)) :
    Calls Try.prog 12 #[.slice A0 l0.length c0] w fun e w' => ∃ v1_ v2_ : Value, e = .returned (.tuple #[.agg #[.string r1, v1_, v2_], .int .i64 r4]) ∧ Kd.R (Kd.int .i64) 2 w' w.heap.size (fun _ => True) v1_ r2 ∧ Kd.R k36 36 w' w.heap.size (fun _ => True) v2_ r3 ∧ Below w.heap.size w w' := by
  unfold link_Link.f at h
  simp only [Option.some.injEq, Prod.mk.injEq] at h
  obtain ⟨rfl, rfl, rfl, rfl⟩ := h
  exact link_c hr0
end Go.Proofs.Yteaealmnmmcbpaa.M

/-
  Layer 7: plain facts of what a link gives (linkF). No condition.
-/
namespace Go.Proofs.Yteaealmnmmcbpaa.M
open Go.RowKit Go.Proofs.YteaealmnmmcbpaaW.PrintWords Go.Proofs.YteaealmnmmcbpaaW.PrintLast Go.Proofs.Yteaealmnmmcbpaa.Num Go.Proofs.Yteaealmnmmcbpaa.Seven Go.Proofs.Yteaealmnmmcbpaa.Obj
set_option linter.unusedVariables false
set_option linter.unusedSimpArgs false
theorem toList_inj {s t : ByteArray} (h : s.toList = t.toList) : s = t := by
  rw [ByteArray.toList_eq, ByteArray.toList_eq] at h
  cases s; cases t
  simp only at h
  rw [Array.toList_inj.1 h]
/-! ### Some bytes stored -/
/-! ### All places filled in -/
/-! ### Where relocations lie -/
theorem codeLen_append : ∀ (a b : List S40), codeLen (a ++ b) = codeLen a + codeLen b
  | [], b => by simp [codeLen]
  | o :: a, b => by rw [List.cons_append, codeLen, codeLen, codeLen_append a b, Nat.add_assoc]
/-! ### What is laid -/
def codeAll (l0 : List S40) : List Int := l0.flatMap fun o => bytesOf o.f0
def dataAll (l0 : List S40) : List Int := l0.flatMap (·.f1)
theorem codeAll_length : ∀ l0 : List S40, (codeAll l0).length = codeLen l0
  | [] => rfl
  | o :: os => by
    have := codeAll_length os
    unfold codeAll at this
    simp only [codeAll, List.flatMap_cons, List.length_append, bytesOf_length, codeLen, this]
theorem laySyms_data : ∀ (ss : List S36) (x y : LkS), laySyms x ss = some y → y.data = x.data
  | [], x, y, h => by obtain rfl := Option.some.inj h; rfl
  | s :: ss, x, y, h => by
    unfold laySyms at h
    split at h
    · cases h
    · exact (laySyms_data ss _ y h).trans rfl
theorem layAll_both : ∀ (os : List S40) (x y : LkS), layAll x os = some y → y.code = x.code ++ codeAll os ∧ y.data = x.data ++ dataAll os
  | [], x, y, h => by obtain rfl := Option.some.inj h; simp [codeAll, dataAll]
  | o :: os, x, y, h => by
    unfold layAll at h
    obtain ⟨z, hz, h⟩ := Option.bind_eq_some_iff.1 h
    obtain ⟨h1, h2⟩ := layAll_both os z y h
    unfold layO at hz
    obtain ⟨u, hu, rfl⟩ := Option.map_eq_some_iff.1 hz
    rw [h1, h2]
    dsimp only
    rw [laySyms_code _ _ _ hu, laySyms_data _ _ _ hu]
    simp [codeAll, dataAll]
theorem laySyms_nodup : ∀ (ss : List S36) (x y : LkS), laySyms x ss = some y → (x.syms.map (·.f0)).Nodup → (y.syms.map (·.f0)).Nodup
  | [], x, y, h, hn => by obtain rfl := Option.some.inj h; exact hn
  | s :: ss, x, y, h, hn => by
    unfold laySyms at h
    split at h
    · cases h
    · rename_i hany
      refine laySyms_nodup ss _ y h ?_
      dsimp only
      rw [List.map_append]
      refine List.nodup_append.2 ⟨hn, by simp, fun a ha b hb e => ?_⟩
      obtain ⟨t, ht, rfl⟩ := List.mem_map.1 ha
      simp only [List.map_cons, List.map_nil, List.mem_singleton] at hb
      subst hb
      apply hany
      rw [List.any_eq_true]
      exact ⟨t, ht, decide_eq_true e⟩
theorem layAll_nodup : ∀ (os : List S40) (x y : LkS), layAll x os = some y → (x.syms.map (·.f0)).Nodup → (y.syms.map (·.f0)).Nodup
  | [], x, y, h, hn => by obtain rfl := Option.some.inj h; exact hn
  | o :: os, x, y, h, hn => by
    unfold layAll at h
    obtain ⟨z, hz, h⟩ := Option.bind_eq_some_iff.1 h
    unfold layO at hz
    obtain ⟨u, hu, rfl⟩ := Option.map_eq_some_iff.1 hz
    have := laySyms_nodup _ _ _ hu hn
    exact layAll_nodup os _ y h this
theorem find_name {l : List S36} (hn : (l.map (·.f0)).Nodup) {m : Nat} (hm : m < l.length) {t : ByteArray} (ht : (l[m]).f0 = t) : (l.find? fun s => decide (s.f0 = t)) = some l[m] := by
  induction l generalizing m with
  | nil => simp at hm
  | cons s l ih =>
    rw [List.map_cons, List.nodup_cons] at hn
    cases m with
    | zero => rw [List.getElem_cons_zero] at ht ⊢; rw [List.find?_cons_of_pos (by exact decide_eq_true ht)]
    | succ m =>
      rw [List.getElem_cons_succ] at ht ⊢
      rw [List.find?_cons_of_neg (by
        intro e
        have e' : s.f0 = t := of_decide_eq_true e
        exact hn.1 (List.mem_map.2 ⟨_, List.getElem_mem (show m < l.length by simpa using hm), by rw [ht, e']⟩))]
      exact ih hn.2 (by simpa using hm) ht
theorem fitsAll_yes {l : List S36} : ∀ {rs : List S45}, fitsAll l rs = 0 → ∀ r ∈ rs, ∃ s, (l.find? fun s => decide (s.f0 = r.f2)) = some s ∧ (s.f1 = 2 ↔ r.f1 = 2)
  | [], _, r, hr => by cases hr
  | x :: rs, h, r, hr => by
    unfold fitsAll at h
    split at h
    · rename_i hx
      rcases List.mem_cons.1 hr with rfl | hr
      · unfold fitsF at hx
        split at hx
        · cases hx
        · rename_i s hs
          refine ⟨s, hs, ?_⟩
          split at hx
          · rename_i e
            exact decide_eq_decide.1 e
          · cases hx
      · exact fitsAll_yes h r hr
    · rename_i hx
      exact absurd h hx
/-- Objects that go together, what is laid of them, and the code with all places filled in. -/
structure Goes (l0 : List S40) (x : LkS) (c : List Int) : Prop where
  few : l0.length ≤ 16
  may : ∀ o ∈ l0, mayO o = true
  lay : layAll LkS.empty l0 = some x
  fits : fitsAll x.syms (l0.flatMap (·.f3)) = 0
  room : x.code.length ≤ 65536 ∧ x.data.length ≤ 4096 ∧ x.syms.length ≤ 1000 ∧ 1 ≤ x.th ∧ x.th ≤ 4
  fill : fillAll x.syms x.code (relsAt 0 l0) = some c
  is : linkF l0 = ((strOfNums c, x.data, x.syms), 0)
/-- A link gives an image, or the empty one and an error. -/
theorem link_cases (l0 : List S40) : (∃ x c, Goes l0 x c) ∨ ∃ e, e ≠ 0 ∧ linkF l0 = linkE e := by
  by_cases h1 : 16 < l0.length
  · exact .inr ⟨1, by decide, by unfold linkF; rw [if_pos h1]⟩
  by_cases h2 : l0.all mayO = true
  · cases h3 : layAll LkS.empty l0 with
    | none => exact .inr ⟨5, by decide, by unfold linkF; rw [if_neg h1, if_neg (by rw [h2]; simp), h3]⟩
    | some x =>
      have e : linkF l0 = linkL l0 x := by unfold linkF; rw [if_neg h1, if_neg (by rw [h2]; simp), h3]
      by_cases h4 : fitsAll x.syms (l0.flatMap (·.f3)) = 0
      · by_cases h5 : 65536 < x.code.length ∨ 4096 < x.data.length ∨ 1000 < x.syms.length ∨ x.th < 1 ∨ 4 < x.th
        · exact .inr ⟨8, by decide, by rw [e]; unfold linkL; rw [if_neg (by rw [h4]; simp), if_pos h5]⟩
        · cases h6 : fillAll x.syms x.code (relsAt 0 l0) with
          | none => exact .inr ⟨7, by decide, by rw [e]; unfold linkL; rw [if_neg (by rw [h4]; simp), if_neg h5, h6]⟩
          | some c => exact .inl ⟨x, c, by omega, fun o ho => List.all_eq_true.1 h2 o ho, h3, h4, by omega, h6, by rw [e]; unfold linkL; rw [if_neg (by rw [h4]; simp), if_neg h5, h6]⟩
      · exact .inr ⟨_, h4, by rw [e]; unfold linkL; rw [if_pos h4]⟩
  · exact .inr ⟨1, by decide, by unfold linkF; rw [if_neg h1, if_pos h2]⟩
namespace Goes
variable {l0 : List S40} {x : LkS} {c : List Int}
theorem code (G : Goes l0 x c) : x.code = codeAll l0 := by have := (layAll_both l0 _ _ G.lay).1; simpa [LkS.empty] using this
theorem data (G : Goes l0 x c) : x.data = dataAll l0 := by have := (layAll_both l0 _ _ G.lay).2; simpa [LkS.empty] using this
end Goes
end Go.Proofs.Yteaealmnmmcbpaa.M

/-
  Layer 7: live: the document's own examples: plain, and the walk: it says true. No condition.
-/
namespace Go.Proofs.Yteaealmnmmcbpaa.M
open Go.RowKit Go.Proofs.YteaealmnmmcbpaaW.PrintWords Go.Proofs.YteaealmnmmcbpaaW.PrintLast Go.Proofs.Yteaealmnmmcbpaa.Num Go.Proofs.Yteaealmnmmcbpaa.Seven Go.Proofs.Yteaealmnmmcbpaa.Obj
set_option linter.unusedVariables false
set_option linter.unusedSimpArgs false
def objA : S40 := ⟨⟨#[23, 0, 0, 0, 0, 32]⟩, [], [⟨⟨#[102]⟩, 3, 0⟩], [⟨1, 1, ⟨#[103]⟩, 0⟩]⟩
def objB : S40 := ⟨⟨#[24]⟩, [], [⟨⟨#[103]⟩, 1, 0⟩], []⟩
theorem link_ab : linkF [objA, objB] = ((⟨#[23, 1, 0, 0, 0, 32, 24]⟩, [], [⟨⟨#[102]⟩, 3, 0⟩, ⟨⟨#[103]⟩, 1, 6⟩]), 0) := by kernel_rfl
theorem link_a : linkF [objA] = linkE 6 := by kernel_rfl
theorem link_b : linkF [objB] = linkE 8 := by kernel_rfl
theorem link_aa : linkF [objA, objA] = linkE 5 := by kernel_rfl
theorem k_A {W : World} {b1 b2 : Nat} (h0 : W.cell? ⟨b1, 0, none⟩ = some (.string ⟨#[102]⟩)) (h1 : W.cell? ⟨b1, 1, none⟩ = some (.int .i64 3)) (h2 : W.cell? ⟨b1, 2, none⟩ = some (.int .i64 0))
    (g0 : W.cell? ⟨b2, 0, none⟩ = some (.int .i64 1)) (g1 : W.cell? ⟨b2, 1, none⟩ = some (.int .i64 1)) (g2 : W.cell? ⟨b2, 2, none⟩ = some (.string ⟨#[103]⟩)) (g3 : W.cell? ⟨b2, 3, none⟩ = some (.int .i64 0)) :
    (k40).K W objA [.string ⟨#[23, 0, 0, 0, 0, 32]⟩, .slice none 0 0, .slice (some ⟨b1, 0, none⟩) 1 1, .slice (some ⟨b2, 0, none⟩) 1 1] := by
  refine ⟨[_], [_, _, _], rfl, rfl, ⟨[_], [_, _], rfl, ⟨_, _, rfl, Nat.le_refl _, ⟨rfl, by decide, fun h => absurd h (by decide)⟩⟩, ⟨[_], [_], rfl, ⟨_, _, rfl, Nat.le_refl _, ⟨rfl, by decide, fun _ => ⟨_, rfl, fun j p hj => ?_⟩⟩⟩, ⟨_, _, rfl, Nat.le_refl _, ⟨rfl, by decide, fun _ => ⟨_, rfl, fun j p hj => ?_⟩⟩⟩⟩⟩⟩
  · match j, hj with
    | 0, hj =>
      obtain rfl : (⟨⟨#[102]⟩, 3, 0⟩ : S36) = p := by simpa [objA] using hj
      refine ⟨[.string ⟨#[102]⟩, .int .i64 3, .int .i64 0], rfl, ⟨_, _, rfl, rfl, ⟨_, _, rfl, rfl, rfl⟩⟩, fun i u hu => ?_⟩
      match i, hu with
      | 0, hu => obtain rfl := Option.some.inj hu; exact h0
      | 1, hu => obtain rfl := Option.some.inj hu; exact h1
      | 2, hu => obtain rfl := Option.some.inj hu; exact h2
  · match j, hj with
    | 0, hj =>
      obtain rfl : (⟨1, 1, ⟨#[103]⟩, 0⟩ : S45) = p := by simpa [objA] using hj
      refine ⟨[.int .i64 1, .int .i64 1, .string ⟨#[103]⟩, .int .i64 0], rfl, ⟨_, _, rfl, rfl, ⟨_, _, rfl, rfl, ⟨_, _, rfl, rfl, rfl⟩⟩⟩, fun i u hu => ?_⟩
      match i, hu with
      | 0, hu => obtain rfl := Option.some.inj hu; exact g0
      | 1, hu => obtain rfl := Option.some.inj hu; exact g1
      | 2, hu => obtain rfl := Option.some.inj hu; exact g2
      | 3, hu => obtain rfl := Option.some.inj hu; exact g3
theorem k_B {W : World} {b1 : Nat} (h0 : W.cell? ⟨b1, 0, none⟩ = some (.string ⟨#[103]⟩)) (h1 : W.cell? ⟨b1, 1, none⟩ = some (.int .i64 1)) (h2 : W.cell? ⟨b1, 2, none⟩ = some (.int .i64 0)) :
    (k40).K W objB [.string ⟨#[24]⟩, .slice none 0 0, .slice (some ⟨b1, 0, none⟩) 1 1, .slice none 0 0] := by
  refine ⟨[_], [_, _, _], rfl, rfl, ⟨[_], [_, _], rfl, ⟨_, _, rfl, Nat.le_refl _, ⟨rfl, by decide, fun h => absurd h (by decide)⟩⟩, ⟨[_], [_], rfl, ⟨_, _, rfl, Nat.le_refl _, ⟨rfl, by decide, fun _ => ⟨_, rfl, fun j p hj => ?_⟩⟩⟩, ⟨_, _, rfl, Nat.le_refl _, ⟨rfl, by decide, fun h => absurd h (by decide)⟩⟩⟩⟩⟩
  match j, hj with
  | 0, hj =>
    obtain rfl : (⟨⟨#[103]⟩, 1, 0⟩ : S36) = p := by simpa [objB] using hj
    refine ⟨[.string ⟨#[103]⟩, .int .i64 1, .int .i64 0], rfl, ⟨_, _, rfl, rfl, ⟨_, _, rfl, rfl, rfl⟩⟩, fun i u hu => ?_⟩
    match i, hu with
    | 0, hu => obtain rfl := Option.some.inj hu; exact h0
    | 1, hu => obtain rfl := Option.some.inj hu; exact h1
    | 2, hu => obtain rfl := Option.some.inj hu; exact h2
theorem row1 {W : World} {x : S40} {a0 a1 a2 a3 : Value} {g : Nat} (hg : W.heap.size = g) (h : (k40).K W x [a0, a1, a2, a3]) : Kd.C k40 (W.alloc (.cells #[a0, a1, a2, a3] 40)) (some ⟨g, 0, none⟩) 1 [x] := by
  subst hg
  refine ⟨rfl, by decide, fun _ => ⟨_, rfl, fun j p hj => ?_⟩⟩
  match j, hj with
  | 0, hj =>
    obtain rfl : x = p := by simpa using hj
    refine ⟨[a0, a1, a2, a3], rfl, (k40).K_below (below_alloc (Below.refl W.heap.size W) _) h, fun i u hu => ?_⟩
    match i, hu with
    | 0, hu => obtain rfl := Option.some.inj hu; exact (blk_cell (blk_new _ _) 0).trans rfl
    | 1, hu => obtain rfl := Option.some.inj hu; exact (blk_cell (blk_new _ _) 1).trans rfl
    | 2, hu => obtain rfl := Option.some.inj hu; exact (blk_cell (blk_new _ _) 2).trans rfl
    | 3, hu => obtain rfl := Option.some.inj hu; exact (blk_cell (blk_new _ _) 3).trans rfl
theorem row2 {W : World} {x y : S40} {a0 a1 a2 a3 b0 b1 b2 b3 : Value} {g : Nat} (hg : W.heap.size = g) (h : (k40).K W x [a0, a1, a2, a3]) (h' : (k40).K W y [b0, b1, b2, b3]) : Kd.C k40 (W.alloc (.cells #[a0, a1, a2, a3, b0, b1, b2, b3] 40)) (some ⟨g, 0, none⟩) 2 [x, y] := by
  subst hg
  refine ⟨rfl, by decide, fun _ => ⟨_, rfl, fun j p hj => ?_⟩⟩
  match j, hj with
  | 0, hj =>
    obtain rfl : x = p := by simpa using hj
    refine ⟨[a0, a1, a2, a3], rfl, (k40).K_below (below_alloc (Below.refl W.heap.size W) _) h, fun i u hu => ?_⟩
    match i, hu with
    | 0, hu => obtain rfl := Option.some.inj hu; exact (blk_cell (blk_new _ _) 0).trans rfl
    | 1, hu => obtain rfl := Option.some.inj hu; exact (blk_cell (blk_new _ _) 1).trans rfl
    | 2, hu => obtain rfl := Option.some.inj hu; exact (blk_cell (blk_new _ _) 2).trans rfl
    | 3, hu => obtain rfl := Option.some.inj hu; exact (blk_cell (blk_new _ _) 3).trans rfl
  | 1, hj =>
    obtain rfl : y = p := by simpa using hj
    refine ⟨[b0, b1, b2, b3], rfl, (k40).K_below (below_alloc (Below.refl W.heap.size W) _) h', fun i u hu => ?_⟩
    match i, hu with
    | 0, hu => obtain rfl := Option.some.inj hu; exact (blk_cell (blk_new _ _) 4).trans rfl
    | 1, hu => obtain rfl := Option.some.inj hu; exact (blk_cell (blk_new _ _) 5).trans rfl
    | 2, hu => obtain rfl := Option.some.inj hu; exact (blk_cell (blk_new _ _) 6).trans rfl
    | 3, hu => obtain rfl := Option.some.inj hu; exact (blk_cell (blk_new _ _) 7).trans rfl
end Go.Proofs.Yteaealmnmmcbpaa.M

/-
  Layer 7: live: the walk: it says true. No condition.
-/
namespace Go.Proofs.Yteaealmnmmcbpaa.M
open Go.RowKit Go.Proofs.YteaealmnmmcbpaaW.PrintWords Go.Proofs.YteaealmnmmcbpaaW.PrintLast Go.Proofs.Yteaealmnmmcbpaa.Num
set_option linter.unusedVariables false
set_option linter.unusedSimpArgs false
theorem ad6 {W : World} {ad : Addr} (h : W.cell? ⟨(ad.add (1 * 3)).block, (ad.add (1 * 3)).off + 2, none⟩ = some (.int .i64 6)) : W.cell? ⟨ad.block, ad.off + 3 + 2, none⟩ = some (.int .i64 6) := by
  have e : ad.add (1 * 3) = ⟨ad.block, ad.off + 3, none⟩ := by unfold Addr.add; rfl
  rw [e] at h
  exact h
theorem link_e {l0 : List S40} {k : Int} (h : linkF l0 = linkE k) {W : World} {A0 : Option Addr} {c0 : Nat} (hr : Kd.C k40 W A0 l0.length l0) : Calls Try.prog 12 #[.slice A0 l0.length c0] W fun e w' => ∃ A1 c1 A2 c2, e = .returned (.tuple #[.agg #[.string ⟨#[]⟩, .slice A1 0 c1, .slice A2 0 c2], .int .i64 k]) ∧ Below W.heap.size W w' := by
  refine (link_c (c0 := c0) hr).mono fun e w' hh => ?_
  rw [h] at hh
  obtain ⟨v1, v2, rfl, r1, r2, hb⟩ := hh
  obtain ⟨A1, c1, rfl, _, _⟩ := Kd.R_reads r1
  obtain ⟨A2, c2, rfl, _, _⟩ := Kd.R_reads r2
  exact ⟨A1, c1, A2, c2, rfl, hb⟩
theorem link_ab_c {W : World} {A0 : Option Addr} {c0 : Nat} (hr : Kd.C k40 W A0 2 [objA, objB]) : Calls Try.prog 12 #[.slice A0 2 c0] W fun e w' => ∃ A1 c1 ad c2, e = .returned (.tuple #[.agg #[.string ⟨#[23, 1, 0, 0, 0, 32, 24]⟩, .slice A1 0 c1, .slice (some ad) 2 c2], .int .i64 0]) ∧ w'.cell? ⟨(ad.add (1 * 3)).block, (ad.add (1 * 3)).off + 2, none⟩ = some (.int .i64 6) ∧ Below W.heap.size W w' := by
  refine (link_c (c0 := c0) (l0 := [objA, objB]) hr).mono fun e w' hh => ?_
  rw [link_ab] at hh
  obtain ⟨v1, v2, rfl, r1, r2, hb⟩ := hh
  obtain ⟨A1, c1, rfl, _, _⟩ := Kd.R_reads r1
  obtain ⟨A2, c2, rfl, _, hc⟩ := Kd.R_reads r2
  obtain ⟨ad, rfl, _, _, h2⟩ := at_T36 hc 1 (by omega) (by simp)
  exact ⟨A1, c1, ad, c2, rfl, h2, hb⟩
theorem link_a_c {W : World} {A0 : Option Addr} {c0 : Nat} (hr : Kd.C k40 W A0 1 [objA]) : Calls Try.prog 12 #[.slice A0 1 c0] W fun e w' => ∃ A1 c1 A2 c2, e = .returned (.tuple #[.agg #[.string ⟨#[]⟩, .slice A1 0 c1, .slice A2 0 c2], .int .i64 6]) ∧ Below W.heap.size W w' := link_e (l0 := [objA]) link_a hr
theorem link_b_c {W : World} {A0 : Option Addr} {c0 : Nat} (hr : Kd.C k40 W A0 1 [objB]) : Calls Try.prog 12 #[.slice A0 1 c0] W fun e w' => ∃ A1 c1 A2 c2, e = .returned (.tuple #[.agg #[.string ⟨#[]⟩, .slice A1 0 c1, .slice A2 0 c2], .int .i64 8]) ∧ Below W.heap.size W w' := link_e (l0 := [objB]) link_b hr
theorem link_aa_c {W : World} {A0 : Option Addr} {c0 : Nat} (hr : Kd.C k40 W A0 2 [objA, objA]) : Calls Try.prog 12 #[.slice A0 2 c0] W fun e w' => ∃ A1 c1 A2 c2, e = .returned (.tuple #[.agg #[.string ⟨#[]⟩, .slice A1 0 c1, .slice A2 0 c2], .int .i64 5]) ∧ Below W.heap.size W w' := link_e (l0 := [objA, objA]) link_aa hr
set_option maxHeartbeats 8000000 in
set_option maxRecDepth 100000 in
theorem live_c (w : World) : Calls Try.prog 10 #[] w fun e w' => e = .returned (.bool true) ∧ Below w.heap.size w w' := by
  have T1 : True := trivial
  have T2 : True := trivial
  have T3 : True := trivial
  have T4 : True := trivial
  go_enter Try.func10, Try.ntmps10
  go_wp2_with (first
    | (clear T1; go_at_call 12; (with_reducible refine (link_ab_c (row2 (W := ((((w.alloc (.cells #[.string ⟨#[102]⟩, .int .i64 3, .int .i64 0] 36)).alloc (.cells #[.int .i64 1, .int .i64 1, .string ⟨#[103]⟩, .int .i64 0] 45)).alloc (.cells #[.string ⟨#[23, 0, 0, 0, 0, 32]⟩, .slice none 0 0, .slice (some ⟨w.heap.size, 0, none⟩) 1 1, .slice (some ⟨w.heap.size + 1, 0, none⟩) 1 1] 40)).alloc (.cells #[.string ⟨#[103]⟩, .int .i64 1, .int .i64 0] 36)).alloc (.cells #[.string ⟨#[24]⟩, .slice none 0 0, .slice (some ⟨w.heap.size + 1 + 1 + 1, 0, none⟩) 1 1, .slice none 0 0] 40)) ?hg ?ka ?kb)).mono ?_); (case hg => simp); (case ka => exact k_A (by go_simp) (by go_simp) (by go_simp) (by go_simp) (by go_simp) (by go_simp) (by go_simp)); (case kb => exact k_B (by go_simp) (by go_simp) (by go_simp)); rintro e w1 ⟨Ai, ci, adi, cj, rfl, h6, hb⟩
       have HB1 := Aside0.mk (below_in (below_alloc (below_alloc (below_alloc (below_alloc (below_alloc (below_alloc (Below.refl w.heap.size w) _) _) _) _) _) _) hb)
       have KA1 := Aside0.mk ((k40).K_below hb ((k40).K_below (below_alloc (Below.refl (((((w.alloc (.cells #[.string ⟨#[102]⟩, .int .i64 3, .int .i64 0] 36)).alloc (.cells #[.int .i64 1, .int .i64 1, .string ⟨#[103]⟩, .int .i64 0] 45)).alloc (.cells #[.string ⟨#[23, 0, 0, 0, 0, 32]⟩, .slice none 0 0, .slice (some ⟨w.heap.size, 0, none⟩) 1 1, .slice (some ⟨w.heap.size + 1, 0, none⟩) 1 1] 40)).alloc (.cells #[.string ⟨#[103]⟩, .int .i64 1, .int .i64 0] 36)).alloc (.cells #[.string ⟨#[24]⟩, .slice none 0 0, .slice (some ⟨w.heap.size + 1 + 1 + 1, 0, none⟩) 1 1, .slice none 0 0] 40)).heap.size (((((w.alloc (.cells #[.string ⟨#[102]⟩, .int .i64 3, .int .i64 0] 36)).alloc (.cells #[.int .i64 1, .int .i64 1, .string ⟨#[103]⟩, .int .i64 0] 45)).alloc (.cells #[.string ⟨#[23, 0, 0, 0, 0, 32]⟩, .slice none 0 0, .slice (some ⟨w.heap.size, 0, none⟩) 1 1, .slice (some ⟨w.heap.size + 1, 0, none⟩) 1 1] 40)).alloc (.cells #[.string ⟨#[103]⟩, .int .i64 1, .int .i64 0] 36)).alloc (.cells #[.string ⟨#[24]⟩, .slice none 0 0, .slice (some ⟨w.heap.size + 1 + 1 + 1, 0, none⟩) 1 1, .slice none 0 0] 40))) (.cells #[.string ⟨#[23, 0, 0, 0, 0, 32]⟩, .slice none 0 0, .slice (some ⟨w.heap.size, 0, none⟩) 1 1, .slice (some ⟨w.heap.size + 1, 0, none⟩) 1 1, .string ⟨#[24]⟩, .slice none 0 0, .slice (some ⟨w.heap.size + 1 + 1 + 1, 0, none⟩) 1 1, .slice none 0 0] 40)) (show (k40).K (((((w.alloc (.cells #[.string ⟨#[102]⟩, .int .i64 3, .int .i64 0] 36)).alloc (.cells #[.int .i64 1, .int .i64 1, .string ⟨#[103]⟩, .int .i64 0] 45)).alloc (.cells #[.string ⟨#[23, 0, 0, 0, 0, 32]⟩, .slice none 0 0, .slice (some ⟨w.heap.size, 0, none⟩) 1 1, .slice (some ⟨w.heap.size + 1, 0, none⟩) 1 1] 40)).alloc (.cells #[.string ⟨#[103]⟩, .int .i64 1, .int .i64 0] 36)).alloc (.cells #[.string ⟨#[24]⟩, .slice none 0 0, .slice (some ⟨w.heap.size + 1 + 1 + 1, 0, none⟩) 1 1, .slice none 0 0] 40)) objA [.string ⟨#[23, 0, 0, 0, 0, 32]⟩, .slice none 0 0, .slice (some ⟨w.heap.size, 0, none⟩) 1 1, .slice (some ⟨w.heap.size + 1, 0, none⟩) 1 1] from (k_A (by go_simp) (by go_simp) (by go_simp) (by go_simp) (by go_simp) (by go_simp) (by go_simp)))))
       have KB1 := Aside0.mk ((k40).K_below hb ((k40).K_below (below_alloc (Below.refl (((((w.alloc (.cells #[.string ⟨#[102]⟩, .int .i64 3, .int .i64 0] 36)).alloc (.cells #[.int .i64 1, .int .i64 1, .string ⟨#[103]⟩, .int .i64 0] 45)).alloc (.cells #[.string ⟨#[23, 0, 0, 0, 0, 32]⟩, .slice none 0 0, .slice (some ⟨w.heap.size, 0, none⟩) 1 1, .slice (some ⟨w.heap.size + 1, 0, none⟩) 1 1] 40)).alloc (.cells #[.string ⟨#[103]⟩, .int .i64 1, .int .i64 0] 36)).alloc (.cells #[.string ⟨#[24]⟩, .slice none 0 0, .slice (some ⟨w.heap.size + 1 + 1 + 1, 0, none⟩) 1 1, .slice none 0 0] 40)).heap.size (((((w.alloc (.cells #[.string ⟨#[102]⟩, .int .i64 3, .int .i64 0] 36)).alloc (.cells #[.int .i64 1, .int .i64 1, .string ⟨#[103]⟩, .int .i64 0] 45)).alloc (.cells #[.string ⟨#[23, 0, 0, 0, 0, 32]⟩, .slice none 0 0, .slice (some ⟨w.heap.size, 0, none⟩) 1 1, .slice (some ⟨w.heap.size + 1, 0, none⟩) 1 1] 40)).alloc (.cells #[.string ⟨#[103]⟩, .int .i64 1, .int .i64 0] 36)).alloc (.cells #[.string ⟨#[24]⟩, .slice none 0 0, .slice (some ⟨w.heap.size + 1 + 1 + 1, 0, none⟩) 1 1, .slice none 0 0] 40))) (.cells #[.string ⟨#[23, 0, 0, 0, 0, 32]⟩, .slice none 0 0, .slice (some ⟨w.heap.size, 0, none⟩) 1 1, .slice (some ⟨w.heap.size + 1, 0, none⟩) 1 1, .string ⟨#[24]⟩, .slice none 0 0, .slice (some ⟨w.heap.size + 1 + 1 + 1, 0, none⟩) 1 1, .slice none 0 0] 40)) (show (k40).K (((((w.alloc (.cells #[.string ⟨#[102]⟩, .int .i64 3, .int .i64 0] 36)).alloc (.cells #[.int .i64 1, .int .i64 1, .string ⟨#[103]⟩, .int .i64 0] 45)).alloc (.cells #[.string ⟨#[23, 0, 0, 0, 0, 32]⟩, .slice none 0 0, .slice (some ⟨w.heap.size, 0, none⟩) 1 1, .slice (some ⟨w.heap.size + 1, 0, none⟩) 1 1] 40)).alloc (.cells #[.string ⟨#[103]⟩, .int .i64 1, .int .i64 0] 36)).alloc (.cells #[.string ⟨#[24]⟩, .slice none 0 0, .slice (some ⟨w.heap.size + 1 + 1 + 1, 0, none⟩) 1 1, .slice none 0 0] 40)) objB [.string ⟨#[24]⟩, .slice none 0 0, .slice (some ⟨w.heap.size + 1 + 1 + 1, 0, none⟩) 1 1, .slice none 0 0] from (k_B (by go_simp) (by go_simp) (by go_simp)))))
       have ka1_0 : w1.cell? ⟨w.heap.size + 1 + 1, 0, none⟩ = some (.string ⟨#[23, 0, 0, 0, 0, 32]⟩) := pw_cell_below hb (by go_simp)
       have ka1_1 : w1.cell? ⟨w.heap.size + 1 + 1, 1, none⟩ = some (.slice none 0 0) := pw_cell_below hb (by go_simp)
       have ka1_2 : w1.cell? ⟨w.heap.size + 1 + 1, 2, none⟩ = some (.slice (some ⟨w.heap.size, 0, none⟩) 1 1) := pw_cell_below hb (by go_simp)
       have ka1_3 : w1.cell? ⟨w.heap.size + 1 + 1, 3, none⟩ = some (.slice (some ⟨w.heap.size + 1, 0, none⟩) 1 1) := pw_cell_below hb (by go_simp)
       have kb1_0 : w1.cell? ⟨w.heap.size + 1 + 1 + 1 + 1, 0, none⟩ = some (.string ⟨#[24]⟩) := pw_cell_below hb (by go_simp)
       have kb1_1 : w1.cell? ⟨w.heap.size + 1 + 1 + 1 + 1, 1, none⟩ = some (.slice none 0 0) := pw_cell_below hb (by go_simp)
       have kb1_2 : w1.cell? ⟨w.heap.size + 1 + 1 + 1 + 1, 2, none⟩ = some (.slice (some ⟨w.heap.size + 1 + 1 + 1, 0, none⟩) 1 1) := pw_cell_below hb (by go_simp)
       have kb1_3 : w1.cell? ⟨w.heap.size + 1 + 1 + 1 + 1, 3, none⟩ = some (.slice none 0 0) := pw_cell_below hb (by go_simp)
       have lta := World.block_lt_of_cell? w1 _ ka1_0
       have ltb := World.block_lt_of_cell? w1 _ kb1_0
       have IM1 := Aside0.mk h6
       have lti := World.block_lt_of_cell? w1 _ h6
       clear hb h6)
    | (clear T2; go_at_call 12; (with_reducible refine (link_a_c (row1 ?hg ((k40).K_below (below_alloc (Below.refl w1.heap.size w1) (.cells #[.string ⟨#[23, 1, 0, 0, 0, 32, 24]⟩, .slice Ai 0 ci, .slice (some adi) 2 cj] 29)) KA1.out))).mono ?_); (case hg => simp); rintro e w2 ⟨Aa2, ca2, Ab2, cb2, rfl, hb⟩
       have HB2 := Aside0.mk (below_in (below_alloc (below_alloc HB1.out _) _) hb)
       have KA2 := Aside0.mk ((k40).K_below hb ((k40).K_below (below_alloc (Below.refl (w1.alloc (.cells #[.string ⟨#[23, 1, 0, 0, 0, 32, 24]⟩, .slice Ai 0 ci, .slice (some adi) 2 cj] 29)).heap.size (w1.alloc (.cells #[.string ⟨#[23, 1, 0, 0, 0, 32, 24]⟩, .slice Ai 0 ci, .slice (some adi) 2 cj] 29))) _) ((k40).K_below (below_alloc (Below.refl w1.heap.size w1) (.cells #[.string ⟨#[23, 1, 0, 0, 0, 32, 24]⟩, .slice Ai 0 ci, .slice (some adi) 2 cj] 29)) KA1.out)))
       have KB2 := Aside0.mk ((k40).K_below hb ((k40).K_below (below_alloc (Below.refl (w1.alloc (.cells #[.string ⟨#[23, 1, 0, 0, 0, 32, 24]⟩, .slice Ai 0 ci, .slice (some adi) 2 cj] 29)).heap.size (w1.alloc (.cells #[.string ⟨#[23, 1, 0, 0, 0, 32, 24]⟩, .slice Ai 0 ci, .slice (some adi) 2 cj] 29))) _) ((k40).K_below (below_alloc (Below.refl w1.heap.size w1) (.cells #[.string ⟨#[23, 1, 0, 0, 0, 32, 24]⟩, .slice Ai 0 ci, .slice (some adi) 2 cj] 29)) KB1.out)))
       have ka2_0 : w2.cell? ⟨w.heap.size + 1 + 1, 0, none⟩ = some (.string ⟨#[23, 0, 0, 0, 0, 32]⟩) := pw_cell_below hb (pw_cell_below (below_alloc (below_alloc (Below.refl w1.heap.size w1) _) _) ka1_0)
       have ka2_1 : w2.cell? ⟨w.heap.size + 1 + 1, 1, none⟩ = some (.slice none 0 0) := pw_cell_below hb (pw_cell_below (below_alloc (below_alloc (Below.refl w1.heap.size w1) _) _) ka1_1)
       have ka2_2 : w2.cell? ⟨w.heap.size + 1 + 1, 2, none⟩ = some (.slice (some ⟨w.heap.size, 0, none⟩) 1 1) := pw_cell_below hb (pw_cell_below (below_alloc (below_alloc (Below.refl w1.heap.size w1) _) _) ka1_2)
       have ka2_3 : w2.cell? ⟨w.heap.size + 1 + 1, 3, none⟩ = some (.slice (some ⟨w.heap.size + 1, 0, none⟩) 1 1) := pw_cell_below hb (pw_cell_below (below_alloc (below_alloc (Below.refl w1.heap.size w1) _) _) ka1_3)
       have kb2_0 : w2.cell? ⟨w.heap.size + 1 + 1 + 1 + 1, 0, none⟩ = some (.string ⟨#[24]⟩) := pw_cell_below hb (pw_cell_below (below_alloc (below_alloc (Below.refl w1.heap.size w1) _) _) kb1_0)
       have kb2_1 : w2.cell? ⟨w.heap.size + 1 + 1 + 1 + 1, 1, none⟩ = some (.slice none 0 0) := pw_cell_below hb (pw_cell_below (below_alloc (below_alloc (Below.refl w1.heap.size w1) _) _) kb1_1)
       have kb2_2 : w2.cell? ⟨w.heap.size + 1 + 1 + 1 + 1, 2, none⟩ = some (.slice (some ⟨w.heap.size + 1 + 1 + 1, 0, none⟩) 1 1) := pw_cell_below hb (pw_cell_below (below_alloc (below_alloc (Below.refl w1.heap.size w1) _) _) kb1_2)
       have kb2_3 : w2.cell? ⟨w.heap.size + 1 + 1 + 1 + 1, 3, none⟩ = some (.slice none 0 0) := pw_cell_below hb (pw_cell_below (below_alloc (below_alloc (Below.refl w1.heap.size w1) _) _) kb1_3)
       have ki2_0 : w2.cell? ⟨w1.heap.size, 0, none⟩ = some (.string ⟨#[23, 1, 0, 0, 0, 32, 24]⟩) := (blk_cell (blk_below (blk_alloc (blk_new w1 _) _) hb) 0).trans rfl
       have ki2_2 : w2.cell? ⟨w1.heap.size, 2, none⟩ = some (.slice (some adi) 2 cj) := (blk_cell (blk_below (blk_alloc (blk_new w1 _) _) hb) 2).trans rfl
       have IM2 := Aside0.mk (pw_cell_below hb (pw_cell_below (below_alloc (below_alloc (Below.refl w1.heap.size w1) (.cells #[.string ⟨#[23, 1, 0, 0, 0, 32, 24]⟩, .slice Ai 0 ci, .slice (some adi) 2 cj] 29)) _) IM1.out))
       have lta := World.block_lt_of_cell? w2 _ ka2_0
       have ltb := World.block_lt_of_cell? w2 _ kb2_0
       have lti := World.block_lt_of_cell? w2 _ ki2_0
       clear hb ka1_0 ka1_1 ka1_2 ka1_3 kb1_0 kb1_1 kb1_2 kb1_3)
    | (clear T3; go_at_call 12; (with_reducible refine (link_b_c (row1 ?hg ((k40).K_below (below_alloc (Below.refl w2.heap.size w2) (.cells #[.string ⟨#[]⟩, .slice Aa2 0 ca2, .slice Ab2 0 cb2] 29)) KB2.out))).mono ?_); (case hg => simp); rintro e w3 ⟨Aa3, ca3, Ab3, cb3, rfl, hb⟩
       have HB3 := Aside0.mk (below_in (below_alloc (below_alloc HB2.out _) _) hb)
       have KA3 := Aside0.mk ((k40).K_below hb ((k40).K_below (below_alloc (Below.refl (w2.alloc (.cells #[.string ⟨#[]⟩, .slice Aa2 0 ca2, .slice Ab2 0 cb2] 29)).heap.size (w2.alloc (.cells #[.string ⟨#[]⟩, .slice Aa2 0 ca2, .slice Ab2 0 cb2] 29))) _) ((k40).K_below (below_alloc (Below.refl w2.heap.size w2) (.cells #[.string ⟨#[]⟩, .slice Aa2 0 ca2, .slice Ab2 0 cb2] 29)) KA2.out)))
       have KB3 := Aside0.mk ((k40).K_below hb ((k40).K_below (below_alloc (Below.refl (w2.alloc (.cells #[.string ⟨#[]⟩, .slice Aa2 0 ca2, .slice Ab2 0 cb2] 29)).heap.size (w2.alloc (.cells #[.string ⟨#[]⟩, .slice Aa2 0 ca2, .slice Ab2 0 cb2] 29))) _) ((k40).K_below (below_alloc (Below.refl w2.heap.size w2) (.cells #[.string ⟨#[]⟩, .slice Aa2 0 ca2, .slice Ab2 0 cb2] 29)) KB2.out)))
       have ka3_0 : w3.cell? ⟨w.heap.size + 1 + 1, 0, none⟩ = some (.string ⟨#[23, 0, 0, 0, 0, 32]⟩) := pw_cell_below hb (pw_cell_below (below_alloc (below_alloc (Below.refl w2.heap.size w2) _) _) ka2_0)
       have ka3_1 : w3.cell? ⟨w.heap.size + 1 + 1, 1, none⟩ = some (.slice none 0 0) := pw_cell_below hb (pw_cell_below (below_alloc (below_alloc (Below.refl w2.heap.size w2) _) _) ka2_1)
       have ka3_2 : w3.cell? ⟨w.heap.size + 1 + 1, 2, none⟩ = some (.slice (some ⟨w.heap.size, 0, none⟩) 1 1) := pw_cell_below hb (pw_cell_below (below_alloc (below_alloc (Below.refl w2.heap.size w2) _) _) ka2_2)
       have ka3_3 : w3.cell? ⟨w.heap.size + 1 + 1, 3, none⟩ = some (.slice (some ⟨w.heap.size + 1, 0, none⟩) 1 1) := pw_cell_below hb (pw_cell_below (below_alloc (below_alloc (Below.refl w2.heap.size w2) _) _) ka2_3)
       have kb3_0 : w3.cell? ⟨w.heap.size + 1 + 1 + 1 + 1, 0, none⟩ = some (.string ⟨#[24]⟩) := pw_cell_below hb (pw_cell_below (below_alloc (below_alloc (Below.refl w2.heap.size w2) _) _) kb2_0)
       have kb3_1 : w3.cell? ⟨w.heap.size + 1 + 1 + 1 + 1, 1, none⟩ = some (.slice none 0 0) := pw_cell_below hb (pw_cell_below (below_alloc (below_alloc (Below.refl w2.heap.size w2) _) _) kb2_1)
       have kb3_2 : w3.cell? ⟨w.heap.size + 1 + 1 + 1 + 1, 2, none⟩ = some (.slice (some ⟨w.heap.size + 1 + 1 + 1, 0, none⟩) 1 1) := pw_cell_below hb (pw_cell_below (below_alloc (below_alloc (Below.refl w2.heap.size w2) _) _) kb2_2)
       have kb3_3 : w3.cell? ⟨w.heap.size + 1 + 1 + 1 + 1, 3, none⟩ = some (.slice none 0 0) := pw_cell_below hb (pw_cell_below (below_alloc (below_alloc (Below.refl w2.heap.size w2) _) _) kb2_3)
       have ki3_0 : w3.cell? ⟨w1.heap.size, 0, none⟩ = some (.string ⟨#[23, 1, 0, 0, 0, 32, 24]⟩) := pw_cell_below hb (pw_cell_below (below_alloc (below_alloc (Below.refl w2.heap.size w2) _) _) ki2_0)
       have ki3_2 : w3.cell? ⟨w1.heap.size, 2, none⟩ = some (.slice (some adi) 2 cj) := pw_cell_below hb (pw_cell_below (below_alloc (below_alloc (Below.refl w2.heap.size w2) _) _) ki2_2)
       have IM3 := Aside0.mk (pw_cell_below hb (pw_cell_below (below_alloc (below_alloc (Below.refl w2.heap.size w2) (.cells #[.string ⟨#[]⟩, .slice Aa2 0 ca2, .slice Ab2 0 cb2] 29)) _) IM2.out))
       have lta := World.block_lt_of_cell? w3 _ ka3_0
       have ltb := World.block_lt_of_cell? w3 _ kb3_0
       have lti := World.block_lt_of_cell? w3 _ ki3_0
       clear hb ka2_0 ka2_1 ka2_2 ka2_3 kb2_0 kb2_1 kb2_2 kb2_3 ki2_0 ki2_2)
    | (clear T4; go_at_call 12; (with_reducible refine (link_aa_c (row2 ?hg ((k40).K_below (below_alloc (Below.refl w3.heap.size w3) (.cells #[.string ⟨#[]⟩, .slice Aa3 0 ca3, .slice Ab3 0 cb3] 29)) KA3.out) ((k40).K_below (below_alloc (Below.refl w3.heap.size w3) (.cells #[.string ⟨#[]⟩, .slice Aa3 0 ca3, .slice Ab3 0 cb3] 29)) KA3.out))).mono ?_); (case hg => simp); rintro e w4 ⟨Aa4, ca4, Ab4, cb4, rfl, hb⟩
       have HB4 := Aside0.mk (below_in (below_alloc (below_alloc HB3.out _) _) hb)
       have KA4 := Aside0.mk ((k40).K_below hb ((k40).K_below (below_alloc (Below.refl (w3.alloc (.cells #[.string ⟨#[]⟩, .slice Aa3 0 ca3, .slice Ab3 0 cb3] 29)).heap.size (w3.alloc (.cells #[.string ⟨#[]⟩, .slice Aa3 0 ca3, .slice Ab3 0 cb3] 29))) _) ((k40).K_below (below_alloc (Below.refl w3.heap.size w3) (.cells #[.string ⟨#[]⟩, .slice Aa3 0 ca3, .slice Ab3 0 cb3] 29)) KA3.out)))
       have KB4 := Aside0.mk ((k40).K_below hb ((k40).K_below (below_alloc (Below.refl (w3.alloc (.cells #[.string ⟨#[]⟩, .slice Aa3 0 ca3, .slice Ab3 0 cb3] 29)).heap.size (w3.alloc (.cells #[.string ⟨#[]⟩, .slice Aa3 0 ca3, .slice Ab3 0 cb3] 29))) _) ((k40).K_below (below_alloc (Below.refl w3.heap.size w3) (.cells #[.string ⟨#[]⟩, .slice Aa3 0 ca3, .slice Ab3 0 cb3] 29)) KB3.out)))
       have ka4_0 : w4.cell? ⟨w.heap.size + 1 + 1, 0, none⟩ = some (.string ⟨#[23, 0, 0, 0, 0, 32]⟩) := pw_cell_below hb (pw_cell_below (below_alloc (below_alloc (Below.refl w3.heap.size w3) _) _) ka3_0)
       have ka4_1 : w4.cell? ⟨w.heap.size + 1 + 1, 1, none⟩ = some (.slice none 0 0) := pw_cell_below hb (pw_cell_below (below_alloc (below_alloc (Below.refl w3.heap.size w3) _) _) ka3_1)
       have ka4_2 : w4.cell? ⟨w.heap.size + 1 + 1, 2, none⟩ = some (.slice (some ⟨w.heap.size, 0, none⟩) 1 1) := pw_cell_below hb (pw_cell_below (below_alloc (below_alloc (Below.refl w3.heap.size w3) _) _) ka3_2)
       have ka4_3 : w4.cell? ⟨w.heap.size + 1 + 1, 3, none⟩ = some (.slice (some ⟨w.heap.size + 1, 0, none⟩) 1 1) := pw_cell_below hb (pw_cell_below (below_alloc (below_alloc (Below.refl w3.heap.size w3) _) _) ka3_3)
       have kb4_0 : w4.cell? ⟨w.heap.size + 1 + 1 + 1 + 1, 0, none⟩ = some (.string ⟨#[24]⟩) := pw_cell_below hb (pw_cell_below (below_alloc (below_alloc (Below.refl w3.heap.size w3) _) _) kb3_0)
       have kb4_1 : w4.cell? ⟨w.heap.size + 1 + 1 + 1 + 1, 1, none⟩ = some (.slice none 0 0) := pw_cell_below hb (pw_cell_below (below_alloc (below_alloc (Below.refl w3.heap.size w3) _) _) kb3_1)
       have kb4_2 : w4.cell? ⟨w.heap.size + 1 + 1 + 1 + 1, 2, none⟩ = some (.slice (some ⟨w.heap.size + 1 + 1 + 1, 0, none⟩) 1 1) := pw_cell_below hb (pw_cell_below (below_alloc (below_alloc (Below.refl w3.heap.size w3) _) _) kb3_2)
       have kb4_3 : w4.cell? ⟨w.heap.size + 1 + 1 + 1 + 1, 3, none⟩ = some (.slice none 0 0) := pw_cell_below hb (pw_cell_below (below_alloc (below_alloc (Below.refl w3.heap.size w3) _) _) kb3_3)
       have ki4_0 : w4.cell? ⟨w1.heap.size, 0, none⟩ = some (.string ⟨#[23, 1, 0, 0, 0, 32, 24]⟩) := pw_cell_below hb (pw_cell_below (below_alloc (below_alloc (Below.refl w3.heap.size w3) _) _) ki3_0)
       have ki4_2 : w4.cell? ⟨w1.heap.size, 2, none⟩ = some (.slice (some adi) 2 cj) := pw_cell_below hb (pw_cell_below (below_alloc (below_alloc (Below.refl w3.heap.size w3) _) _) ki3_2)
       have IM4 := Aside0.mk (pw_cell_below hb (pw_cell_below (below_alloc (below_alloc (Below.refl w3.heap.size w3) (.cells #[.string ⟨#[]⟩, .slice Aa3 0 ca3, .slice Ab3 0 cb3] 29)) _) IM3.out))
       have lta := World.block_lt_of_cell? w4 _ ka4_0
       have ltb := World.block_lt_of_cell? w4 _ kb4_0
       have lti := World.block_lt_of_cell? w4 _ ki4_0
       clear hb ka3_0 ka3_1 ka3_2 ka3_3 kb3_0 kb3_1 kb3_2 kb3_3 ki3_0 ki3_2
       have k6 : w4.cell? ⟨adi.block, adi.off + 3 + 2, none⟩ = some (.int .i64 6) := ad6 IM4.out
       have lt6 : adi.block < w4.heap.size := World.block_lt_of_cell? w4 ⟨adi.block, adi.off + 3 + 2, none⟩ k6))
  go_ret
  exact ⟨rfl, below_alloc HB4.out _⟩
def cotterlaw07_live.f : Option Bool := some true
theorem cotterlaw07_live.calls (r : Bool) (w : World) (h : cotterlaw07_live.f = some r) : Calls Try.prog 10 #[] w fun e w' => e = .returned (.bool r) ∧ Below w.heap.size w w' := by
  obtain rfl := Option.some.inj h
  exact live_c w
end Go.Proofs.Yteaealmnmmcbpaa.M

-- Written by a program of this session (wip/ownprint.py) over the translation. Lean checks it.
namespace Go.Proofs.Yteaealmnmmcbpaa.M
open Go.RowKit Go.Proofs.YteaealmnmmcbpaaW.PrintWords Go.Proofs.YteaealmnmmcbpaaW.PrintLast
set_option linter.unusedVariables false
set_option linter.unusedSimpArgs false

/-! ### cotterlaw07_small: function 9 -/
def cotterlaw07_small.l0 : Nat → List (S40) → Int → Int → Option (Bool)
  | 0, _, _, _ => none
  | k + 1, x0, x3, x4 => if x4 < (x0.length : Int) then (if 0 ≤ x4 then (if (wrap64 ((wrap64 (x3 + (((rd_T40 x0 x4).f2).length : Int))) + (((rd_T40 x0 x4).f3).length : Int))) > 300 then (some false) else (cotterlaw07_small.l0 k x0 (wrap64 ((wrap64 (x3 + (((rd_T40 x0 x4).f2).length : Int))) + (((rd_T40 x0 x4).f3).length : Int))) (wrap64 (x4 + 1)))) else (none)) else (some true)
def cotterlaw07_small.f (k : Nat) (l0 : List (S40)) : Option (Bool) := if (l0.length : Int) > 20 then (some false) else (cotterlaw07_small.l0 k l0 0 0)
set_option maxHeartbeats 8000000 in
set_option maxRecDepth 100000 in
theorem cotterlaw07_small.calls (k : Nat) (A0 : Option Addr) (c0 : Nat) (l0 : List (S40)) (r : Bool) (w : World) (hr0 : Kd.C k40 w A0 l0.length l0) (hc0 : l0.length ≤ c0) (h : cotterlaw07_small.f k l0 = some r) :
    Calls Try.prog 9 #[.slice A0 l0.length c0] w fun e w' => e = .returned (.bool r) ∧ Drawn0 w w' := by
  have HR0 := Aside0.mk hr0
  have HC0 := Aside0.mk hc0
  clear hr0 hc0
  have H : (if (l0.length : Int) > 20 then (some false) else (cotterlaw07_small.l0 k l0 0 0)) = some r := h
  clear h
  by_cases c2 : (l0.length : Int) > 20
  · rw [if_pos c2] at H
    have c2b0 : decide (20 < (l0.length : Int)) = true := decide_eq_true c2
    have c2b1 : decide (20 < l0.length) = true := decide_eq_true (by omega)
    clear c2
    obtain rfl := Option.some.inj H
    go_enter Try.func9, Try.ntmps9
    go_wp2
    repeat (go_quiet (fail); try go_wp2)
    go_ret
    exact ⟨by first | rfl | (simp; done) | (simp [*]; done), by repeat (first | exact Drawn0.refl _ | apply Drawn0.step)⟩
  · rw [if_neg c2] at H
    have c2b0 : decide (20 < (l0.length : Int)) = false := decide_eq_false c2
    have c2b1 : decide (20 < l0.length) = false := decide_eq_false (by omega)
    clear c2
    have H' := Aside0.mk H
    clear H
    go_enter Try.func9, Try.ntmps9
    go_wp2
    repeat (go_quiet (fail); try go_wp2)
    go_loopg [3, 4] k (fun kq v3 v4 w' => ∃ (x3_1 : Int) (x4_1 : Int), v3 = .int .i64 x3_1 ∧ v4 = .int .i64 x4_1 ∧ Aside0 (cotterlaw07_small.l0 kq l0 x3_1 x4_1 = some r) ∧ Aside0 (kq ≤ k) ∧ Drawn0 w w')
    case atStart => exact ⟨(0), (0), (by first | rfl | (simp; done) | (simp [*]; done)), (by first | rfl | (simp; done) | (simp [*]; done)), H', ⟨Nat.le_refl _⟩, by repeat (first | exact Drawn0.refl _ | apply Drawn0.step)⟩
    case round =>
      clear H'
      try clear c2
      try clear c2b0
      try clear c2b1
      try clear p2
      obtain ⟨x3_1, x4_1, rfl, rfl, HA, HK1, ⟨m1, rfl⟩⟩ := hrel
      cases gk with
      | zero => exact absurd HA.out (by simp [cotterlaw07_small.l0])
      | succ k1 =>
        have H := HA.out
        clear HA
        simp only [cotterlaw07_small.l0] at H
        by_cases c3 : x4_1 < (l0.length : Int)
        · rw [if_pos c3] at H
          have c3b0 : decide (x4_1 < (l0.length : Int)) = true := decide_eq_true c3
          clear c3
          by_cases c4 : 0 ≤ x4_1
          · rw [if_pos c4] at H
            have c4b0 : decide (0 ≤ x4_1) = true := decide_eq_true c4
            clear c4
            by_cases c5 : (wrap64 ((wrap64 (x3_1 + (((rd_T40 l0 x4_1).f2).length : Int))) + (((rd_T40 l0 x4_1).f3).length : Int))) > 300
            · rw [if_pos c5] at H
              have c5b0 : decide (300 < (wrap64 ((wrap64 (x3_1 + (((rd_T40 l0 x4_1).f2).length : Int))) + (((rd_T40 l0 x4_1).f3).length : Int)))) = true := decide_eq_true c5
              clear c5
              obtain rfl := Option.some.inj H
              have p177 : 0 ≤ (x4_1 : Int) := of_decide_eq_true (by first | (with_reducible assumption) | assumption)
              have q177 : x4_1 < (l0.length : Int) := of_decide_eq_true (by first | (with_reducible assumption) | assumption)
              obtain ⟨ad177, A177_1, c177_1, A177_2, c177_2, A177_3, c177_3, e177, hx177_0, hx177_1, hx177_2, hx177_3, hl177_1, hi177_1, hl177_2, hi177_2, hl177_3, hi177_3⟩ := at_T40 HR0.out x4_1 p177 q177
              cases e177
              have HR177_1 := Aside0.mk hi177_1
              have HC177_1 := Aside0.mk hl177_1
              clear hi177_1 hl177_1
              have HR177_2 := Aside0.mk hi177_2
              have HC177_2 := Aside0.mk hl177_2
              clear hi177_2 hl177_2
              have HR177_3 := Aside0.mk hi177_3
              have HC177_3 := Aside0.mk hl177_3
              clear hi177_3 hl177_3
              replace p177 := eq_true p177
              replace q177 := eq_true q177
              have p178 : 0 ≤ (x4_1 : Int) := of_decide_eq_true (by first | (with_reducible assumption) | assumption)
              have q178 : x4_1 < (l0.length : Int) := of_decide_eq_true (by first | (with_reducible assumption) | assumption)
              obtain ⟨ad178, A178_1, c178_1, A178_2, c178_2, A178_3, c178_3, e178, hx178_0, hx178_1, hx178_2, hx178_3, hl178_1, hi178_1, hl178_2, hi178_2, hl178_3, hi178_3⟩ := at_T40 HR0.out x4_1 p178 q178
              obtain rfl : ad177 = ad178 := (by injection e178)
              have HR178_1 := Aside0.mk hi178_1
              have HC178_1 := Aside0.mk hl178_1
              clear hi178_1 hl178_1
              have HR178_2 := Aside0.mk hi178_2
              have HC178_2 := Aside0.mk hl178_2
              clear hi178_2 hl178_2
              have HR178_3 := Aside0.mk hi178_3
              have HC178_3 := Aside0.mk hl178_3
              clear hi178_3 hl178_3
              replace p178 := eq_true p178
              replace q178 := eq_true q178
              have ea_ := Option.some.inj (hx177_1.symm.trans hx178_1)
              injection ea_ with ea_ en_ ec_
              subst ea_
              subst ec_
              clear en_
              have ea_ := Option.some.inj (hx177_2.symm.trans hx178_2)
              injection ea_ with ea_ en_ ec_
              subst ea_
              subst ec_
              clear en_
              have ea_ := Option.some.inj (hx177_3.symm.trans hx178_3)
              injection ea_ with ea_ en_ ec_
              subst ea_
              subst ec_
              clear en_
              go_wp2
              repeat (go_quiet (fail); try go_wp2)
              go_ret
              exact ⟨by first | rfl | (simp; done) | (simp [*]; done), by repeat (first | exact Drawn0.refl _ | apply Drawn0.step)⟩
            · rw [if_neg c5] at H
              have c5b0 : decide (300 < (wrap64 ((wrap64 (x3_1 + (((rd_T40 l0 x4_1).f2).length : Int))) + (((rd_T40 l0 x4_1).f3).length : Int)))) = false := decide_eq_false c5
              clear c5
              have H' := Aside0.mk H
              clear H
              have p177 : 0 ≤ (x4_1 : Int) := of_decide_eq_true (by first | (with_reducible assumption) | assumption)
              have q177 : x4_1 < (l0.length : Int) := of_decide_eq_true (by first | (with_reducible assumption) | assumption)
              obtain ⟨ad177, A177_1, c177_1, A177_2, c177_2, A177_3, c177_3, e177, hx177_0, hx177_1, hx177_2, hx177_3, hl177_1, hi177_1, hl177_2, hi177_2, hl177_3, hi177_3⟩ := at_T40 HR0.out x4_1 p177 q177
              cases e177
              have HR177_1 := Aside0.mk hi177_1
              have HC177_1 := Aside0.mk hl177_1
              clear hi177_1 hl177_1
              have HR177_2 := Aside0.mk hi177_2
              have HC177_2 := Aside0.mk hl177_2
              clear hi177_2 hl177_2
              have HR177_3 := Aside0.mk hi177_3
              have HC177_3 := Aside0.mk hl177_3
              clear hi177_3 hl177_3
              replace p177 := eq_true p177
              replace q177 := eq_true q177
              have p178 : 0 ≤ (x4_1 : Int) := of_decide_eq_true (by first | (with_reducible assumption) | assumption)
              have q178 : x4_1 < (l0.length : Int) := of_decide_eq_true (by first | (with_reducible assumption) | assumption)
              obtain ⟨ad178, A178_1, c178_1, A178_2, c178_2, A178_3, c178_3, e178, hx178_0, hx178_1, hx178_2, hx178_3, hl178_1, hi178_1, hl178_2, hi178_2, hl178_3, hi178_3⟩ := at_T40 HR0.out x4_1 p178 q178
              obtain rfl : ad177 = ad178 := (by injection e178)
              have HR178_1 := Aside0.mk hi178_1
              have HC178_1 := Aside0.mk hl178_1
              clear hi178_1 hl178_1
              have HR178_2 := Aside0.mk hi178_2
              have HC178_2 := Aside0.mk hl178_2
              clear hi178_2 hl178_2
              have HR178_3 := Aside0.mk hi178_3
              have HC178_3 := Aside0.mk hl178_3
              clear hi178_3 hl178_3
              replace p178 := eq_true p178
              replace q178 := eq_true q178
              have ea_ := Option.some.inj (hx177_1.symm.trans hx178_1)
              injection ea_ with ea_ en_ ec_
              subst ea_
              subst ec_
              clear en_
              have ea_ := Option.some.inj (hx177_2.symm.trans hx178_2)
              injection ea_ with ea_ en_ ec_
              subst ea_
              subst ec_
              clear en_
              have ea_ := Option.some.inj (hx177_3.symm.trans hx178_3)
              injection ea_ with ea_ en_ ec_
              subst ea_
              subst ec_
              clear en_
              go_wp2
              repeat (go_quiet (fail); try go_wp2)
              go_roundg k1
              case measure => have := HK1.out; omega
              case rel => exact ⟨(wrap64 ((wrap64 (x3_1 + (((rd_T40 l0 x4_1).f2).length : Int))) + (((rd_T40 l0 x4_1).f3).length : Int))), (wrap64 (x4_1 + 1)), (by first | rfl | (simp; done) | (simp [*]; done)), (by first | rfl | (simp; done) | (simp [*]; done)), H', ⟨by have := HK1.out; omega⟩, by repeat (first | exact Drawn0.refl _ | apply Drawn0.step)⟩
          · rw [if_neg c4] at H
            exact absurd H (by simp)
        · rw [if_neg c3] at H
          have c3b0 : decide (x4_1 < (l0.length : Int)) = false := decide_eq_false c3
          clear c3
          obtain rfl := Option.some.inj H
          go_wp2
          repeat (go_quiet (fail); try go_wp2)
          go_ret
          exact ⟨by first | rfl | (simp; done) | (simp [*]; done), by repeat (first | exact Drawn0.refl _ | apply Drawn0.step)⟩

/-! ### cotterlaw07_copies: function 11 -/
def cotterlaw07_copies.l0 : Nat → List (S40) → List (S40) → Int → Option ((List (S40)))
  | 0, _, _, _ => none
  | k + 1, x0, x3, x4 => if x4 < (x0.length : Int) then (if 0 ≤ x4 then ((cotterref06_Copy.f ((rd_T40 x0 x4).f0) ((rd_T40 x0 x4).f1) ((rd_T40 x0 x4).f2) ((rd_T40 x0 x4).f3)).bind fun bt180 => (if x3.length < 1599289640401 then (cotterlaw07_copies.l0 k x0 (x3 ++ [(⟨bt180.1, bt180.2.1, bt180.2.2.1, bt180.2.2.2⟩ : S40)]) (wrap64 (x4 + 1))) else (none))) else (none)) else (some x3)
def cotterlaw07_copies.f (k : Nat) (l0 : List (S40)) : Option ((List (S40))) := cotterlaw07_copies.l0 k l0 ([] : List (S40)) 0
set_option maxHeartbeats 8000000 in
set_option maxRecDepth 100000 in
theorem cotterlaw07_copies.calls (k : Nat) (A0 : Option Addr) (c0 : Nat) (l0 : List (S40)) (r : List (S40)) (w : World) (hr0 : Kd.C k40 w A0 l0.length l0) (hc0 : l0.length ≤ c0) (h : cotterlaw07_copies.f k l0 = some r) :
    Calls Try.prog 11 #[.slice A0 l0.length c0] w fun e w' => ∃ v0_ : Value, e = .returned (v0_) ∧ Kd.S k40 40 w' w.heap.size (fun _ => True) v0_ r ∧ Below w.heap.size w w' := by
  have hu40 := Try.underlying40
  have HR0 := Aside0.mk hr0
  have HC0 := Aside0.mk hc0
  clear hr0 hc0
  have HB := Aside0.mk (Below.refl w.heap.size w)
  have H : (cotterlaw07_copies.l0 k l0 ([] : List (S40)) 0) = some r := h
  clear h
  have H' := Aside0.mk H
  clear H
  go_enter Try.func11, Try.ntmps11
  go_wp2
  go_loopg [3, 4] k (fun kq v3 v4 w' => ∃ (x3_1 : List (S40)) (x4_1 : Int), v4 = .int .i64 x4_1 ∧ Aside0 (cotterlaw07_copies.l0 kq l0 x3_1 x4_1 = some r) ∧ Aside0 (kq ≤ k) ∧ Aside0 (Kd.S k40 40 w' w.heap.size (fun _ => True) v3 x3_1) ∧ Aside0 (Below w.heap.size w w'))
  case atStart => exact ⟨(([] : List (S40))), (0), (by first | rfl | (simp; done) | (simp [*]; done)), H', ⟨Nat.le_refl _⟩, ⟨by first | exact Kd.S_nil _ _ _ _ _ | exact Kd.N_nil _ _ _ _ _ | exact Kd.V_nil _ _ _ _ _ | exact Kd.Q_nil _ _ _ _ _ | exact Kd.R_nil _ _ _ _ _⟩, ⟨by repeat (first | (with_reducible first | exact HB.out | apply below_alloc | apply pw_below_drewN | apply below_drew1) | exact HB.out)⟩⟩
  case round =>
    clear H'
    try clear c1
    obtain ⟨x3_1, x4_1, rfl, HA, HK1, HO_3, HB⟩ := hrel
    cases gk with
    | zero => exact absurd HA.out (by simp [cotterlaw07_copies.l0])
    | succ k1 =>
      have H := HA.out
      clear HA
      simp only [cotterlaw07_copies.l0] at H
      by_cases c2 : x4_1 < (l0.length : Int)
      · rw [if_pos c2] at H
        have c2b0 : decide (x4_1 < (l0.length : Int)) = true := decide_eq_true c2
        clear c2
        by_cases c3 : 0 ≤ x4_1
        · rw [if_pos c3] at H
          have c3b0 : decide (0 ≤ x4_1) = true := decide_eq_true c3
          clear c3
          replace H := Option.bind_eq_some_iff.mp H
          obtain ⟨⟨t180, t181, t184, t187⟩, A40, H⟩ := H
          replace H : (if x3_1.length < 1599289640401 then (cotterlaw07_copies.l0 k1 l0 (x3_1 ++ [(⟨t180, t181, t184, t187⟩ : S40)]) (wrap64 (x4_1 + 1))) else (none)) = some r := H
          have A4 := Aside0.mk A40
          clear A40
          by_cases c5 : x3_1.length < 1599289640401
          · rw [if_pos c5] at H
            have LMc5 := Aside0.mk c5
            clear c5
            obtain ⟨y191, hy191⟩ : ∃ y_ : List (S40), y_ = (x3_1 ++ [(⟨t180, t181, t184, t187⟩ : S40)]) := ⟨_, rfl⟩
            replace H : (cotterlaw07_copies.l0 k1 l0 y191 (wrap64 (x4_1 + 1))) = some r := by first | (rw [hy191]; with_reducible exact H) | (have H2_ := (Option.bind_some _ _).symm.trans H; rw [hy191]; with_reducible exact H2_) | (have H2_ := (Option.bind_some _ _).symm.trans H; with_reducible exact H2_) | with_reducible exact H | (rw [hy191]; exact H) | exact H
            have Ny191 := Aside0.mk hy191
            clear hy191
            have H' := Aside0.mk H
            clear H
            have p179 : 0 ≤ (x4_1 : Int) := of_decide_eq_true (by first | (with_reducible assumption) | assumption)
            have q179 : x4_1 < (l0.length : Int) := of_decide_eq_true (by first | (with_reducible assumption) | assumption)
            obtain ⟨ad179, A179_1, c179_1, A179_2, c179_2, A179_3, c179_3, e179, hx179_0, hx179_1, hx179_2, hx179_3, hl179_1, hi179_1, hl179_2, hi179_2, hl179_3, hi179_3⟩ := at_T40 HR0.out x4_1 p179 q179
            cases e179
            replace hx179_0 := (HB.out.cell (World.block_lt_of_cell? w _ hx179_0)).trans hx179_0
            replace hx179_1 := (HB.out.cell (World.block_lt_of_cell? w _ hx179_1)).trans hx179_1
            replace hx179_2 := (HB.out.cell (World.block_lt_of_cell? w _ hx179_2)).trans hx179_2
            replace hx179_3 := (HB.out.cell (World.block_lt_of_cell? w _ hx179_3)).trans hx179_3
            have HR179_1 := Aside0.mk hi179_1
            have HC179_1 := Aside0.mk hl179_1
            clear hi179_1 hl179_1
            have HR179_2 := Aside0.mk hi179_2
            have HC179_2 := Aside0.mk hl179_2
            clear hi179_2 hl179_2
            have HR179_3 := Aside0.mk hi179_3
            have HC179_3 := Aside0.mk hl179_3
            clear hi179_3 hl179_3
            replace p179 := eq_true p179
            replace q179 := eq_true q179
            go_wp2_with (first | ((with_reducible refine gate_callee (f := 19) rfl ?_); refine goesL_ (some 16) rfl rfl Try.func19 (by kernel_rfl) rfl #[.agg #[.string ((rd_T40 l0 x4_1).f0), .slice A179_1 ((rd_T40 l0 x4_1).f1).length c179_1, .slice A179_2 ((rd_T40 l0 x4_1).f2).length c179_2, .slice A179_3 ((rd_T40 l0 x4_1).f3).length c179_3]] rfl (by (try simp only [List.map_toArray, List.map_cons, List.map_nil]); first | done | rfl | (simp only [List.length_drop, List.length_take]; rfl)) ?_; (with_reducible refine (cotterref06_Copy.calls ((rd_T40 l0 x4_1).f0) _ _ ((rd_T40 l0 x4_1).f1) _ _ ((rd_T40 l0 x4_1).f2) _ _ ((rd_T40 l0 x4_1).f3) t180 t181 t184 t187 _ ?side1 ?side2 ?side3 ?side4 ?side5 ?side6 A4.out).mono ?_); (case side1 => repeat (first | exact (Kd.C_below HR179_1.out HB.out) | (with_reducible refine Kd.C_alloc ?_ _) | (with_reducible refine Kd.C_drewN ?_ _) | (with_reducible refine Kd.C_drew ?_))); (case side2 => exact HC179_1.out); (case side3 => repeat (first | exact (Kd.C_below HR179_2.out HB.out) | (with_reducible refine Kd.C_alloc ?_ _) | (with_reducible refine Kd.C_drewN ?_ _) | (with_reducible refine Kd.C_drew ?_))); (case side4 => exact HC179_2.out); (case side5 => repeat (first | exact (Kd.C_below HR179_3.out HB.out) | (with_reducible refine Kd.C_alloc ?_ _) | (with_reducible refine Kd.C_drewN ?_ _) | (with_reducible refine Kd.C_drew ?_))); (case side6 => exact HC179_3.out); rintro e w6 ⟨v182, v185, v188, rfl, ho0, ho1, ho2, hb⟩; refine ⟨_, rfl, ?_⟩; have n0_ := Aside0.mk (Kd.S_mono (Kd.S_told (Kd.S_told (Kd.S_told (Kd.S_old (by (with_reducible repeat (first | apply Kd.S_alloc | apply Kd.S_drewN | apply Kd.S_drew)); exact HO_3.out) hb) (Kd.R_base ho0)) (Kd.R_base ho1)) (Kd.R_base ho2)) (fun _ h_ => h_.1)); have n1_ := Aside0.mk (Kd.R_lower ho0 (below_size (by repeat (first | (with_reducible first | exact HB.out | apply below_alloc | apply pw_below_drewN | apply below_drew1) | exact HB.out)))); have n2_ := Aside0.mk (Kd.R_lower ho1 (below_size (by repeat (first | (with_reducible first | exact HB.out | apply below_alloc | apply pw_below_drewN | apply below_drew1) | exact HB.out)))); have n3_ := Aside0.mk (Kd.R_lower ho2 (below_size (by repeat (first | (with_reducible first | exact HB.out | apply below_alloc | apply pw_below_drewN | apply below_drew1) | exact HB.out)))); have n4_ := Aside0.mk (below_step (by repeat (first | (with_reducible first | exact HB.out | apply below_alloc | apply pw_below_drewN | apply below_drew1) | exact HB.out)) hb); clear HO_3; clear HB; have HO_3 := n0_; have HO183 := n1_; have HO186 := n2_; have HO189 := n3_; have HB := n4_; clear n0_ n1_ n2_ n3_ n4_; (try clear hb); (try clear hb2); (try clear hk); (try clear hi); (try clear ho0); (try clear ho1); (try clear ho2)) | ((with_reducible refine gate_dst (N := 5) rfl ?_); refine box_event ?hg (N := 5) ?hd (cs := #[.string (⟨#[]⟩ : ByteArray), .slice none 0 0, .slice none 0 0, .slice none 0 0]) (t := 40) ?hr ?_; (case hd => rfl); (case hg => rfl); (case hr => first | (go_simp; done) | (go_simp; rfl)); intro gb190 hg w7 hbox hb; have n0_ := Aside0.mk (Kd.S_below (Kd.S_elderB (by (with_reducible repeat (first | apply Kd.S_alloc | apply Kd.S_drewN | apply Kd.S_drew)); exact HO_3.out) gb190 (Nat.le_of_eq hg.symm)) hb); have n1_ := Aside0.mk (Kd.R_below (by (with_reducible repeat (first | apply Kd.R_alloc | apply Kd.R_drewN | apply Kd.R_drew)); exact HO183.out) hb); have n2_ := Aside0.mk (Kd.R_below (by (with_reducible repeat (first | apply Kd.R_alloc | apply Kd.R_drewN | apply Kd.R_drew)); exact HO186.out) hb); have n3_ := Aside0.mk (Kd.R_below (by (with_reducible repeat (first | apply Kd.R_alloc | apply Kd.R_drewN | apply Kd.R_drew)); exact HO189.out) hb); have n4_ := Aside0.mk (below_step (by repeat (first | (with_reducible first | exact HB.out | apply below_alloc | apply pw_below_drewN | apply below_drew1) | exact HB.out)) hb); have n5_ := Aside0.mk (hbox); have n6_ := Aside0.mk ((by rw [hg]; exact (below_size (by repeat (first | (with_reducible first | exact HB.out | apply below_alloc | apply pw_below_drewN | apply below_drew1) | exact HB.out))) : w.heap.size ≤ gb190)); have n7_ := Aside0.mk ((by rw [hg]; exact (below_size (by repeat (first | (with_reducible first | exact HB.out | apply below_alloc | apply pw_below_drewN | apply below_drew1) | exact HB.out))) : w.heap.size ≤ gb190)); clear HO_3; clear HO183; clear HO186; clear HO189; clear HB; have HO_3 := n0_; have HO183 := n1_; have HO186 := n2_; have HO189 := n3_; have HB := n4_; have BK190 := n5_; have GW190 := n6_; have GE190 := n7_; clear n0_ n1_ n2_ n3_ n4_ n5_ n6_ n7_; clear hb hbox hg; have hcz8_0 : w7.cell? ⟨gb190, 0, none⟩ = some (.string (⟨#[]⟩ : ByteArray)) := (blk_cell BK190.out 0).trans rfl; have hcz8_1 : w7.cell? ⟨gb190, 1, none⟩ = some (.slice none 0 0) := (blk_cell BK190.out 1).trans rfl; have hcz8_2 : w7.cell? ⟨gb190, 2, none⟩ = some (.slice none 0 0) := (blk_cell BK190.out 2).trans rfl; have hcz8_3 : w7.cell? ⟨gb190, 3, none⟩ = some (.slice none 0 0) := (blk_cell BK190.out 3).trans rfl; have hfz8_0 := blk_frozen BK190.out 0; have hfz8_1 := blk_frozen BK190.out 1; have hfz8_2 := blk_frozen BK190.out 2; have hfz8_3 := blk_frozen BK190.out 3; obtain ⟨Ao9, co9, eo9⟩ := Kd.R_slice HO183.out; subst eo9; obtain ⟨Ao10, co10, eo10⟩ := Kd.R_slice HO186.out; subst eo10; obtain ⟨Ao11, co11, eo11⟩ := Kd.R_slice HO189.out; subst eo11) | ((with_reducible refine gate_store (t := 40) (p := 5) rfl ?_); refine store_event (t := 40) (p := 5) (v := ?vo_w12) (w1 := ((((w7.setCell ⟨gb190, 0, none⟩ (.string t180)).setCell ⟨gb190, 1, none⟩ (.slice Ao9 t181.length co9)).setCell ⟨gb190, 2, none⟩ (.slice Ao10 t184.length co10)).setCell ⟨gb190, 3, none⟩ (.slice Ao11 t187.length co11))) ?hg ?ho ?hn ?hr ?_; (case ho => rfl); (case hg => rfl); (case hn => rfl); (case hr => first | (go_simp; done) | (go_simp; rfl)); intro w12 hw; have n0_ : Aside0 (Kd.S k40 40 w12 w.heap.size (fun k_ => some k_ ≠ (.slice Ao9 t181.length co9 : Value).ownBlock ∧ some k_ ≠ (.slice Ao10 t184.length co10 : Value).ownBlock ∧ some k_ ≠ (.slice Ao11 t187.length co11 : Value).ownBlock ∧ k_ ≠ gb190) u3 x3_1) := ⟨(by rw [hw]; exact (by (with_reducible repeat (first | apply Kd.S_alloc | apply Kd.S_drewN | apply Kd.S_drew)); exact Kd.S_mono (Kd.S_far (p := ⟨gb190, 3, none⟩) (Kd.S_far (p := ⟨gb190, 2, none⟩) (Kd.S_far (p := ⟨gb190, 1, none⟩) (Kd.S_far (p := ⟨gb190, 0, none⟩) (Kd.S_mono HO_3.out (fun k_ hk => (⟨hk, hk.2⟩ : _ ∧ k_ ≠ gb190))) (fun _ hk => hk.2) (.string t180)) (fun _ hk => hk.2) (.slice Ao9 t181.length co9)) (fun _ hk => hk.2) (.slice Ao10 t184.length co10)) (fun _ hk => hk.2) (.slice Ao11 t187.length co11)) (fun _ hk => ⟨hk.1.1.1.1.2, ⟨hk.1.1.1.2, ⟨hk.1.1.2, hk.1.2⟩⟩⟩)))⟩; have n1_ : Aside0 (Kd.R (Kd.int .i64) 2 w12 w.heap.size (fun _ => True) (.slice Ao9 t181.length co9) t181) := ⟨(by rw [hw]; exact (by (with_reducible repeat (first | apply Kd.R_alloc | apply Kd.R_drewN | apply Kd.R_drew)); exact Kd.R_mono (Kd.R_far (p := ⟨gb190, 3, none⟩) (Kd.R_far (p := ⟨gb190, 2, none⟩) (Kd.R_far (p := ⟨gb190, 1, none⟩) (Kd.R_far (p := ⟨gb190, 0, none⟩) (Kd.R_types HO183.out BK190.out (by decide)) (fun _ hk => hk.2) (.string t180)) (fun _ hk => hk.2) (.slice Ao9 t181.length co9)) (fun _ hk => hk.2) (.slice Ao10 t184.length co10)) (fun _ hk => hk.2) (.slice Ao11 t187.length co11)) (fun _ hk => trivial)))⟩; have n2_ : Aside0 (Kd.R k36 36 w12 w.heap.size (fun _ => True) (.slice Ao10 t184.length co10) t184) := ⟨(by rw [hw]; exact (by (with_reducible repeat (first | apply Kd.R_alloc | apply Kd.R_drewN | apply Kd.R_drew)); exact Kd.R_mono (Kd.R_far (p := ⟨gb190, 3, none⟩) (Kd.R_far (p := ⟨gb190, 2, none⟩) (Kd.R_far (p := ⟨gb190, 1, none⟩) (Kd.R_far (p := ⟨gb190, 0, none⟩) (Kd.R_types HO186.out BK190.out (by decide)) (fun _ hk => hk.2) (.string t180)) (fun _ hk => hk.2) (.slice Ao9 t181.length co9)) (fun _ hk => hk.2) (.slice Ao10 t184.length co10)) (fun _ hk => hk.2) (.slice Ao11 t187.length co11)) (fun _ hk => trivial)))⟩; have n3_ : Aside0 (Kd.R k45 45 w12 w.heap.size (fun _ => True) (.slice Ao11 t187.length co11) t187) := ⟨(by rw [hw]; exact (by (with_reducible repeat (first | apply Kd.R_alloc | apply Kd.R_drewN | apply Kd.R_drew)); exact Kd.R_mono (Kd.R_far (p := ⟨gb190, 3, none⟩) (Kd.R_far (p := ⟨gb190, 2, none⟩) (Kd.R_far (p := ⟨gb190, 1, none⟩) (Kd.R_far (p := ⟨gb190, 0, none⟩) (Kd.R_types HO189.out BK190.out (by decide)) (fun _ hk => hk.2) (.string t180)) (fun _ hk => hk.2) (.slice Ao9 t181.length co9)) (fun _ hk => hk.2) (.slice Ao10 t184.length co10)) (fun _ hk => hk.2) (.slice Ao11 t187.length co11)) (fun _ hk => trivial)))⟩; have n4_ : Aside0 (w12.heap[gb190]? = some (.cells #[.string t180, .slice Ao9 t181.length co9, .slice Ao10 t184.length co10, .slice Ao11 t187.length co11] 40 (0, 0))) := ⟨(by rw [hw]; exact (by (with_reducible repeat (first | refine blk_drewN ?_ _ | refine blk_drew ?_ | refine blk_alloc ?_ _)); refine blk_put (cs := #[.string t180, .slice Ao9 t181.length co9, .slice Ao10 t184.length co10, .slice none 0 0]) ?_ 3 _ rfl; (with_reducible repeat (first | refine blk_drewN ?_ _ | refine blk_drew ?_ | refine blk_alloc ?_ _)); refine blk_put (cs := #[.string t180, .slice Ao9 t181.length co9, .slice none 0 0, .slice none 0 0]) ?_ 2 _ rfl; (with_reducible repeat (first | refine blk_drewN ?_ _ | refine blk_drew ?_ | refine blk_alloc ?_ _)); refine blk_put (cs := #[.string t180, .slice none 0 0, .slice none 0 0, .slice none 0 0]) ?_ 1 _ rfl; (with_reducible repeat (first | refine blk_drewN ?_ _ | refine blk_drew ?_ | refine blk_alloc ?_ _)); refine blk_put (cs := #[.string (⟨#[]⟩ : ByteArray), .slice none 0 0, .slice none 0 0, .slice none 0 0]) ?_ 0 _ rfl; (with_reducible repeat (first | refine blk_drewN ?_ _ | refine blk_drew ?_ | refine blk_alloc ?_ _)); exact BK190.out))⟩; have n5_ : Aside0 (Below w.heap.size w w12) := ⟨(by rw [hw]; exact (by repeat (first | (with_reducible first | exact HB.out | apply below_alloc | apply pw_below_drewN | apply below_drew1 | refine below_set ?_ GE190.out) | exact HB.out)))⟩; clear hw; clear HO_3; clear HO183; clear HO186; clear HO189; clear BK190; clear HB; have HO_3 := n0_; have HO183 := n1_; have HO186 := n2_; have HO189 := n3_; have BK190 := n4_; have HB := n5_; clear n0_ n1_ n2_ n3_ n4_ n5_; have hcz13_0 : w12.cell? ⟨gb190, 0, none⟩ = some (.string t180) := (blk_cell BK190.out 0).trans rfl; have hcz13_1 : w12.cell? ⟨gb190, 1, none⟩ = some (.slice Ao9 t181.length co9) := (blk_cell BK190.out 1).trans rfl; have hcz13_2 : w12.cell? ⟨gb190, 2, none⟩ = some (.slice Ao10 t184.length co10) := (blk_cell BK190.out 2).trans rfl; have hcz13_3 : w12.cell? ⟨gb190, 3, none⟩ = some (.slice Ao11 t187.length co11) := (blk_cell BK190.out 3).trans rfl; have hfz13_0 := blk_frozen BK190.out 0; have hfz13_1 := blk_frozen BK190.out 1; have hfz13_2 := blk_frozen BK190.out 2; have hfz13_3 := blk_frozen BK190.out 3) | ((with_reducible refine gate_builtin (b := .append) (xs := #[.tmp 17, .tmp 19]) rfl ?_); at_builtin; refine Kd.S_append k40 (w0 := w) w.heap.size rfl (.tmp 17) (.tmp 19) 22 40 (.agg #[(.string ⟨#[]⟩), (.slice none 0 0), (.slice none 0 0), (.slice none 0 0)]) 88 rfl Try.underlying22 info40 rfl (by decide) (by omega) u3 x3_1 (⟨t180, t181, t184, t187⟩ : S40) [.string t180, .slice Ao9 t181.length co9, .slice Ao10 t184.length co10, .slice Ao11 t187.length co11] (fun k_ => k_ ≠ gb190) (fun k_ => some k_ = (.slice Ao9 t181.length co9 : Value).ownBlock ∨ some k_ = (.slice Ao10 t184.length co10 : Value).ownBlock ∨ some k_ = (.slice Ao11 t187.length co11 : Value).ownBlock) rfl rfl ?aP (fun k_ hk_ => hk_.elim (fun h_ => ((Kd.R_mono (ok' := fun k_ => ((fun k_ => k_ ≠ gb190)) k_ ∧ some k_ ≠ (u3 : Value).ownBlock) (Kd.R_types (Kd.R_apart' (HO183.out) (Kd.S_typed HO_3.out) (by decide)) BK190.out (by decide)) (fun k_ hk => ⟨hk.2, hk.1.2⟩))).1 k_ h_.symm) (fun h_ => h_.elim (fun h_ => ((Kd.R_mono (ok' := fun k_ => ((fun k_ => k_ ≠ gb190)) k_ ∧ some k_ ≠ (u3 : Value).ownBlock) (Kd.R_types (Kd.R_apart' (HO186.out) (Kd.S_typed HO_3.out) (by decide)) BK190.out (by decide)) (fun k_ hk => ⟨hk.2, hk.1.2⟩))).1 k_ h_.symm) (fun h_ => ((Kd.R_mono (ok' := fun k_ => ((fun k_ => k_ ≠ gb190)) k_ ∧ some k_ ≠ (u3 : Value).ownBlock) (Kd.R_types (Kd.R_apart' (HO189.out) (Kd.S_typed HO_3.out) (by decide)) BK190.out (by decide)) (fun k_ hk => ⟨hk.2, hk.1.2⟩))).1 k_ h_.symm))) ?aF ?aO ?aB ?aS ?aL ?_; (case aP => exact k40_mkM _ _ _ (⟨t180, t181, t184, t187⟩ : S40) (Kd.R_mono (Kd.R_tight rfl (Kd.R_mono (ok' := fun k_ => ((fun k_ => k_ ≠ gb190)) k_ ∧ some k_ ≠ (u3 : Value).ownBlock) (Kd.R_types (Kd.R_apart' (HO183.out) (Kd.S_typed HO_3.out) (by decide)) BK190.out (by decide)) (fun k_ hk => ⟨hk.2, hk.1.2⟩))) (fun _ h_ => Or.inl h_)) (Kd.R_mono (Kd.R_tight rfl (Kd.R_mono (ok' := fun k_ => ((fun k_ => k_ ≠ gb190)) k_ ∧ some k_ ≠ (u3 : Value).ownBlock) (Kd.R_types (Kd.R_apart' (HO186.out) (Kd.S_typed HO_3.out) (by decide)) BK190.out (by decide)) (fun k_ hk => ⟨hk.2, hk.1.2⟩))) (fun _ h_ => Or.inr (Or.inl h_))) (Kd.R_mono (Kd.R_tight rfl (Kd.R_mono (ok' := fun k_ => ((fun k_ => k_ ≠ gb190)) k_ ∧ some k_ ≠ (u3 : Value).ownBlock) (Kd.R_types (Kd.R_apart' (HO189.out) (Kd.S_typed HO_3.out) (by decide)) BK190.out (by decide)) (fun k_ hk => ⟨hk.2, hk.1.2⟩))) (fun _ h_ => Or.inr (Or.inr (h_))))); (case aB => exact (by repeat (first | (with_reducible first | exact HB.out | apply below_alloc | apply pw_below_drewN | apply below_drew1 | refine below_set ?_ GE190.out) | exact HB.out))); (case aF => exact (fun k_ hk => Kd.freshB (g := gb190) (o := .cells #[.string t180, .slice Ao9 t181.length co9, .slice Ao10 t184.length co10, .slice Ao11 t187.length co11] 40 (0, 0)) (by (with_reducible repeat (first | refine blk_drewN ?_ _ | refine blk_drew ?_ | refine blk_alloc ?_ _)); exact BK190.out) k_ hk)); (case aO => exact (by (with_reducible repeat (first | apply Kd.S_alloc | apply Kd.S_drewN | apply Kd.S_drew)); exact Kd.S_mono HO_3.out (fun k_ hk => ⟨hk.2.2.2, fun e_ => e_.elim (fun h_ => hk.1 h_) (fun h_ => h_.elim (fun h_ => hk.2.1 h_) (fun h_ => hk.2.2.1 h_))⟩))); (case aS => exact (below_size (by repeat (first | (with_reducible first | exact HB.out | apply below_alloc | apply pw_below_drewN | apply below_drew1 | refine below_set ?_ GE190.out) | exact HB.out)))); (case aL => have := LMc5.out; omega); intro v192 w14 ho hb hg hat; rw [← Ny191.out] at ho; have n0_ := Aside0.mk (blk_grown (g := gb190) (o := .cells #[.string t180, .slice Ao9 t181.length co9, .slice Ao10 t184.length co10, .slice Ao11 t187.length co11] 40 (0, 0)) (by (with_reducible repeat (first | refine blk_drewN ?_ _ | refine blk_drew ?_ | refine blk_alloc ?_ _)); exact BK190.out) hg (Kd.S_away HO_3.out (fun _ hk => hk.2.2.2))); have n1_ := Aside0.mk (hb); have n2_ := Aside0.mk (ho); clear BK190; clear HB; clear HO_3; clear HO183; clear HO186; clear HO189; have BK190 := n0_; have HB := n1_; have HO193 := n2_; clear n0_ n1_ n2_; clear ho hb hg hat))
            go_roundg k1
            case measure => have := HK1.out; omega
            case rel => exact ⟨(y191), (wrap64 (x4_1 + 1)), (by first | rfl | (simp; done) | (simp [*]; done)), H', ⟨by have := HK1.out; omega⟩, ⟨by (with_reducible repeat (first | apply Kd.S_alloc | apply Kd.S_drewN | apply Kd.S_drew)); exact Kd.S_mono HO193.out (fun _ hk => trivial)⟩, ⟨by repeat (first | (with_reducible first | exact HB.out | apply below_alloc | apply pw_below_drewN | apply below_drew1 | refine below_set ?_ GE190.out) | exact HB.out)⟩⟩
          · rw [if_neg c5] at H
            exact absurd H (by simp)
        · rw [if_neg c3] at H
          exact absurd H (by simp)
      · rw [if_neg c2] at H
        have c2b0 : decide (x4_1 < (l0.length : Int)) = false := decide_eq_false c2
        clear c2
        obtain rfl := Option.some.inj H
        go_wp2
        go_ret
        exact ⟨_, by first | rfl | (simp [errW_none, errW_some] <;> rfl) | (simp [*, errW_none, errW_some] <;> rfl), by (with_reducible repeat (first | apply Kd.S_alloc | apply Kd.S_drewN | apply Kd.S_drew)); exact HO_3.out, by repeat (first | (with_reducible first | exact HB.out | apply below_alloc | apply pw_below_drewN | apply below_drew1) | exact HB.out)⟩

end Go.Proofs.Yteaealmnmmcbpaa.M

-- Written by a program of this session (wip/ownprint.py) over the translation. Lean checks it.
namespace Go.Proofs.Yteaealmnmmcbpaa.M
open Go.RowKit Go.Proofs.YteaealmnmmcbpaaW.PrintWords Go.Proofs.YteaealmnmmcbpaaW.PrintLast
set_option linter.unusedVariables false
set_option linter.unusedSimpArgs false

theorem eqA36 (d : Nat) (w : World) (x0 y0 : ByteArray) (x1 y1 : Int) (x2 y2 : Int) :
    (Op.equalIn (d + 2) 36 (.agg #[.string x0, .int .i64 x1, .int .i64 x2]) (.agg #[.string y0, .int .i64 y1, .int .i64 y2])).run Try.prog w = .ok (x0.toList == y0.toList && (x1 == y1 && (x2 == y2))) w := by
  refine eqA_of Try.underlying36 (by kernel_rfl) ?_
  refine eqf_cons (by rfl) (by go_simp; rfl) (by go_simp; rfl) (by go_simp) ?_
  refine eqf_cons (by rfl) (by go_simp; rfl) (by go_simp; rfl) (by go_simp) ?_
  exact eqf_last (by rfl) (by go_simp; rfl) (by go_simp; rfl) (by go_simp)
end Go.Proofs.Yteaealmnmmcbpaa.M

-- Written by a program of this session (wip/ownprint.py) over the translation. Lean checks it.
namespace Go.Proofs.Yteaealmnmmcbpaa.M
open Go.RowKit Go.Proofs.YteaealmnmmcbpaaW.PrintWords Go.Proofs.YteaealmnmmcbpaaW.PrintLast
set_option linter.unusedVariables false
set_option linter.unusedSimpArgs false

attribute [local go_sem high] eqA36
/-! ### cotterref07_threads: function 29 -/
def cotterref07_threads.l0 : Nat → List (S36) → Int → Int → Option (Int)
  | 0, _, _, _ => none
  | k + 1, x0, x3, x4 => if x4 < (x0.length : Int) then (if 0 ≤ x4 then (if ((rd_T36 x0 x4).f1) = 3 then (cotterref07_threads.l0 k x0 (wrap64 (x3 + 1)) (wrap64 (x4 + 1))) else (cotterref07_threads.l0 k x0 x3 (wrap64 (x4 + 1)))) else (none)) else (some x3)
def cotterref07_threads.f (k : Nat) (l0 : List (S36)) : Option (Int) := cotterref07_threads.l0 k l0 0 0
set_option maxHeartbeats 8000000 in
set_option maxRecDepth 100000 in
theorem cotterref07_threads.calls (k : Nat) (A0 : Option Addr) (c0 : Nat) (l0 : List (S36)) (r : Int) (w : World) (hr0 : Kd.C k36 w A0 l0.length l0) (hc0 : l0.length ≤ c0) (h : cotterref07_threads.f k l0 = some r) :
    Calls Try.prog 29 #[.slice A0 l0.length c0] w fun e w' => e = .returned (.int .i64 r) ∧ Drawn0 w w' := by
  have HR0 := Aside0.mk hr0
  have HC0 := Aside0.mk hc0
  clear hr0 hc0
  have H : (cotterref07_threads.l0 k l0 0 0) = some r := h
  clear h
  have H' := Aside0.mk H
  clear H
  go_enter Try.func29, Try.ntmps29
  go_wp2
  go_loopg [3, 4] k (fun kq v3 v4 w' => ∃ (x3_1 : Int) (x4_1 : Int), v3 = .int .i64 x3_1 ∧ v4 = .int .i64 x4_1 ∧ Aside0 (cotterref07_threads.l0 kq l0 x3_1 x4_1 = some r) ∧ Aside0 (kq ≤ k) ∧ Drawn0 w w')
  case atStart => exact ⟨(0), (0), (by first | rfl | (simp; done) | (simp [*]; done)), (by first | rfl | (simp; done) | (simp [*]; done)), H', ⟨Nat.le_refl _⟩, by repeat (first | exact Drawn0.refl _ | apply Drawn0.step)⟩
  case round =>
    clear H'
    obtain ⟨x3_1, x4_1, rfl, rfl, HA, HK1, ⟨m1, rfl⟩⟩ := hrel
    cases gk with
    | zero => exact absurd HA.out (by simp [cotterref07_threads.l0])
    | succ k1 =>
      have H := HA.out
      clear HA
      simp only [cotterref07_threads.l0] at H
      by_cases c2 : x4_1 < (l0.length : Int)
      · rw [if_pos c2] at H
        have c2b0 : decide (x4_1 < (l0.length : Int)) = true := decide_eq_true c2
        clear c2
        by_cases c3 : 0 ≤ x4_1
        · rw [if_pos c3] at H
          have c3b0 : decide (0 ≤ x4_1) = true := decide_eq_true c3
          clear c3
          by_cases c4 : ((rd_T36 l0 x4_1).f1) = 3
          · rw [if_pos c4] at H
            have c4b0 : (((rd_T36 l0 x4_1).f1) == 3) = true := beq_iff_eq.mpr c4
            have c4b1 : (((rd_T36 l0 x4_1).f1) != 3) = false := bne_eq_false_iff_eq.mpr c4
            clear c4
            have H' := Aside0.mk H
            clear H
            have p147 : 0 ≤ (x4_1 : Int) := of_decide_eq_true (by first | (with_reducible assumption) | assumption)
            have q147 : x4_1 < (l0.length : Int) := of_decide_eq_true (by first | (with_reducible assumption) | assumption)
            obtain ⟨ad147, e147, hx147_0, hx147_1, hx147_2⟩ := at_T36 HR0.out x4_1 p147 q147
            cases e147
            replace p147 := eq_true p147
            replace q147 := eq_true q147
            go_wp2
            go_roundg k1
            case measure => have := HK1.out; omega
            case rel => exact ⟨(wrap64 (x3_1 + 1)), (wrap64 (x4_1 + 1)), (by first | rfl | (simp; done) | (simp [*]; done)), (by first | rfl | (simp; done) | (simp [*]; done)), H', ⟨by have := HK1.out; omega⟩, by repeat (first | exact Drawn0.refl _ | apply Drawn0.step)⟩
          · rw [if_neg c4] at H
            have c4b0 : (((rd_T36 l0 x4_1).f1) == 3) = false := beq_eq_false_iff_ne.mpr c4
            have c4b1 : (((rd_T36 l0 x4_1).f1) != 3) = true := bne_iff_ne.mpr c4
            have H' := Aside0.mk H
            clear H
            have p147 : 0 ≤ (x4_1 : Int) := of_decide_eq_true (by first | (with_reducible assumption) | assumption)
            have q147 : x4_1 < (l0.length : Int) := of_decide_eq_true (by first | (with_reducible assumption) | assumption)
            obtain ⟨ad147, e147, hx147_0, hx147_1, hx147_2⟩ := at_T36 HR0.out x4_1 p147 q147
            cases e147
            replace p147 := eq_true p147
            replace q147 := eq_true q147
            go_wp2
            go_roundg k1
            case measure => have := HK1.out; omega
            case rel => exact ⟨(x3_1), (wrap64 (x4_1 + 1)), (by first | rfl | (simp; done) | (simp [*]; done)), (by first | rfl | (simp; done) | (simp [*]; done)), H', ⟨by have := HK1.out; omega⟩, by repeat (first | exact Drawn0.refl _ | apply Drawn0.step)⟩
        · rw [if_neg c3] at H
          exact absurd H (by simp)
      · rw [if_neg c2] at H
        have c2b0 : decide (x4_1 < (l0.length : Int)) = false := decide_eq_false c2
        clear c2
        obtain rfl := Option.some.inj H
        go_wp2
        go_ret
        exact ⟨by first | rfl | (simp; done) | (simp [*]; done), by repeat (first | exact Drawn0.refl _ | apply Drawn0.step)⟩

/-! ### cotterref06_SameData: function 16 -/
def cotterref06_SameData.l0 : Nat → List Int → List Int → Int → Option (Bool)
  | 0, _, _, _ => none
  | k + 1, x0, x1, x5 => if x5 < (x0.length : Int) then (if 0 ≤ x5 then (if x5 < (x1.length : Int) then (if (rd x0 x5) = (rd x1 x5) then (cotterref06_SameData.l0 k x0 x1 (wrap64 (x5 + 1))) else (some false)) else (none)) else (none)) else (some true)
def cotterref06_SameData.f (k : Nat) (l0 : List Int) (l1 : List Int) : Option (Bool) := if (l0.length : Int) = (l1.length : Int) then (cotterref06_SameData.l0 k l0 l1 0) else (some false)
set_option maxHeartbeats 8000000 in
set_option maxRecDepth 100000 in
theorem cotterref06_SameData.calls (k : Nat) (A0 : Option Addr) (c0 : Nat) (l0 : List Int) (A1 : Option Addr) (c1 : Nat) (l1 : List Int) (r : Bool) (w : World) (hr0 : Kd.C (Kd.int .i64) w A0 l0.length l0) (hc0 : l0.length ≤ c0) (hr1 : Kd.C (Kd.int .i64) w A1 l1.length l1) (hc1 : l1.length ≤ c1) (h : cotterref06_SameData.f k l0 l1 = some r) :
    Calls Try.prog 16 #[.slice A0 l0.length c0, .slice A1 l1.length c1] w fun e w' => e = .returned (.bool r) ∧ Drawn0 w w' := by
  have HR0 := Aside0.mk hr0
  have HC0 := Aside0.mk hc0
  clear hr0 hc0
  have HR1 := Aside0.mk hr1
  have HC1 := Aside0.mk hc1
  clear hr1 hc1
  have H : (if (l0.length : Int) = (l1.length : Int) then (cotterref06_SameData.l0 k l0 l1 0) else (some false)) = some r := h
  clear h
  by_cases c3 : (l0.length : Int) = (l1.length : Int)
  · rw [if_pos c3] at H
    have c3b0 : ((l0.length : Int) == (l1.length : Int)) = true := beq_iff_eq.mpr c3
    have c3b1 : ((l0.length : Int) != (l1.length : Int)) = false := bne_eq_false_iff_eq.mpr c3
    have c3b2 : (l0.length == l1.length) = true := by first | simpa using c3 | (simp at c3 ⊢; omega)
    clear c3
    have H' := Aside0.mk H
    clear H
    go_enter Try.func16, Try.ntmps16
    go_wp2
    repeat (go_quiet (fail); try go_wp2)
    go_loopg [5] k (fun kq v5 w' => ∃ (x5_1 : Int), v5 = .int .i64 x5_1 ∧ Aside0 (cotterref06_SameData.l0 kq l0 l1 x5_1 = some r) ∧ Aside0 (kq ≤ k) ∧ Drawn0 w w')
    case atStart => exact ⟨(0), (by first | rfl | (simp; done) | (simp [*]; done)), H', ⟨Nat.le_refl _⟩, by repeat (first | exact Drawn0.refl _ | apply Drawn0.step)⟩
    case round =>
      clear H'
      try clear c1
      try clear p2
      try clear c3
      try clear c3b0
      try clear c3b1
      try clear c3b2
      obtain ⟨x5_1, rfl, HA, HK1, ⟨m1, rfl⟩⟩ := hrel
      cases gk with
      | zero => exact absurd HA.out (by simp [cotterref06_SameData.l0])
      | succ k1 =>
        have H := HA.out
        clear HA
        simp only [cotterref06_SameData.l0] at H
        by_cases c4 : x5_1 < (l0.length : Int)
        · rw [if_pos c4] at H
          have c4b0 : decide (x5_1 < (l0.length : Int)) = true := decide_eq_true c4
          clear c4
          by_cases c5 : 0 ≤ x5_1
          · rw [if_pos c5] at H
            have c5b0 : decide (0 ≤ x5_1) = true := decide_eq_true c5
            clear c5
            by_cases c6 : x5_1 < (l1.length : Int)
            · rw [if_pos c6] at H
              have c6b0 : decide (x5_1 < (l1.length : Int)) = true := decide_eq_true c6
              clear c6
              by_cases c7 : (rd l0 x5_1) = (rd l1 x5_1)
              · rw [if_pos c7] at H
                have c7b0 : ((rd l0 x5_1) == (rd l1 x5_1)) = true := beq_iff_eq.mpr c7
                have c7b1 : ((rd l0 x5_1) != (rd l1 x5_1)) = false := bne_eq_false_iff_eq.mpr c7
                clear c7
                have H' := Aside0.mk H
                clear H
                have p148 : 0 ≤ (x5_1 : Int) := of_decide_eq_true (by first | (with_reducible assumption) | assumption)
                have q148 : x5_1 < (l0.length : Int) := of_decide_eq_true (by first | (with_reducible assumption) | assumption)
                obtain ⟨ad148, e148, hx148_0⟩ := Kd.at_int HR0.out x5_1 p148 q148
                cases e148
                replace p148 := eq_true p148
                replace q148 := eq_true q148
                have p149 : 0 ≤ (x5_1 : Int) := of_decide_eq_true (by first | (with_reducible assumption) | assumption)
                have q149 : x5_1 < (l1.length : Int) := of_decide_eq_true (by first | (with_reducible assumption) | assumption)
                obtain ⟨ad149, e149, hx149_0⟩ := Kd.at_int HR1.out x5_1 p149 q149
                cases e149
                replace p149 := eq_true p149
                replace q149 := eq_true q149
                go_wp2
                repeat (go_quiet (fail); try go_wp2)
                go_roundg k1
                case measure => have := HK1.out; omega
                case rel => exact ⟨(wrap64 (x5_1 + 1)), (by first | rfl | (simp; done) | (simp [*]; done)), H', ⟨by have := HK1.out; omega⟩, by repeat (first | exact Drawn0.refl _ | apply Drawn0.step)⟩
              · rw [if_neg c7] at H
                have c7b0 : ((rd l0 x5_1) == (rd l1 x5_1)) = false := beq_eq_false_iff_ne.mpr c7
                have c7b1 : ((rd l0 x5_1) != (rd l1 x5_1)) = true := bne_iff_ne.mpr c7
                obtain rfl := Option.some.inj H
                have p148 : 0 ≤ (x5_1 : Int) := of_decide_eq_true (by first | (with_reducible assumption) | assumption)
                have q148 : x5_1 < (l0.length : Int) := of_decide_eq_true (by first | (with_reducible assumption) | assumption)
                obtain ⟨ad148, e148, hx148_0⟩ := Kd.at_int HR0.out x5_1 p148 q148
                cases e148
                replace p148 := eq_true p148
                replace q148 := eq_true q148
                have p149 : 0 ≤ (x5_1 : Int) := of_decide_eq_true (by first | (with_reducible assumption) | assumption)
                have q149 : x5_1 < (l1.length : Int) := of_decide_eq_true (by first | (with_reducible assumption) | assumption)
                obtain ⟨ad149, e149, hx149_0⟩ := Kd.at_int HR1.out x5_1 p149 q149
                cases e149
                replace p149 := eq_true p149
                replace q149 := eq_true q149
                go_wp2
                repeat (go_quiet (fail); try go_wp2)
                go_ret
                exact ⟨by first | rfl | (simp; done) | (simp [*]; done), by repeat (first | exact Drawn0.refl _ | apply Drawn0.step)⟩
            · rw [if_neg c6] at H
              exact absurd H (by simp)
          · rw [if_neg c5] at H
            exact absurd H (by simp)
        · rw [if_neg c4] at H
          have c4b0 : decide (x5_1 < (l0.length : Int)) = false := decide_eq_false c4
          clear c4
          obtain rfl := Option.some.inj H
          go_wp2
          repeat (go_quiet (fail); try go_wp2)
          go_ret
          exact ⟨by first | rfl | (simp; done) | (simp [*]; done), by repeat (first | exact Drawn0.refl _ | apply Drawn0.step)⟩
  · rw [if_neg c3] at H
    have c3b0 : ((l0.length : Int) == (l1.length : Int)) = false := beq_eq_false_iff_ne.mpr c3
    have c3b1 : ((l0.length : Int) != (l1.length : Int)) = true := bne_iff_ne.mpr c3
    have c3b2 : (l0.length == l1.length) = false := by first | simpa using c3 | (simp at c3 ⊢; omega)
    obtain rfl := Option.some.inj H
    go_enter Try.func16, Try.ntmps16
    go_wp2
    repeat (go_quiet (fail); try go_wp2)
    go_ret
    exact ⟨by first | rfl | (simp; done) | (simp [*]; done), by repeat (first | exact Drawn0.refl _ | apply Drawn0.step)⟩

/-! ### cotterref06_SameSyms: function 18 -/
def cotterref06_SameSyms.l0 : Nat → List (S36) → List (S36) → Int → Option (Bool)
  | 0, _, _, _ => none
  | k + 1, x0, x1, x5 => if x5 < (x0.length : Int) then (if 0 ≤ x5 then (if x5 < (x1.length : Int) then (if (!((((rd_T36 x0 x5).f0).toList) == (((rd_T36 x1 x5).f0).toList)) || (!(((rd_T36 x0 x5).f1) == ((rd_T36 x1 x5).f1)) || (!(((rd_T36 x0 x5).f2) == ((rd_T36 x1 x5).f2))))) = true then (some false) else (cotterref06_SameSyms.l0 k x0 x1 (wrap64 (x5 + 1)))) else (none)) else (none)) else (some true)
def cotterref06_SameSyms.f (k : Nat) (l0 : List (S36)) (l1 : List (S36)) : Option (Bool) := if (l0.length : Int) = (l1.length : Int) then (cotterref06_SameSyms.l0 k l0 l1 0) else (some false)
set_option maxHeartbeats 8000000 in
set_option maxRecDepth 100000 in
theorem cotterref06_SameSyms.calls (k : Nat) (A0 : Option Addr) (c0 : Nat) (l0 : List (S36)) (A1 : Option Addr) (c1 : Nat) (l1 : List (S36)) (r : Bool) (w : World) (hr0 : Kd.C k36 w A0 l0.length l0) (hc0 : l0.length ≤ c0) (hr1 : Kd.C k36 w A1 l1.length l1) (hc1 : l1.length ≤ c1) (h : cotterref06_SameSyms.f k l0 l1 = some r) :
    Calls Try.prog 18 #[.slice A0 l0.length c0, .slice A1 l1.length c1] w fun e w' => e = .returned (.bool r) ∧ Drawn0 w w' := by
  have hu36 := Try.underlying36
  have HR0 := Aside0.mk hr0
  have HC0 := Aside0.mk hc0
  clear hr0 hc0
  have HR1 := Aside0.mk hr1
  have HC1 := Aside0.mk hc1
  clear hr1 hc1
  have H : (if (l0.length : Int) = (l1.length : Int) then (cotterref06_SameSyms.l0 k l0 l1 0) else (some false)) = some r := h
  clear h
  by_cases c3 : (l0.length : Int) = (l1.length : Int)
  · rw [if_pos c3] at H
    have c3b0 : ((l0.length : Int) == (l1.length : Int)) = true := beq_iff_eq.mpr c3
    have c3b1 : ((l0.length : Int) != (l1.length : Int)) = false := bne_eq_false_iff_eq.mpr c3
    have c3b2 : (l0.length == l1.length) = true := by first | simpa using c3 | (simp at c3 ⊢; omega)
    clear c3
    have H' := Aside0.mk H
    clear H
    go_enter Try.func18, Try.ntmps18
    go_wp2
    repeat (go_quiet (fail); try go_wp2)
    go_loopg [5] k (fun kq v5 w' => ∃ (x5_1 : Int), v5 = .int .i64 x5_1 ∧ Aside0 (cotterref06_SameSyms.l0 kq l0 l1 x5_1 = some r) ∧ Aside0 (kq ≤ k) ∧ Drawn0 w w')
    case atStart => exact ⟨(0), (by first | rfl | (simp; done) | (simp [*]; done)), H', ⟨Nat.le_refl _⟩, by repeat (first | exact Drawn0.refl _ | apply Drawn0.step)⟩
    case round =>
      clear H'
      try clear c1
      try clear p2
      try clear c3
      try clear c3b0
      try clear c3b1
      try clear c3b2
      obtain ⟨x5_1, rfl, HA, HK1, ⟨m1, rfl⟩⟩ := hrel
      cases gk with
      | zero => exact absurd HA.out (by simp [cotterref06_SameSyms.l0])
      | succ k1 =>
        have H := HA.out
        clear HA
        simp only [cotterref06_SameSyms.l0] at H
        by_cases c4 : x5_1 < (l0.length : Int)
        · rw [if_pos c4] at H
          have c4b0 : decide (x5_1 < (l0.length : Int)) = true := decide_eq_true c4
          clear c4
          by_cases c5 : 0 ≤ x5_1
          · rw [if_pos c5] at H
            have c5b0 : decide (0 ≤ x5_1) = true := decide_eq_true c5
            clear c5
            by_cases c6 : x5_1 < (l1.length : Int)
            · rw [if_pos c6] at H
              have c6b0 : decide (x5_1 < (l1.length : Int)) = true := decide_eq_true c6
              clear c6
              by_cases c7 : (!((((rd_T36 l0 x5_1).f0).toList) == (((rd_T36 l1 x5_1).f0).toList)) || (!(((rd_T36 l0 x5_1).f1) == ((rd_T36 l1 x5_1).f1)) || (!(((rd_T36 l0 x5_1).f2) == ((rd_T36 l1 x5_1).f2))))) = true
              · rw [if_pos c7] at H
                have c7b0 : (!((((rd_T36 l0 x5_1).f0).toList) == (((rd_T36 l1 x5_1).f0).toList)) || (!(((rd_T36 l0 x5_1).f1) == ((rd_T36 l1 x5_1).f1)) || (!(((rd_T36 l0 x5_1).f2) == ((rd_T36 l1 x5_1).f2))))) = true := c7
                clear c7
                obtain rfl := Option.some.inj H
                have p150 : 0 ≤ (x5_1 : Int) := of_decide_eq_true (by first | (with_reducible assumption) | assumption)
                have q150 : x5_1 < (l0.length : Int) := of_decide_eq_true (by first | (with_reducible assumption) | assumption)
                obtain ⟨ad150, e150, hx150_0, hx150_1, hx150_2⟩ := at_T36 HR0.out x5_1 p150 q150
                cases e150
                replace p150 := eq_true p150
                replace q150 := eq_true q150
                have p151 : 0 ≤ (x5_1 : Int) := of_decide_eq_true (by first | (with_reducible assumption) | assumption)
                have q151 : x5_1 < (l1.length : Int) := of_decide_eq_true (by first | (with_reducible assumption) | assumption)
                obtain ⟨ad151, e151, hx151_0, hx151_1, hx151_2⟩ := at_T36 HR1.out x5_1 p151 q151
                cases e151
                replace p151 := eq_true p151
                replace q151 := eq_true q151
                go_wp2
                repeat (go_quiet (fail); try go_wp2)
                go_ret
                exact ⟨by first | rfl | (simp; done) | (simp [*]; done), by repeat (first | exact Drawn0.refl _ | apply Drawn0.step)⟩
              · rw [if_neg c7] at H
                have c7b0 : (!((((rd_T36 l0 x5_1).f0).toList) == (((rd_T36 l1 x5_1).f0).toList)) || (!(((rd_T36 l0 x5_1).f1) == ((rd_T36 l1 x5_1).f1)) || (!(((rd_T36 l0 x5_1).f2) == ((rd_T36 l1 x5_1).f2))))) = false := by simpa using c7
                clear c7
                have H' := Aside0.mk H
                clear H
                have p150 : 0 ≤ (x5_1 : Int) := of_decide_eq_true (by first | (with_reducible assumption) | assumption)
                have q150 : x5_1 < (l0.length : Int) := of_decide_eq_true (by first | (with_reducible assumption) | assumption)
                obtain ⟨ad150, e150, hx150_0, hx150_1, hx150_2⟩ := at_T36 HR0.out x5_1 p150 q150
                cases e150
                replace p150 := eq_true p150
                replace q150 := eq_true q150
                have p151 : 0 ≤ (x5_1 : Int) := of_decide_eq_true (by first | (with_reducible assumption) | assumption)
                have q151 : x5_1 < (l1.length : Int) := of_decide_eq_true (by first | (with_reducible assumption) | assumption)
                obtain ⟨ad151, e151, hx151_0, hx151_1, hx151_2⟩ := at_T36 HR1.out x5_1 p151 q151
                cases e151
                replace p151 := eq_true p151
                replace q151 := eq_true q151
                go_wp2
                repeat (go_quiet (fail); try go_wp2)
                go_roundg k1
                case measure => have := HK1.out; omega
                case rel => exact ⟨(wrap64 (x5_1 + 1)), (by first | rfl | (simp; done) | (simp [*]; done)), H', ⟨by have := HK1.out; omega⟩, by repeat (first | exact Drawn0.refl _ | apply Drawn0.step)⟩
            · rw [if_neg c6] at H
              exact absurd H (by simp)
          · rw [if_neg c5] at H
            exact absurd H (by simp)
        · rw [if_neg c4] at H
          have c4b0 : decide (x5_1 < (l0.length : Int)) = false := decide_eq_false c4
          clear c4
          obtain rfl := Option.some.inj H
          go_wp2
          repeat (go_quiet (fail); try go_wp2)
          go_ret
          exact ⟨by first | rfl | (simp; done) | (simp [*]; done), by repeat (first | exact Drawn0.refl _ | apply Drawn0.step)⟩
  · rw [if_neg c3] at H
    have c3b0 : ((l0.length : Int) == (l1.length : Int)) = false := beq_eq_false_iff_ne.mpr c3
    have c3b1 : ((l0.length : Int) != (l1.length : Int)) = true := bne_iff_ne.mpr c3
    have c3b2 : (l0.length == l1.length) = false := by first | simpa using c3 | (simp at c3 ⊢; omega)
    obtain rfl := Option.some.inj H
    go_enter Try.func18, Try.ntmps18
    go_wp2
    repeat (go_quiet (fail); try go_wp2)
    go_ret
    exact ⟨by first | rfl | (simp; done) | (simp [*]; done), by repeat (first | exact Drawn0.refl _ | apply Drawn0.step)⟩

/-! ### cotterref07_Same: function 14 -/
def cotterref07_Same.f (k : Nat) (a0_0 : ByteArray) (l0_1 : List Int) (l0_2 : List (S36)) (a1_0 : ByteArray) (l1_1 : List Int) (l1_2 : List (S36)) : Option (Bool) := if a0_0.toList = a1_0.toList then ((cotterref06_SameData.f k l0_1 l1_1).bind fun t154 => (if t154 = true then ((cotterref06_SameSyms.f k l0_2 l1_2).bind fun t155 => (some t155)) else (some false))) else (some false)
set_option maxHeartbeats 8000000 in
set_option maxRecDepth 100000 in
theorem cotterref07_Same.calls (k : Nat) (a0_0 : ByteArray) (A0_1 : Option Addr) (c0_1 : Nat) (l0_1 : List Int) (A0_2 : Option Addr) (c0_2 : Nat) (l0_2 : List (S36)) (a1_0 : ByteArray) (A1_1 : Option Addr) (c1_1 : Nat) (l1_1 : List Int) (A1_2 : Option Addr) (c1_2 : Nat) (l1_2 : List (S36)) (r : Bool) (w : World) (hr0_1 : Kd.C (Kd.int .i64) w A0_1 l0_1.length l0_1) (hc0_1 : l0_1.length ≤ c0_1) (hr0_2 : Kd.C k36 w A0_2 l0_2.length l0_2) (hc0_2 : l0_2.length ≤ c0_2) (hr1_1 : Kd.C (Kd.int .i64) w A1_1 l1_1.length l1_1) (hc1_1 : l1_1.length ≤ c1_1) (hr1_2 : Kd.C k36 w A1_2 l1_2.length l1_2) (hc1_2 : l1_2.length ≤ c1_2) (h : cotterref07_Same.f k a0_0 l0_1 l0_2 a1_0 l1_1 l1_2 = some r) :
    Calls Try.prog 14 #[.agg #[.string a0_0, .slice A0_1 l0_1.length c0_1, .slice A0_2 l0_2.length c0_2], .agg #[.string a1_0, .slice A1_1 l1_1.length c1_1, .slice A1_2 l1_2.length c1_2]] w fun e w' => e = .returned (.bool r) ∧ Below w.heap.size w w' := by
  have hu29 := Try.underlying29
  have HR0_1 := Aside0.mk hr0_1
  have HC0_1 := Aside0.mk hc0_1
  clear hr0_1 hc0_1
  have HR0_2 := Aside0.mk hr0_2
  have HC0_2 := Aside0.mk hc0_2
  clear hr0_2 hc0_2
  have HR1_1 := Aside0.mk hr1_1
  have HC1_1 := Aside0.mk hc1_1
  clear hr1_1 hc1_1
  have HR1_2 := Aside0.mk hr1_2
  have HC1_2 := Aside0.mk hc1_2
  clear hr1_2 hc1_2
  have HB := Aside0.mk (Below.refl w.heap.size w)
  have H : (if a0_0.toList = a1_0.toList then ((cotterref06_SameData.f k l0_1 l1_1).bind fun t154 => (if t154 = true then ((cotterref06_SameSyms.f k l0_2 l1_2).bind fun t155 => (some t155)) else (some false))) else (some false)) = some r := h
  clear h
  by_cases c3 : a0_0.toList = a1_0.toList
  · rw [if_pos c3] at H
    have c3b0 : (a0_0.toList == a1_0.toList) = true := beq_iff_eq.mpr c3
    have c3b1 : (a0_0.toList != a1_0.toList) = false := bne_eq_false_iff_eq.mpr c3
    clear c3
    replace H := Option.bind_eq_some_iff.mp H
    obtain ⟨t154, A40, H⟩ := H
    replace H : (if t154 = true then ((cotterref06_SameSyms.f k l0_2 l1_2).bind fun t155 => (some t155)) else (some false)) = some r := H
    have A4 := Aside0.mk A40
    clear A40
    by_cases c5 : t154 = true
    · subst c5
      have H1 : ((cotterref06_SameSyms.f k l0_2 l1_2).bind fun t155 => (some t155)) = some r := by rw [if_pos rfl] at H; exact H
      clear H
      have H := H1
      clear H1
      replace H := Option.bind_eq_some_iff.mp H
      obtain ⟨t155, A60, H⟩ := H
      replace H : (some t155) = some r := H
      have A6 := Aside0.mk A60
      clear A60
      obtain rfl := Option.some.inj H
      go_enter Try.func14, Try.ntmps14
      go_wp2_with (first | ((with_reducible refine gate_dst (N := 2) rfl ?_); refine box_event ?hg (N := 2) ?hd (cs := #[.string a0_0, .slice A0_1 l0_1.length c0_1, .slice A0_2 l0_2.length c0_2]) (t := 29) ?hr ?_; (case hd => rfl); (case hg => rfl); (case hr => first | (go_simp; done) | (go_simp; rfl)); intro gb152 hg w7 hbox hb; have n0_ := Aside0.mk (below_step (by repeat (first | (with_reducible first | exact HB.out | apply below_alloc | apply pw_below_drewN | apply below_drew1) | exact HB.out)) hb); have n1_ := Aside0.mk (hbox); have n2_ := Aside0.mk ((by rw [hg]; exact (below_size (by repeat (first | (with_reducible first | exact HB.out | apply below_alloc | apply pw_below_drewN | apply below_drew1) | exact HB.out))) : w.heap.size ≤ gb152)); have n3_ := Aside0.mk ((by rw [hg]; exact (below_size (by repeat (first | (with_reducible first | exact HB.out | apply below_alloc | apply pw_below_drewN | apply below_drew1) | exact HB.out))) : w.heap.size ≤ gb152)); clear HB; have HB := n0_; have BK152 := n1_; have GW152 := n2_; have GE152 := n3_; clear n0_ n1_ n2_ n3_; clear hb hbox hg) | ((with_reducible refine gate_dst (N := 3) rfl ?_); refine box_event ?hg (N := 3) ?hd (cs := #[.string a1_0, .slice A1_1 l1_1.length c1_1, .slice A1_2 l1_2.length c1_2]) (t := 29) ?hr ?_; (case hd => rfl); (case hg => rfl); (case hr => first | (go_simp; done) | (go_simp; rfl)); intro gb153 hg w8 hbox hb; have n0_ := Aside0.mk (blk_below (g := gb152) (o := .cells #[.string a0_0, .slice A0_1 l0_1.length c0_1, .slice A0_2 l0_2.length c0_2] 29 (0, 0)) (by (with_reducible repeat (first | refine blk_drewN ?_ _ | refine blk_drew ?_ | refine blk_alloc ?_ _)); exact BK152.out) hb); have n1_ := Aside0.mk (below_step (by repeat (first | (with_reducible first | exact HB.out | apply below_alloc | apply pw_below_drewN | apply below_drew1 | refine below_set ?_ GE152.out) | exact HB.out)) hb); have n2_ := Aside0.mk (hbox); have n3_ := Aside0.mk ((by rw [hg]; exact (below_size (by repeat (first | (with_reducible first | exact HB.out | apply below_alloc | apply pw_below_drewN | apply below_drew1 | refine below_set ?_ GE152.out) | exact HB.out))) : w.heap.size ≤ gb153)); have n4_ := Aside0.mk ((by rw [hg]; exact (below_size (by repeat (first | (with_reducible first | exact HB.out | apply below_alloc | apply pw_below_drewN | apply below_drew1 | refine below_set ?_ GE152.out) | exact HB.out))) : w.heap.size ≤ gb153)); have n5_ := Aside0.mk ((by rw [hg]; exact Nat.ne_of_lt (blk_lt (g := gb152) (o := .cells #[.string a0_0, .slice A0_1 l0_1.length c0_1, .slice A0_2 l0_2.length c0_2] 29 (0, 0)) (by (with_reducible repeat (first | refine blk_drewN ?_ _ | refine blk_drew ?_ | refine blk_alloc ?_ _)); exact BK152.out)) : gb152 ≠ gb153)); have n6_ := Aside0.mk ((by rw [hg]; exact Nat.ne_of_gt (blk_lt (g := gb152) (o := .cells #[.string a0_0, .slice A0_1 l0_1.length c0_1, .slice A0_2 l0_2.length c0_2] 29 (0, 0)) (by (with_reducible repeat (first | refine blk_drewN ?_ _ | refine blk_drew ?_ | refine blk_alloc ?_ _)); exact BK152.out)) : gb153 ≠ gb152)); clear BK152; clear HB; have BK152 := n0_; have HB := n1_; have BK153 := n2_; have GW153 := n3_; have GE153 := n4_; have NB152_153 := n5_; have NB153_152 := n6_; clear n0_ n1_ n2_ n3_ n4_ n5_ n6_; clear hb hbox hg; have hnb9 := NB152_153.out; have hnc9 := NB153_152.out; have hcz10_0 : w8.cell? ⟨gb152, 0, none⟩ = some (.string a0_0) := (blk_cell BK152.out 0).trans rfl; have hcz10_1 : w8.cell? ⟨gb152, 1, none⟩ = some (.slice A0_1 l0_1.length c0_1) := (blk_cell BK152.out 1).trans rfl; have hcz10_2 : w8.cell? ⟨gb152, 2, none⟩ = some (.slice A0_2 l0_2.length c0_2) := (blk_cell BK152.out 2).trans rfl; have hfz10_0 := blk_frozen BK152.out 0; have hfz10_1 := blk_frozen BK152.out 1; have hfz10_2 := blk_frozen BK152.out 2; have hcz11_0 : w8.cell? ⟨gb153, 0, none⟩ = some (.string a1_0) := (blk_cell BK153.out 0).trans rfl; have hcz11_1 : w8.cell? ⟨gb153, 1, none⟩ = some (.slice A1_1 l1_1.length c1_1) := (blk_cell BK153.out 1).trans rfl; have hcz11_2 : w8.cell? ⟨gb153, 2, none⟩ = some (.slice A1_2 l1_2.length c1_2) := (blk_cell BK153.out 2).trans rfl; have hfz11_0 := blk_frozen BK153.out 0; have hfz11_1 := blk_frozen BK153.out 1; have hfz11_2 := blk_frozen BK153.out 2) | (go_at_call 16; (with_reducible refine (cotterref06_SameData.calls k _ _ l0_1 _ _ l1_1 true _ ?side1 ?side2 ?side3 ?side4 A4.out).mono ?_); (case side1 => repeat (first | exact (Kd.C_below HR0_1.out HB.out) | (with_reducible refine Kd.C_alloc ?_ _) | (with_reducible refine Kd.C_drewN ?_ _) | (with_reducible refine Kd.C_drew ?_))); (case side2 => exact HC0_1.out); (case side3 => repeat (first | exact (Kd.C_below HR1_1.out HB.out) | (with_reducible refine Kd.C_alloc ?_ _) | (with_reducible refine Kd.C_drewN ?_ _) | (with_reducible refine Kd.C_drew ?_))); (case side4 => exact HC1_1.out); rintro e w' ⟨rfl, ⟨nd, rfl⟩⟩) | (go_at_call 18; (with_reducible refine (cotterref06_SameSyms.calls k _ _ l0_2 _ _ l1_2 t155 _ ?side1 ?side2 ?side3 ?side4 A6.out).mono ?_); (case side1 => repeat (first | exact (Kd.C_below HR0_2.out (by repeat (first | (with_reducible first | exact HB.out | apply below_alloc | apply pw_below_drewN | apply below_drew1 | refine below_set ?_ GE152.out | refine below_set ?_ GE153.out) | exact HB.out))) | (with_reducible refine Kd.C_alloc ?_ _) | (with_reducible refine Kd.C_drewN ?_ _) | (with_reducible refine Kd.C_drew ?_))); (case side2 => exact HC0_2.out); (case side3 => repeat (first | exact (Kd.C_below HR1_2.out (by repeat (first | (with_reducible first | exact HB.out | apply below_alloc | apply pw_below_drewN | apply below_drew1 | refine below_set ?_ GE152.out | refine below_set ?_ GE153.out) | exact HB.out))) | (with_reducible refine Kd.C_alloc ?_ _) | (with_reducible refine Kd.C_drewN ?_ _) | (with_reducible refine Kd.C_drew ?_))); (case side4 => exact HC1_2.out); rintro e w' ⟨rfl, ⟨nd, rfl⟩⟩))
      go_ret
      exact ⟨by first | rfl | (simp [errW_none, errW_some] <;> rfl) | (simp [*, errW_none, errW_some] <;> rfl), by repeat (first | (with_reducible first | exact HB.out | apply below_alloc | apply pw_below_drewN | apply below_drew1 | refine below_set ?_ GE152.out | refine below_set ?_ GE153.out) | exact HB.out)⟩
    · replace c5 := Bool.eq_false_iff.mpr c5
      subst c5
      have H1 : (some false) = some r := by rw [if_neg (show ¬ (false = true) by decide)] at H; exact H
      clear H
      have H := H1
      clear H1
      obtain rfl := Option.some.inj H
      go_enter Try.func14, Try.ntmps14
      go_wp2_with (first | ((with_reducible refine gate_dst (N := 2) rfl ?_); refine box_event ?hg (N := 2) ?hd (cs := #[.string a0_0, .slice A0_1 l0_1.length c0_1, .slice A0_2 l0_2.length c0_2]) (t := 29) ?hr ?_; (case hd => rfl); (case hg => rfl); (case hr => first | (go_simp; done) | (go_simp; rfl)); intro gb152 hg w12 hbox hb; have n0_ := Aside0.mk (below_step (by repeat (first | (with_reducible first | exact HB.out | apply below_alloc | apply pw_below_drewN | apply below_drew1) | exact HB.out)) hb); have n1_ := Aside0.mk (hbox); have n2_ := Aside0.mk ((by rw [hg]; exact (below_size (by repeat (first | (with_reducible first | exact HB.out | apply below_alloc | apply pw_below_drewN | apply below_drew1) | exact HB.out))) : w.heap.size ≤ gb152)); have n3_ := Aside0.mk ((by rw [hg]; exact (below_size (by repeat (first | (with_reducible first | exact HB.out | apply below_alloc | apply pw_below_drewN | apply below_drew1) | exact HB.out))) : w.heap.size ≤ gb152)); clear HB; have HB := n0_; have BK152 := n1_; have GW152 := n2_; have GE152 := n3_; clear n0_ n1_ n2_ n3_; clear hb hbox hg) | ((with_reducible refine gate_dst (N := 3) rfl ?_); refine box_event ?hg (N := 3) ?hd (cs := #[.string a1_0, .slice A1_1 l1_1.length c1_1, .slice A1_2 l1_2.length c1_2]) (t := 29) ?hr ?_; (case hd => rfl); (case hg => rfl); (case hr => first | (go_simp; done) | (go_simp; rfl)); intro gb153 hg w13 hbox hb; have n0_ := Aside0.mk (blk_below (g := gb152) (o := .cells #[.string a0_0, .slice A0_1 l0_1.length c0_1, .slice A0_2 l0_2.length c0_2] 29 (0, 0)) (by (with_reducible repeat (first | refine blk_drewN ?_ _ | refine blk_drew ?_ | refine blk_alloc ?_ _)); exact BK152.out) hb); have n1_ := Aside0.mk (below_step (by repeat (first | (with_reducible first | exact HB.out | apply below_alloc | apply pw_below_drewN | apply below_drew1 | refine below_set ?_ GE152.out) | exact HB.out)) hb); have n2_ := Aside0.mk (hbox); have n3_ := Aside0.mk ((by rw [hg]; exact (below_size (by repeat (first | (with_reducible first | exact HB.out | apply below_alloc | apply pw_below_drewN | apply below_drew1 | refine below_set ?_ GE152.out) | exact HB.out))) : w.heap.size ≤ gb153)); have n4_ := Aside0.mk ((by rw [hg]; exact (below_size (by repeat (first | (with_reducible first | exact HB.out | apply below_alloc | apply pw_below_drewN | apply below_drew1 | refine below_set ?_ GE152.out) | exact HB.out))) : w.heap.size ≤ gb153)); have n5_ := Aside0.mk ((by rw [hg]; exact Nat.ne_of_lt (blk_lt (g := gb152) (o := .cells #[.string a0_0, .slice A0_1 l0_1.length c0_1, .slice A0_2 l0_2.length c0_2] 29 (0, 0)) (by (with_reducible repeat (first | refine blk_drewN ?_ _ | refine blk_drew ?_ | refine blk_alloc ?_ _)); exact BK152.out)) : gb152 ≠ gb153)); have n6_ := Aside0.mk ((by rw [hg]; exact Nat.ne_of_gt (blk_lt (g := gb152) (o := .cells #[.string a0_0, .slice A0_1 l0_1.length c0_1, .slice A0_2 l0_2.length c0_2] 29 (0, 0)) (by (with_reducible repeat (first | refine blk_drewN ?_ _ | refine blk_drew ?_ | refine blk_alloc ?_ _)); exact BK152.out)) : gb153 ≠ gb152)); clear BK152; clear HB; have BK152 := n0_; have HB := n1_; have BK153 := n2_; have GW153 := n3_; have GE153 := n4_; have NB152_153 := n5_; have NB153_152 := n6_; clear n0_ n1_ n2_ n3_ n4_ n5_ n6_; clear hb hbox hg; have hnb14 := NB152_153.out; have hnc14 := NB153_152.out; have hcz15_0 : w13.cell? ⟨gb152, 0, none⟩ = some (.string a0_0) := (blk_cell BK152.out 0).trans rfl; have hcz15_1 : w13.cell? ⟨gb152, 1, none⟩ = some (.slice A0_1 l0_1.length c0_1) := (blk_cell BK152.out 1).trans rfl; have hcz15_2 : w13.cell? ⟨gb152, 2, none⟩ = some (.slice A0_2 l0_2.length c0_2) := (blk_cell BK152.out 2).trans rfl; have hfz15_0 := blk_frozen BK152.out 0; have hfz15_1 := blk_frozen BK152.out 1; have hfz15_2 := blk_frozen BK152.out 2; have hcz16_0 : w13.cell? ⟨gb153, 0, none⟩ = some (.string a1_0) := (blk_cell BK153.out 0).trans rfl; have hcz16_1 : w13.cell? ⟨gb153, 1, none⟩ = some (.slice A1_1 l1_1.length c1_1) := (blk_cell BK153.out 1).trans rfl; have hcz16_2 : w13.cell? ⟨gb153, 2, none⟩ = some (.slice A1_2 l1_2.length c1_2) := (blk_cell BK153.out 2).trans rfl; have hfz16_0 := blk_frozen BK153.out 0; have hfz16_1 := blk_frozen BK153.out 1; have hfz16_2 := blk_frozen BK153.out 2) | (go_at_call 16; (with_reducible refine (cotterref06_SameData.calls k _ _ l0_1 _ _ l1_1 false _ ?side1 ?side2 ?side3 ?side4 A4.out).mono ?_); (case side1 => repeat (first | exact (Kd.C_below HR0_1.out HB.out) | (with_reducible refine Kd.C_alloc ?_ _) | (with_reducible refine Kd.C_drewN ?_ _) | (with_reducible refine Kd.C_drew ?_))); (case side2 => exact HC0_1.out); (case side3 => repeat (first | exact (Kd.C_below HR1_1.out HB.out) | (with_reducible refine Kd.C_alloc ?_ _) | (with_reducible refine Kd.C_drewN ?_ _) | (with_reducible refine Kd.C_drew ?_))); (case side4 => exact HC1_1.out); rintro e w' ⟨rfl, ⟨nd, rfl⟩⟩))
      go_ret
      exact ⟨by first | rfl | (simp [errW_none, errW_some] <;> rfl) | (simp [*, errW_none, errW_some] <;> rfl), by repeat (first | (with_reducible first | exact HB.out | apply below_alloc | apply pw_below_drewN | apply below_drew1 | refine below_set ?_ GE152.out | refine below_set ?_ GE153.out) | exact HB.out)⟩
  · rw [if_neg c3] at H
    have c3b0 : (a0_0.toList == a1_0.toList) = false := beq_eq_false_iff_ne.mpr c3
    have c3b1 : (a0_0.toList != a1_0.toList) = true := bne_iff_ne.mpr c3
    obtain rfl := Option.some.inj H
    go_enter Try.func14, Try.ntmps14
    go_wp2_with (first | ((with_reducible refine gate_dst (N := 2) rfl ?_); refine box_event ?hg (N := 2) ?hd (cs := #[.string a0_0, .slice A0_1 l0_1.length c0_1, .slice A0_2 l0_2.length c0_2]) (t := 29) ?hr ?_; (case hd => rfl); (case hg => rfl); (case hr => first | (go_simp; done) | (go_simp; rfl)); intro gb152 hg w17 hbox hb; have n0_ := Aside0.mk (below_step (by repeat (first | (with_reducible first | exact HB.out | apply below_alloc | apply pw_below_drewN | apply below_drew1) | exact HB.out)) hb); have n1_ := Aside0.mk (hbox); have n2_ := Aside0.mk ((by rw [hg]; exact (below_size (by repeat (first | (with_reducible first | exact HB.out | apply below_alloc | apply pw_below_drewN | apply below_drew1) | exact HB.out))) : w.heap.size ≤ gb152)); have n3_ := Aside0.mk ((by rw [hg]; exact (below_size (by repeat (first | (with_reducible first | exact HB.out | apply below_alloc | apply pw_below_drewN | apply below_drew1) | exact HB.out))) : w.heap.size ≤ gb152)); clear HB; have HB := n0_; have BK152 := n1_; have GW152 := n2_; have GE152 := n3_; clear n0_ n1_ n2_ n3_; clear hb hbox hg) | ((with_reducible refine gate_dst (N := 3) rfl ?_); refine box_event ?hg (N := 3) ?hd (cs := #[.string a1_0, .slice A1_1 l1_1.length c1_1, .slice A1_2 l1_2.length c1_2]) (t := 29) ?hr ?_; (case hd => rfl); (case hg => rfl); (case hr => first | (go_simp; done) | (go_simp; rfl)); intro gb153 hg w18 hbox hb; have n0_ := Aside0.mk (blk_below (g := gb152) (o := .cells #[.string a0_0, .slice A0_1 l0_1.length c0_1, .slice A0_2 l0_2.length c0_2] 29 (0, 0)) (by (with_reducible repeat (first | refine blk_drewN ?_ _ | refine blk_drew ?_ | refine blk_alloc ?_ _)); exact BK152.out) hb); have n1_ := Aside0.mk (below_step (by repeat (first | (with_reducible first | exact HB.out | apply below_alloc | apply pw_below_drewN | apply below_drew1 | refine below_set ?_ GE152.out) | exact HB.out)) hb); have n2_ := Aside0.mk (hbox); have n3_ := Aside0.mk ((by rw [hg]; exact (below_size (by repeat (first | (with_reducible first | exact HB.out | apply below_alloc | apply pw_below_drewN | apply below_drew1 | refine below_set ?_ GE152.out) | exact HB.out))) : w.heap.size ≤ gb153)); have n4_ := Aside0.mk ((by rw [hg]; exact (below_size (by repeat (first | (with_reducible first | exact HB.out | apply below_alloc | apply pw_below_drewN | apply below_drew1 | refine below_set ?_ GE152.out) | exact HB.out))) : w.heap.size ≤ gb153)); have n5_ := Aside0.mk ((by rw [hg]; exact Nat.ne_of_lt (blk_lt (g := gb152) (o := .cells #[.string a0_0, .slice A0_1 l0_1.length c0_1, .slice A0_2 l0_2.length c0_2] 29 (0, 0)) (by (with_reducible repeat (first | refine blk_drewN ?_ _ | refine blk_drew ?_ | refine blk_alloc ?_ _)); exact BK152.out)) : gb152 ≠ gb153)); have n6_ := Aside0.mk ((by rw [hg]; exact Nat.ne_of_gt (blk_lt (g := gb152) (o := .cells #[.string a0_0, .slice A0_1 l0_1.length c0_1, .slice A0_2 l0_2.length c0_2] 29 (0, 0)) (by (with_reducible repeat (first | refine blk_drewN ?_ _ | refine blk_drew ?_ | refine blk_alloc ?_ _)); exact BK152.out)) : gb153 ≠ gb152)); clear BK152; clear HB; have BK152 := n0_; have HB := n1_; have BK153 := n2_; have GW153 := n3_; have GE153 := n4_; have NB152_153 := n5_; have NB153_152 := n6_; clear n0_ n1_ n2_ n3_ n4_ n5_ n6_; clear hb hbox hg; have hnb19 := NB152_153.out; have hnc19 := NB153_152.out; have hcz20_0 : w18.cell? ⟨gb152, 0, none⟩ = some (.string a0_0) := (blk_cell BK152.out 0).trans rfl; have hcz20_1 : w18.cell? ⟨gb152, 1, none⟩ = some (.slice A0_1 l0_1.length c0_1) := (blk_cell BK152.out 1).trans rfl; have hcz20_2 : w18.cell? ⟨gb152, 2, none⟩ = some (.slice A0_2 l0_2.length c0_2) := (blk_cell BK152.out 2).trans rfl; have hfz20_0 := blk_frozen BK152.out 0; have hfz20_1 := blk_frozen BK152.out 1; have hfz20_2 := blk_frozen BK152.out 2; have hcz21_0 : w18.cell? ⟨gb153, 0, none⟩ = some (.string a1_0) := (blk_cell BK153.out 0).trans rfl; have hcz21_1 : w18.cell? ⟨gb153, 1, none⟩ = some (.slice A1_1 l1_1.length c1_1) := (blk_cell BK153.out 1).trans rfl; have hcz21_2 : w18.cell? ⟨gb153, 2, none⟩ = some (.slice A1_2 l1_2.length c1_2) := (blk_cell BK153.out 2).trans rfl; have hfz21_0 := blk_frozen BK153.out 0; have hfz21_1 := blk_frozen BK153.out 1; have hfz21_2 := blk_frozen BK153.out 2))
    go_ret
    exact ⟨by first | rfl | (simp [errW_none, errW_some] <;> rfl) | (simp [*, errW_none, errW_some] <;> rfl), by repeat (first | (with_reducible first | exact HB.out | apply below_alloc | apply pw_below_drewN | apply below_drew1 | refine below_set ?_ GE152.out | refine below_set ?_ GE153.out) | exact HB.out)⟩

end Go.Proofs.Yteaealmnmmcbpaa.M

