/-
  Texts of the proofs of ImageWrites, cut to what the proofs reach and packed by a program of this session (wip/packs.py). Each part begins with what it says; conditions: those told there.
-/
import Derived.WalkSmall
import Derived.Test.YtimhcpmfhebbhaaDoorPWA6
namespace Go.Proofs.YtimhcpmfhebbhaaDoor.M
set_option maxRecDepth 100000
open Go.RowKit Go.Proofs.YtimhcpmfhebbhaaDoorW.PrintWords Go.Proofs.YtimhcpmfhebbhaaDoorW.PrintLast Go.Proofs.YtimhcpmfhebbhaaDoor.Num Go.Proofs.YtimhcpmfhebbhaaDoor.Seven Go.Proofs.YtimhcpmfhebbhaaDoor.Word1 Go.Proofs.YtimhcpmfhebbhaaDoor.Obj
set_option linter.unusedVariables false
set_option linter.unusedSimpArgs false
/-- How a method ends where something lacks. -/
abbrev PAN : Ending := .panicked [{ v := .iface 105 (.agg #[]), recovered := false }]
def St66 (W : World) (g : Nat) (s : ByteArray) (p : Nat) : Prop := W.heap[g]? = some (.cells #[.string s, .int .i64 p] 111 (0, 0))
/-- A reader's step. -/
def Step {α : Type} (w0 W : World) (g : Nat) (s : ByteArray) (v : α → Value) (o : Option (α × Nat)) (e : Ending) (W' : World) : Prop :=
 (match o with | some x => e = .returned (v x.1) ∧ St66 W' g s x.2 | none => e = PAN) ∧ Below w0.heap.size w0 W' ∧ KeepBut W W' g none
theorem below_in2 {w0 W W1 : World} (h : Below w0.heap.size w0 W) (k : Below W.heap.size W W1) : Below w0.heap.size w0 W1 := below_then h h.size k
theorem Step.some_ {α : Type} {w0 W : World} {g : Nat} {s : ByteArray} {v : α → Value} {o : Option (α × Nat)} {f : FuncId} {args : Array Value} {x : α × Nat} (E : o = some x) (h : Calls Tryd.prog f args W fun e W' => e = .returned (v x.1) ∧ St66 W' g s x.2 ∧ Below w0.heap.size w0 W' ∧ KeepBut W W' g none) : Calls Tryd.prog f args W (Step w0 W g s v o) := by
 subst E
 exact h.mono fun e W' h => ⟨⟨h.1, h.2.1⟩, h.2.2⟩
theorem Step.none_ {α : Type} {w0 W : World} {g : Nat} {s : ByteArray} {v : α → Value} {o : Option (α × Nat)} {f : FuncId} {args : Array Value} (E : o = none) (h : Calls Tryd.prog f args W fun e W' => e = PAN ∧ Below w0.heap.size w0 W' ∧ KeepBut W W' g none) : Calls Tryd.prog f args W (Step w0 W g s v o) := by
 subst E
 exact h.mono fun e W' h => h
/-- A call that answers or panics, in a region that draws its order. -/
theorem goesP_ {P : Program} {Q : Exit → Act → World → Prop} {ops : Array Oper} {oi : Oper} {N : Option Tmp} {a : Act} {w : World} {K : Act → World → Prop} {f : FuncId} {fn : Func} {xa : Array Operand} {ts : Array TypeId} (hf : P.funcs[f]? = some fn) (hname : (fn.name == "runtime.NumGoroutine") = false) (hb : fn.body.isSome = true) (args : Array Value)
 (hw : Region.wanted oi (yielded ops a.tmps) = true) (hN : oi.dst = N) (hop : oi.op = .call { callee := .value (.func f), args := xa, argTypes := ts }) (hargs : xa.map a.eval = args)
 (h : Calls P f args w fun e w' => (∃ v, e = .returned v ∧ K (a.put N v) w') ∨ (∃ c, e = .panicked c ∧ Q (.panic c) a w')) : if Region.wanted oi (yielded ops a.tmps) = true then Oper.wp P oi a w K Q else K (a.put N undef) w := by
 have hrun : (execOp a.eval oi).run P w = .ok (.enter f args) w := by
  have he := enters_ hf hname hb args w
  unfold execOp
  simp [hop, resolve, Deferred.ofValue, invoke, Act.eval, hargs, he]
 rw [if_pos hw]
 subst hN
 unfold Oper.wp
 rw [hrun, Oper.upon_enter]
 refine h.mono fun e w'' hh => ?_
 rcases hh with ⟨v, rfl, hk⟩ | ⟨c, rfl, hq⟩
 ·exact hk
 ·exact hq
theorem take_c (w0 W : World) (g : Nat) (s : ByteArray) (p : Nat) (n : Int) (hs : s.size ≤ 281474976710656) (hI : St66 W g s p) (hg : w0.heap.size ≤ g) (hB : Below w0.heap.size w0 W) (hp : p ≤ s.size) (hn : 0 ≤ n) (hn2 : n ≤ 281474976710656) :
 Calls Tryd.prog 56 #[.pointer (some ⟨g, 0, none⟩), .int .i64 n] W (Step w0 W g s Value.string (bytesA s n.toNat p)) := by
 have HI := z4 hI
 have HB := z4 hB
 have c0 : W.cell? ⟨g, 0, none⟩ = some (.string s) := (zC hI 0).trans rfl
 have c1 : W.cell? ⟨g, 1, none⟩ = some (.int .i64 p) := (zC hI 1).trans rfl
 have f1 := zF hI 1
 have w1 : wrap64 ((s.size : Int) - p) = (s.size : Int) - p := wrap64_id (by omega) (by omega)
 have w2 : wrap64 ((p : Int) + n) = (p : Int) + n := wrap64_id (by omega) (by omega)
 have w3 : wrap64 ((p : Int) + n - n) = (p : Int) := by rw [wrap64_id (by omega) (by omega)]; omega
 have w4 : wrap64 (p : Int) = p := wrap64_id (by omega) (by omega)
 have w5 : IntKind.i64.wrap (p : Int) = p := by rw [wrap_i64, w4]
 by_cases hc : p + n.toNat ≤ s.size
 case pos =>
  have E := z4 (show bytesA s n.toNat p = some (s.extract p (p + n.toNat), p + n.toNat) by unfold bytesA; rw [if_pos hc])
  have d1 : decide ((s.size : Int) - p < n) = false := decide_eq_false (by omega)
  have d2 : (0 ≤ (p : Int)) = True := eq_true (by omega)
  have d3 : ((p : Int) ≤ (p : Int) + n) = True := eq_true (by omega)
  have d4 : ((p : Int) + n ≤ (s.size : Int)) = True := eq_true (by omega)
  have e1 := z4 (show ((p : Int) + n).toNat = p + n.toNat by omega)
  have e2 := z4 (show (p : Int) + n = ((p + n.toNat : Nat) : Int) by omega)
  have GG := z4 hg
  clear hs hI hg hB hp hn hn2 hc
  refine Step.some_ E.out ?_
  go_enter Tryd.func56, Tryd.ntmps56
  go_wp2
  go_region
  go_wp2
  go_region
  go_wp2
  go_ret
  rw [e1.out, e2.out]
  exact ⟨rfl, zI (blk_put (zI HI.out) 1 _ rfl), below_drew (zJ (below_drew HB.out) GG.out), keep_drew (KeepBut.set_ (keep_drew (KeepBut.refl W g none)) 1 _)⟩
 case neg =>
  have E := z4 (show bytesA s n.toNat p = none by unfold bytesA; rw [if_neg hc])
  have d1 : decide ((s.size : Int) - p < n) = true := decide_eq_true (by omega)
  clear hs hI hg hB hp hn hn2 hc w2 w3 w4 w5
  refine Step.none_ E.out ?_
  go_enter Tryd.func56, Tryd.ntmps56
  go_wp2
  go_region
  go_wp2
  exact ⟨rfl, rfl, below_drew HB.out, keep_drew (KeepBut.refl W g none)⟩
theorem number_c (w0 W : World) (g : Nat) (s : ByteArray) (p : Nat) (most : Int) (hs : s.size ≤ 281474976710656) (hI : St66 W g s p) (hg : w0.heap.size ≤ g) (hB : Below w0.heap.size w0 W) (hp : p ≤ s.size) (hn : 0 ≤ most) (hn2 : most < 9223372036854775808) :
 Calls Tryd.prog 57 #[.pointer (some ⟨g, 0, none⟩), .int .i64 most] W (Step w0 W g s (fun n => .int .i64 n) (numA s most p)) := by
 have HI := z4 hI
 have HB := z4 hB
 have GG := z4 hg
 have c0 : W.cell? ⟨g, 0, none⟩ = some (.string s) := (zC hI 0).trans rfl
 have c1 : W.cell? ⟨g, 1, none⟩ = some (.int .i64 p) := (zC hI 1).trans rfl
 have SOF := z4 (show ∀ w', Below W.heap.size W w' → (w'.cell? ⟨g, 0, none⟩ = some (.string s) ∧ w'.cell? ⟨g, 1, none⟩ = some (.int .i64 p)) from fun w' hb => ⟨pw_cell_below hb c0, pw_cell_below hb c1⟩)
 have TK := z4 (take_f s p hs 25 (by omega))
 have wm : IntKind.u64.wrap most = most := wrap_u64_id hn (by omega)
 by_cases hc : (takeR s p).2.2 = 0 ∧ (takeR s p).1 ≤ most
 case pos =>
  obtain ⟨q, e1, h1, h2, h3, h4, h5⟩ := takeR_ok hc.1 hp
  have E := z4 (show numA s most p = some ((takeR s p).1, q) by unfold numA; rw [if_pos hc, e1, Int.toNat_natCast])
  obtain ⟨u, e2⟩ : ∃ u, (takeR s p).1 = u := ⟨_, rfl⟩
  have e3 : takeR s p = (u, (q : Int), 0) := by rw [← e1, ← e2, ← hc.1]
  rw [e2] at h3 h4 E
  rw [e3] at TK
  have d1 : decide (most < u) = false := decide_eq_false (by have := hc.2; rw [e2] at this; omega)
  have w1 : wrap64 u = u := wrap64_id (by omega) (by have := hc.2; rw [e2] at this; omega)
  clear hs hI hg hB hp hn hn2 hc e1 h1 h2 h3 h4 h5 e2 e3 c0 c1
  refine Step.some_ E.out ?_
  go_enter Tryd.func57, Tryd.ntmps57
  go_wp2
  go_region_held3 (fun w' => w'.cell? ⟨g, 0, none⟩ = some (.string s) ∧ w'.cell? ⟨g, 1, none⟩ = some (.int .i64 p)) (first | exact SOF.out _ HB4.out | exact SOF.out _ (zD (Below.refl _ _)))
   (first | (go_at_call 78; (with_reducible refine (word_Take.calls 25 s p u q 0 _ TK.out).mono ?_); rintro e w4 ⟨rfl, hb4⟩; have HB4 := z4 (below_in (zD (Below.refl _ _)) hb4.below)))
  all_goals
   have HI4 := z4 (blk_below HI.out HB4.out)
   have k1 : w4.cell? ⟨g, 1, none⟩ = some (.int .i64 p) := (zC HI4.out 1).trans rfl
   have k2 := zF HI4.out 1
   go_wp2
   go_ret
   exact ⟨by show Ending.returned (.int .i64 (wrap64 u)) = _; rw [w1], blk_put HI4.out 1 _ rfl, zJ (below_in HB.out HB4.out) GG.out, KeepBut.set_ (KeepBut.of_below HB4.out g none) 1 _⟩
 case neg =>
  have E := z4 (show numA s most p = none by unfold numA; rw [if_neg hc])
  obtain ⟨u, q, e, e3⟩ : ∃ u q e, takeR s p = (u, q, e) := ⟨_, _, _, rfl⟩
  rw [e3] at TK hc
  dsimp only at hc
  clear hs hI hg hB hp hn hn2 e3 c0 c1
  refine Step.none_ E.out ?_
  by_cases h0 : e = 0
  case pos =>
   subst h0
   have d1 : decide (most < u) = true := decide_eq_true (by omega)
   clear hc
   go_enter Tryd.func57, Tryd.ntmps57
   go_wp2
   go_region_held3 (fun w' => w'.cell? ⟨g, 0, none⟩ = some (.string s) ∧ w'.cell? ⟨g, 1, none⟩ = some (.int .i64 p)) (first | exact SOF.out _ HB4.out | exact SOF.out _ (zD (Below.refl _ _)))
    (first | (go_at_call 78; (with_reducible refine (word_Take.calls 25 s p u q 0 _ TK.out).mono ?_); rintro e w4 ⟨rfl, hb4⟩; have HB4 := z4 (below_in (zD (Below.refl _ _)) hb4.below)))
   all_goals
    go_wp2
    exact ⟨rfl, rfl, below_in HB.out HB4.out, KeepBut.of_below HB4.out g none⟩
  case neg =>
   have d0 : (e == 0) = false := z7 h0
   clear hc
   go_enter Tryd.func57, Tryd.ntmps57
   go_wp2
   go_region_held3 (fun w' => w'.cell? ⟨g, 0, none⟩ = some (.string s) ∧ w'.cell? ⟨g, 1, none⟩ = some (.int .i64 p)) (first | exact SOF.out _ HB4.out | exact SOF.out _ (zD (Below.refl _ _)))
    (first | (go_at_call 78; (with_reducible refine (word_Take.calls 25 s p u q e _ TK.out).mono ?_); rintro e_ w4 ⟨rfl, hb4⟩; have HB4 := z4 (below_in (zD (Below.refl _ _)) hb4.below)))
   all_goals
    go_wp2
    exact ⟨rfl, rfl, below_in HB.out HB4.out, KeepBut.of_below HB4.out g none⟩
theorem one_c (w0 W : World) (g : Nat) (s : ByteArray) (p : Nat) (hs : s.size ≤ 281474976710656) (hI : St66 W g s p) (hg : w0.heap.size ≤ g) (hB : Below w0.heap.size w0 W) (hp : p ≤ s.size) :
 Calls Tryd.prog 60 #[.pointer (some ⟨g, 0, none⟩)] W (Step w0 W g s (fun n => .int .i64 n) (oneA s p)) := by
 have TK := z4 (take_c w0 W g s p 1 hs hI hg hB hp (by omega) (by omega))
 by_cases hc : p + 1 ≤ s.size
 case pos =>
  have E := z4 (show oneA s p = some (bt s p, p + 1) by unfold oneA; rw [if_pos (show p < s.size from hc)])
  have hr := oneA_ok E.out
  rw [show bytesA s (1 : Int).toNat p = some (s.extract p (p + 1), p + 1) by unfold bytesA; rw [show (1 : Int).toNat = 1 from rfl, if_pos hc]] at TK
  have hz : (s.extract p (p + 1)).size = 1 := by simp [ByteArray.size_extract]; omega
  have hb := extract_one s p hc
  have w1 : wrap64 (bt s p) = bt s p := wrap64_id (by omega) (by omega)
  generalize s.extract p (p + 1) = x at TK hz hb
  have w2 : ((x[0]'(by omega)).toNat : Int) = bt s p := by rw [← hb]; exact bt_at x 0 (by simp; omega)
  have w3 : (0 : Nat) < x.size := by omega
  clear hr hs hI hg hB hp hc
  refine Step.some_ E.out ?_
  go_enter Tryd.func60, Tryd.ntmps60
  go_wp2_with (first | (go_at_call 56; refine TK.out.mono ?_; rintro e w4 ⟨⟨rfl, hi⟩, hb4, hk4⟩; have HI4 := z4 hi; have HB4 := z4 hb4; have HK4 := z4 hk4; clear hi hb4 hk4))
  go_ret
  exact ⟨by show Ending.returned (.int .i64 (wrap64 (bt s p))) = _; rw [w1], HI4.out, HB4.out, HK4.out⟩
 case neg =>
  have E := z4 (show oneA s p = none by unfold oneA; rw [if_neg (show ¬ p < s.size from hc)])
  rw [show bytesA s (1 : Int).toNat p = none by unfold bytesA; rw [show (1 : Int).toNat = 1 from rfl, if_neg hc]] at TK
  clear hs hI hg hB hp hc
  refine Step.none_ E.out ?_
  go_enter Tryd.func60, Tryd.ntmps60
  go_wp2_with (first | (go_at_call 56; refine TK.out.mono ?_; rintro e w4 ⟨rfl, hb4, hk4⟩; exact ⟨rfl, rfl, hb4, hk4⟩))
theorem wide_c (w0 W : World) (g : Nat) (s : ByteArray) (p : Nat) (hs : s.size ≤ 281474976710656) (hI : St66 W g s p) (hg : w0.heap.size ≤ g) (hB : Below w0.heap.size w0 W) (hp : p ≤ s.size) :
 Calls Tryd.prog 58 #[.pointer (some ⟨g, 0, none⟩)] W (Step w0 W g s (fun n => .int .i64 n) (wideA s p)) := by
 have TK := z4 (take_c w0 W g s p 8 hs hI hg hB hp (by omega) (by omega))
 rw [show (8 : Int).toNat = 8 from rfl] at TK
 cases e : bytesA s 8 p with
 | some x =>
  have E := z4 (show wideA s p = some ((numR x.1).1, x.2) by unfold wideA; rw [e]; rfl)
  have hb := bytesA_ok (x := x.1) (q := x.2) (by rw [e])
  rw [e] at TK
  obtain ⟨x, q⟩ := x
  dsimp only at hb
  have NF := z4 (number_f x (by omega) 9 (by omega))
  generalize numR x = y at NF E
  obtain ⟨y1, y2⟩ := y
  clear hs hI hg hB hp hb e
  refine Step.some_ E.out ?_
  go_enter Tryd.func58, Tryd.ntmps58
  go_wp2_with (first | (go_at_call 56; refine TK.out.mono ?_; rintro e w4 ⟨⟨rfl, hi⟩, hb4, hk4⟩; have HI4 := z4 hi; have HB4 := z4 hb4; have HK4 := z4 hk4; clear hi hb4 hk4) | (go_at_call 79; (with_reducible refine (word_Number.calls 9 x y1 y2 _ NF.out).mono ?_); rintro e w5 ⟨rfl, hd⟩; have HD := z4 hd; clear hd))
  go_ret
  exact ⟨rfl, blk_below HI4.out HD.out.below, below_in2 HB4.out HD.out.below, HK4.out.trans (KeepBut.of_below HD.out.below g none) (.inl rfl)⟩
 | none =>
  have E := z4 (show wideA s p = none by unfold wideA; rw [e]; rfl)
  rw [e] at TK
  clear hs hI hg hB hp e
  refine Step.none_ E.out ?_
  go_enter Tryd.func58, Tryd.ntmps58
  go_wp2_with (first | (go_at_call 56; refine TK.out.mono ?_; rintro e w4 ⟨rfl, hb4, hk4⟩; exact ⟨rfl, rfl, hb4, hk4⟩))
theorem name_c (w0 W : World) (g : Nat) (s : ByteArray) (p : Nat) (hs : s.size ≤ 281474976710656) (hI : St66 W g s p) (hg : w0.heap.size ≤ g) (hB : Below w0.heap.size w0 W) (hp : p ≤ s.size) :
 Calls Tryd.prog 59 #[.pointer (some ⟨g, 0, none⟩)] W (Step w0 W g s Value.string (textA s 28 p)) := by
 have TK := z4 (fun (W' : World) (q : Nat) (n : Int) (hq : q ≤ s.size) (h0 : 0 ≤ n) (h1 : n ≤ 28) (hI : St66 W' g s q) (hB : Below w0.heap.size w0 W') => take_c w0 W' g s q n hs hI hg hB hq h0 (by omega))
 have NM := z4 (number_c w0 W.drew g s p 28 hs (zI hI) hg (below_drew hB) hp (by omega) (by omega))
 have HB := z4 hB
 cases e1 : numA s 28 p with
 | none =>
  have E := z4 (show textA s 28 p = none by unfold textA; rw [e1]; rfl)
  rw [e1] at NM
  clear hs hI hg hB hp e1 TK
  refine Step.none_ E.out ?_
  go_enter Tryd.func59, Tryd.ntmps59
  go_wp2
  refine start_ (n := 7) (S := fun w' => True) (ds := []) #[false, false, false, false, false, false, false] (by kernel_rfl) rfl rfl trivial (fun hHeld => ?_)
  refine pure_ (i := 0) (N := some 3) (v := ?_) (a' := ?_) #[true, false, false, false, false, false, false] rfl rfl (by kernel_rfl) (fun _ _ _ h => h) (Or.inl ⟨by rfl, ?_⟩) ?_ ?_
  rotate_left
  ·intro w'
   go_simp
   with_reducible rfl
  rotate_left
  ·simp only [Act.put, z1, z2, z3, i64_w, i32_w]
   rfl
  refine pure_ (i := 1) (N := some 4) (v := ?_) (a' := ?_) #[true, true, false, false, false, false, false] rfl rfl (by kernel_rfl) (fun _ _ _ h => h) (Or.inl ⟨by rfl, ?_⟩) ?_ ?_
  rotate_left
  ·intro w'
   go_simp
   with_reducible rfl
  rotate_left
  ·simp only [Act.put, z1, z2, z3, i64_w, i32_w]
   rfl
  refine pure_ (i := 2) (N := some 5) (v := ?_) (a' := ?_) #[true, true, true, false, false, false, false] rfl rfl (by kernel_rfl) (fun _ _ _ h => h) (Or.inl ⟨by rfl, ?_⟩) ?_ ?_
  rotate_left
  ·intro w'
   go_simp
   with_reducible rfl
  rotate_left
  ·simp only [Act.put, z1, z2, z3, i64_w, i32_w]
   rfl
  refine pure_ (i := 3) (N := some 6) (v := ?_) (a' := ?_) #[true, true, true, true, false, false, false] rfl rfl (by kernel_rfl) (fun _ _ _ h => h) (Or.inl ⟨by rfl, ?_⟩) ?_ ?_
  rotate_left
  ·intro w'
   go_simp
   with_reducible rfl
  rotate_left
  ·simp only [Act.put, z1, z2, z3, i64_w, i32_w]
   rfl
  refine one_ (i := 4) (N := some 7) #[true, true, true, true, true, false, false] rfl rfl (by kernel_rfl) (by decide) (fun K hK => ?_)
  refine goesP_ Tryd.func57 (by kernel_rfl) rfl #[.pointer (some ⟨g, 0, none⟩), .int .i64 28] (by rfl) rfl rfl (by (try simp only [z9, List.map_cons, List.map_nil]); rfl) ?_
  refine (NM.out).mono ?_
  rintro e w4 ⟨rfl, hb4, hk4⟩
  exact .inr ⟨_, rfl, rfl, rfl, hb4, ((keep_drew (KeepBut.refl W g none)).trans hk4 (.inl rfl))⟩
 | some a =>
  have ha := numA_ok (n := a.1) (q := a.2) (by rw [e1]) hp
  rw [e1] at NM
  have h1 := ha.2.1
  have h2 := ha.2.2.1
  have h3 := ha.2.2.2.1
  obtain ⟨n, q⟩ := a
  dsimp only at h1 h2 h3
  cases e2 : bytesA s n.toNat q with
  | none =>
   have E := z4 (show textA s 28 p = none by unfold textA; rw [e1]; exact e2)
   have TQ := z4 (fun W' hI hB => TK.out W' q n h1 h2 h3 hI hB)
   rw [e2] at TQ
   clear hs hI hg hB hp e1 e2 ha h1 h2 h3 TK
   refine Step.none_ E.out ?_
   go_enter Tryd.func59, Tryd.ntmps59
   go_wp2
   refine start_ (n := 7) (S := fun w' => True) (ds := []) #[false, false, false, false, false, false, false] (by kernel_rfl) rfl rfl trivial (fun hHeld => ?_)
   refine pure_ (i := 0) (N := some 3) (v := ?_) (a' := ?_) #[true, false, false, false, false, false, false] rfl rfl (by kernel_rfl) (fun _ _ _ h => h) (Or.inl ⟨by rfl, ?_⟩) ?_ ?_
   rotate_left
   ·intro w'
    go_simp
    with_reducible rfl
   rotate_left
   ·simp only [Act.put, z1, z2, z3, i64_w, i32_w]
    rfl
   refine pure_ (i := 1) (N := some 4) (v := ?_) (a' := ?_) #[true, true, false, false, false, false, false] rfl rfl (by kernel_rfl) (fun _ _ _ h => h) (Or.inl ⟨by rfl, ?_⟩) ?_ ?_
   rotate_left
   ·intro w'
    go_simp
    with_reducible rfl
   rotate_left
   ·simp only [Act.put, z1, z2, z3, i64_w, i32_w]
    rfl
   refine pure_ (i := 2) (N := some 5) (v := ?_) (a' := ?_) #[true, true, true, false, false, false, false] rfl rfl (by kernel_rfl) (fun _ _ _ h => h) (Or.inl ⟨by rfl, ?_⟩) ?_ ?_
   rotate_left
   ·intro w'
    go_simp
    with_reducible rfl
   rotate_left
   ·simp only [Act.put, z1, z2, z3, i64_w, i32_w]
    rfl
   refine pure_ (i := 3) (N := some 6) (v := ?_) (a' := ?_) #[true, true, true, true, false, false, false] rfl rfl (by kernel_rfl) (fun _ _ _ h => h) (Or.inl ⟨by rfl, ?_⟩) ?_ ?_
   rotate_left
   ·intro w'
    go_simp
    with_reducible rfl
   rotate_left
   ·simp only [Act.put, z1, z2, z3, i64_w, i32_w]
    rfl
   refine one_ (i := 4) (N := some 7) #[true, true, true, true, true, false, false] rfl rfl (by kernel_rfl) (by decide) (fun K hK => ?_)
   refine goesP_ Tryd.func57 (by kernel_rfl) rfl #[.pointer (some ⟨g, 0, none⟩), .int .i64 28] (by rfl) rfl rfl (by (try simp only [z9, List.map_cons, List.map_nil]); rfl) ?_
   refine (NM.out).mono ?_
   rintro e w4 ⟨⟨rfl, hi⟩, hb4, hk4⟩
   refine .inl ⟨_, rfl, ?_⟩
   have HI4 := z4 hi
   have HB4 := z4 hb4
   have HK4 := z4 hk4
   clear hi hb4 hk4
   refine hK.out _ _ trivial (fun hHeld => ?_)
   clear hK K
   refine norm_ (a' := ?_) ?_ ?_
   rotate_left
   ·show Act.put _ (some 7) _ = _
    simp only [Act.put, z1, z2, z3, i64_w, i32_w]
    rfl
   refine one_ (i := 5) (N := some 8) #[true, true, true, true, true, true, false] rfl rfl (by kernel_rfl) (by decide) (fun K hK => ?_)
   refine goesP_ Tryd.func56 (by kernel_rfl) rfl #[.pointer (some ⟨g, 0, none⟩), .int .i64 n] (by rfl) rfl rfl (by (try simp only [z9, List.map_cons, List.map_nil]); rfl) ?_
   refine (TQ.out _ HI4.out HB4.out).mono ?_
   rintro e w5 ⟨rfl, hb5, hk5⟩
   exact .inr ⟨_, rfl, rfl, rfl, hb5, ((keep_drew (KeepBut.refl W g none)).trans HK4.out (.inl rfl)).trans hk5 (.inl rfl)⟩
  | some x =>
   have E := z4 (show textA s 28 p = some x by unfold textA; rw [e1]; exact e2)
   have TQ := z4 (fun W' hI hB => TK.out W' q n h1 h2 h3 hI hB)
   rw [e2] at TQ
   clear hs hI hg hB hp e1 e2 ha h1 h2 h3 TK
   refine Step.some_ E.out ?_
   go_enter Tryd.func59, Tryd.ntmps59
   go_wp2
   refine start_ (n := 7) (S := fun w' => True) (ds := []) #[false, false, false, false, false, false, false] (by kernel_rfl) rfl rfl trivial (fun hHeld => ?_)
   refine pure_ (i := 0) (N := some 3) (v := ?_) (a' := ?_) #[true, false, false, false, false, false, false] rfl rfl (by kernel_rfl) (fun _ _ _ h => h) (Or.inl ⟨by rfl, ?_⟩) ?_ ?_
   rotate_left
   ·intro w'
    go_simp
    with_reducible rfl
   rotate_left
   ·simp only [Act.put, z1, z2, z3, i64_w, i32_w]
    rfl
   refine pure_ (i := 1) (N := some 4) (v := ?_) (a' := ?_) #[true, true, false, false, false, false, false] rfl rfl (by kernel_rfl) (fun _ _ _ h => h) (Or.inl ⟨by rfl, ?_⟩) ?_ ?_
   rotate_left
   ·intro w'
    go_simp
    with_reducible rfl
   rotate_left
   ·simp only [Act.put, z1, z2, z3, i64_w, i32_w]
    rfl
   refine pure_ (i := 2) (N := some 5) (v := ?_) (a' := ?_) #[true, true, true, false, false, false, false] rfl rfl (by kernel_rfl) (fun _ _ _ h => h) (Or.inl ⟨by rfl, ?_⟩) ?_ ?_
   rotate_left
   ·intro w'
    go_simp
    with_reducible rfl
   rotate_left
   ·simp only [Act.put, z1, z2, z3, i64_w, i32_w]
    rfl
   refine pure_ (i := 3) (N := some 6) (v := ?_) (a' := ?_) #[true, true, true, true, false, false, false] rfl rfl (by kernel_rfl) (fun _ _ _ h => h) (Or.inl ⟨by rfl, ?_⟩) ?_ ?_
   rotate_left
   ·intro w'
    go_simp
    with_reducible rfl
   rotate_left
   ·simp only [Act.put, z1, z2, z3, i64_w, i32_w]
    rfl
   refine one_ (i := 4) (N := some 7) #[true, true, true, true, true, false, false] rfl rfl (by kernel_rfl) (by decide) (fun K hK => ?_)
   refine goesP_ Tryd.func57 (by kernel_rfl) rfl #[.pointer (some ⟨g, 0, none⟩), .int .i64 28] (by rfl) rfl rfl (by (try simp only [z9, List.map_cons, List.map_nil]); rfl) ?_
   refine (NM.out).mono ?_
   rintro e w4 ⟨⟨rfl, hi⟩, hb4, hk4⟩
   refine .inl ⟨_, rfl, ?_⟩
   have HI4 := z4 hi
   have HB4 := z4 hb4
   have HK4 := z4 hk4
   clear hi hb4 hk4
   refine hK.out _ _ trivial (fun hHeld => ?_)
   clear hK K
   refine norm_ (a' := ?_) ?_ ?_
   rotate_left
   ·show Act.put _ (some 7) _ = _
    simp only [Act.put, z1, z2, z3, i64_w, i32_w]
    rfl
   refine one_ (i := 5) (N := some 8) #[true, true, true, true, true, true, false] rfl rfl (by kernel_rfl) (by decide) (fun K hK => ?_)
   refine goesP_ Tryd.func56 (by kernel_rfl) rfl #[.pointer (some ⟨g, 0, none⟩), .int .i64 n] (by rfl) rfl rfl (by (try simp only [z9, List.map_cons, List.map_nil]); rfl) ?_
   refine (TQ.out _ HI4.out HB4.out).mono ?_
   rintro e w5 ⟨⟨rfl, hi⟩, hb5, hk5⟩
   refine .inl ⟨_, rfl, ?_⟩
   have HI5 := z4 hi
   have HB5 := z4 hb5
   have HK5 := z4 (((keep_drew (KeepBut.refl W g none)).trans HK4.out (.inl rfl)).trans hk5 (.inl rfl))
   clear hi hb5 hk5
   refine hK.out _ _ trivial (fun hHeld => ?_)
   clear hK K
   refine norm_ (a' := ?_) ?_ ?_
   rotate_left
   ·show Act.put _ (some 8) _ = _
    simp only [Act.put, z1, z2, z3, i64_w, i32_w]
    rfl
   refine pure_ (i := 6) (N := some 2) (v := ?_) (a' := ?_) #[true, true, true, true, true, true, true] rfl rfl (by kernel_rfl) (fun _ _ _ h => h) (Or.inl ⟨by rfl, ?_⟩) ?_ ?_
   rotate_left
   ·intro w'
    go_simp
    with_reducible rfl
   rotate_left
   ·simp only [Act.put, z1, z2, z3, i64_w, i32_w]
    rfl
   refine done_ (by kernel_rfl) ?_
   all_goals
    go_wp2
    go_ret
    exact ⟨rfl, HI5.out, HB5.out, HK5.out⟩
end Go.Proofs.YtimhcpmfhebbhaaDoor.M
