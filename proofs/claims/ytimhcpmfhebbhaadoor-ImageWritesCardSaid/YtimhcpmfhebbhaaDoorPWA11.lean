/-
  Texts of the proofs of ImageWrites, cut to what the proofs reach and packed by a program of this session (wip/packs.py). Each part begins with what it says; conditions: those told there.
-/
import Derived.Lib.SlBytesConst
import Derived.Test.YtimhcpmfhebbhaaDoorPWA10
namespace Go.Proofs.YtimhcpmfhebbhaaDoor.M
set_option maxRecDepth 100000
open Go.RowKit Go.Proofs.YtimhcpmfhebbhaaDoorW.PrintWords Go.Proofs.YtimhcpmfhebbhaaDoorW.PrintLast Go.Proofs.YtimhcpmfhebbhaaDoor.Num Go.Proofs.YtimhcpmfhebbhaaDoor.Seven Go.Proofs.YtimhcpmfhebbhaaDoor.Word1 Go.Proofs.YtimhcpmfhebbhaaDoor.Obj
set_option linter.unusedVariables false
set_option linter.unusedSimpArgs false
/-- A row of bytes of the call's own. -/
structure Bw (w0 w : World) (v : Value) (xs : List Int) : Prop where
 own : w.ownsRow w0.heap.size 5 1 v xs.length (nums .u8 xs)
 below : Below w0.heap.size w0 w
/-- Whatever is no row of bytes is as it was. -/
def KeepB (w w' : World) : Prop := w.heap.size ≤ w'.heap.size ∧ ∀ (i : Nat) (o : Obj), w.heap[i]? = some o → (∀ cs fr, o ≠ .cells cs 5 fr) → w'.heap[i]? = some o
theorem KeepB.refl (w : World) : KeepB w w := ⟨Nat.le_refl _, fun _ _ h _ => h⟩
theorem KeepB.trans {w w1 w2 : World} (h : KeepB w w1) (k : KeepB w1 w2) : KeepB w w2 := ⟨Nat.le_trans h.1 k.1, fun i o hi ho => k.2 i o (h.2 i o hi ho) ho⟩
theorem KeepB.of_below {w w1 : World} (h : Below w.heap.size w w1) : KeepB w w1 := ⟨h.size, fun i o hi _ => (h.block i (blk_lt hi)).trans hi⟩
theorem KeepB.of_grown {w w1 : World} {base n : Nat} {v : Value} {xs : List Value} (ho : w.ownsRow base 5 1 v n xs) (h : w.grownBy w1 v.ownBlock) : KeepB w w1 := by
 refine ⟨h.size, fun i o hi hne => (h.block i (blk_lt hi) ?_).trans hi⟩
 intro e
 obtain ⟨cells, hc⟩ := own_typed ho i e.symm
 rw [hi] at hc
 exact hne _ _ (Option.some.inj hc)
theorem KeepB.of_none {w w1 : World} (h : w.grownBy w1 none) : KeepB w w1 := ⟨h.size, fun i o hi _ => (h.block i (blk_lt hi) (by simp)).trans hi⟩
theorem KeepB.blk {w w1 : World} (h : KeepB w w1) {g t : Nat} {cs : Array Value} (hg : w.heap[g]? = some (.cells cs t (0, 0))) (ht : t ≠ 5) : w1.heap[g]? = some (.cells cs t (0, 0)) :=
 h.2 _ _ hg (fun cs' fr e => by injection e with _ e; exact ht e)
theorem Bw.next {w0 w w1 : World} {v : Value} {xs : List Int} (H : Bw w0 w v xs) (hb : Below w.heap.size w w1) : Bw w0 w1 v xs := ⟨pw_own_below H.own hb, below_then H.below H.below.size hb⟩
theorem Bw.eq {w0 w : World} {v : Value} {xs ys : List Int} (h : Bw w0 w v xs) (e : xs = ys) : Bw w0 w v ys := e ▸ h
/-- The arm for 'append(b, s..)' where no order is drawn. -/
theorem bw_append {w0 W : World} {P : Program} {ops : Array Oper} {rest : List Oper} {o : Oper} {a : Act} {Q : Exit → Act → World → Prop} {v : Value} {xs ys : List Int} (hgd : o.guard = none) (s x : Operand) (t u : TypeId)
 (ho : o.op = .call { callee := .builtin .append, args := #[s, x], argTypes := #[t, u] })
 (ht : P.underlying t = some (.slice 5)) (hu : P.underlying u = some .string) (hinfo : (P.info? 5).map (fun i => (i.zero, i.size, i.bytes)) = some (some (.int .u8 0), 1, 1))
 (y : ByteArray) (hy : ys = xs ++ bytesOf y) (hs : a.eval s = v) (hx : a.eval x = .string y) (H : Bw w0 W v xs) (hl : xs.length + y.size ≤ 140737488355328)
 (h : ∀ (A1 : Option Addr) (n1 : Nat) (w2 : World), Aside0 (Bw w0 w2 (.slice A1 ys.length n1) ys) → Aside0 (KeepB W w2) → wpList P ops Q rest (a.put o.dst (.slice A1 ys.length n1)) w2) :
 wpList P ops Q (o :: rest) a W := by
 refine print_append_str (w0 := w0) w0.heap.size hgd s x t u 5 ho ht hu hinfo v xs y hs hx H.own H.below H.below.size hl ?_
 intro v1 w2 ho2 hb2 hg2
 rw [← hy] at ho2
 obtain ⟨A1, n1, rfl⟩ := own_slice ho2
 exact h A1 n1 w2 ⟨⟨ho2, hb2⟩⟩ ⟨KeepB.of_grown H.own hg2⟩
set_option maxHeartbeats 4000000 in
set_option maxRecDepth 100000 in
/-- One word of data. -/
theorem one_int {w0 w : World} {v : Value} {xs : List Int} (H : Bw w0 w v xs) (n : Int) (hn : -9223372036854775808 ≤ n ∧ n < 9223372036854775808) (hl : xs.length + 8 ≤ 1000000) :
 Calls Tryd.prog 25 #[v, .int .i64 n] w fun e w' => ∃ v', e = .returned v' ∧ Bw w0 w' v' (xs ++ leL n 8) ∧ KeepB w w' := by
 obtain ⟨zs, hzs⟩ : ∃ zs, zs = xs ++ bytesOf (strOfNums (leL n 8)) := ⟨_, rfl⟩
 have hz2 : xs ++ leL n 8 = zs := by rw [hzs, of_strLe]
 have HZ := Aside0.mk hzs
 have HY := Aside0.mk hz2
 have HL := Aside0.mk (show xs.length + (strOfNums (leL n 8)).size ≤ 140737488355328 by rw [str_size _ (leL_bs _ _), leL_len]; omega)
 have HH := Aside0.mk H
 have HP := Aside0.mk (bytes8 n hn)
 obtain ⟨A0, n0, rfl⟩ := own_slice H.own
 clear H hzs hz2 hl hn
 go_enter Tryd.func25, Tryd.ntmps25
 go_wp2_with (first
  | (at_builtin; refine bw_append (w0 := w0) rfl (.tmp 12) (.tmp 13) 60 9 rfl Tryd.underlying60 Tryd.underlying9 info5 (strOfNums (leL n 8)) HZ.out (by first | rfl | (go_simp; done) | (go_simp; rfl)) (by first | rfl | (go_simp; done)) HB1.out HL.out ?_; intro A1 n1 w2 HW2 HK2)
  | (go_at_call 26; (with_reducible refine (word_Bytes.calls 10 n 8 _ _ _ HP.out).mono ?_); rintro e w1 ⟨rfl, hb⟩; have HB1 := Aside0.mk (HH.out.next hb); have HK1 := Aside0.mk (KeepB.of_below hb); clear hb))
 go_ret
 exact ⟨_, rfl, HY.out ▸ HW2.out, HK1.out.trans HK2.out⟩
section
variable {P : Program} {ops : Array Oper} {o : Oper} {a : Act} {Q : Exit → Act → World → Prop} {K : Act → World → Prop}
/-- append of a text's bytes, as one step of a region that draws. -/
theorem bw_str_step {w0 W : World} (hw : Region.wanted o (yielded ops a.tmps) = true) (s x : Operand) (t u : TypeId)
 (ho : o.op = .call { callee := .builtin .append, args := #[s, x], argTypes := #[t, u] })
 (ht : P.underlying t = some (.slice 5)) (hu : P.underlying u = some .string) (hinfo : (P.info? 5).map (fun i => (i.zero, i.size, i.bytes)) = some (some (.int .u8 0), 1, 1))
 (v : Value) (xs ys : List Int) (y : ByteArray) (hy : ys = xs ++ bytesOf y) (hs : a.eval s = v) (hx : a.eval x = .string y) (H : Bw w0 W v xs) (hl : xs.length + y.size ≤ 140737488355328)
 (h : ∀ A1 n1 w2, Aside0 (Bw w0 w2 (.slice A1 ys.length n1) ys) → Aside0 (KeepB W w2) → Aside0 (W.grownBy w2 v.ownBlock) → K (a.put o.dst (.slice A1 ys.length n1)) w2) :
 if Region.wanted o (yielded ops a.tmps) = true then Oper.wp P o a W K Q else K (a.put o.dst undef) W := by
 obtain ⟨i0, hi, hzz⟩ := Option.map_eq_some_iff.1 hinfo
 simp only [Prod.mk.injEq] at hzz
 obtain ⟨hz0, hz1, hz2⟩ := hzz
 rw [if_pos hw]
 obtain ⟨v1, w1, hr, hown, hg, _⟩ := Lib.run_append_own_string (P := P) W w0.heap.size t u o.type 5 i0 ht hu hi hz0 hz1 hz2 v xs.length (nums .u8 xs) H.own y (by simp only [maxLen]; omega) hl H.below.size
 have hl2 : (xs ++ bytesOf y).length = xs.length + y.size := by rw [List.length_append, bytesOf_length]
 have hc : nums .u8 (xs ++ bytesOf y) = nums .u8 xs ++ Lib.strCells y := by
  rw [nums_append]
  congr 1
  simp [nums, bytesOf, Lib.strCells]
 have hown2 : w1.ownsRow w0.heap.size 5 1 v1 ys.length (nums .u8 ys) := by rw [hy, hl2, hc]; exact hown
 obtain ⟨A1, n1, rfl⟩ := own_slice hown2
 unfold Oper.wp execOp
 simp only [ho, resolve, invoke, builtin, Sem.run_bind, Sem.run_pure, Result.andThen_ok, List.map_toArray, List.map_cons, List.map_nil, hs, hx, hr]
 exact h A1 n1 w1 ⟨⟨hown2, H.below.grown hg H.below.size (own_base H.own)⟩⟩ ⟨KeepB.of_grown H.own hg⟩ ⟨hg⟩
/-- append of one byte, as one step of a region that draws. -/
theorem bw_num_step {w0 W : World} (hw : Region.wanted o (yielded ops a.tmps) = true) (s x : Operand) (t : TypeId)
 (ho : o.op = .call { callee := .builtin .append, args := #[s, x], argTypes := #[t, t] })
 (ht : P.underlying t = some (.slice 5)) (hinfo : (P.info? 5).map (fun i => (i.zero, i.size, i.bytes)) = some (some (.int .u8 0), 1, 1))
 (v : Value) (xs ys : List Int) (n : Int) (g : Nat) (hy : ys = xs ++ [n]) (hs : a.eval s = v) (hx : a.eval x = .slice (some ⟨g, 0, none⟩) 1 1) (hg : W.cell? ⟨g, 0, none⟩ = some (.int .u8 n)) (H : Bw w0 W v xs) (hl : xs.length + 1 ≤ 140737488355328)
 (h : ∀ A1 n1 w2, Aside0 (Bw w0 w2 (.slice A1 ys.length n1) ys) → Aside0 (KeepB W w2) → K (a.put o.dst (.slice A1 ys.length n1)) w2) :
 if Region.wanted o (yielded ops a.tmps) = true then Oper.wp P o a W K Q else K (a.put o.dst undef) W := by
 have hR : ReadsRow (fun (x : Int) (cs : List Value) => cs = [.int .u8 x]) 1 W (some ⟨g, 0, none⟩) 1 [n] := by
  refine ⟨rfl, by decide, fun _ => ⟨_, rfl, fun j p hj => ?_⟩⟩
  obtain ⟨hl, hp⟩ := List.getElem?_eq_some_iff.1 hj
  obtain rfl : j = 0 := by simp at hl; exact hl
  simp only [List.getElem_cons_zero] at hp
  subst hp
  refine ⟨[.int .u8 n], rfl, rfl, fun i u hu => ?_⟩
  obtain ⟨hl2, hp2⟩ := List.getElem?_eq_some_iff.1 hu
  obtain rfl : i = 0 := by simp at hl2; exact hl2
  simp only [List.getElem_cons_zero] at hp2
  subst hp2
  exact hg
 refine Kd.R_append_rows_step (Kd.int .u8) (w0 := w0) w0.heap.size hw s x t 5 (.int .u8 0) 1 ho ht hinfo rfl (by decide) (by decide) v xs [n] (some ⟨g, 0, none⟩) 1 1 (fun _ => True) (fun _ => False) hs hx (Kd.R_of_own H.own (fun _ _ => trivial)) hR (fun x cs e => e) (fun _ h => h.elim) (fun _ _ => trivial) H.below H.below.size (by omega) ?_
 intro v1 w1 hR1 hb1 hg1 _
 have ho1 : w1.ownsRow w0.heap.size 5 1 v1 ys.length (nums .u8 ys) := by rw [hy]; exact Kd.own_of_R hR1
 obtain ⟨A1, n1, rfl⟩ := own_slice ho1
 exact h A1 n1 w1 ⟨⟨ho1, hb1⟩⟩ ⟨KeepB.of_grown H.own hg1⟩
end
set_option maxHeartbeats 8000000 in
set_option maxRecDepth 100000 in
/-- One symbol. -/
theorem one_sym {w0 w : World} {v : Value} {xs : List Int} (H : Bw w0 w v xs) (s : S68) (hn : s.f0.size ≤ 28) (h0 : 0 ≤ s.f2) (h1 : s.f2 < 65536) (hl : xs.length + 100 ≤ 1000000) :
 Calls Tryd.prog 28 #[v, .agg #[.string s.f0, .int .i64 s.f1, .int .i64 s.f2]] w fun e w' => ∃ v', e = .returned v' ∧ Bw w0 w' v' (xs ++ symL s) ∧ KeepB w w' := by
 obtain ⟨s0, s1, s2⟩ := s
 dsimp only at hn h0 h1 ⊢
 have z1 : (strOfNums (putL s0.size)).size ≤ 10 := by rw [str_size _ (putL_bs _)]; exact put_small (by omega)
 have z2 : (strOfNums (putL s2.toNat)).size ≤ 10 := by rw [str_size _ (putL_bs _)]; exact put_small (by omega)
 obtain ⟨y1, e1⟩ : ∃ z, z = xs ++ bytesOf (strOfNums (putL s0.size)) := ⟨_, rfl⟩
 obtain ⟨y2, e2⟩ : ∃ z, z = y1 ++ bytesOf s0 := ⟨_, rfl⟩
 obtain ⟨y3, e3⟩ : ∃ z, z = y2 ++ [IntKind.u8.wrap s1] := ⟨_, rfl⟩
 obtain ⟨y4, e4⟩ : ∃ z, z = y3 ++ bytesOf (strOfNums (putL s2.toNat)) := ⟨_, rfl⟩
 have l1 : y1.length ≤ xs.length + 10 := by rw [e1, List.length_append, bytesOf_length]; omega
 have l2 : y2.length ≤ xs.length + 38 := by rw [e2, List.length_append, bytesOf_length]; omega
 have l3 : y3.length ≤ xs.length + 39 := by rw [e3, List.length_append]; simp; omega
 have ez : xs ++ symL ⟨s0, s1, s2⟩ = y4 := by
  rw [e4, e3, e2, e1, of_strPut, of_strPut]
  simp only [symL, textL, List.append_assoc]
  rfl
 have E1 := Aside0.mk e1
 have E2 := Aside0.mk e2
 have E3 := Aside0.mk e3
 have E4 := Aside0.mk e4
 have EZ := Aside0.mk ez
 have L0 := Aside0.mk (show xs.length + (strOfNums (putL s0.size)).size ≤ 140737488355328 by omega)
 have L1 := Aside0.mk (show y1.length + s0.size ≤ 140737488355328 by omega)
 have L2 := Aside0.mk (show y2.length + 1 ≤ 140737488355328 by omega)
 have L3 := Aside0.mk (show y3.length + (strOfNums (putL s2.toNat)).size ≤ 140737488355328 by omega)
 have P1 := Aside0.mk (put8 s0.size (by omega))
 have P2 := Aside0.mk (put8' s2 h0 (by omega))
 have HH := Aside0.mk (H.next (below_alloc (Below.refl _ _) (.cells #[.string s0, .int .i64 s1, .int .i64 s2] 68)))
 have K0 := Aside0.mk (KeepB.of_below (below_alloc (Below.refl _ _) (.cells #[.string s0, .int .i64 s1, .int .i64 s2] 68) : Below w.heap.size w _))
 have B0 := Aside0.mk (blk_new w (.cells #[.string s0, .int .i64 s1, .int .i64 s2] 68))
 obtain ⟨A0, n0, rfl⟩ := own_slice H.own
 clear H e1 e2 e3 e4 ez z1 z2 l1 l2 l3 hn h0 h1 hl
 go_enter Tryd.func28, Tryd.ntmps28
 go_wp2_with (first
  | (at_builtin; refine bw_append (w0 := w0) rfl (.tmp 5) (.tmp 10) 60 9 rfl Tryd.underlying60 Tryd.underlying9 info5 (strOfNums (putL s0.size)) E1.out (by first | rfl | (go_simp; done) | (go_simp; rfl)) (by first | rfl | (go_simp; done)) HW1.out L0.out ?_; intro A2 n2 w2 HW2 HK2; have B2 := Aside0.mk (HK2.out.blk B1.out (by decide)); have hs0 : w2.cell? ⟨w.heap.size, 0, none⟩ = some (.string s0) := (blk_cell B2.out 0).trans rfl; have hs1 : w2.cell? ⟨w.heap.size, 1, none⟩ = some (.int .i64 s1) := (blk_cell B2.out 1).trans rfl)
  | (go_at_call 23; (with_reducible refine (word_Put.calls 10 _ _ _ P1.out).mono ?_); rintro e w1 ⟨rfl, hb⟩; have HW1 := Aside0.mk (HH.out.next hb); have HK1 := Aside0.mk (K0.out.trans (KeepB.of_below hb)); have B1 := Aside0.mk (blk_below B0.out hb); clear hb))
 have hs0a : (w2.alloc (.cells #[.int .u8 (IntKind.u8.wrap s1)] 5)).cell? ⟨w.heap.size, 0, none⟩ = some (.string s0) := (blk_cell (blk_alloc B2.out _) 0).trans rfl
 go_region_law (first
  | (refine bw_str_step (w0 := w0) (by rfl) (.tmp 12) (.tmp 14) 60 9 rfl Tryd.underlying60 Tryd.underlying9 info5 _ y1 y2 s0 E2.out (by rfl) (by rfl) ?hH L1.out ?_; (case hH => first | exact HW2.out.next (below_drew1 (Below.refl _ _)) | exact HW2.out.next (below_alloc (below_drew1 (Below.refl _ _)) _)); intro A3 n3 w3 HW3 HK3 HG3; have B3 := Aside0.mk (KeepB.blk (g := w.heap.size) (t := 68) (cs := #[.string s0, .int .i64 s1, .int .i64 s2]) HK3.out (by first | exact blk_drew B2.out | exact blk_alloc (blk_drew B2.out) _) (by decide)); have ht0 : w3.cell? ⟨w.heap.size, 0, none⟩ = some (.string s0) := (blk_cell B3.out 0).trans rfl; have ht1 : w3.cell? ⟨w.heap.size, 1, none⟩ = some (.int .i64 s1) := (blk_cell B3.out 1).trans rfl; have K3 := Aside0.mk (show KeepB w w3 from (HK1.out.trans (HK2.out.trans (by first | exact KeepB.of_below (below_drew1 (Below.refl _ _)) | exact KeepB.of_below (below_alloc (below_drew1 (Below.refl _ _)) _)))).trans HK3.out); try (have hl3 : w3.cell? ⟨w2.heap.size, 0, none⟩ = some (.int .u8 (IntKind.u8.wrap s1)) := (blk_cell (blk_grown (blk_new w2.drew (.cells #[.int .u8 (IntKind.u8.wrap s1)] 5)) HG3.out (fun e => by have := own_lt HW2.out.own _ e.symm; simp at this)) 0).trans rfl))
  | (refine bw_num_step (w0 := w0) (by rfl) (.tmp 15) (.tmp 19) 60 rfl Tryd.underlying60 info5 _ y2 y3 (IntKind.u8.wrap s1) _ E3.out (by rfl) (by rfl) ?hg ?hH L2.out ?_; (case hg => first | exact hl3 | exact (blk_cell (blk_new _ _) 0).trans rfl); (case hH => first | exact HW3.out | exact HW3.out.next (below_alloc (Below.refl _ _) _)); intro A4 n4 w4 HW4 HK4; have K4 := Aside0.mk (show KeepB w w4 from K3.out.trans (by first | exact HK4.out | exact (KeepB.of_below (below_alloc (Below.refl _ _) _)).trans HK4.out)); have B4 := Aside0.mk (KeepB.blk (g := w.heap.size) (t := 68) (cs := #[.string s0, .int .i64 s1, .int .i64 s2]) HK4.out (by first | exact B3.out | exact blk_alloc B3.out _) (by decide)); have ht2 : w4.cell? ⟨w.heap.size, 2, none⟩ = some (.int .i64 s2) := (blk_cell B4.out 2).trans rfl))
 all_goals go_wp2_with (first
  | (at_builtin; refine bw_append (w0 := w0) rfl (.tmp 21) (.tmp 25) 60 9 rfl Tryd.underlying60 Tryd.underlying9 info5 (strOfNums (putL s2.toNat)) E4.out (by first | rfl | (go_simp; done) | (go_simp; rfl)) (by first | rfl | (go_simp; done)) HW5.out L3.out ?_; intro A6 n6 w6 HW6 HK6)
  | (go_at_call 23; (with_reducible refine (word_Put.calls 10 _ _ _ P2.out).mono ?_); rintro e w5 ⟨rfl, hb⟩; have HW5 := Aside0.mk (HW4.out.next hb); have HK5 := Aside0.mk (K4.out.trans (KeepB.of_below hb)); clear hb))
 all_goals go_ret
 all_goals exact ⟨_, rfl, EZ.out ▸ HW6.out, HK5.out.trans HK6.out⟩
end Go.Proofs.YtimhcpmfhebbhaaDoor.M
namespace Go.Proofs.YtimhcpmfhebbhaaDoor.M
set_option maxRecDepth 100000
open Go.RowKit Go.Proofs.YtimhcpmfhebbhaaDoorW.PrintWords Go.Proofs.YtimhcpmfhebbhaaDoorW.PrintLast Go.Proofs.YtimhcpmfhebbhaaDoor.Num Go.Proofs.YtimhcpmfhebbhaaDoor.Seven Go.Proofs.YtimhcpmfhebbhaaDoor.Word1 Go.Proofs.YtimhcpmfhebbhaaDoor.Obj
set_option linter.unusedVariables false
set_option linter.unusedSimpArgs false
set_option maxHeartbeats 8000000 in
set_option maxRecDepth 100000 in
theorem list_int {w0 w : World} {v : Value} {xs : List Int} (H : Bw w0 w v xs) {A : Option Addr} {c : Nat} {l : List Int} (hr : Kd.C (Kd.int .i64) w0 A l.length l) (hw : wordsOk l) (hl : xs.length + 8 * l.length + 100 ≤ 1000000) :
 Calls Tryd.prog 24 #[v, .slice A l.length c, .func (.func 25) #[] #[]] w fun e w' => ∃ v', e = .returned v' ∧ Bw w0 w' v' (xs ++ putL l.length ++ dataL l) ∧ KeepB w w' := by
 have z1 : (strOfNums (putL l.length)).size ≤ 10 := by rw [str_size _ (putL_bs _)]; exact put_small (by omega)
 obtain ⟨y1, e1⟩ : ∃ z, z = xs ++ bytesOf (strOfNums (putL l.length)) := ⟨_, rfl⟩
 have e2 : xs ++ putL l.length = y1 := by rw [e1, of_strPut]
 have l1 : y1.length ≤ xs.length + 10 := by rw [e1, List.length_append, bytesOf_length]; omega
 rw [e2]
 have E1 := Aside0.mk e1
 have L0 := Aside0.mk (show xs.length + (strOfNums (putL l.length)).size ≤ 140737488355328 by omega)
 have L1 := Aside0.mk (show ∀ k, k ≤ l.length → (y1 ++ dataL (l.take k)).length + 8 ≤ 1000000 by
  intro k hk
  rw [List.length_append, dataL_len, List.length_take]
  omega)
 have P1 := Aside0.mk (put8 l.length (by omega))
 have HH := Aside0.mk H
 have HR := Aside0.mk hr
 have HW0 := Aside0.mk hw
 have HLM := Aside0.mk (show l.length ≤ 1000000 by omega)
 obtain ⟨A0, n0, rfl⟩ := own_slice H.own
 clear H e1 e2 z1 l1 hl hr hw
 go_enter Tryd.func24, Tryd.ntmps24
 go_wp2_with (first
  | (at_builtin; refine bw_append (w0 := w0) rfl (.tmp 9) (.tmp 13) 60 9 rfl Tryd.underlying60 Tryd.underlying9 info5 (strOfNums (putL l.length)) E1.out (by first | rfl | (go_simp; done) | (go_simp; rfl)) (by first | rfl | (go_simp; done)) HW1.out L0.out ?_; intro A2 n2 w2 HW2 HK2)
  | (go_at_call 23; (with_reducible refine (word_Put.calls 10 _ _ _ P1.out).mono ?_); rintro e w1 ⟨rfl, hb⟩; have HW1 := Aside0.mk (HH.out.next hb); have HK1 := Aside0.mk (KeepB.of_below hb); clear hb))
 have hlm := HLM.out
 go_loopw [0, 17] (fun v0 v17 wr => ∃ k : Nat, k ≤ l.length ∧ v17 = .int .i64 k ∧ Aside0 (Bw w0 wr v0 (y1 ++ dataL (l.take k))) ∧ Aside0 (KeepB w wr)) (fun _ v17 _ => l.length - (intOf v17).toNat)
 case atStart => exact ⟨0, Nat.zero_le _, rfl, ⟨HW2.out.eq (by simp [dataL])⟩, ⟨HK1.out.trans HK2.out⟩⟩
 case round =>
  clear HW1 HK1 HW2 HK2
  obtain ⟨k, hk, rfl, HW, HK⟩ := hrel
  by_cases hlt : k < l.length
  case pos =>
   obtain ⟨ad, rfl, hx0⟩ := Kd.at_int HR.out (k : Int) (by omega) (by omega)
   rw [rd_int l k hlt] at hx0
   simp only [Int.toNat_natCast] at hx0
   replace hx0 := (HW.out.below.cell (World.block_lt_of_cell? w0 _ hx0)).trans hx0
   have HN := HW0.out _ (List.getElem_mem hlt)
   have SN := Aside0.mk (show y1 ++ dataL (l.take k) ++ leL l[k] 8 = y1 ++ dataL (l.take (k + 1)) by rw [dataL_snoc l k hlt, List.append_assoc])
   have hkl : (k : Int) < (l.length : Int) := by omega
   generalize l[k] = n at *
   have OC := Aside0.mk (one_int HW.out n HN (L1.out k hk))
   clear HN
   go_wp2_with (first | (go_at_call 25; (with_reducible refine OC.out.mono ?_); rintro e w4 ⟨v4, rfl, hw4, hk4⟩; have HW4 := Aside0.mk (hw4.eq SN.out); have HK4 := Aside0.mk (HK.out.trans hk4); clear hw4 hk4))
   refine ⟨⟨k + 1, by omega, by first | rfl | go_num, HW4, HK4⟩, ?_⟩
   simp [intOf]
   omega
  case neg =>
   obtain rfl : k = l.length := by omega
   rw [List.take_length] at HW
   go_wp2
   go_ret
   exact ⟨_, rfl, HW.out, HK.out⟩
set_option maxHeartbeats 8000000 in
set_option maxRecDepth 100000 in
theorem list_sym {w0 w : World} {v : Value} {xs : List Int} (H : Bw w0 w v xs) {A : Option Addr} {c : Nat} {l : List S68} (hr : Kd.C k68 w0 A l.length l) (hw : ∀ s ∈ l, s.f0.size ≤ 28 ∧ 0 ≤ s.f2 ∧ s.f2 < 65536) (hsl : ∀ k, k ≤ l.length → (symsL (l.take k)).length ≤ 49 * l.length) (hl : xs.length + 49 * l.length + 200 ≤ 1000000) :
 Calls Tryd.prog 27 #[v, .slice A l.length c, .func (.func 28) #[] #[]] w fun e w' => ∃ v', e = .returned v' ∧ Bw w0 w' v' (xs ++ putL l.length ++ symsL l) ∧ KeepB w w' := by
 have z1 : (strOfNums (putL l.length)).size ≤ 10 := by rw [str_size _ (putL_bs _)]; exact put_small (by omega)
 obtain ⟨y1, e1⟩ : ∃ z, z = xs ++ bytesOf (strOfNums (putL l.length)) := ⟨_, rfl⟩
 have e2 : xs ++ putL l.length = y1 := by rw [e1, of_strPut]
 have l1 : y1.length ≤ xs.length + 10 := by rw [e1, List.length_append, bytesOf_length]; omega
 rw [e2]
 have E1 := Aside0.mk e1
 have L0 := Aside0.mk (show xs.length + (strOfNums (putL l.length)).size ≤ 140737488355328 by omega)
 have L1 := Aside0.mk (show ∀ k, k ≤ l.length → (y1 ++ symsL (l.take k)).length + 100 ≤ 1000000 by
  intro k hk
  rw [List.length_append]
  have := hsl k hk
  omega)
 have P1 := Aside0.mk (put8 l.length (by omega))
 have HH := Aside0.mk H
 have HR := Aside0.mk hr
 have HW0 := Aside0.mk hw
 have HLM := Aside0.mk (show l.length ≤ 1000000 by omega)
 obtain ⟨A0, n0, rfl⟩ := own_slice H.own
 clear H e1 e2 z1 l1 hl hr hw hsl
 go_enter Tryd.func27, Tryd.ntmps27
 go_wp2_with (first
  | (at_builtin; refine bw_append (w0 := w0) rfl (.tmp 9) (.tmp 13) 60 9 rfl Tryd.underlying60 Tryd.underlying9 info5 (strOfNums (putL l.length)) E1.out (by first | rfl | (go_simp; done) | (go_simp; rfl)) (by first | rfl | (go_simp; done)) HW1.out L0.out ?_; intro A2 n2 w2 HW2 HK2)
  | (go_at_call 23; (with_reducible refine (word_Put.calls 10 _ _ _ P1.out).mono ?_); rintro e w1 ⟨rfl, hb⟩; have HW1 := Aside0.mk (HH.out.next hb); have HK1 := Aside0.mk (KeepB.of_below hb); clear hb))
 have hlm := HLM.out
 go_loopw [0, 17] (fun v0 v17 wr => ∃ k : Nat, k ≤ l.length ∧ v17 = .int .i64 k ∧ Aside0 (Bw w0 wr v0 (y1 ++ symsL (l.take k))) ∧ Aside0 (KeepB w wr)) (fun _ v17 _ => l.length - (intOf v17).toNat)
 case atStart => exact ⟨0, Nat.zero_le _, rfl, ⟨HW2.out.eq (by simp [symsL])⟩, ⟨HK1.out.trans HK2.out⟩⟩
 case round =>
  clear HW1 HK1 HW2 HK2
  obtain ⟨k, hk, rfl, HW, HK⟩ := hrel
  by_cases hlt : k < l.length
  case pos =>
   obtain ⟨ad, rfl, hx0, hx1, hx2⟩ := at_T68 HR.out (k : Int) (by omega) (by omega)
   rw [rd_SS l k hlt] at hx0 hx1 hx2
   simp only [Int.toNat_natCast] at hx0 hx1 hx2
   replace hx0 := (HW.out.below.cell (World.block_lt_of_cell? w0 _ hx0)).trans hx0
   replace hx1 := (HW.out.below.cell (World.block_lt_of_cell? w0 _ hx1)).trans hx1
   replace hx2 := (HW.out.below.cell (World.block_lt_of_cell? w0 _ hx2)).trans hx2
   have HN := HW0.out _ (List.getElem_mem hlt)
   have SN := Aside0.mk (show y1 ++ symsL (l.take k) ++ symL l[k] = y1 ++ symsL (l.take (k + 1)) by rw [symsL_snoc l k hlt, List.append_assoc])
   have hkl : (k : Int) < (l.length : Int) := by omega
   generalize l[k] = n at *
   obtain ⟨s0, s1, s2⟩ := n
   dsimp only at hx0 hx1 hx2 HN
   have OC := Aside0.mk (one_sym (HW.out.next (below_alloc (Below.refl _ _) (.cells #[.string s0, .int .i64 s1, .int .i64 s2] 68))) ⟨s0, s1, s2⟩ HN.1 HN.2.1 HN.2.2 (L1.out k hk))
   have HK3 := Aside0.mk (HK.out.trans (KeepB.of_below (below_alloc (Below.refl _ _) (.cells #[.string s0, .int .i64 s1, .int .i64 s2] 68))))
   clear HN
   go_wp2_with (first | (go_at_call 28; (with_reducible refine OC.out.mono ?_); rintro e w4 ⟨v4, rfl, hw4, hk4⟩; have HW4 := Aside0.mk (hw4.eq SN.out); have HK4 := Aside0.mk (HK3.out.trans hk4); clear hw4 hk4))
   refine ⟨⟨k + 1, by omega, by first | rfl | go_num, HW4, HK4⟩, ?_⟩
   simp [intOf]
   omega
  case neg =>
   obtain rfl : k = l.length := by omega
   rw [List.take_length] at HW
   go_wp2
   go_ret
   exact ⟨_, rfl, HW.out, HK.out⟩
end Go.Proofs.YtimhcpmfhebbhaaDoor.M
namespace Go.Proofs.YtimhcpmfhebbhaaDoor.M
set_option maxRecDepth 100000
open Go.RowKit Go.Proofs.YtimhcpmfhebbhaaDoorW.PrintWords Go.Proofs.YtimhcpmfhebbhaaDoorW.PrintLast Go.Proofs.YtimhcpmfhebbhaaDoor.Num Go.Proofs.YtimhcpmfhebbhaaDoor.Seven Go.Proofs.YtimhcpmfhebbhaaDoor.Word1 Go.Proofs.YtimhcpmfhebbhaaDoor.Obj
set_option linter.unusedVariables false
set_option linter.unusedSimpArgs false
def IMG1 : List Int := [73, 77, 71, 49]
def imgW (code : ByteArray) (d : List Int) (y : List S68) : ByteArray × Int := if mayI code d y = true then (strOfNums (front IMG1 code d y), 0) else (⟨#[]⟩, 1)
def front1' (code : ByteArray) (d : List Int) : List Int := front0 IMG1 code d ++ dataL d
def image_Write.f (a0_0 : ByteArray) (l0_1 : List Int) (l0_2 : List S68) : Option (ByteArray × Int) := if wordsOk l0_1 then some (imgW a0_0 l0_1 l0_2) else none
theorem run_append_const {P : Program} (w : World) (base : Nat) (t u ty e : TypeId) (i : TypeInfo) (ht : P.underlying t = some (.slice e)) (hu : P.underlying u = some .string) (hi : P.info? e = some i) (hz : i.zero = some (.int .u8 0))
 (hsize : i.size = 1) (hby : i.bytes = 1) (g : Nat) (xs : List Int) (fr : Nat × Nat) (hg : w.heap[g]? = some (.cells (nums .u8 xs).toArray e fr)) (s : ByteArray) (hs : 0 < s.size) (hl : xs.length + s.size ≤ 140737488355328) (hbase : base ≤ w.heap.size) :
 ∃ v' w', (Builtin.append_ #[t, u] ty #[.slice (some ⟨g, 0, none⟩) xs.length xs.length, .string s]).run P w = .ok v' w' ∧ w'.ownsRow base e 1 v' (xs.length + s.size) (nums .u8 xs ++ Lib.strCells s) ∧ (∀ row, w.grownBy w' row) := by
 have hxl : (nums .u8 xs).length = xs.length := nums_length _ _
 have holds : ∀ j u, (nums .u8 xs)[j]? = some u → w.cell? ((⟨g, 0, none⟩ : Addr).add j) = some u := fun j u hj => by
  rw [add_plain]
  have := cell_of_row w g j _ e fr hg
  rw [this]
  simpa using hj
 have hlen : (nums .u8 xs ++ Lib.strCells s).length = (xs.length + s.size) * 1 := by rw [List.length_append, hxl, Lib.strCells_length, Nat.mul_one]
 have hr := Lib.run_append_grow_string (P := P) w t u ty e i (.int .u8 0) ht hu hi hz ⟨g, 0, none⟩ xs.length xs.length (nums .u8 xs) (by rw [hsize, hxl]; simp) holds s (by omega) (by omega) (by rw [hby]; exact growslice_fits (by omega) (by omega))
 have hge := grownCap_ge w (xs.length + s.size) xs.length e
 have hcm : grownCap w (xs.length + s.size) xs.length e ≤ maxLen := grownCap_le_maxLen w (xs.length + s.size) xs.length e (by simp only [maxLen]; omega)
 refine ⟨_, _, hr, ⟨hlen, .inr ⟨w.heap.size, _, _, rfl, hbase, heap_alloc_new w.drew _, hge, hcm, ?_, ?_⟩⟩, fun row => ⟨rfl, rfl, rfl, by simp, fun k hk _ => Below.heap_alloc w.drew _ k hk⟩⟩
 ·have hz1 : (Value.int IntKind.u8 0).cells.size = 1 := rfl
  simp only [Array.size_append, List.size_toArray, size_zeroCells, hz1, hxl, Lib.strCells_length]
  omega
 ·simp only [Array.toList_append, List.append_assoc]
  rw [← List.append_assoc, ← hlen]
  exact List.take_left
/-- The arm for an append behind a constant's bytes. -/
theorem bw_append0 {w0 W : World} {P : Program} {ops : Array Oper} {rest : List Oper} {o : Oper} {a : Act} {Q : Exit → Act → World → Prop} {xs ys : List Int} {fr : Nat × Nat} (hgd : o.guard = none) (s x : Operand) (t u : TypeId)
 (ho : o.op = .call { callee := .builtin .append, args := #[s, x], argTypes := #[t, u] })
 (ht : P.underlying t = some (.slice 5)) (hu : P.underlying u = some .string) (hinfo : (P.info? 5).map (fun i => (i.zero, i.size, i.bytes)) = some (some (.int .u8 0), 1, 1))
 (g : Nat) (y : ByteArray) (hy : ys = xs ++ bytesOf y) (hs : a.eval s = .slice (some ⟨g, 0, none⟩) xs.length xs.length) (hx : a.eval x = .string y) (h0 : 0 < y.size) (hg : W.heap[g]? = some (.cells (nums .u8 xs).toArray 5 fr)) (HB : Below w0.heap.size w0 W) (hl : xs.length + y.size ≤ 140737488355328)
 (h : ∀ (A1 : Option Addr) (n1 : Nat) (w2 : World), Aside0 (Bw w0 w2 (.slice A1 ys.length n1) ys) → Aside0 (KeepB W w2) → wpList P ops Q rest (a.put o.dst (.slice A1 ys.length n1)) w2) :
 wpList P ops Q (o :: rest) a W := by
 obtain ⟨i0, hi, hzz⟩ := Option.map_eq_some_iff.1 hinfo
 simp only [Prod.mk.injEq] at hzz
 obtain ⟨hz0, hz1, hz2⟩ := hzz
 obtain ⟨v1, w1, hr, hown, hgr⟩ := run_append_const (P := P) W w0.heap.size t u o.type 5 i0 ht hu hi hz0 hz1 hz2 g xs fr hg y h0 hl HB.size
 have hl2 : (xs ++ bytesOf y).length = xs.length + y.size := by rw [List.length_append, bytesOf_length]
 have hc : nums .u8 (xs ++ bytesOf y) = nums .u8 xs ++ Lib.strCells y := by
  rw [nums_append]
  congr 1
  simp [nums, bytesOf, Lib.strCells]
 have hown2 : w1.ownsRow w0.heap.size 5 1 v1 ys.length (nums .u8 ys) := by rw [hy, hl2, hc]; exact hown
 obtain ⟨A1, n1, rfl⟩ := own_slice hown2
 refine wpList_plain hgd fun K' hK' => ?_
 unfold Oper.wp execOp
 simp only [ho, resolve, invoke, builtin, Sem.run_bind, Sem.run_pure, Result.andThen_ok, List.map_toArray, List.map_cons, List.map_nil, hs, hx, hr]
 exact hK' _ _ (h A1 n1 w1 ⟨⟨hown2, HB.grown (hgr none) HB.size (fun k hk => by cases hk)⟩⟩ ⟨KeepB.of_none (hgr none)⟩)
section
variable {W : World} (code : ByteArray) (A1 : Option Addr) (c1 : Nat) (l1 : List Int) (A2 : Option Addr) (c2 : Nat) (l2 : List S68)
set_option maxHeartbeats 8000000 in
set_option maxRecDepth 100000 in
theorem image_Write_c (hG : Glob W) (hr1 : Kd.C (Kd.int .i64) W A1 l1.length l1) (hc1 : l1.length ≤ c1) (hr2 : Kd.C k68 W A2 l2.length l2) (hc2 : l2.length ≤ c2) (hw : wordsOk l1) :
 Calls Tryd.prog 10 #[.agg #[.string code, .slice A1 l1.length c1, .slice A2 l2.length c2]] W fun e w' => e = .returned (.tuple #[.string (imgW code l1 l2).1, .int .i64 (imgW code l1 l2).2]) ∧ Below W.heap.size W w' := by
 have CK := Aside0.mk (image_Check_c (W := W.alloc (.cells #[.string code, .slice A1 l1.length c1, .slice A2 l2.length c2] 25)) code A1 c1 l1 A2 c2 l2 (hG.below (below_alloc (Below.refl _ _) _) rfl) (Kd.C_alloc hr1 _) hc1 (Kd.C_alloc hr2 _) hc2)
 have HB := Aside0.mk (below_alloc (Below.refl W.heap.size W) (.cells #[.string code, .slice A1 l1.length c1, .slice A2 l2.length c2] 25))
 have BO := Aside0.mk (blk_new W (.cells #[.string code, .slice A1 l1.length c1, .slice A2 l2.length c2] 25))
 have HR1 := Aside0.mk hr1
 have HR2 := Aside0.mk hr2
 have HW0 := Aside0.mk hw
 by_cases hm : mayI code l1 l2 = true
 case neg =>
  have e : imgW code l1 l2 = (⟨#[]⟩, 1) := by unfold imgW; rw [if_neg hm]
  rw [e]
  rw [if_neg hm] at CK
  clear hm e hG hr1 hr2 hw
  go_enter Tryd.func10, Tryd.ntmps10
  go_wp2_with (first | (go_at_call 14; (with_reducible refine CK.out.mono ?_); rintro e w1 ⟨rfl, hb⟩; have HB1 := Aside0.mk (below_inL HB.out hb); clear hb))
  go_ret2
  exact ⟨rfl, HB1.out⟩
 case pos =>
  have hres : imgW code l1 l2 = (strOfNums (front IMG1 code l1 l2), 0) := by unfold imgW; rw [if_pos hm]
  rw [hres]
  rw [if_pos hm] at CK
  have hmay : may code l1 l2 [] = true := by
   unfold mayI at hm
   rw [Bool.and_eq_true] at hm
   exact hm.1
  obtain ⟨m1, m2, m3, -, m5, -⟩ := may_parts hmay
  have z0 : (strOfNums (putL code.size)).size ≤ 10 ∧ 0 < (strOfNums (putL code.size)).size := by rw [str_size _ (putL_bs _)]; exact ⟨put_small (by omega), putL_pos _⟩
  obtain ⟨y1, e1⟩ : ∃ z, z = IMG1 ++ bytesOf (strOfNums (putL code.size)) := ⟨_, rfl⟩
  obtain ⟨y2, e2⟩ : ∃ z, z = y1 ++ bytesOf code := ⟨_, rfl⟩
  have h4 : IMG1.length = 4 := rfl
  have g1 : y1.length ≤ 14 := by rw [e1, List.length_append, bytesOf_length]; omega
  have g2 : y2.length ≤ 65560 := by rw [e2, List.length_append, bytesOf_length]; omega
  have hd : (dataL l1).length = 8 * l1.length := dataL_len l1
  have hp := put_small (n := l1.length) (by omega)
  have hy3 : y2 ++ putL l1.length ++ dataL l1 = front1' code l1 := by
   rw [e2, e1, of_strPut]
   simp [front1', front0, textL]
  have hfr : front1' code l1 ++ putL l2.length ++ symsL l2 = front IMG1 code l1 l2 := by
   simp [front, front1, front1']
  have g3 : (front1' code l1).length ≤ 100000 := by rw [← hy3, List.length_append, List.length_append]; omega
  have SY := fun k => (show (symsL (l2.take k)).length ≤ 49 * l2.length by
   have := symsL_len (l2.take k) (fun s hs => ⟨(m5 s (List.mem_of_mem_take hs)).1, by have := (m5 s (List.mem_of_mem_take hs)).2.2.1; omega⟩)
   rw [List.length_take] at this; omega)
  have E1 := Aside0.mk e1
  have E2 := Aside0.mk e2
  have E3 := Aside0.mk hy3
  have E4 := Aside0.mk hfr
  have Z0 := Aside0.mk z0
  have P0 := Aside0.mk (put8 code.size (by omega))
  have L0 := Aside0.mk (show IMG1.length + (strOfNums (putL code.size)).size ≤ 140737488355328 by omega)
  have L1 := Aside0.mk (show y1.length + code.size ≤ 140737488355328 by omega)
  have LI := Aside0.mk (fun (w : World) (v : Value) (H : Bw W w v y2) => list_int H (c := c1) hr1 hw (by omega))
  have LS := Aside0.mk (fun (w : World) (v : Value) (H : Bw W w v (front1' code l1)) => list_sym H (c := c2) hr2 (fun s hs => ⟨(m5 s hs).1.2, (m5 s hs).2.1, (m5 s hs).2.2.1⟩) (fun k _ => SY k) (by omega))
  have kc := fun (w : World) (C : Array Value) (n c : Nat) => Lib.run_convert_bytes_const (P := Tryd.prog) w 60 5 C n c Tryd.underlying60 Tryd.underlying5
  clear hm hmay m1 m2 m3 m5 z0 g1 g2 hd hp hy3 hfr g3 SY e1 e2 hG hr1 hr2 hw hres h4 hc1 hc2
  go_enter Tryd.func10, Tryd.ntmps10
  go_wp2_with (first
   | (go_at_call 14; (with_reducible refine CK.out.mono ?_); rintro e w1 ⟨rfl, hb⟩; have HB1 := Aside0.mk (below_inL HB.out hb); have BO1 := Aside0.mk (blk_below BO.out hb); have hk0 : (w1.alloc (.cells #[.int .u8 73, .int .u8 77, .int .u8 71, .int .u8 49] 5 (4, 5))).cell? ⟨W.heap.size, 0, none⟩ = some (.string code) := (blk_cell (blk_alloc BO1.out _) 0).trans rfl; clear hb)
   | (go_at_call 23; (with_reducible refine (word_Put.calls 10 _ _ _ P0.out).mono ?_); rintro e w2 ⟨rfl, hb⟩; have HC2 := Aside0.mk (blk_below (blk_new w1 (.cells #[.int .u8 73, .int .u8 77, .int .u8 71, .int .u8 49] 5 (4, 5))) hb); have BO2 := Aside0.mk (blk_below (blk_alloc BO1.out (.cells #[.int .u8 73, .int .u8 77, .int .u8 71, .int .u8 49] 5 (4, 5))) hb); have HB2 := Aside0.mk (below_inL (below_alloc HB1.out (.cells #[.int .u8 73, .int .u8 77, .int .u8 71, .int .u8 49] 5 (4, 5))) hb); clear hb hk0)
   | (at_builtin; refine bw_append0 (w0 := W) (xs := IMG1) rfl (.tmp 9) (.tmp 14) 60 9 rfl Tryd.underlying60 Tryd.underlying9 info5 w1.heap.size (strOfNums (putL code.size)) E1.out (by first | rfl | (go_simp; done) | (go_simp; rfl)) (by first | rfl | (go_simp; done)) Z0.out.2 HC2.out HB2.out L0.out ?_; intro A3 n3 w3 HW3 HK3; have BO3 := Aside0.mk (HK3.out.blk BO2.out (by decide)); have hk0 : w3.cell? ⟨W.heap.size, 0, none⟩ = some (.string code) := (blk_cell BO3.out 0).trans rfl)
   | (at_builtin; refine bw_append (w0 := W) rfl (.tmp 16) (.tmp 18) 60 9 rfl Tryd.underlying60 Tryd.underlying9 info5 code E2.out (by first | rfl | (go_simp; done) | (go_simp; rfl)) (by first | rfl | (go_simp; done)) HW3.out L1.out ?_; intro A4 n4 w4 HW4 HK4; have BO4 := Aside0.mk (HK4.out.blk BO3.out (by decide)); have hk1 : w4.cell? ⟨W.heap.size, 1, none⟩ = some (.slice A1 l1.length c1) := (blk_cell BO4.out 1).trans rfl)
   | (go_at_call 24; (with_reducible refine (LI.out _ _ HW4.out).mono ?_); rintro e w5 ⟨v5, rfl, hw5, hk5⟩; have HW5 := Aside0.mk (hw5.eq E3.out); have BO5 := Aside0.mk (hk5.blk BO4.out (by decide)); have hk2 : w5.cell? ⟨W.heap.size, 2, none⟩ = some (.slice A2 l2.length c2) := (blk_cell BO5.out 2).trans rfl; clear hw5 hk5)
   | (go_at_call 27; (with_reducible refine (LS.out _ _ HW5.out).mono ?_); rintro e w6 ⟨v6, rfl, hw6, hk6⟩; have HW6 := Aside0.mk (hw6.eq E4.out); obtain ⟨A6, n6, rfl⟩ := own_slice HW6.out.own; have hcv := own_string Tryd.underlying60 Tryd.underlying5 Tryd.underlying9 HW6.out.own; clear hw6 hk6))
  go_ret2
  exact ⟨rfl, HW6.out.below⟩
theorem image_Write.calls (a0_0 : ByteArray) (A0_1 : Option Addr) (c0_1 : Nat) (l0_1 : List Int) (A0_2 : Option Addr) (c0_2 : Nat) (l0_2 : List S68) (r1 : ByteArray) (r2 : Int) (w : World) (hG : Glob w) (hr0_1 : Kd.C (Kd.int .i64) w A0_1 l0_1.length l0_1) (hc0_1 : l0_1.length ≤ c0_1) (hr0_2 : Kd.C k68 w A0_2 l0_2.length l0_2) (hc0_2 : l0_2.length ≤ c0_2) (h : image_Write.f a0_0 l0_1 l0_2 = some (r1, r2)) :
 Calls Tryd.prog 10 #[.agg #[.string a0_0, .slice A0_1 l0_1.length c0_1, .slice A0_2 l0_2.length c0_2]] w fun e w' => e = .returned (.tuple #[.string r1, .int .i64 r2]) ∧ Below w.heap.size w w' := by
 unfold image_Write.f at h
 by_cases hw : wordsOk l0_1
 ·rw [if_pos hw] at h
  injection h with h
  have := image_Write_c a0_0 A0_1 c0_1 l0_1 A0_2 c0_2 l0_2 hG hr0_1 hc0_1 hr0_2 hc0_2 hw
  rw [h] at this
  exact this
 ·rw [if_neg hw] at h
  cases h
end
end Go.Proofs.YtimhcpmfhebbhaaDoor.M
