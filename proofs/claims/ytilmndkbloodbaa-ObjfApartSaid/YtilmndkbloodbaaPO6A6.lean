/-
  Texts of the proofs of ObjfWrites, ObjfReads, ObjfBack, ObjfCuts, ObjfApart, cut to what the proofs reach and packed by a program of this session (wip/packs.py). Each part begins with what it says; conditions: those told there.
-/
import Derived.Test.YtilmndkbloodbaaPO6A5
/-
  Layer 6: the writer of package objf: what its four methods do to the writer's bytes. Conditions: the bytes stay below 2^47.
-/
namespace Go.Proofs.Ytilmndkbloodbaa.M
open Go.RowKit Go.Proofs.YtilmndkbloodbaaW.PrintWords Go.Proofs.YtilmndkbloodbaaW.PrintLast
set_option linter.unusedVariables false
set_option linter.unusedSimpArgs false
/-! ### the writer of package objf -/
/-- The writer at block wb holds the bytes xs, in a row of the call's own. -/
def Wr (w0 w : World) (wb : Nat) (xs : List Int) : Prop :=
  w0.heap.size ≤ wb ∧ (∃ v, w.heap[wb]? = some (.cells #[v] 47 (0, 0)) ∧ w.ownsRow w0.heap.size 5 1 v xs.length (nums .u8 xs)) ∧ Below w0.heap.size w0 w
/-- Whatever is neither the writer nor a row of bytes is as it was. -/
def Keep5 (w w' : World) (wb : Nat) : Prop := w.heap.size ≤ w'.heap.size ∧ ∀ (i : Nat) (o : Obj), w.heap[i]? = some o → i ≠ wb → (∀ cs fr, o ≠ .cells cs 5 fr) → w'.heap[i]? = some o
theorem Keep5.refl (w : World) (wb : Nat) : Keep5 w w wb := ⟨Nat.le_refl _, fun _ _ h _ _ => h⟩
theorem Keep5.trans {w w1 w2 : World} {wb : Nat} (h : Keep5 w w1 wb) (k : Keep5 w1 w2 wb) : Keep5 w w2 wb := ⟨Nat.le_trans h.1 k.1, fun i o hi hn ho => k.2 i o (h.2 i o hi hn ho) hn ho⟩
theorem Keep5.of_below {w w1 : World} (h : Below w.heap.size w w1) (wb : Nat) : Keep5 w w1 wb := ⟨h.size, fun i o hi _ _ => (h.block i (blk_lt hi)).trans hi⟩
theorem Keep5.of_grown {w w1 : World} {base n : Nat} {v : Value} {xs : List Value} (ho : w.ownsRow base 5 1 v n xs) (h : w.grownBy w1 v.ownBlock) (wb : Nat) : Keep5 w w1 wb := by
  refine ⟨h.size, fun i o hi _ hne => (h.block i (blk_lt hi) ?_).trans hi⟩
  intro e
  obtain ⟨cells, hc⟩ := own_typed ho i e.symm
  rw [hi] at hc
  exact hne _ _ (Option.some.inj hc)
theorem Keep5.set {w w1 : World} {wb : Nat} (h : Keep5 w w1 wb) (j : Nat) (u : Value) : Keep5 w (w1.setCell ⟨wb, j, none⟩ u) wb :=
  ⟨by simpa [World.setCell] using h.1, fun i o hi hn ho => (Below.heap_setCell w1 ⟨wb, j, none⟩ u i hn).trans (h.2 i o hi hn ho)⟩
theorem Keep5.drewN {w w1 : World} {wb : Nat} (h : Keep5 w w1 wb) (n : Nat) : Keep5 w (w1.drewN n) wb := h
theorem Keep5.alloc {w w1 : World} {wb : Nat} (h : Keep5 w w1 wb) (o : Obj) : Keep5 w (w1.alloc o) wb := h.trans (Keep5.of_below (below_alloc (Below.refl _ _) o) wb)
theorem Wr.below {w0 w w1 : World} {wb : Nat} {xs : List Int} (h : Wr w0 w wb xs) (hb : Below w.heap.size w w1) : Wr w0 w1 wb xs := by
  obtain ⟨h1, ⟨v, h2, h3⟩, h4⟩ := h
  exact ⟨h1, ⟨v, blk_below h2 hb, pw_own_below h3 hb⟩, below_then h4 h4.size hb⟩
/-- The bytes have been appended to, and the new row stored. -/
theorem Wr.stored {w0 w w1 : World} {wb : Nat} {v v1 : Value} {ys : List Int} (h1 : w0.heap.size ≤ wb) (h2 : w.heap[wb]? = some (.cells #[v] 47 (0, 0))) {xs : List Int} (h3 : w.ownsRow w0.heap.size 5 1 v xs.length (nums .u8 xs))
    (ho : w1.ownsRow w0.heap.size 5 1 v1 ys.length (nums .u8 ys)) (hb : Below w0.heap.size w0 w1) (hg : w.grownBy w1 v.ownBlock) : Wr w0 (w1.setCell ⟨wb, 0, none⟩ v1) wb ys := by
  have hne : some wb ≠ v.ownBlock := fun e => by
    obtain ⟨cells, hc⟩ := own_typed h3 wb e.symm
    rw [h2] at hc
    injection hc with hc
    injection hc with _ hc
    exact absurd hc (by decide)
  have h5 := blk_grown h2 hg hne
  have hne1 : v1.ownBlock ≠ some wb := fun e => by
    obtain ⟨cells, hc⟩ := own_typed ho wb e
    rw [h5] at hc
    injection hc with hc
    injection hc with _ hc
    exact absurd hc (by decide)
  refine ⟨h1, ⟨v1, blk_put h5 0 v1 rfl, own_move ho (fun k hk => Below.heap_setCell w1 ⟨wb, 0, none⟩ v1 k (fun e => hne1 (by rw [hk]; exact congrArg some e)))⟩, hb.setCell h1 _⟩
theorem wr_spot {w0 w w1 : World} {wb : Nat} {v : Value} (h1 : w0.heap.size ≤ wb) (h2 : w.heap[wb]? = some (.cells #[v] 47 (0, 0))) {xs : List Int} (h3 : w.ownsRow w0.heap.size 5 1 v xs.length (nums .u8 xs))
    (hg : w.grownBy w1 v.ownBlock) : w1.cell? ⟨wb, 0, none⟩ = some v ∧ w1.frozen? ⟨wb, 0, none⟩ = false := by
  have hne : some wb ≠ v.ownBlock := fun e => by
    obtain ⟨cells, hc⟩ := own_typed h3 wb e.symm
    rw [h2] at hc
    injection hc with hc
    injection hc with _ hc
    exact absurd hc (by decide)
  have h5 := blk_grown h2 hg hne
  exact ⟨(blk_cell h5 0).trans rfl, blk_frozen h5 0⟩
section
variable {P : Program} {ops : Array Oper} {o : Oper} {a : Act} {Q : Exit → Act → World → Prop} {K : Act → World → Prop}
/-- append of a text's bytes, as one step of a region that draws. -/
theorem str_step {w0 W : World} (base : Nat) (hw : Region.wanted o (yielded ops a.tmps) = true) (s x : Operand) (t u e : TypeId)
    (ho : o.op = .call { callee := .builtin .append, args := #[s, x], argTypes := #[t, u] })
    (ht : P.underlying t = some (.slice e)) (hu : P.underlying u = some .string) (hinfo : (P.info? e).map (fun i => (i.zero, i.size, i.bytes)) = some (some (.int .u8 0), 1, 1))
    (v : Value) (xs : List Int) (y : ByteArray) (hs : a.eval s = v) (hx : a.eval x = .string y)
    (HO : W.ownsRow base e 1 v xs.length (nums .u8 xs)) (HB : Below base w0 W) (hbase : base ≤ W.heap.size) (hl : xs.length + y.size ≤ 140737488355328)
    (h : ∀ v1 w1, w1.ownsRow base e 1 v1 (xs ++ bytesOf y).length (nums .u8 (xs ++ bytesOf y)) → Below base w0 w1 → W.grownBy w1 v.ownBlock → K (a.put o.dst v1) w1) :
    if Region.wanted o (yielded ops a.tmps) = true then Oper.wp P o a W K Q else K (a.put o.dst undef) W := by
  obtain ⟨i0, hi, hzz⟩ := Option.map_eq_some_iff.1 hinfo
  simp only [Prod.mk.injEq] at hzz
  obtain ⟨hz0, hz1, hz2⟩ := hzz
  rw [if_pos hw]
  obtain ⟨v1, w1, hr, hown, hg, _⟩ := Lib.run_append_own_string (P := P) W base t u o.type e i0 ht hu hi hz0 hz1 hz2 v xs.length (nums .u8 xs) HO y (by simp only [maxLen]; omega) hl hbase
  have hl2 : (xs ++ bytesOf y).length = xs.length + y.size := by rw [List.length_append, bytesOf_length]
  have hc : nums .u8 (xs ++ bytesOf y) = nums .u8 xs ++ Lib.strCells y := by
    rw [nums_append]
    congr 1
    simp [nums, bytesOf, Lib.strCells]
  unfold Oper.wp execOp
  simp only [ho, resolve, invoke, builtin, Sem.run_bind, Sem.run_pure, Result.andThen_ok, List.map_toArray, List.map_cons, List.map_nil, hs, hx, hr]
  exact h v1 w1 (by rw [hl2, hc]; exact hown) (HB.grown hg hbase (own_base HO)) hg
end
set_option maxHeartbeats 4000000 in
set_option maxRecDepth 100000 in
theorem writer_number (w0 w : World) (wb : Nat) (xs : List Int) (n : Int) (k : Nat) (r : ByteArray) (hp : word_Put.f k (IntKind.u64.wrap n) = some r) (H : Wr w0 w wb xs) (hl : xs.length + r.size ≤ 140737488355328) :
    Calls Try.prog 19 #[.pointer (some ⟨wb, 0, none⟩), .int .i64 n] w fun e w' => e = .returned (.tuple #[]) ∧ Wr w0 w' wb (xs ++ bytesOf r) ∧ Keep5 w w' wb := by
  obtain ⟨h1, ⟨v, h2, h3⟩, h4⟩ := H
  obtain ⟨ys, hys⟩ : ∃ ys, ys = xs ++ bytesOf r := ⟨_, rfl⟩
  have HY := Aside0.mk hys
  clear hys
  have HP := Aside0.mk hp
  have HL := Aside0.mk hl
  have H1 := Aside0.mk h1
  have H2 := Aside0.mk h2
  have H3 := Aside0.mk h3
  have H4 := Aside0.mk h4
  have hc : ∀ m, (w.drewN m).cell? ⟨wb, 0, none⟩ = some v := fun m => (blk_cell h2 0).trans rfl
  have hc0 : w.cell? ⟨wb, 0, none⟩ = some v := (blk_cell h2 0).trans rfl
  clear hp hl h1 h2 h3 h4
  go_enter Try.func19, Try.ntmps19
  go_region_law (first
    | (refine str_step (w0 := w0) w0.heap.size (by rfl) (.tmp 8) (.tmp 11) 45 9 5 rfl Try.underlying45 Try.underlying9 info5 v xs r (by rfl) (by rfl) ?hO ?hB ?hS HL.out ?_;
       (case hO => first | (exact pw_own_below H3.out (by assumption)) | (exact H3.out)); (case hB => first | (exact below_then H4.out H4.out.size (by assumption)) | (exact H4.out)); (case hS => first | (exact Nat.le_trans H4.out.size (Below.size (by assumption))) | (exact H4.out.size));
       intro v1 w2 ho2 hb2 hg2; rw [← HY.out] at ho2; have HW := Wr.stored H1.out (blk_below H2.out (by assumption)) (pw_own_below H3.out (by assumption)) ho2 hb2 hg2; have HK := Keep5.trans (Keep5.of_below (by assumption) wb) (Keep5.set (Keep5.of_grown (pw_own_below H3.out (by assumption)) hg2 wb) 0 v1); obtain ⟨A1, n1, rfl⟩ := own_slice ho2; have hs2 := wr_spot H1.out (blk_below H2.out (by assumption)) (pw_own_below H3.out (by assumption)) hg2; obtain ⟨hc2, hf2⟩ := hs2)
    | (go_simp; go_at_call 42; (with_reducible refine (word_Put.calls k _ r _ HP.out).mono ?_); rintro e w1 ⟨rfl, hb1_⟩; have hb1 : Below w.heap.size w w1 := below_step (by repeat (first | exact Below.refl _ _ | apply below_drew1)) hb1_; clear hb1_; have hc1 : w1.cell? ⟨wb, 0, none⟩ = some v := pw_cell_below hb1 hc0))
  all_goals (go_end0; exact ⟨rfl, HY.out ▸ HW, HK⟩)

/-- The arm of the walk for 'w.b = append(w.b, s..)' where no order is drawn. -/
theorem wr_append {w0 W : World} {P : Program} {ops : Array Oper} {rest : List Oper} {o : Oper} {a : Act} {Q : Exit → Act → World → Prop} {wb : Nat} {v : Value} {xs ys : List Int} (hgd : o.guard = none) (s x : Operand) (t u e : TypeId)
    (ho : o.op = .call { callee := .builtin .append, args := #[s, x], argTypes := #[t, u] })
    (ht : P.underlying t = some (.slice 5)) (hu : P.underlying u = some .string) (hinfo : (P.info? 5).map (fun i => (i.zero, i.size, i.bytes)) = some (some (.int .u8 0), 1, 1))
    (y : ByteArray) (hy : ys = xs ++ bytesOf y) (hs : a.eval s = v) (hx : a.eval x = .string y)
    (h1 : w0.heap.size ≤ wb) (h2 : W.heap[wb]? = some (.cells #[v] 47 (0, 0))) (h3 : W.ownsRow w0.heap.size 5 1 v xs.length (nums .u8 xs)) (h4 : Below w0.heap.size w0 W) (hl : xs.length + y.size ≤ 140737488355328)
    (h : ∀ (A1 : Option Addr) (n1 : Nat) (w2 : World), w2.cell? ⟨wb, 0, none⟩ = some v → w2.frozen? ⟨wb, 0, none⟩ = false → Aside0 (Wr w0 (w2.setCell ⟨wb, 0, none⟩ (.slice A1 ys.length n1)) wb ys) → Aside0 (Keep5 W (w2.setCell ⟨wb, 0, none⟩ (.slice A1 ys.length n1)) wb) → wpList P ops Q rest (a.put o.dst (.slice A1 ys.length n1)) w2) :
    wpList P ops Q (o :: rest) a W := by
  refine print_append_str (w0 := w0) w0.heap.size hgd s x t u 5 ho ht hu hinfo v xs y hs hx h3 h4 h4.size hl ?_
  intro v1 w2 ho2 hb2 hg2
  rw [← hy] at ho2
  obtain ⟨A1, n1, rfl⟩ := own_slice ho2
  obtain ⟨hc2, hf2⟩ := wr_spot h1 h2 h3 hg2
  exact h A1 n1 w2 hc2 hf2 ⟨Wr.stored h1 h2 h3 ho2 hb2 hg2⟩ ⟨Keep5.set (Keep5.of_grown h3 hg2 wb) 0 _⟩
set_option maxHeartbeats 4000000 in
set_option maxRecDepth 100000 in
theorem writer_text (w0 w : World) (wb : Nat) (xs : List Int) (s : ByteArray) (k : Nat) (r : ByteArray) (hp : word_Put.f k (IntKind.u64.wrap (s.size : Int)) = some r) (H : Wr w0 w wb xs) (hl : xs.length + r.size + s.size ≤ 140737488355328) :
    Calls Try.prog 18 #[.pointer (some ⟨wb, 0, none⟩), .string s] w fun e w' => e = .returned (.tuple #[]) ∧ Wr w0 w' wb (xs ++ bytesOf r ++ bytesOf s) ∧ Keep5 w w' wb := by
  have hlen : (xs ++ bytesOf r).length = xs.length + r.size := by rw [List.length_append, bytesOf_length]
  obtain ⟨ys, hys⟩ : ∃ ys, ys = xs ++ bytesOf r := ⟨_, rfl⟩
  rw [← hys] at hlen ⊢
  obtain ⟨zs, hzs⟩ : ∃ zs, zs = ys ++ bytesOf s := ⟨_, rfl⟩
  have HY := Aside0.mk hys
  have HZ := Aside0.mk hzs
  have HP := Aside0.mk hp
  have HL := Aside0.mk (show ys.length + s.size ≤ 140737488355328 by omega)
  have HL1 := Aside0.mk (show xs.length + r.size ≤ 140737488355328 by omega)
  have HH := Aside0.mk H
  clear hp hl H hys hzs hlen
  go_enter Try.func18, Try.ntmps18
  go_wp2_with (first
    | (at_builtin; refine wr_append (w0 := w0) rfl (.tmp 12) (.tmp 13) 45 9 5 rfl Try.underlying45 Try.underlying9 info5 s HZ.out (by first | rfl | (go_simp; done) | (go_simp; rfl)) (by first | rfl | (go_simp; done)) H1.out H2.out H3.out H4.out HL.out ?_; intro A1 n1 w2 hc2 hf2 HW2 HK2)
    | (go_at_call 19; (with_reducible refine (writer_number w0 _ wb xs _ k r HP.out HH.out HL1.out).mono ?_); rintro e w1 ⟨rfl, hw1, hk1⟩; rw [← HY.out] at hw1; have HK1 := Aside0.mk hk1; (obtain ⟨h1, ⟨v, h2, h3⟩, h4⟩ := hw1); (obtain ⟨A0, n0, rfl⟩ := own_slice h3); have hc1 : w1.cell? ⟨wb, 0, none⟩ = _ := (blk_cell h2 0).trans rfl; have H1 := Aside0.mk h1; have H2 := Aside0.mk h2; have H3 := Aside0.mk h3; have H4 := Aside0.mk h4; clear h1 h2 h3 h4 hk1))
  go_end0
  exact ⟨rfl, HZ.out ▸ HW2.out, HK1.out.trans HK2.out⟩
set_option maxHeartbeats 4000000 in
set_option maxRecDepth 100000 in
theorem writer_wide (w0 w : World) (wb : Nat) (xs : List Int) (n : Int) (k : Nat) (r : ByteArray) (r2 : Int) (hp : word_Bytes.f k n 8 = some (r, r2)) (H : Wr w0 w wb xs) (hl : xs.length + r.size ≤ 140737488355328) :
    Calls Try.prog 20 #[.pointer (some ⟨wb, 0, none⟩), .int .i64 n] w fun e w' => e = .returned (.tuple #[]) ∧ Wr w0 w' wb (xs ++ bytesOf r) ∧ Keep5 w w' wb := by
  obtain ⟨zs, hzs⟩ : ∃ zs, zs = xs ++ bytesOf r := ⟨_, rfl⟩
  have HZ := Aside0.mk hzs
  have HP := Aside0.mk hp
  have HL := Aside0.mk hl
  have HH := Aside0.mk H
  clear hp hl H hzs
  go_enter Try.func20, Try.ntmps20
  go_wp2_with (first
    | (at_builtin; refine wr_append (w0 := w0) rfl (.tmp 15) (.tmp 16) 45 9 5 rfl Try.underlying45 Try.underlying9 info5 r HZ.out (by first | rfl | (go_simp; done) | (go_simp; rfl)) (by first | rfl | (go_simp; done)) H1.out H2.out H3.out H4.out HL.out ?_; intro A1 n1 w2 hc2 hf2 HW2 HK2)
    | (go_at_call 43; (with_reducible refine (word_Bytes.calls k _ 8 r r2 _ HP.out).mono ?_); rintro e w1 ⟨rfl, hb1⟩; have hw1 := HH.out.below hb1; have HK1 := Aside0.mk (Keep5.of_below hb1 wb); clear hb1; (obtain ⟨h1, ⟨v, h2, h3⟩, h4⟩ := hw1); (obtain ⟨A0, n0, rfl⟩ := own_slice h3); have hc1 : w1.cell? ⟨wb, 0, none⟩ = _ := (blk_cell h2 0).trans rfl; have H1 := Aside0.mk h1; have H2 := Aside0.mk h2; have H3 := Aside0.mk h3; have H4 := Aside0.mk h4; clear h1 h2 h3 h4))
  go_end0
  exact ⟨rfl, HZ.out ▸ HW2.out, HK1.out.trans HK2.out⟩
set_option maxHeartbeats 4000000 in
set_option maxRecDepth 100000 in
theorem writer_one (w0 w : World) (wb : Nat) (xs : List Int) (n : Int) (H : Wr w0 w wb xs) (hl : xs.length + 1 ≤ 140737488355328) :
    Calls Try.prog 21 #[.pointer (some ⟨wb, 0, none⟩), .int .i64 n] w fun e w' => e = .returned (.tuple #[]) ∧ Wr w0 w' wb (xs ++ [n % 256]) ∧ Keep5 w w' wb := by
  obtain ⟨zs, hzs⟩ : ∃ zs, zs = xs ++ [n % 256] := ⟨_, rfl⟩
  have HZ := Aside0.mk hzs
  have HL := Aside0.mk hl
  obtain ⟨h1, ⟨v, h2, h3⟩, h4⟩ := H
  obtain ⟨A0, n0, rfl⟩ := own_slice h3
  have hc1 : w.cell? ⟨wb, 0, none⟩ = _ := (blk_cell h2 0).trans rfl
  have H1 := Aside0.mk h1
  have H2 := Aside0.mk h2
  have H3 := Aside0.mk h3
  have H4 := Aside0.mk h4
  clear hl h1 h2 h3 h4 hzs
  go_enter Try.func21, Try.ntmps21
  go_wp2_with (first
    | (at_builtin; refine print_append_num (w0 := w0) w0.heap.size rfl (.tmp 8) (.tmp 11) 45 5 .u8 1 rfl Try.underlying45 info5 (by decide) _ xs (n % 256) (by first | rfl | (go_simp; done) | (go_simp; rfl)) (by first | rfl | (go_simp; done)) H3.out H4.out H4.out.size (by have := HL.out; omega) ?_; intro v1 w2 ho2 hb2 hg2 hat; rw [← HZ.out] at ho2; clear hat; have HW := Wr.stored H1.out H2.out H3.out ho2 hb2 hg2; have HK := Keep5.set (Keep5.of_grown H3.out hg2 wb) 0 v1; (obtain ⟨hc2, hf2⟩ := wr_spot H1.out H2.out H3.out hg2); (obtain ⟨A1, n1, rfl⟩ := own_slice ho2)))
  go_end0
  exact ⟨rfl, HZ.out ▸ HW, HK⟩
/-! ### the writer's first append: its bytes are a constant's, at their end -/
/-- The writer holds bytes that came of a constant: there is no room behind them. -/
def Wr0 (w0 w : World) (wb : Nat) (xs : List Int) : Prop :=
  w0.heap.size ≤ wb ∧ (∃ g, w.heap[wb]? = some (.cells #[.slice (some ⟨g, 0, none⟩) xs.length xs.length] 47 (0, 0)) ∧ w.heap[g]? = some (.cells (nums .u8 xs).toArray 5 (xs.length, xs.length + 1)) ∧ xs.length ≤ 1000) ∧ Below w0.heap.size w0 w
theorem run_append_const {P : Program} (w : World) (base : Nat) (t u ty e : TypeId) (i : TypeInfo) (ht : P.underlying t = some (.slice e)) (hu : P.underlying u = some .string) (hi : P.info? e = some i) (hz : i.zero = some (.int .u8 0))
    (hsize : i.size = 1) (hby : i.bytes = 1) (g : Nat) (xs : List Int) (fr : Nat × Nat) (hg : w.heap[g]? = some (.cells (nums .u8 xs).toArray e fr)) (s : ByteArray) (hs : 0 < s.size) (hl : xs.length + s.size ≤ 140737488355328) (hbase : base ≤ w.heap.size) :
    ∃ v' w', (Builtin.append_ #[t, u] ty #[.slice (some ⟨g, 0, none⟩) xs.length xs.length, .string s]).run P w = .ok v' w' ∧ w'.ownsRow base e 1 v' (xs.length + s.size) (nums .u8 xs ++ Lib.strCells s) ∧ (∀ row, w.grownBy w' row) := by
  have hxl : (nums .u8 xs).length = xs.length := nums_length _ _
  have holds : ∀ j u, (nums .u8 xs)[j]? = some u → w.cell? ((⟨g, 0, none⟩ : Addr).add j) = some u := fun j u hj => by
    rw [add_plain]
    have := cell_of_row w g j _ e fr hg
    rw [this]
    simpa using hj
  have hlen : (nums .u8 xs ++ Lib.strCells s).length = (xs.length + s.size) * 1 := by rw [List.length_append, hxl, Lib.strCells_length, Nat.mul_one]
  have hr := Lib.run_append_grow_string (P := P) w t u ty e i (.int .u8 0) ht hu hi hz ⟨g, 0, none⟩ xs.length xs.length (nums .u8 xs) (by rw [hsize, hxl]; simp) holds s (by omega) (by omega) (by rw [hby]; exact growslice_fits (by omega) (by omega))
  have hge := grownCap_ge w (xs.length + s.size) xs.length e
  have hcm : grownCap w (xs.length + s.size) xs.length e ≤ maxLen := grownCap_le_maxLen w (xs.length + s.size) xs.length e (by simp only [maxLen]; omega)
  refine ⟨_, _, hr, ⟨hlen, .inr ⟨w.heap.size, _, _, rfl, hbase, heap_alloc_new w.drew _, hge, hcm, ?_, ?_⟩⟩, fun row => ⟨rfl, rfl, rfl, by simp, fun k hk _ => Below.heap_alloc w.drew _ k hk⟩⟩
  · have hz1 : (Value.int IntKind.u8 0).cells.size = 1 := rfl
    simp only [Array.size_append, List.size_toArray, size_zeroCells, hz1, hxl, Lib.strCells_length]
    omega
  · simp only [Array.toList_append, List.append_assoc]
    rw [← List.append_assoc, ← hlen]
    exact List.take_left
section
variable {P : Program} {ops : Array Oper} {o : Oper} {a : Act} {Q : Exit → Act → World → Prop} {K : Act → World → Prop}
theorem str_step0 {w0 W : World} (base : Nat) (hw : Region.wanted o (yielded ops a.tmps) = true) (s x : Operand) (t u e : TypeId)
    (ho : o.op = .call { callee := .builtin .append, args := #[s, x], argTypes := #[t, u] })
    (ht : P.underlying t = some (.slice e)) (hu : P.underlying u = some .string) (hinfo : (P.info? e).map (fun i => (i.zero, i.size, i.bytes)) = some (some (.int .u8 0), 1, 1))
    (g : Nat) (xs : List Int) (fr : Nat × Nat) (y : ByteArray) (hs : a.eval s = .slice (some ⟨g, 0, none⟩) xs.length xs.length) (hx : a.eval x = .string y) (hy : 0 < y.size)
    (hg : W.heap[g]? = some (.cells (nums .u8 xs).toArray e fr)) (HB : Below base w0 W) (hbase : base ≤ W.heap.size) (hl : xs.length + y.size ≤ 140737488355328)
    (h : ∀ v1 w1, w1.ownsRow base e 1 v1 (xs ++ bytesOf y).length (nums .u8 (xs ++ bytesOf y)) → Below base w0 w1 → W.grownBy w1 none → K (a.put o.dst v1) w1) :
    if Region.wanted o (yielded ops a.tmps) = true then Oper.wp P o a W K Q else K (a.put o.dst undef) W := by
  obtain ⟨i0, hi, hzz⟩ := Option.map_eq_some_iff.1 hinfo
  simp only [Prod.mk.injEq] at hzz
  obtain ⟨hz0, hz1, hz2⟩ := hzz
  rw [if_pos hw]
  obtain ⟨v1, w1, hr, hown, hgr⟩ := run_append_const (P := P) W base t u o.type e i0 ht hu hi hz0 hz1 hz2 g xs fr hg y hy hl hbase
  have hl2 : (xs ++ bytesOf y).length = xs.length + y.size := by rw [List.length_append, bytesOf_length]
  have hc : nums .u8 (xs ++ bytesOf y) = nums .u8 xs ++ Lib.strCells y := by
    rw [nums_append]
    congr 1
    simp [nums, bytesOf, Lib.strCells]
  unfold Oper.wp execOp
  simp only [ho, resolve, invoke, builtin, Sem.run_bind, Sem.run_pure, Result.andThen_ok, List.map_toArray, List.map_cons, List.map_nil, hs, hx, hr]
  exact h v1 w1 (by rw [hl2, hc]; exact hown) (HB.grown (hgr none) hbase (fun k hk => by cases hk)) (hgr none)
end
theorem Wr.stored0 {w0 w w1 : World} {wb : Nat} {v v1 : Value} {ys : List Int} (h1 : w0.heap.size ≤ wb) (h2 : w.heap[wb]? = some (.cells #[v] 47 (0, 0)))
    (ho : w1.ownsRow w0.heap.size 5 1 v1 ys.length (nums .u8 ys)) (hb : Below w0.heap.size w0 w1) (hg : w.grownBy w1 none) : Wr w0 (w1.setCell ⟨wb, 0, none⟩ v1) wb ys ∧ w1.cell? ⟨wb, 0, none⟩ = some v ∧ w1.frozen? ⟨wb, 0, none⟩ = false := by
  have h5 := blk_grown h2 hg (by simp)
  have hne1 : v1.ownBlock ≠ some wb := fun e => by
    obtain ⟨cells, hc⟩ := own_typed ho wb e
    rw [h5] at hc
    injection hc with hc
    injection hc with _ hc
    exact absurd hc (by decide)
  exact ⟨⟨h1, ⟨v1, blk_put h5 0 v1 rfl, own_move ho (fun k hk => Below.heap_setCell w1 ⟨wb, 0, none⟩ v1 k (fun e => hne1 (by rw [hk]; exact congrArg some e)))⟩, hb.setCell h1 _⟩, (blk_cell h5 0).trans rfl, blk_frozen h5 0⟩
theorem Keep5.of_none {w w1 : World} (h : w.grownBy w1 none) (wb : Nat) : Keep5 w w1 wb := ⟨h.size, fun i o hi _ _ => (h.block i (blk_lt hi) (by simp)).trans hi⟩
set_option maxHeartbeats 4000000 in
set_option maxRecDepth 100000 in
theorem writer_number0 (w0 w : World) (wb : Nat) (xs : List Int) (n : Int) (k : Nat) (r : ByteArray) (hp : word_Put.f k (IntKind.u64.wrap n) = some r) (hr : 0 < r.size) (H : Wr0 w0 w wb xs) (hl : r.size ≤ 1000) :
    Calls Try.prog 19 #[.pointer (some ⟨wb, 0, none⟩), .int .i64 n] w fun e w' => e = .returned (.tuple #[]) ∧ Wr w0 w' wb (xs ++ bytesOf r) ∧ Keep5 w w' wb := by
  obtain ⟨h1, ⟨g, h2, h3, hx⟩, h4⟩ := H
  obtain ⟨ys, hys⟩ : ∃ ys, ys = xs ++ bytesOf r := ⟨_, rfl⟩
  have HY := Aside0.mk hys
  have HR := Aside0.mk hr
  have HP := Aside0.mk hp
  have HL := Aside0.mk (show xs.length + r.size ≤ 140737488355328 by omega)
  have H1 := Aside0.mk h1
  have H2 := Aside0.mk h2
  have H3 := Aside0.mk h3
  have H4 := Aside0.mk h4
  have hc0 : w.cell? ⟨wb, 0, none⟩ = some _ := (blk_cell h2 0).trans rfl
  clear hp hl h1 h2 h3 h4 hys hr hx
  go_enter Try.func19, Try.ntmps19
  go_region_law (first
    | (refine str_step0 (w0 := w0) w0.heap.size (by rfl) (.tmp 8) (.tmp 11) 45 9 5 rfl Try.underlying45 Try.underlying9 info5 g xs (xs.length, xs.length + 1) r (by rfl) (by rfl) HR.out ?hO ?hB ?hS HL.out ?_;
       (case hO => first | (exact blk_below H3.out (by assumption)) | (exact H3.out)); (case hB => first | (exact below_then H4.out H4.out.size (by assumption)) | (exact H4.out)); (case hS => first | (exact Nat.le_trans H4.out.size (Below.size (by assumption))) | (exact H4.out.size));
       intro v1 w2 ho2 hb2 hg2; rw [← HY.out] at ho2; (obtain ⟨HW, hc2, hf2⟩ := Wr.stored0 H1.out (blk_below H2.out (by assumption)) ho2 hb2 hg2); have HK := Keep5.trans (Keep5.of_below (by assumption) wb) (Keep5.set (Keep5.of_none hg2 wb) 0 v1); (obtain ⟨A1, n1, rfl⟩ := own_slice ho2))
    | (go_simp; go_at_call 42; (with_reducible refine (word_Put.calls k _ r _ HP.out).mono ?_); rintro e w1 ⟨rfl, hb1_⟩; have hb1 : Below w.heap.size w w1 := below_step (by repeat (first | exact Below.refl _ _ | apply below_drew1)) hb1_; clear hb1_; have hc1 : w1.cell? ⟨wb, 0, none⟩ = some _ := pw_cell_below hb1 hc0))
  all_goals (go_end0; exact ⟨rfl, HY.out ▸ HW, HK⟩)
set_option maxHeartbeats 4000000 in
set_option maxRecDepth 100000 in
theorem writer_text0 (w0 w : World) (wb : Nat) (xs : List Int) (s : ByteArray) (k : Nat) (r : ByteArray) (hp : word_Put.f k (IntKind.u64.wrap (s.size : Int)) = some r) (hr : 0 < r.size) (hr2 : r.size ≤ 1000) (H : Wr0 w0 w wb xs) (hl : xs.length + r.size + s.size ≤ 140737488355328) :
    Calls Try.prog 18 #[.pointer (some ⟨wb, 0, none⟩), .string s] w fun e w' => e = .returned (.tuple #[]) ∧ Wr w0 w' wb (xs ++ bytesOf r ++ bytesOf s) ∧ Keep5 w w' wb := by
  have hlen : (xs ++ bytesOf r).length = xs.length + r.size := by rw [List.length_append, bytesOf_length]
  obtain ⟨ys, hys⟩ : ∃ ys, ys = xs ++ bytesOf r := ⟨_, rfl⟩
  rw [← hys] at hlen ⊢
  obtain ⟨zs, hzs⟩ : ∃ zs, zs = ys ++ bytesOf s := ⟨_, rfl⟩
  have HY := Aside0.mk hys
  have HZ := Aside0.mk hzs
  have HP := Aside0.mk hp
  have HR := Aside0.mk hr
  have HR2 := Aside0.mk hr2
  have HL := Aside0.mk (show ys.length + s.size ≤ 140737488355328 by omega)
  have HH := Aside0.mk H
  clear hp hl H hys hzs hlen hr hr2
  go_enter Try.func18, Try.ntmps18
  go_wp2_with (first
    | (at_builtin; refine wr_append (w0 := w0) rfl (.tmp 12) (.tmp 13) 45 9 5 rfl Try.underlying45 Try.underlying9 info5 s HZ.out (by first | rfl | (go_simp; done) | (go_simp; rfl)) (by first | rfl | (go_simp; done)) H1.out H2.out H3.out H4.out HL.out ?_; intro A1 n1 w2 hc2 hf2 HW2 HK2)
    | (go_at_call 19; (with_reducible refine (writer_number0 w0 _ wb xs _ k r HP.out HR.out HH.out HR2.out).mono ?_); rintro e w1 ⟨rfl, hw1, hk1⟩; rw [← HY.out] at hw1; have HK1 := Aside0.mk hk1; (obtain ⟨h1, ⟨v, h2, h3⟩, h4⟩ := hw1); (obtain ⟨A0, n0, rfl⟩ := own_slice h3); have hc1 : w1.cell? ⟨wb, 0, none⟩ = _ := (blk_cell h2 0).trans rfl; have H1 := Aside0.mk h1; have H2 := Aside0.mk h2; have H3 := Aside0.mk h3; have H4 := Aside0.mk h4; clear h1 h2 h3 h4 hk1))
  go_end0
  exact ⟨rfl, HZ.out ▸ HW2.out, HK1.out.trans HK2.out⟩
end Go.Proofs.Ytilmndkbloodbaa.M

/-
  Layer 6: what objf.Write answers: a form by plain functions on lists, and the walk that shows it. Condition: the words of data are of 64 bits.
-/
namespace Go.Proofs.Ytilmndkbloodbaa.M
open Go.RowKit Go.Proofs.YtilmndkbloodbaaW.PrintWords Go.Proofs.YtilmndkbloodbaaW.PrintLast Go.Proofs.Ytilmndkbloodbaa.Num Go.Proofs.Ytilmndkbloodbaa.Seven Go.Proofs.Ytilmndkbloodbaa.Word1 Go.Proofs.Ytilmndkbloodbaa.Obj
set_option linter.unusedVariables false
set_option linter.unusedSimpArgs false
def wordsOk (l : List Int) : Prop := ∀ n ∈ l, -9223372036854775808 ≤ n ∧ n < 9223372036854775808
instance (l : List Int) : Decidable (wordsOk l) := by unfold wordsOk; exact inferInstance
def textL (s : ByteArray) : List Int := putL s.size ++ bytesOf s
def symL (s : S41) : List Int := textL s.f0 ++ [s.f1 % 256] ++ putL s.f2.toNat
def relL (r : S43) : List Int := putL r.f0.toNat ++ [r.f1 % 256] ++ textL r.f2 ++ leL r.f3 8
def dataL (l : List Int) : List Int := l.flatMap fun n => leL n 8
def symsL (l : List S41) : List Int := l.flatMap symL
def relsL (l : List S43) : List Int := l.flatMap relL
def front0 (mark : List Int) (code : ByteArray) (data : List Int) : List Int := mark ++ textL code ++ putL data.length
def front1 (mark : List Int) (code : ByteArray) (data : List Int) (syms : List S41) : List Int := front0 mark code data ++ dataL data ++ putL syms.length
def front (mark : List Int) (code : ByteArray) (data : List Int) (syms : List S41) : List Int := front1 mark code data syms ++ symsL syms
def form (mark : List Int) (code : ByteArray) (data : List Int) (syms : List S41) (rels : List S43) : List Int := front mark code data syms ++ putL rels.length ++ relsL rels
def COT1 : List Int := [67, 79, 84, 49]
def objf_Write.f (a0_0 : ByteArray) (l0_1 : List Int) (l0_2 : List S41) (l0_3 : List S43) : Option (ByteArray × Int) :=
  if wordsOk l0_1 then some (if may a0_0 l0_1 l0_2 l0_3 = true then (strOfNums (form COT1 a0_0 l0_1 l0_2 l0_3), 0) else ((⟨#[]⟩ : ByteArray), 1)) else none
theorem symGood_named {code data : Int} {s : S41} (h : symGood code data s = true) : named s.f0 ∧ 0 ≤ s.f2 ∧ s.f2 < (if s.f1 = 2 then data else code) ∧ (s.f1 = 1 ∨ s.f1 = 2 ∨ s.f1 = 3) := by
  unfold symGood at h
  simp only [Bool.and_eq_true, decide_eq_true_eq] at h
  exact ⟨h.1.1.2, h.1.2, h.2, h.1.1.1⟩
theorem put_small {n : Nat} (h : n < 18446744073709551616) : (putL n).length ≤ 10 := putL_ten h
theorem bytes8 (n : Int) (h : -9223372036854775808 ≤ n ∧ n < 9223372036854775808) : word_Bytes.f 10 n 8 = some (strOfNums (leL n 8), 0) := by
  rw [bytes_f n 8 h.1 h.2 10 (by omega)]
  unfold bytesR
  rw [if_pos (by omega), if_pos (by unfold Fits; omega)]
  rfl
theorem put8 (n : Nat) (h : n < 18446744073709551616) : word_Put.f 10 (IntKind.u64.wrap (n : Int)) = some (strOfNums (putL n)) := by
  rw [wrap_u64_id (by omega) (by omega)]
  exact Put_f h (by omega)
theorem put8' (n : Int) (h0 : 0 ≤ n) (h : n < 18446744073709551616) : word_Put.f 10 (IntKind.u64.wrap n) = some (strOfNums (putL n.toNat)) := by
  have := put8 n.toNat (by omega)
  rwa [Int.toNat_of_nonneg h0] at this
theorem of_strPut (n : Nat) : bytesOf (strOfNums (putL n)) = putL n := bytesOf_str (putL_bs n)
theorem of_strLe (n : Int) (s : Nat) : bytesOf (strOfNums (leL n s)) = leL n s := bytesOf_str (leL_bs n s)
theorem str_size (l : List Int) (h : Bs l) : (strOfNums l).size = l.length := by rw [← bytesOf_length, bytesOf_str h]
theorem flat_snoc {α : Type} (f : α → List Int) (l : List α) (k : Nat) (h : k < l.length) : (l.take (k + 1)).flatMap f = (l.take k).flatMap f ++ f l[k] := by
  rw [List.take_succ_eq_append_getElem h, List.flatMap_append, List.flatMap_cons, List.flatMap_nil, List.append_nil]
theorem dataL_snoc (l : List Int) (k : Nat) (h : k < l.length) : dataL (l.take (k + 1)) = dataL (l.take k) ++ leL l[k] 8 := flat_snoc _ l k h
theorem symsL_snoc (l : List S41) (k : Nat) (h : k < l.length) : symsL (l.take (k + 1)) = symsL (l.take k) ++ symL l[k] := flat_snoc _ l k h
theorem relsL_snoc (l : List S43) (k : Nat) (h : k < l.length) : relsL (l.take (k + 1)) = relsL (l.take k) ++ relL l[k] := flat_snoc _ l k h
theorem dataL_len (l : List Int) : (dataL l).length = 8 * l.length := by
  induction l with
  | nil => rfl
  | cons n l ih =>
    have e : dataL (n :: l) = leL n 8 ++ dataL l := rfl
    rw [e, List.length_append, ih, leL_len, List.length_cons]
    omega
theorem textL_len (s : ByteArray) (h : s.size < 18446744073709551616) : (textL s).length ≤ 10 + s.size := by
  unfold textL
  rw [List.length_append, bytesOf_length]
  have := put_small h
  omega
theorem symL_len (s : S41) (h : named s.f0) (h2 : s.f2 < 18446744073709551616) : (symL s).length ≤ 49 := by
  unfold symL
  rw [List.length_append, List.length_append]
  have h1 := textL_len s.f0 (by have := h.2; omega)
  have h3 := put_small (n := s.f2.toNat) (by omega)
  have := h.2
  simp only [List.length_cons, List.length_nil]
  omega
theorem symsL_len (l : List S41) (h : ∀ s ∈ l, named s.f0 ∧ s.f2 < 18446744073709551616) : (symsL l).length ≤ 49 * l.length := by
  induction l with
  | nil => exact Nat.le_refl _
  | cons s l ih =>
    have e : symsL (s :: l) = symL s ++ symsL l := rfl
    have h1 := symL_len s (h s (by simp)).1 (h s (by simp)).2
    have h2 := ih (fun t ht => h t (by simp [ht]))
    rw [e, List.length_append, List.length_cons]
    omega
theorem relL_len (r : S43) (h : named r.f2) (h2 : r.f0 < 18446744073709551616) : (relL r).length ≤ 57 := by
  unfold relL
  rw [List.length_append, List.length_append, List.length_append, leL_len]
  have h1 := textL_len r.f2 (by have := h.2; omega)
  have h3 := put_small (n := r.f0.toNat) (by omega)
  have := h.2
  simp only [List.length_cons, List.length_nil]
  omega
theorem relsL_len (l : List S43) (h : ∀ r ∈ l, named r.f2 ∧ r.f0 < 18446744073709551616) : (relsL l).length ≤ 57 * l.length := by
  induction l with
  | nil => exact Nat.le_refl _
  | cons r l ih =>
    have e : relsL (r :: l) = relL r ++ relsL l := rfl
    have h1 := relL_len r (h r (by simp)).1 (h r (by simp)).2
    have h2 := ih (fun t ht => h t (by simp [ht]))
    rw [e, List.length_append, List.length_cons]
    omega
/-- What relocations that may be are, one by one. -/
theorem relsOk_all : ∀ (l : List S43) (code free : Int), 0 ≤ free → relsOk code free l = true → ∀ r ∈ l, named r.f2 ∧ 0 ≤ r.f0 ∧ r.f0 ≤ code - 4 ∧ (r.f1 = 1 ∨ r.f1 = 2) ∧ -9223372036854775808 ≤ r.f3 ∧ r.f3 < 9223372036854775808 := by
  intro l
  induction l with
  | nil => intro _ _ _ _ r hr; cases hr
  | cons x l ih =>
    intro code free hf h r hr
    simp only [relsOk, Bool.and_eq_true, decide_eq_true_eq] at h
    obtain ⟨⟨h1, h2, h3, h4⟩, h5⟩ := h
    rcases List.mem_cons.1 hr with rfl | hr
    · exact ⟨h1, by omega, h3, by omega, by omega, by omega⟩
    · exact ih code (x.f0 + 4) (by omega) h5 r hr
theorem may_parts {code : ByteArray} {data : List Int} {syms : List S41} {rels : List S43} (h : may code data syms rels = true) :
    code.size ≤ 65536 ∧ data.length ≤ 4096 ∧ syms.length ≤ 1000 ∧ rels.length ≤ 8000 ∧
    (∀ s ∈ syms, named s.f0 ∧ 0 ≤ s.f2 ∧ s.f2 < 65536 ∧ (s.f1 = 1 ∨ s.f1 = 2 ∨ s.f1 = 3)) ∧
    (∀ r ∈ rels, named r.f2 ∧ 0 ≤ r.f0 ∧ r.f0 < 65536 ∧ (r.f1 = 1 ∨ r.f1 = 2) ∧ -9223372036854775808 ≤ r.f3 ∧ r.f3 < 9223372036854775808) := by
  unfold may symsOk at h
  simp only [Bool.and_eq_true, decide_eq_true_eq] at h
  obtain ⟨⟨⟨⟨h1, h2⟩, ⟨h3, h4⟩, h5⟩, h6⟩, h7⟩ := h
  refine ⟨h1, h2, h5, h7, fun s hs => ?_, fun r hr => ?_⟩
  · have := symGood_named (List.all_eq_true.1 h3 s hs)
    refine ⟨this.1, this.2.1, ?_, this.2.2.2⟩
    have h8 := this.2.2.1
    split at h8 <;> omega
  · have := relsOk_all rels _ 0 (by omega) h6 r hr
    exact ⟨this.1, this.2.1, by omega, this.2.2.2.1, this.2.2.2.2.1, this.2.2.2.2.2⟩
theorem wr_new {w w1 : World} (h : Below w.heap.size w w1) : Wr0 w ((w1.alloc (.cells #[.int .u8 67, .int .u8 79, .int .u8 84, .int .u8 49] 5 (4, 5))).alloc (.cells #[.slice (some ⟨w1.heap.size, 0, none⟩) 4 4] 47)) (w1.heap.size + 1) COT1 := by
  refine ⟨Nat.le_trans h.size (Nat.le_succ _), ⟨w1.heap.size, ?_, blk_alloc (blk_new w1 _) _, by decide⟩, below_alloc (below_alloc h _) _⟩
  have := blk_new (w1.alloc (.cells #[.int .u8 67, .int .u8 79, .int .u8 84, .int .u8 49] 5 (4, 5))) (.cells #[.slice (some ⟨w1.heap.size, 0, none⟩) 4 4] 47)
  have e : (w1.alloc (.cells #[.int .u8 67, .int .u8 79, .int .u8 84, .int .u8 49] 5 (4, 5))).heap.size = w1.heap.size + 1 := by simp
  rw [e] at this
  exact this
end Go.Proofs.Ytilmndkbloodbaa.M

/-
  Layer 6: rows of bytes that came of a conversion of a text (they bear a mark behind their end): read, appended to, told as a text. No condition beside the sizes.
-/
namespace Go.Proofs.YtilmndkbloodbaaW.PrintWords
open Go.RowKit
set_option linter.unusedVariables false
set_option linter.unusedSimpArgs false
/-- A row of bytes of the call's own, whether it bears a mark behind its end or not. -/
def OwnB (w : World) (base e : Nat) (v : Value) (xs : List Int) : Prop :=
  (v = .slice none 0 0 ∧ xs = []) ∨ ∃ (g cap : Nat) (cur : Array Value) (fr : Nat × Nat), v = .slice (some ⟨g, 0, none⟩) xs.length cap ∧ base ≤ g ∧ w.heap[g]? = some (.cells cur e fr) ∧ (fr.2 ≤ fr.1 ∨ cur.size ≤ fr.1) ∧ xs.length ≤ cap ∧ cap ≤ maxLen ∧ cur.size = cap ∧ cur.toList.take xs.length = nums .u8 xs
theorem OwnB.slice {w : World} {base e : Nat} {v : Value} {xs : List Int} (h : OwnB w base e v xs) : ∃ A c, v = .slice A xs.length c := by
  rcases h with ⟨rfl, rfl⟩ | ⟨g, cap, cur, fr, rfl, _⟩
  · exact ⟨none, 0, rfl⟩
  · exact ⟨_, _, rfl⟩
theorem OwnB.kept {w w1 : World} {base e : Nat} {v : Value} {xs : List Int} (h : OwnB w base e v xs) (hk : ∀ k, v.ownBlock = some k → k < w.heap.size → w1.heap[k]? = w.heap[k]?) : OwnB w1 base e v xs := by
  rcases h with h | ⟨g, cap, cur, fr, rfl, hb, hg, r⟩
  · exact .inl h
  · exact .inr ⟨g, cap, cur, fr, rfl, hb, (hk g rfl (blk_lt hg)).trans hg, r⟩
theorem OwnB.below {w w1 : World} {base e : Nat} {v : Value} {xs : List Int} (h : OwnB w base e v xs) (hb : Below w.heap.size w w1) : OwnB w1 base e v xs := h.kept (fun k _ hk => hb.block k hk)
theorem OwnB.typed {w : World} {base e : Nat} {v : Value} {xs : List Int} (h : OwnB w base e v xs) (k : Nat) (hk : v.ownBlock = some k) : base ≤ k ∧ ∃ cells fr, w.heap[k]? = some (.cells cells e fr) := by
  rcases h with ⟨rfl, _⟩ | ⟨g, cap, cur, fr, rfl, hb, hg, r⟩
  · simp [Value.ownBlock] at hk
  · have : g = k := by simpa [Value.ownBlock] using hk
    subst this
    exact ⟨hb, cur, fr, hg⟩
theorem OwnB.cells {w : World} {base e : Nat} {v : Value} {xs : List Int} (h : OwnB w base e v xs) : (∃ c, v = .slice none 0 c ∧ xs = []) ∨ ∃ g cap, v = .slice (some ⟨g, 0, none⟩) xs.length cap ∧ ∀ j u, (nums .u8 xs)[j]? = some u → w.cell? ⟨g, j, none⟩ = some u := by
  rcases h with ⟨rfl, rfl⟩ | ⟨g, cap, cur, fr, rfl, hb, hg, hf, h1, h2, h3, h4⟩
  · exact .inl ⟨0, rfl, rfl⟩
  · refine .inr ⟨g, cap, rfl, fun j u hj => ?_⟩
    rw [cell_of_row w g j cur e fr hg]
    have hlt : j < xs.length := by rw [← nums_length .u8 xs]; exact (List.getElem?_eq_some_iff.1 hj).1
    rw [← h4, List.getElem?_take_of_lt hlt] at hj
    simpa using hj
theorem OwnB.string {P : Program} {w : World} {base e' : Nat} {src dst e : TypeId} {v : Value} {xs : List Int} (hs : P.underlying src = some (.slice e)) (he : P.underlying e = some (.int .u8)) (hd : P.underlying dst = some .string)
    (h : OwnB w base e' v xs) : (convert src dst v).run P w = .ok (.string (strOfNums xs)) w := by
  rcases h.cells with ⟨c, rfl, rfl⟩ | ⟨g, cap, rfl, hc⟩
  · exact run_convert_bytes_nil w src e hs he 0 c dst hd
  · refine run_convert_bytes_arg w src e hs he g 0 xs.length cap xs rfl (fun i hi => ?_) dst hd
    have := hc i (.int .u8 (xs.getD i 0)) (by simp [nums, List.getElem?_eq_getElem (show i < xs.length by omega), List.getD_eq_getElem?_getD])
    simpa using this
/-- '[]byte(s)': the new row. -/
theorem OwnB.new (w : World) (base e : Nat) (s : ByteArray) (hb : base ≤ w.heap.size) (hs : s.size ≤ maxLen) : OwnB (Lib.bytesWorld w e s) base e (.slice (some ⟨w.heap.size, 0, none⟩) s.size (grownCap w s.size 0 e)) (bytesOf s) := by
  have hge := grownCap_ge w s.size 0 e
  have hcm := grownCap_le_maxLen w s.size 0 e hs
  have hsz : (Lib.bytesCells w e s).size = grownCap w s.size 0 e := by
    simp only [Lib.bytesCells, Array.size_append, Array.size_map, Array.size_replicate]
    have : s.data.size = s.size := rfl
    omega
  have hl : (bytesOf s).length = s.size := bytesOf_length s
  refine .inr ⟨w.heap.size, _, _, _, by rw [hl], hb, Lib.bytesWorld_at_new w e s, .inr (Nat.le_refl _), by rw [hl]; exact hge, hcm, hsz, ?_⟩
  rw [hl]
  have e1 : (s.data.map fun b => Value.int .u8 b.toNat).toList = nums .u8 (bytesOf s) := by simp [nums, bytesOf]
  have e2 : (nums .u8 (bytesOf s)).length = s.size := by rw [nums_length, hl]
  simp only [Lib.bytesCells, Array.toList_append]
  rw [e1, ← e2]
  exact List.take_left
section
variable {P : Program} {ops : Array Oper} {rest : List Oper} {o : Oper} {a : Act} {Q : Exit → Act → World → Prop} {K : Act → World → Prop}
end
end Go.Proofs.YtilmndkbloodbaaW.PrintWords

/-
  Layer 6: the document's forms (cotterref06.Front, Write): the walks. Conditions: the words of data are of 64 bits; for Front, that symbols, code and data may be.
-/
namespace Go.Proofs.Ytilmndkbloodbaa.M
open Go.RowKit Go.Proofs.YtilmndkbloodbaaW.PrintWords Go.Proofs.YtilmndkbloodbaaW.PrintLast Go.Proofs.Ytilmndkbloodbaa.Num Go.Proofs.Ytilmndkbloodbaa.Seven Go.Proofs.Ytilmndkbloodbaa.Word1 Go.Proofs.Ytilmndkbloodbaa.Obj
set_option linter.unusedVariables false
set_option linter.unusedSimpArgs false
theorem of_str {l : List Int} (h : Bs l) : bytesOf (strOfNums l) = l := bytesOf_str h
theorem textL_bs (s : ByteArray) : Bs (textL s) := Bs.append (putL_bs _) (bytesOf_Bs s)
theorem one_bs (n : Int) : Bs [n % 256] := Bs.cons (by omega) (by omega) Bs.nil
theorem symL_bs (s : S41) : Bs (symL s) := Bs.append (Bs.append (textL_bs _) (one_bs _)) (putL_bs _)
theorem relL_bs (r : S43) : Bs (relL r) := Bs.append (Bs.append (Bs.append (putL_bs _) (one_bs _)) (textL_bs _)) (leL_bs _ _)
theorem flat_bs {α : Type} (f : α → List Int) (hf : ∀ x, Bs (f x)) : ∀ l : List α, Bs (l.flatMap f)
  | [] => Bs.nil
  | x :: l => by
    rw [List.flatMap_cons]
    exact Bs.append (hf x) (flat_bs f hf l)
theorem below_in {w W w1 : World} (h : Below w.heap.size w W) (k : Below W.heap.size W w1) : Below w.heap.size w w1 := below_then h h.size k
end Go.Proofs.Ytilmndkbloodbaa.M

