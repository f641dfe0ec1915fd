/-
  Texts of the proofs of ObjfWrites, ObjfReads, ObjfBack, ObjfCuts, ObjfApart, cut to what the proofs reach and packed by a program of this session (wip/packs.py). Each part begins with what it says; conditions: those told there.
-/
import Derived.Tactics2
import Derived.Defers
import Derived.Test.YtilmndkbloodbaaPO6A7
/-
  Layer 6: objf.Read's deferred closure (Read$1): its contracts, for a frame that panics with 'lacking' and for one that returns. Plain words on a frame's leaving.
-/
namespace Go.Proofs.Ytilmndkbloodbaa.M
open Go.RowKit Go.Proofs.YtilmndkbloodbaaW.PrintWords Go.Proofs.Ytilmndkbloodbaa.Num Go.Proofs.Ytilmndkbloodbaa.Seven Go.Proofs.Ytilmndkbloodbaa.Word1 Go.Proofs.Ytilmndkbloodbaa.Obj
set_option linter.unusedVariables false
set_option linter.unusedSimpArgs false
set_option maxHeartbeats 4000000 in
theorem catch_lacking (o e : Nat) (c0 c1 c2 c3 : Value) (x : Int) (older : List PanicEntry) (W : World) (ho : W.heap[o]? = some (.cells #[c0, c1, c2, c3] 26 (0, 0))) (he : W.heap[e]? = some (.cells #[.int .i64 x] 30 (0, 0))) (hne : o ≠ e) :
    CallsD Try.prog 31 #[.pointer (some ⟨o, 0, none⟩), .pointer (some ⟨e, 0, none⟩)] (.panicking ({ v := .iface 60 (.agg #[]), recovered := false } :: older)) W fun e' u' W' =>
      e' = .returned (.tuple #[]) ∧ u' = .panicking ({ v := .iface 60 (.agg #[]), recovered := true } :: older) ∧
      W'.heap[o]? = some (.cells #[.string ⟨#[]⟩, .slice none 0 0, .slice none 0 0, .slice none 0 0] 26 (0, 0)) ∧ W'.heap[e]? = some (.cells #[.int .i64 9] 30 (0, 0)) ∧
      (∀ w : World, Below w.heap.size w W → w.heap.size ≤ o → w.heap.size ≤ e → Below w.heap.size w W') := by
  have co0 : W.cell? ⟨o, 0, none⟩ = some c0 := (blk_cell ho 0).trans rfl
  have co1 : W.cell? ⟨o, 1, none⟩ = some c1 := (blk_cell ho 1).trans rfl
  have co2 : W.cell? ⟨o, 2, none⟩ = some c2 := (blk_cell ho 2).trans rfl
  have co3 : W.cell? ⟨o, 3, none⟩ = some c3 := (blk_cell ho 3).trans rfl
  have ce0 : W.cell? ⟨e, 0, none⟩ = some (.int .i64 x) := (blk_cell he 0).trans rfl
  have fo0 := blk_frozen ho 0
  have fo1 := blk_frozen ho 1
  have fo2 := blk_frozen ho 2
  have fo3 := blk_frozen ho 3
  have fe0 := blk_frozen he 0
  have hlo := blk_lt ho
  have hle := blk_lt he
  have HO := Aside0.mk ho
  have HE := Aside0.mk he
  clear ho he
  refine callsD_of_wpS Try.func31 rfl fun c₀ cs hu => ?_
  apply wpS_seq
  apply wpS_region
  simp [wpOpsS, go_sem, recoverD, hu, Try.ntmps31, Exit.thenS]
  refine wpS_of_wp ?_
  have ht : ∀ w : World, (Instr.typeAssert (.iface 60 (.agg #[])) 20 60 true).run Try.prog w = .ok (.tuple #[.agg #[], .bool true]) w := fun w => by rfl
  go_wp2
  refine ⟨rfl, _, rfl, .tuple #[], by simp [results, Try.results31], rfl, rfl, ?_, ?_, ?_⟩
  · exact blk_alloc (blk_far (blk_put (cs := #[.string ⟨#[]⟩, .slice none 0 0, .slice none 0 0, c3]) (blk_put (cs := #[.string ⟨#[]⟩, .slice none 0 0, c2, c3]) (blk_put (cs := #[.string ⟨#[]⟩, c1, c2, c3]) (blk_put HO.out 0 _ rfl) 1 _ rfl) 2 _ rfl) 3 _ rfl) (by simpa using hne) _) _
  · exact blk_alloc (blk_put (blk_far (blk_far (blk_far (blk_far HE.out (by simpa using Ne.symm hne) _) (by simpa using Ne.symm hne) _) (by simpa using Ne.symm hne) _) (by simpa using Ne.symm hne) _) 0 _ rfl) _
  · intro w hb h1 h2
    exact below_alloc (below_set (below_set (below_set (below_set (below_set hb h1) h1) h1) h1) h2) _
set_option maxHeartbeats 4000000 in
theorem catch_idle (o e : Nat) (W : World) :
    CallsD Try.prog 31 #[.pointer (some ⟨o, 0, none⟩), .pointer (some ⟨e, 0, none⟩)] .returning W fun e' u' W' => e' = .returned (.tuple #[]) ∧ u' = .returning ∧ W' = W := by
  refine callsD_of_wpS Try.func31 rfl fun c₀ cs hu => ?_
  apply wpS_seq
  apply wpS_region
  simp [wpOpsS, go_sem, recoverD, hu, Try.ntmps31, Exit.thenS]
  refine wpS_of_wp ?_
  go_wp2
  cases c₀
  simp_all [bodyPostS, results, Try.results31]
theorem results16 (tmps : Array Value) (W : World) (o e : Nat) (c0 c1 c2 c3 : Value) (x : Int) (h2 : tmps.getD 2 undef = .pointer (some ⟨o, 0, none⟩)) (h3 : tmps.getD 3 undef = .pointer (some ⟨e, 0, none⟩)) (ho : W.heap[o]? = some (.cells #[c0, c1, c2, c3] 26 (0, 0))) (he : W.heap[e]? = some (.cells #[.int .i64 x] 30 (0, 0))) :
    (results Try.f16 tmps).run Try.prog W = .ok (.tuple #[.agg #[c0, c1, c2, c3], .int .i64 x]) W := by
  have h2' : tmps[2]?.getD undef = .pointer (some ⟨o, 0, none⟩) := by simpa using h2
  have h3' : tmps[3]?.getD undef = .pointer (some ⟨e, 0, none⟩) := by simpa using h3
  have ce : W.cell? ⟨e, 0, none⟩ = some (.int .i64 x) := (blk_cell he 0).trans rfl
  have co0 : W.cell? ⟨o, 0, none⟩ = some c0 := (blk_cell ho 0).trans rfl
  have co1 : W.cell? ⟨o, 1, none⟩ = some c1 := (blk_cell ho 1).trans rfl
  have co2 : W.cell? ⟨o, 2, none⟩ = some c2 := (blk_cell ho 2).trans rfl
  have co3 : W.cell? ⟨o, 3, none⟩ = some c3 := (blk_cell ho 3).trans rfl
  simp [results, Try.results16, h2', h3', asAddr, go_sem, ce, co0, co1, co2, co3]
theorem leaves_same {P : Program} {fn : Func} {t1 t2 : Array Value} (R : Ending → World → Prop) (h : results fn t1 = results fn t2) : ∀ (ds : List Deferred) (m : FrameMode) (w : World), Leaves P fn t1 R ds m w = Leaves P fn t2 R ds m w := by
  intro ds
  induction ds with
  | nil => intro m w; cases m <;> simp [Leaves, h]
  | cons d ds ih => intro m w; simp only [Leaves, ih]
theorem put_panic {R : Ending → World → Prop} {c : List PanicEntry} {a : Act} {w : World} {d : Option Tmp} {v : Value} (hd : d ≠ some 2 ∧ d ≠ some 3) (h : bodyPostD Try.prog Try.f16 R (.panic c) (a.put d v) w) : bodyPostD Try.prog Try.f16 R (.panic c) a w := by
  cases d with
  | none => exact h
  | some n =>
    have h2 : n ≠ 2 := fun e => hd.1 (by rw [e])
    have h3 : n ≠ 3 := fun e => hd.2 (by rw [e])
    have e : results Try.f16 (a.put (some n) v).tmps = results Try.f16 a.tmps := by
      have g2 : (a.put (some n) v).tmps[2]?.getD undef = a.tmps[2]?.getD undef := by simp [Act.put, Array.getElem?_setIfInBounds, h2]
      have g3 : (a.put (some n) v).tmps[3]?.getD undef = a.tmps[3]?.getD undef := by simp [Act.put, Array.getElem?_setIfInBounds, h3]
      simp [results, Try.results16, g2, g3]
    have hh : Leaves Try.prog Try.f16 (a.put (some n) v).tmps R (a.put (some n) v).defers (.panicking c) w := h
    rw [leaves_same R e] at hh
    exact hh
def Post16 (s : ByteArray) (w : World) (e : Ending) (w' : World) : Prop := ∃ v1_ v2_ v3_ : Value, e = .returned (.tuple #[.agg #[.string (readF s).1, v1_, v2_, v3_], .int .i64 (readF s).2.2.2.2]) ∧ Kd.R (Kd.int .i64) 2 w' w.heap.size (fun _ => True) v1_ (readF s).2.1 ∧ Kd.R k41 41 w' w.heap.size (fun _ => True) v2_ (readF s).2.2.1 ∧ Kd.R k43 43 w' w.heap.size (fun _ => True) v3_ (readF s).2.2.2.1 ∧ Below w.heap.size w w'
/-- Where something lacks: the closure lays the empty object and its number. -/
theorem bad_end {s : ByteArray} {w W : World} {fv : Fn} {cap dargs : Array Value} {c0 c1 c2 c3 : Value} {x : Int} {o e : Nat} (a : Act) (hb : Below w.heap.size w W) (ho : W.heap[o]? = some (.cells #[c0, c1, c2, c3] 26 (0, 0))) (he : W.heap[e]? = some (.cells #[.int .i64 x] 30 (0, 0))) (h1 : w.heap.size ≤ o) (h2 : w.heap.size ≤ e) (hne : o ≠ e)
    (t2 : a.tmps.getD 2 undef = .pointer (some ⟨o, 0, none⟩)) (t3 : a.tmps.getD 3 undef = .pointer (some ⟨e, 0, none⟩)) (hd : a.defers = [{ target := .fn fv cap, args := dargs }]) (hi : (invoke (.fn fv cap) dargs).run Try.prog W = .ok (.enter 31 #[.pointer (some ⟨o, 0, none⟩), .pointer (some ⟨e, 0, none⟩)]) W)
    (hr : readF s = (⟨#[]⟩, [], [], [], 9)) : bodyPostD Try.prog Try.f16 (Post16 s w) (.panic [{ v := .iface 60 (.agg #[]), recovered := false }]) a W := by
  show Leaves _ _ _ _ a.defers _ _
  rw [hd]
  refine leaves_cons (f := 31) (args := #[.pointer (some ⟨o, 0, none⟩), .pointer (some ⟨e, 0, none⟩)]) (by simp) hi ?_
  refine (catch_lacking o e c0 c1 c2 c3 x [] W ho he hne).mono ?_
  rintro e' u' W' ⟨rfl, rfl, ho', he', hb'⟩
  have hres := results16 a.tmps W' o e _ _ _ _ 9 t2 t3 ho' he'
  show Leaves _ _ _ _ [] (settle _) W'
  refine ⟨_, hres, ?_⟩
  exact ⟨_, _, _, by rw [hr], by rw [hr]; exact Kd.R_nil _ _ _ _ _, by rw [hr]; exact Kd.R_nil _ _ _ _ _, by rw [hr]; exact Kd.R_nil _ _ _ _ _, hb' w hb h1 h2⟩
/-- A return. -/
theorem good_end {s : ByteArray} {w W : World} {fv : Fn} {cap dargs : Array Value} {c1 c2 c3 : Value} {o e : Nat} (a : Act) (ho : W.heap[o]? = some (.cells #[.string (readF s).1, c1, c2, c3] 26 (0, 0))) (he : W.heap[e]? = some (.cells #[.int .i64 (readF s).2.2.2.2] 30 (0, 0)))
    (t2 : a.tmps.getD 2 undef = .pointer (some ⟨o, 0, none⟩)) (t3 : a.tmps.getD 3 undef = .pointer (some ⟨e, 0, none⟩)) (hd : a.defers = [{ target := .fn fv cap, args := dargs }]) (hi : (invoke (.fn fv cap) dargs).run Try.prog W = .ok (.enter 31 #[.pointer (some ⟨o, 0, none⟩), .pointer (some ⟨e, 0, none⟩)]) W)
    (r1 : Kd.R (Kd.int .i64) 2 W w.heap.size (fun _ => True) c1 (readF s).2.1) (r2 : Kd.R k41 41 W w.heap.size (fun _ => True) c2 (readF s).2.2.1) (r3 : Kd.R k43 43 W w.heap.size (fun _ => True) c3 (readF s).2.2.2.1) (hb : Below w.heap.size w W) : bodyPostD Try.prog Try.f16 (Post16 s w) .ret a W := by
  show Leaves _ _ _ _ a.defers _ _
  rw [hd]
  refine leaves_cons (f := 31) (args := #[.pointer (some ⟨o, 0, none⟩), .pointer (some ⟨e, 0, none⟩)]) (by simp) hi ?_
  refine (catch_idle o e W).mono ?_
  rintro e' u' W' ⟨rfl, rfl, rfl⟩
  exact ⟨_, results16 a.tmps W' o e _ _ _ _ _ t2 t3 ho he, _, _, _, rfl, r1, r2, r3, hb⟩
end Go.Proofs.Ytilmndkbloodbaa.M

/-
  Layer 6: objf.Read: the walk. Condition: a text of at most 2^48 bytes.
-/
namespace Go.Proofs.Ytilmndkbloodbaa.M
open Go.RowKit Go.Proofs.YtilmndkbloodbaaW.PrintWords Go.Proofs.YtilmndkbloodbaaW.PrintLast Go.Proofs.Ytilmndkbloodbaa.Num Go.Proofs.Ytilmndkbloodbaa.Seven Go.Proofs.Ytilmndkbloodbaa.Word1 Go.Proofs.Ytilmndkbloodbaa.Obj
set_option linter.unusedVariables false
set_option linter.unusedSimpArgs false
def rd3 (s code : ByteArray) (data : List Int) (syms : List S41) (r : List S43 × Nat) : Option (ByteArray × List Int × List S41 × List S43) := if r.2 = s.size ∧ may code data syms r.1 = true then some (code, data, syms, r.1) else none
def rd2 (s code : ByteArray) (data : List Int) (y : List S41 × Nat) : Option (ByteArray × List Int × List S41 × List S43) := (listA s 8000 (relA s) y.2).bind (rd3 s code data y.1)
def rd1 (s code : ByteArray) (d : List Int × Nat) : Option (ByteArray × List Int × List S41 × List S43) := (listA s 1000 (symA s) d.2).bind (rd2 s code d.1)
def rd0 (s : ByteArray) (c : ByteArray × Nat) : Option (ByteArray × List Int × List S41 × List S43) := (listA s 4096 (wideA s) c.2).bind (rd1 s c.1)
theorem readA_eq (s : ByteArray) : readA s = (bytesA s 4 0).bind fun m => if m.1 = COT1s then (textA s 65536 m.2).bind (rd0 s) else none := by
  unfold readA frontA
  cases bytesA s 4 0 with
  | none => rfl
  | some m =>
    simp only [Option.bind_some]
    by_cases hm : m.1 = COT1s
    · rw [if_pos hm, if_pos hm]
      unfold rd0 rd1 rd2 rd3
      simp only [Option.bind_assoc, Option.bind_some]
    · rw [if_neg hm, if_neg hm]
      rfl
theorem readF_none {s : ByteArray} (h : readA s = none) : readF s = (⟨#[]⟩, [], [], [], 9) := by unfold readF; rw [h]
theorem readF_some {s : ByteArray} {x : ByteArray × List Int × List S41 × List S43} (h : readA s = some x) : readF s = (x.1, x.2.1, x.2.2.1, x.2.2.2, 0) := by unfold readF; rw [h]

theorem textA_ok {s : ByteArray} {most : Int} {p : Nat} {x : ByteArray} {q : Nat} (h : textA s most p = some (x, q)) : q ≤ s.size := by
  unfold textA at h
  obtain ⟨a, _, h⟩ := Option.bind_eq_some_iff.1 h
  exact (bytesA_ok h).2.1
/-- A step of the reader beside what is held, well or ill. -/
theorem Held.step {w W W' : World} {B h x g : Nat} {cs xs : Array Value} {xt : TypeId} {v1 v2 v3 : Value} {d : List Int} {y : List S41} {r : List S43} {s : ByteArray} {p : Nat} (H : Held w W B h x cs xs xt v1 d v2 y v3 r) (hI : St66 W g s p) (hh : h ≠ g) (hx : x ≠ g) (hb : Below w.heap.size w W') (hk : KeepBut W W' g none) : Held w W' B h x cs xs xt v1 d v2 y v3 r := H.keep hk hb hh hx hI (by decide)
/-- Where something lacks, beside what is held. -/
theorem bad_held {s : ByteArray} {w W W' : World} {B : Nat} {c0 c1 c2 c3 v1 v2 v3 : Value} {d : List Int} {y : List S41} {r : List S43} {x : Int} {p : Nat} (a : Act) (H : Held w W B w.heap.size (w.heap.size + 1) #[c0, c1, c2, c3] #[.int .i64 x] 30 v1 d v2 y v3 r) (hI : St66 W (w.heap.size + 1 + 1) s p) (hb : Below w.heap.size w W') (hk : KeepBut W W' (w.heap.size + 1 + 1) none)
    (t2 : a.tmps.getD 2 undef = .pointer (some ⟨w.heap.size, 0, none⟩)) (t3 : a.tmps.getD 3 undef = .pointer (some ⟨w.heap.size + 1, 0, none⟩)) (hd : a.defers = [{ target := .fn (.func 31) #[.pointer (some ⟨w.heap.size, 0, none⟩), .pointer (some ⟨w.heap.size + 1, 0, none⟩)], args := #[] }])
    (hr : readF s = (⟨#[]⟩, [], [], [], 9)) : bodyPostD Try.prog Try.f16 (Post16 s w) (.panic [{ v := .iface 60 (.agg #[]), recovered := false }]) a W' := by
  have H' := H.step hI (by omega) (by omega) hb hk
  exact bad_end a hb H'.obj H'.more (Nat.le_refl _) (Nat.le_succ _) (by omega) t2 t3 hd (by simp [go_sem]) hr
theorem zero_end {s : ByteArray} {w W : World} {B : Nat} {c0 c1 c2 c3 v1 v2 v3 : Value} {d : List Int} {y : List S41} {r : List S43} {x : Int} (a : Act) (H : Held w W B w.heap.size (w.heap.size + 1) #[c0, c1, c2, c3] #[.int .i64 x] 30 v1 d v2 y v3 r)
    (t2 : a.tmps.getD 2 undef = .pointer (some ⟨w.heap.size, 0, none⟩)) (t3 : a.tmps.getD 3 undef = .pointer (some ⟨w.heap.size + 1, 0, none⟩)) (hd : a.defers = [{ target := .fn (.func 31) #[.pointer (some ⟨w.heap.size, 0, none⟩), .pointer (some ⟨w.heap.size + 1, 0, none⟩)], args := #[] }])
    (hr : readF s = (⟨#[]⟩, [], [], [], 9)) : bodyPostD Try.prog Try.f16 (Post16 s w) .ret a (((((W.setCell ⟨w.heap.size, 0, none⟩ (.string ⟨#[]⟩)).setCell ⟨w.heap.size, 1, none⟩ (.slice none 0 0)).setCell ⟨w.heap.size, 2, none⟩ (.slice none 0 0)).setCell ⟨w.heap.size, 3, none⟩ (.slice none 0 0)).setCell ⟨w.heap.size + 1, 0, none⟩ (.int .i64 9)) := by
  have H5 := ((((H.put 0 (.string ⟨#[]⟩) rfl).put 1 (.slice none 0 0) rfl).put 2 (.slice none 0 0) rfl).put 3 (.slice none 0 0) rfl).putX 0 (.int .i64 9) rfl
  exact good_end a (by rw [hr]; exact H5.obj) (by rw [hr]; exact H5.more) t2 t3 hd (by simp [go_sem]) (by rw [hr]; exact Kd.R_nil _ _ _ _ _) (by rw [hr]; exact Kd.R_nil _ _ _ _ _) (by rw [hr]; exact Kd.R_nil _ _ _ _ _) H5.below
theorem ok_end {s : ByteArray} {w W : World} {B : Nat} {code : ByteArray} {v1 v2 v3 : Value} {d : List Int} {y : List S41} {r : List S43} {x : Int} (a : Act) (H : Held w W B w.heap.size (w.heap.size + 1) #[.string code, v1, v2, v3] #[.int .i64 x] 30 v1 d v2 y v3 r)
    (t2 : a.tmps.getD 2 undef = .pointer (some ⟨w.heap.size, 0, none⟩)) (t3 : a.tmps.getD 3 undef = .pointer (some ⟨w.heap.size + 1, 0, none⟩)) (hd : a.defers = [{ target := .fn (.func 31) #[.pointer (some ⟨w.heap.size, 0, none⟩), .pointer (some ⟨w.heap.size + 1, 0, none⟩)], args := #[] }])
    (hr : readF s = (code, d, y, r, 0)) : bodyPostD Try.prog Try.f16 (Post16 s w) .ret a (((((W.setCell ⟨w.heap.size, 0, none⟩ (.string code)).setCell ⟨w.heap.size, 1, none⟩ v1).setCell ⟨w.heap.size, 2, none⟩ v2).setCell ⟨w.heap.size, 3, none⟩ v3).setCell ⟨w.heap.size + 1, 0, none⟩ (.int .i64 0)) := by
  have H5 := ((((H.put 0 (.string code) rfl).put 1 v1 rfl).put 2 v2 rfl).put 3 v3 rfl).putX 0 (.int .i64 0) rfl
  exact good_end a (by rw [hr]; exact H5.obj) (by rw [hr]; exact H5.more) t2 t3 hd (by simp [go_sem]) (by rw [hr]; exact R_all H5.r1) (by rw [hr]; exact R_all H5.r2) (by rw [hr]; exact R_all H5.r3) H5.below
set_option maxHeartbeats 16000000 in
set_option maxRecDepth 100000 in
theorem objf_Read.calls_ (s : ByteArray) (hs : s.size ≤ 281474976710656) (w : World) : Calls Try.prog 16 #[.string s] w (Post16 s w) := by
  have hmf : ∀ (fn : Fn) (first cap : Array Value) (w : World), (Instr.makeFunc fn first cap).run Try.prog w = .ok (.func fn first cap) w := fun _ _ _ _ => rfl
  have RA := Aside0.mk (readA_eq s)
  have HS := Aside0.mk hs
  clear hs
  have eA : ∀ o, (w.alloc o).heap.size = w.heap.size + 1 := fun o => by simp
  have eB : ∀ o o', ((w.alloc o).alloc o').heap.size = w.heap.size + 1 + 1 := fun o o' => by simp
  obtain ⟨X, hX⟩ : ∃ X, ((w.alloc (.cells #[.string ⟨#[]⟩, .slice none 0 0, .slice none 0 0, .slice none 0 0] 26)).alloc (.cells #[.int .i64 0] 30)).alloc (.cells #[.string s, .int .i64 0] 66) = X := ⟨_, rfl⟩
  have B0 : X.heap[w.heap.size]? = some (.cells #[.string ⟨#[]⟩, .slice none 0 0, .slice none 0 0, .slice none 0 0] 26) := hX ▸ blk_alloc (blk_alloc (blk_new w (.cells #[.string ⟨#[]⟩, .slice none 0 0, .slice none 0 0, .slice none 0 0] 26)) (.cells #[.int .i64 0] 30)) (.cells #[.string s, .int .i64 0] 66)
  have E0 : X.heap[w.heap.size + 1]? = some (.cells #[.int .i64 0] 30) := hX ▸ eA (.cells #[.string ⟨#[]⟩, .slice none 0 0, .slice none 0 0, .slice none 0 0] 26) ▸ blk_alloc (blk_new (w.alloc (.cells #[.string ⟨#[]⟩, .slice none 0 0, .slice none 0 0, .slice none 0 0] 26)) (.cells #[.int .i64 0] 30)) (.cells #[.string s, .int .i64 0] 66)
  have G0 : St66 X (w.heap.size + 1 + 1) s 0 := hX ▸ eB (.cells #[.string ⟨#[]⟩, .slice none 0 0, .slice none 0 0, .slice none 0 0] 26) (.cells #[.int .i64 0] 30) ▸ blk_new ((w.alloc (.cells #[.string ⟨#[]⟩, .slice none 0 0, .slice none 0 0, .slice none 0 0] 26)).alloc (.cells #[.int .i64 0] 30)) (.cells #[.string s, .int .i64 0] 66)
  have BX : Below w.heap.size w X := hX ▸ below_alloc (below_alloc (below_alloc (Below.refl _ _) _) _) _
  have hG0 := blk_lt G0
  have HH0 := Aside0.mk (show Held w X X.heap.size w.heap.size (w.heap.size + 1) #[.string ⟨#[]⟩, .slice none 0 0, .slice none 0 0, .slice none 0 0] #[.int .i64 0] 30 (.slice none 0 0) [] (.slice none 0 0) [] (.slice none 0 0) [] from ⟨BX, B0, E0, Kd.R_nil _ _ _ _ _, Kd.R_nil _ _ _ _ _, Kd.R_nil _ _ _ _ _, Nat.le_refl _, by omega, by decide⟩)
  have T0 := Aside0.mk (take_c w X (w.heap.size + 1 + 1) s 0 4 HS.out G0 (by omega) BX (Nat.zero_le _) (by omega) (by omega))
  rw [show (4 : Int).toNat = 4 from rfl] at T0
  have HI0 := Aside0.mk G0
  rw [← hX] at HH0 T0 HI0
  clear eA eB B0 E0 G0 BX hG0 hX
  cases e0 : bytesA s 4 0 with
  | none =>
    rw [e0] at T0
    have RN := Aside0.mk (readF_none (s := s) (by rw [RA.out, e0]; rfl))
    go_enter_defers Try.func16, Try.ntmps16
    go_wp2_with (first | (go_at_call 32; refine T0.out.mono ?_; rintro e w4 ⟨rfl, hb, hk⟩; exact bad_held _ HH0.out HI0.out hb hk rfl rfl rfl RN.out))
  | some m0 =>
    obtain ⟨mk, p0⟩ := m0
    rw [e0] at T0
    have hq0 := (bytesA_ok e0).2.1
    by_cases hmk : mk = COT1s
    case neg =>
      have RN := Aside0.mk (readF_none (s := s) (by rw [RA.out, e0]; simp [hmk]))
      have hml : (mk.toList == [67, 79, 84, 49]) = false := beq_eq_false_iff_ne.mpr (fun h => hmk (toList_inj (h.trans (by rw [ByteArray.toList_eq]))))
      go_enter_defers Try.func16, Try.ntmps16
      go_wp2_with (first | (go_at_call 32; refine T0.out.mono ?_; rintro e w4 ⟨⟨rfl, hi⟩, hb, hk⟩; have HH4 := Aside0.mk (HH0.out.step HI0.out (by omega) (by omega) hb hk); have cz0 : w4.cell? ⟨w.heap.size, 0, none⟩ = some (.string ⟨#[]⟩) := (blk_cell HH4.out.obj 0).trans rfl; have fcz0 := blk_frozen HH4.out.obj 0; have cz1 : w4.cell? ⟨w.heap.size, 1, none⟩ = some (.slice none 0 0) := (blk_cell HH4.out.obj 1).trans rfl; have fcz1 := blk_frozen HH4.out.obj 1; have cz2 : w4.cell? ⟨w.heap.size, 2, none⟩ = some (.slice none 0 0) := (blk_cell HH4.out.obj 2).trans rfl; have fcz2 := blk_frozen HH4.out.obj 2; have cz3 : w4.cell? ⟨w.heap.size, 3, none⟩ = some (.slice none 0 0) := (blk_cell HH4.out.obj 3).trans rfl; have fcz3 := blk_frozen HH4.out.obj 3; have czx : w4.cell? ⟨w.heap.size + 1, 0, none⟩ = some (.int .i64 0) := (blk_cell HH4.out.more 0).trans rfl; have fczx := blk_frozen HH4.out.more 0))
      exact zero_end _ HH4.out rfl rfl rfl RN.out
    case pos =>
      subst hmk
      have RB := Aside0.mk (show readA s = (textA s 65536 p0).bind (rd0 s) by rw [RA.out, e0]; simp)
      clear e0 RA
      go_enter_defers Try.func16, Try.ntmps16
      go_wp2_with (first | (go_at_call 32; refine T0.out.mono ?_; rintro e w4 ⟨⟨rfl, hi⟩, hb, hk⟩; have HH4 := Aside0.mk (HH0.out.step HI0.out (by omega) (by omega) hb hk); have HI4 := Aside0.mk hi; clear hi hb hk))
      have N1 := Aside0.mk (fun (W : World) hI hB => number_c w W (w.heap.size + 1 + 1) s p0 65536 HS.out hI (by omega) hB hq0 (by omega) (by omega))
      cases e1 : numA s 65536 p0 with
      | none =>
        have RN := Aside0.mk (readF_none (s := s) (by rw [RB.out]; unfold textA; rw [e1]; rfl))
        rw [e1] at N1
        refine start_ (n := 8) (S := fun w' => True) (ds := []) #[false, false, false, false, false, false, false, false] (by kernel_rfl) rfl rfl trivial (fun hHeld => ?_)
        refine pure_ (i := 0) (N := some 21) (v := ?_) (a' := ?_) #[true, false, false, false, false, false, false, false] rfl rfl (by kernel_rfl) (fun _ _ _ h => put_panic (by decide) h) (Or.inl ⟨by rfl, ?_⟩) ?_ ?_
        rotate_left
        · intro w'
          go_simp
          with_reducible rfl
        rotate_left
        · simp only [Act.put, List.setIfInBounds_toArray, List.set_cons_zero, List.set_cons_succ, i64_w, i32_w]
          rfl
        refine pure_ (i := 1) (N := some 22) (v := ?_) (a' := ?_) #[true, true, false, false, false, false, false, false] rfl rfl (by kernel_rfl) (fun _ _ _ h => put_panic (by decide) h) (Or.inl ⟨by rfl, ?_⟩) ?_ ?_
        rotate_left
        · intro w'
          go_simp
          with_reducible rfl
        rotate_left
        · simp only [Act.put, List.setIfInBounds_toArray, List.set_cons_zero, List.set_cons_succ, i64_w, i32_w]
          rfl
        refine pure_ (i := 2) (N := some 23) (v := ?_) (a' := ?_) #[true, true, true, false, false, false, false, false] rfl rfl (by kernel_rfl) (fun _ _ _ h => put_panic (by decide) h) (Or.inl ⟨by rfl, ?_⟩) ?_ ?_
        rotate_left
        · intro w'
          go_simp
          with_reducible rfl
        rotate_left
        · simp only [Act.put, List.setIfInBounds_toArray, List.set_cons_zero, List.set_cons_succ, i64_w, i32_w]
          rfl
        refine pure_ (i := 3) (N := some 24) (v := ?_) (a' := ?_) #[true, true, true, true, false, false, false, false] rfl rfl (by kernel_rfl) (fun _ _ _ h => put_panic (by decide) h) (Or.inl ⟨by rfl, ?_⟩) ?_ ?_
        rotate_left
        · intro w'
          go_simp
          with_reducible rfl
        rotate_left
        · simp only [Act.put, List.setIfInBounds_toArray, List.set_cons_zero, List.set_cons_succ, i64_w, i32_w]
          rfl
        refine one_ (i := 4) (N := some 25) #[true, true, true, true, true, false, false, false] rfl rfl (by kernel_rfl) (by decide) (fun K hK => ?_)
        refine goesP_ Try.func33 (by kernel_rfl) rfl #[.pointer (some ⟨w.heap.size + 1 + 1, 0, none⟩), .int .i64 65536] (by rfl) rfl rfl (by (try simp only [List.map_toArray, List.map_cons, List.map_nil]); rfl) ?_
        refine (N1.out w4.drew (blk_drew HI4.out) (below_drew HH4.out.below)).mono ?_
        rintro e w5 ⟨rfl, hb, hk⟩
        exact .inr ⟨_, rfl, bad_held _ (HH4.out.next (below_drew1 (Below.refl _ _))) (blk_drew HI4.out) hb hk rfl rfl rfl RN.out⟩
      | some a1 =>
        obtain ⟨n1, p1⟩ := a1
        have hn1 := numA_ok e1 hq0
        rw [e1] at N1
        have T1 := Aside0.mk (fun (W : World) hI hB => take_c w W (w.heap.size + 1 + 1) s p1 n1 HS.out hI (by omega) hB hn1.2.1 hn1.2.2.1 (by have := hn1.2.2.2.1; omega))
        cases e2 : bytesA s n1.toNat p1 with
        | none =>
          have RN := Aside0.mk (readF_none (s := s) (by rw [RB.out]; unfold textA; rw [e1, Option.bind_some, e2]; rfl))
          rw [e2] at T1
          refine start_ (n := 8) (S := fun w' => True) (ds := []) #[false, false, false, false, false, false, false, false] (by kernel_rfl) rfl rfl trivial (fun hHeld => ?_)
          refine pure_ (i := 0) (N := some 21) (v := ?_) (a' := ?_) #[true, false, false, false, false, false, false, false] rfl rfl (by kernel_rfl) (fun _ _ _ h => put_panic (by decide) h) (Or.inl ⟨by rfl, ?_⟩) ?_ ?_
          rotate_left
          · intro w'
            go_simp
            with_reducible rfl
          rotate_left
          · simp only [Act.put, List.setIfInBounds_toArray, List.set_cons_zero, List.set_cons_succ, i64_w, i32_w]
            rfl
          refine pure_ (i := 1) (N := some 22) (v := ?_) (a' := ?_) #[true, true, false, false, false, false, false, false] rfl rfl (by kernel_rfl) (fun _ _ _ h => put_panic (by decide) h) (Or.inl ⟨by rfl, ?_⟩) ?_ ?_
          rotate_left
          · intro w'
            go_simp
            with_reducible rfl
          rotate_left
          · simp only [Act.put, List.setIfInBounds_toArray, List.set_cons_zero, List.set_cons_succ, i64_w, i32_w]
            rfl
          refine pure_ (i := 2) (N := some 23) (v := ?_) (a' := ?_) #[true, true, true, false, false, false, false, false] rfl rfl (by kernel_rfl) (fun _ _ _ h => put_panic (by decide) h) (Or.inl ⟨by rfl, ?_⟩) ?_ ?_
          rotate_left
          · intro w'
            go_simp
            with_reducible rfl
          rotate_left
          · simp only [Act.put, List.setIfInBounds_toArray, List.set_cons_zero, List.set_cons_succ, i64_w, i32_w]
            rfl
          refine pure_ (i := 3) (N := some 24) (v := ?_) (a' := ?_) #[true, true, true, true, false, false, false, false] rfl rfl (by kernel_rfl) (fun _ _ _ h => put_panic (by decide) h) (Or.inl ⟨by rfl, ?_⟩) ?_ ?_
          rotate_left
          · intro w'
            go_simp
            with_reducible rfl
          rotate_left
          · simp only [Act.put, List.setIfInBounds_toArray, List.set_cons_zero, List.set_cons_succ, i64_w, i32_w]
            rfl
          refine one_ (i := 4) (N := some 25) #[true, true, true, true, true, false, false, false] rfl rfl (by kernel_rfl) (by decide) (fun K hK => ?_)
          refine goesP_ Try.func33 (by kernel_rfl) rfl #[.pointer (some ⟨w.heap.size + 1 + 1, 0, none⟩), .int .i64 65536] (by rfl) rfl rfl (by (try simp only [List.map_toArray, List.map_cons, List.map_nil]); rfl) ?_
          refine (N1.out w4.drew (blk_drew HI4.out) (below_drew HH4.out.below)).mono ?_
          rintro e w5 ⟨⟨rfl, hi⟩, hb, hk⟩
          refine .inl ⟨_, rfl, ?_⟩
          have HH5 := Aside0.mk ((HH4.out.next (below_drew1 (Below.refl _ _))).step (blk_drew HI4.out) (by omega) (by omega) hb hk)
          have HI5 := Aside0.mk hi
          clear hi hb hk
          refine hK.out _ _ trivial (fun hHeld => ?_)
          clear hK K
          refine norm_ (a' := ?_) ?_ ?_
          rotate_left
          · show Act.put _ (some 25) _ = _
            simp only [Act.put, List.setIfInBounds_toArray, List.set_cons_zero, List.set_cons_succ, i64_w, i32_w]
            rfl
          refine one_ (i := 5) (N := some 26) #[true, true, true, true, true, true, false, false] rfl rfl (by kernel_rfl) (by decide) (fun K hK => ?_)
          refine goesP_ Try.func32 (by kernel_rfl) rfl #[.pointer (some ⟨w.heap.size + 1 + 1, 0, none⟩), .int .i64 n1] (by rfl) rfl rfl (by (try simp only [List.map_toArray, List.map_cons, List.map_nil]); rfl) ?_
          refine (T1.out w5 HI5.out HH5.out.below).mono ?_
          rintro e w6 ⟨rfl, hb, hk⟩
          exact .inr ⟨_, rfl, bad_held _ (HH5.out) (HI5.out) hb hk rfl rfl rfl RN.out⟩
        | some a2 =>
          obtain ⟨code, p2⟩ := a2
          have hq2 := (bytesA_ok e2).2.1
          rw [e2] at T1
          have RC := Aside0.mk (show readA s = rd0 s (code, p2) by rw [RB.out]; unfold textA; rw [e1, Option.bind_some, e2]; rfl)
          refine start_ (n := 8) (S := fun w' => True) (ds := []) #[false, false, false, false, false, false, false, false] (by kernel_rfl) rfl rfl trivial (fun hHeld => ?_)
          refine pure_ (i := 0) (N := some 21) (v := ?_) (a' := ?_) #[true, false, false, false, false, false, false, false] rfl rfl (by kernel_rfl) (fun _ _ _ h => put_panic (by decide) h) (Or.inl ⟨by rfl, ?_⟩) ?_ ?_
          rotate_left
          · intro w'
            go_simp
            with_reducible rfl
          rotate_left
          · simp only [Act.put, List.setIfInBounds_toArray, List.set_cons_zero, List.set_cons_succ, i64_w, i32_w]
            rfl
          refine pure_ (i := 1) (N := some 22) (v := ?_) (a' := ?_) #[true, true, false, false, false, false, false, false] rfl rfl (by kernel_rfl) (fun _ _ _ h => put_panic (by decide) h) (Or.inl ⟨by rfl, ?_⟩) ?_ ?_
          rotate_left
          · intro w'
            go_simp
            with_reducible rfl
          rotate_left
          · simp only [Act.put, List.setIfInBounds_toArray, List.set_cons_zero, List.set_cons_succ, i64_w, i32_w]
            rfl
          refine pure_ (i := 2) (N := some 23) (v := ?_) (a' := ?_) #[true, true, true, false, false, false, false, false] rfl rfl (by kernel_rfl) (fun _ _ _ h => put_panic (by decide) h) (Or.inl ⟨by rfl, ?_⟩) ?_ ?_
          rotate_left
          · intro w'
            go_simp
            with_reducible rfl
          rotate_left
          · simp only [Act.put, List.setIfInBounds_toArray, List.set_cons_zero, List.set_cons_succ, i64_w, i32_w]
            rfl
          refine pure_ (i := 3) (N := some 24) (v := ?_) (a' := ?_) #[true, true, true, true, false, false, false, false] rfl rfl (by kernel_rfl) (fun _ _ _ h => put_panic (by decide) h) (Or.inl ⟨by rfl, ?_⟩) ?_ ?_
          rotate_left
          · intro w'
            go_simp
            with_reducible rfl
          rotate_left
          · simp only [Act.put, List.setIfInBounds_toArray, List.set_cons_zero, List.set_cons_succ, i64_w, i32_w]
            rfl
          refine one_ (i := 4) (N := some 25) #[true, true, true, true, true, false, false, false] rfl rfl (by kernel_rfl) (by decide) (fun K hK => ?_)
          refine goesP_ Try.func33 (by kernel_rfl) rfl #[.pointer (some ⟨w.heap.size + 1 + 1, 0, none⟩), .int .i64 65536] (by rfl) rfl rfl (by (try simp only [List.map_toArray, List.map_cons, List.map_nil]); rfl) ?_
          refine (N1.out w4.drew (blk_drew HI4.out) (below_drew HH4.out.below)).mono ?_
          rintro e w5 ⟨⟨rfl, hi⟩, hb, hk⟩
          refine .inl ⟨_, rfl, ?_⟩
          have HH5 := Aside0.mk ((HH4.out.next (below_drew1 (Below.refl _ _))).step (blk_drew HI4.out) (by omega) (by omega) hb hk)
          have HI5 := Aside0.mk hi
          clear hi hb hk
          refine hK.out _ _ trivial (fun hHeld => ?_)
          clear hK K
          refine norm_ (a' := ?_) ?_ ?_
          rotate_left
          · show Act.put _ (some 25) _ = _
            simp only [Act.put, List.setIfInBounds_toArray, List.set_cons_zero, List.set_cons_succ, i64_w, i32_w]
            rfl
          refine one_ (i := 5) (N := some 26) #[true, true, true, true, true, true, false, false] rfl rfl (by kernel_rfl) (by decide) (fun K hK => ?_)
          refine goesP_ Try.func32 (by kernel_rfl) rfl #[.pointer (some ⟨w.heap.size + 1 + 1, 0, none⟩), .int .i64 n1] (by rfl) rfl rfl (by (try simp only [List.map_toArray, List.map_cons, List.map_nil]); rfl) ?_
          refine (T1.out w5 HI5.out HH5.out.below).mono ?_
          rintro e w6 ⟨⟨rfl, hi⟩, hb, hk⟩
          refine .inl ⟨_, rfl, ?_⟩
          have HH6 := Aside0.mk (HH5.out.step HI5.out (by omega) (by omega) hb hk)
          have HI6 := Aside0.mk hi
          have cs6 : w6.cell? ⟨w.heap.size, 0, none⟩ = some (.string ⟨#[]⟩) := (blk_cell HH6.out.obj 0).trans rfl
          have fs6 := blk_frozen HH6.out.obj 0
          clear hi hb hk
          refine hK.out _ _ trivial (fun hHeld => ?_)
          clear hK K
          refine norm_ (a' := ?_) ?_ ?_
          rotate_left
          · show Act.put _ (some 26) _ = _
            simp only [Act.put, List.setIfInBounds_toArray, List.set_cons_zero, List.set_cons_succ, i64_w, i32_w]
            rfl
          refine pure_ (i := 6) (N := some 27) (v := ?_) (a' := ?_) #[true, true, true, true, true, true, true, false] rfl rfl (by kernel_rfl) (fun _ _ _ h => put_panic (by decide) h) (Or.inl ⟨by rfl, ?_⟩) ?_ ?_
          rotate_left
          · intro w'
            go_simp
            with_reducible rfl
          rotate_left
          · simp only [Act.put, List.setIfInBounds_toArray, List.set_cons_zero, List.set_cons_succ, i64_w, i32_w]
            rfl
          refine one_ (i := 7) (N := none) #[true, true, true, true, true, true, true, true] rfl rfl (by kernel_rfl) (by decide) (fun K hK => ?_)
          refine skip_ (w1 := ?_) (by rfl) rfl ?_ ?_
          rotate_left
          · go_simp
            rfl
          refine hK.out _ _ trivial (fun hHeld => ?_)
          clear hK K
          refine done_ (by kernel_rfl) ?_
          have HHA := Aside0.mk (HH6.out.put 0 (.string code) rfl)
          have HIA := Aside0.mk (blk_far HI6.out (p := ⟨w.heap.size, 0, none⟩) (by simp; omega) (.string code))
          generalize w6.setCell ⟨w.heap.size, 0, none⟩ (.string code) = wa at HHA HIA ⊢
          clear HH0 HI0 HH4 HI4 HH5 HI5 HH6 HI6 T0 N1 T1 RB cs6 fs6 hHeld e1 e2 hn1 hq0
          have NN := Aside0.mk (number_c w wa (w.heap.size + 1 + 1) s p2 4096 HS.out HIA.out (by omega) HHA.out.below hq2 (by omega) (by omega))
          cases en : numA s 4096 p2 with
          | none =>
            have RN := Aside0.mk (readF_none (s := s) (by rw [RC.out]; unfold rd0 listA; rw [en]; rfl))
            rw [en] at NN
            go_wp2_with (first | (go_at_call 33; refine NN.out.mono ?_; rintro e wn ⟨rfl, hb, hk⟩; exact bad_held _ HHA.out HIA.out hb hk rfl rfl rfl RN.out))
          | some an =>
            obtain ⟨n, pn⟩ := an
            have hn := numA_ok en hq2
            rw [en] at NN
            obtain ⟨m, rfl⟩ : ∃ m : Nat, n = (m : Int) := ⟨n.toNat, by omega⟩
            have RM := Aside0.mk (show readA s = (manyA (wideA s) m pn).bind (rd1 s code) by rw [RC.out]; unfold rd0 listA; rw [en]; simp)
            have hm : m ≤ 4096 := by omega
            have hqn := hn.2.1
            clear en hn
            go_wp2_with (first | (go_at_call 33; refine NN.out.mono ?_; rintro e wn ⟨⟨rfl, hi⟩, hb, hk⟩; have HHn := Aside0.mk (HHA.out.step HIA.out (by omega) (by omega) hb hk); have HIn := Aside0.mk hi; clear hi hb hk))
            go_loopw [30] (fun v wr => ∃ (k q : Nat) (V : Value) (acc : List Int), k ≤ m ∧ v = .int .i64 k ∧ Aside0 (acc.length = k) ∧ q ≤ s.size ∧ Aside0 (St66 wr (w.heap.size + 1 + 1) s q) ∧ Aside0 (Held w wr wr.heap.size w.heap.size (w.heap.size + 1) #[.string code, V, .slice none 0 0, .slice none 0 0] #[.int .i64 0] 30 (V) acc (.slice none 0 0) [] (.slice none 0 0) []) ∧ Aside0 (readA s = ((manyA (wideA s) (m - k) q).map fun y => (acc ++ y.1, y.2)).bind (rd1 s code))) (fun v _ => m - (intOf v).toNat)
            case atStart => exact ⟨0, pn, .slice none 0 0, [], Nat.zero_le _, rfl, ⟨rfl⟩, hqn, HIn, ⟨HHn.out.up HHn.out.lt (Nat.le_refl _)⟩, ⟨by rw [RM.out]; simp⟩⟩
            case round =>
              clear HHn HIn NN RM HHA HIA RC
              obtain ⟨k, q, V, acc, hk, rfl, HL, hq, HI, HH, RD⟩ := hrel
              by_cases hlt : k < m
              case pos =>
                obtain ⟨A1, c1, rfl, hc1, -⟩ := Kd.R_reads HH.out.r1
                have WW := Aside0.mk (wide_c w wr.drew (w.heap.size + 1 + 1) s q HS.out (blk_drew HI.out) (by omega) (below_drew HH.out.below) hq)
                have RS := Aside0.mk (show readA s = ((manyA (wideA s) ((m - (k + 1)) + 1) q).map fun y => (acc ++ y.1, y.2)).bind (rd1 s code) by rw [RD.out, show m - (k + 1) + 1 = m - k by omega])
                cases ew : wideA s q with
                | none =>
                  have RN := Aside0.mk (readF_none (s := s) (by rw [RS.out]; simp [manyA, ew]))
                  rw [ew] at WW
                  go_wp2
                  refine start_ (n := 8) (S := fun w' => w'.cell? ⟨w.heap.size, 1, none⟩ = some (.slice A1 acc.length c1)) (ds := [7]) #[false, false, false, false, false, false, false, false] (by kernel_rfl) rfl rfl ((blk_cell (blk_drew HH.out.obj) 1).trans rfl) (fun hHeld => ?_)
                  refine pure_ (i := 0) (N := some 32) (v := ?_) (a' := ?_) #[true, false, false, false, false, false, false, false] rfl rfl (by kernel_rfl) (fun _ _ _ h => put_panic (by decide) h) (Or.inl ⟨by rfl, ?_⟩) ?_ ?_
                  rotate_left
                  · intro w'
                    go_simp
                    with_reducible rfl
                  rotate_left
                  · simp only [Act.put, List.setIfInBounds_toArray, List.set_cons_zero, List.set_cons_succ, i64_w, i32_w]
                    rfl
                  refine pure_ (i := 2) (N := some 34) (v := ?_) (a' := ?_) #[true, false, true, false, false, false, false, false] rfl rfl (by kernel_rfl) (fun _ _ _ h => put_panic (by decide) h) (Or.inl ⟨by rfl, ?_⟩) ?_ ?_
                  rotate_left
                  · intro w'
                    go_simp
                    with_reducible rfl
                  rotate_left
                  · simp only [Act.put, List.setIfInBounds_toArray, List.set_cons_zero, List.set_cons_succ, i64_w, i32_w]
                    rfl
                  refine take_ (i := 1) (N := some 33) (v := ?_) (a' := ?_) #[true, true, true, false, false, false, false, false] rfl rfl (by kernel_rfl) (fun _ _ _ h => put_panic (by decide) h) (Or.inl ⟨by rfl, ?_⟩) hHeld ?_ ?_
                  rotate_left
                  · intro w' s0
                    go_simp
                    with_reducible rfl
                  rotate_left
                  · simp only [Act.put, List.setIfInBounds_toArray, List.set_cons_zero, List.set_cons_succ, i64_w, i32_w]
                    rfl
                  refine one_ (i := 3) (N := some 35) #[true, true, true, true, false, false, false, false] rfl rfl (by kernel_rfl) (by decide) (fun K hK => ?_)
                  refine goesP_ Try.func34 (by kernel_rfl) rfl #[.pointer (some ⟨w.heap.size + 1 + 1, 0, none⟩)] (by rfl) rfl rfl (by (try simp only [List.map_toArray, List.map_cons, List.map_nil]); rfl) ?_
                  refine (WW.out).mono ?_
                  rintro e w5 ⟨rfl, hb, hk⟩
                  exact .inr ⟨_, rfl, bad_held _ (HH.out.next (below_drew1 (Below.refl _ _))) (blk_drew HI.out) hb hk rfl rfl rfl RN.out⟩
                | some a1 =>
                  obtain ⟨x, q5⟩ := a1
                  have hq5 := (wideA_ok ew).2.1
                  rw [ew] at WW
                  have RX := Aside0.mk (show readA s = ((manyA (wideA s) (m - (k + 1)) q5).map fun y => ((acc ++ [x]) ++ y.1, y.2)).bind (rd1 s code) by rw [RS.out, many_step (x := x) (p' := q5) (bad := false) (by rw [ew]; rfl)]; rfl)
                  clear RS RD ew
                  go_wp2
                  refine start_ (n := 8) (S := fun w' => w'.cell? ⟨w.heap.size, 1, none⟩ = some (.slice A1 acc.length c1)) (ds := [7]) #[false, false, false, false, false, false, false, false] (by kernel_rfl) rfl rfl ((blk_cell (blk_drew HH.out.obj) 1).trans rfl) (fun hHeld => ?_)
                  refine pure_ (i := 0) (N := some 32) (v := ?_) (a' := ?_) #[true, false, false, false, false, false, false, false] rfl rfl (by kernel_rfl) (fun _ _ _ h => put_panic (by decide) h) (Or.inl ⟨by rfl, ?_⟩) ?_ ?_
                  rotate_left
                  · intro w'
                    go_simp
                    with_reducible rfl
                  rotate_left
                  · simp only [Act.put, List.setIfInBounds_toArray, List.set_cons_zero, List.set_cons_succ, i64_w, i32_w]
                    rfl
                  refine pure_ (i := 2) (N := some 34) (v := ?_) (a' := ?_) #[true, false, true, false, false, false, false, false] rfl rfl (by kernel_rfl) (fun _ _ _ h => put_panic (by decide) h) (Or.inl ⟨by rfl, ?_⟩) ?_ ?_
                  rotate_left
                  · intro w'
                    go_simp
                    with_reducible rfl
                  rotate_left
                  · simp only [Act.put, List.setIfInBounds_toArray, List.set_cons_zero, List.set_cons_succ, i64_w, i32_w]
                    rfl
                  refine take_ (i := 1) (N := some 33) (v := ?_) (a' := ?_) #[true, true, true, false, false, false, false, false] rfl rfl (by kernel_rfl) (fun _ _ _ h => put_panic (by decide) h) (Or.inl ⟨by rfl, ?_⟩) hHeld ?_ ?_
                  rotate_left
                  · intro w' s0
                    go_simp
                    with_reducible rfl
                  rotate_left
                  · simp only [Act.put, List.setIfInBounds_toArray, List.set_cons_zero, List.set_cons_succ, i64_w, i32_w]
                    rfl
                  refine one_ (i := 3) (N := some 35) #[true, true, true, true, false, false, false, false] rfl rfl (by kernel_rfl) (by decide) (fun K hK => ?_)
                  refine goesP_ Try.func34 (by kernel_rfl) rfl #[.pointer (some ⟨w.heap.size + 1 + 1, 0, none⟩)] (by rfl) rfl rfl (by (try simp only [List.map_toArray, List.map_cons, List.map_nil]); rfl) ?_
                  refine (WW.out).mono ?_
                  rintro e w5 ⟨⟨rfl, hi⟩, hb, hk⟩
                  refine .inl ⟨_, rfl, ?_⟩
                  have HH5 := Aside0.mk ((HH.out.next (below_drew1 (Below.refl _ _))).step (blk_drew HI.out) (by omega) (by omega) hb hk)
                  have HI5 := Aside0.mk hi
                  clear hi hb hk
                  refine hK.out _ _ ((blk_cell (HH5.out.obj) 1).trans rfl) (fun hHeld => ?_)
                  clear hK K
                  refine norm_ (a' := ?_) ?_ ?_
                  rotate_left
                  · show Act.put _ (some 35) _ = _
                    simp only [Act.put, List.setIfInBounds_toArray, List.set_cons_zero, List.set_cons_succ, i64_w, i32_w]
                    rfl
                  refine one_ (i := 4) (N := some 36) #[true, true, true, true, true, false, false, false] rfl rfl (by kernel_rfl) (by decide) (fun K hK => ?_)
                  refine value_ (w1 := w5.alloc (.cells #[.int .i64 x] 2)) (v := .slice (some ⟨w5.heap.size, 0, none⟩) 1 1) (by rfl) rfl ?_ ?_
                  · go_simp
                  refine hK.out _ _ ((blk_cell (blk_alloc HH5.out.obj _) 1).trans rfl) (fun hHeld => ?_)
                  clear hK K
                  refine norm_ (a' := ?_) ?_ ?_
                  rotate_left
                  · show Act.put _ (some 36) _ = _
                    simp only [Act.put, List.setIfInBounds_toArray, List.set_cons_zero, List.set_cons_succ, i64_w, i32_w]
                    rfl
                  refine one_ (i := 5) (N := some 37) #[true, true, true, true, true, true, false, false] rfl rfl (by kernel_rfl) (by decide) (fun K hK => ?_)
                  refine Kd.R_append_step (Kd.int .i64) w.heap.size (by rfl) (.tmp 33) (.tmp 36) 22 2 (.int .i64 0) 8 rfl Try.underlying22 info2 rfl (by decide) (by omega) (.slice A1 acc.length c1) acc x [.int .i64 x] (fun _ => True) (fun _ => False) rfl (by first | (go_simp; done) | (go_simp; rfl)) rfl (fun _ hk => hk.elim) (fun _ _ => trivial) (R_all HH5.out.r1) HH5.out.below HH5.out.below.size (by have := HL.out; omega) ?_
                  intro v7 w7 ho hb hg hat
                  have HH7 := Aside0.mk (HH5.out.more1 ho hb hg)
                  have HI7 := Aside0.mk (show St66 w7 (w.heap.size + 1 + 1) s q5 from blk_grown HI5.out hg (Kd.R_ne HH5.out.r1 HI5.out (by decide)))
                  obtain ⟨A7, c7, rfl, -, -⟩ := Kd.R_reads ho
                  simp only [List.length_append, List.length_cons, List.length_nil, Nat.zero_add] at HH7
                  have cs7 : w7.cell? ⟨w.heap.size, 1, none⟩ = some (.slice A1 acc.length c1) := (blk_cell HH7.out.obj 1).trans rfl
                  have fs7 := blk_frozen HH7.out.obj 1
                  clear ho hb hg hat
                  refine hK.out _ _ ((blk_cell (HH7.out.obj) 1).trans rfl) (fun hHeld => ?_)
                  clear hK K
                  refine norm_ (a' := ?_) ?_ ?_
                  rotate_left
                  · show Act.put _ (some 37) _ = _
                    simp only [Act.put, List.setIfInBounds_toArray, List.set_cons_zero, List.set_cons_succ, i64_w, i32_w]
                    rfl
                  refine pure_ (i := 6) (N := some 38) (v := ?_) (a' := ?_) #[true, true, true, true, true, true, true, false] rfl rfl (by kernel_rfl) (fun _ _ _ h => put_panic (by decide) h) (Or.inl ⟨by rfl, ?_⟩) ?_ ?_
                  rotate_left
                  · intro w'
                    go_simp
                    with_reducible rfl
                  rotate_left
                  · simp only [Act.put, List.setIfInBounds_toArray, List.set_cons_zero, List.set_cons_succ, i64_w, i32_w]
                    rfl
                  refine last_ (i := 7) (N := none) #[true, true, true, true, true, true, true, true] rfl rfl (by kernel_rfl) (by decide) (fun K hK => ?_)
                  refine skip_ (w1 := ?_) (by rfl) rfl ?_ ?_
                  rotate_left
                  · go_simp
                    rfl
                  refine hK.out _ _ ?_
                  clear hK K
                  refine done_ (by kernel_rfl) ?_
                  go_wp2
                  go_roundw
                  case rel => exact ⟨k + 1, q5, .slice A7 (acc.length + 1) c7, acc ++ [x], hlt, by first | rfl | go_num, ⟨by have := HL.out; simp; omega⟩, hq5, ⟨blk_far HI7.out (by simp; omega) _⟩, ⟨(HH7.out.put 1 (.slice A7 (acc.length + 1) c7) rfl).up (HH7.out.put 1 (.slice A7 (acc.length + 1) c7) rfl).lt (Nat.le_refl _)⟩, RX⟩
                  case measure => simp [intOf]; omega
              case neg =>
                obtain rfl : k = m := by omega
                have RE := Aside0.mk (show readA s = rd1 s code (acc, q) by rw [RD.out, Nat.sub_self]; simp [manyA])
                have HHD := HH
                have HID := HI
                clear HH HI RD
                obtain ⟨VD, hVD⟩ : ∃ VD, VD = V := ⟨_, rfl⟩
                obtain ⟨data, hdat⟩ : ∃ d, d = acc := ⟨_, rfl⟩
                rw [← hVD, ← hdat] at HHD
                rw [← hdat] at RE
                clear hVD hdat HL
                have NN := Aside0.mk (number_c w wr (w.heap.size + 1 + 1) s q 1000 HS.out HID.out (by omega) HHD.out.below hq (by omega) (by omega))
                cases en : numA s 1000 q with
                | none =>
                  have RN := Aside0.mk (readF_none (s := s) (by rw [RE.out]; unfold rd1 listA; rw [en]; rfl))
                  rw [en] at NN
                  go_wp2_with (first | (go_at_call 33; refine NN.out.mono ?_; rintro e wn ⟨rfl, hb, hk⟩; exact bad_held _ HHD.out HID.out hb hk rfl rfl rfl RN.out))
                | some an =>
                  obtain ⟨n, pn⟩ := an
                  have hn := numA_ok en hq
                  rw [en] at NN
                  obtain ⟨m, rfl⟩ : ∃ m : Nat, n = (m : Int) := ⟨n.toNat, by omega⟩
                  have RM := Aside0.mk (show readA s = (manyA (symA s) m pn).bind (rd2 s code data) by rw [RE.out]; unfold rd1 listA; rw [en]; simp)
                  have hm : m ≤ 1000 := by omega
                  have hqn := hn.2.1
                  clear en hn
                  go_wp2_with (first | (go_at_call 33; refine NN.out.mono ?_; rintro e wn ⟨⟨rfl, hi⟩, hb, hk⟩; have HHn := Aside0.mk (HHD.out.step HID.out (by omega) (by omega) hb hk); have HIn := Aside0.mk hi; clear hi hb hk))
                  go_loopw [42] (fun v wr => ∃ (k q : Nat) (V : Value) (acc : List S41), k ≤ m ∧ v = .int .i64 k ∧ Aside0 (acc.length = k) ∧ q ≤ s.size ∧ Aside0 (St66 wr (w.heap.size + 1 + 1) s q) ∧ Aside0 (Held w wr wr.heap.size w.heap.size (w.heap.size + 1) #[.string code, VD, V, .slice none 0 0] #[.int .i64 0] 30 (VD) data (V) acc (.slice none 0 0) []) ∧ Aside0 (readA s = ((manyA (symA s) (m - k) q).map fun y => (acc ++ y.1, y.2)).bind (rd2 s code data))) (fun v _ => m - (intOf v).toNat)
                  case atStart => exact ⟨0, pn, .slice none 0 0, [], Nat.zero_le _, rfl, ⟨rfl⟩, hqn, HIn, ⟨HHn.out.up HHn.out.lt (Nat.le_refl _)⟩, ⟨by rw [RM.out]; simp⟩⟩
                  case round =>
                    clear HHn HIn NN RM HHD HID RE
                    obtain ⟨k, q, V, acc, hk, rfl, HL, hq, HI, HH, RD⟩ := hrel
                    by_cases hlt : k < m
                    case pos =>
                      obtain ⟨A1, c1, rfl, hc1, -⟩ := Kd.R_reads HH.out.r2
                      have RS := Aside0.mk (show readA s = ((manyA (symA s) ((m - (k + 1)) + 1) q).map fun y => (acc ++ y.1, y.2)).bind (rd2 s code data) by rw [RD.out, show m - (k + 1) + 1 = m - k by omega])
                      have K1 := Aside0.mk (fun (W : World) (hI : St66 W (w.heap.size + 1 + 1) s q) (hB : Below w.heap.size w W) => name_c w W (w.heap.size + 1 + 1) s q HS.out hI (by omega) hB hq)
                      cases e1 : textA s 28 q with
                      | none =>
                        have RN := Aside0.mk (readF_none (s := s) (by rw [RS.out]; simp [manyA, symA, e1]))
                        rw [e1] at K1
                        go_wp2_with (first | (go_at_call 35; refine (K1.out _ HI.out HH.out.below).mono ?_; rintro e v1 ⟨rfl, hb, hk⟩; exact bad_held _ HH.out HI.out hb hk rfl rfl rfl RN.out))
                      | some a1 =>
                        obtain ⟨x1, q1⟩ := a1
                        rw [e1] at K1
                        have hq1 := textA_ok e1
                        have K2 := Aside0.mk (fun (W : World) (hI : St66 W (w.heap.size + 1 + 1) s q1) (hB : Below w.heap.size w W) => one_c w W (w.heap.size + 1 + 1) s q1 HS.out hI (by omega) hB hq1)
                        cases e2 : oneA s q1 with
                        | none =>
                          have RN := Aside0.mk (readF_none (s := s) (by rw [RS.out]; simp [manyA, symA, e1, e2]))
                          rw [e2] at K2
                          go_wp2_with (first | (go_at_call 35; refine (K1.out _ HI.out HH.out.below).mono ?_; rintro e v1 ⟨⟨rfl, hi⟩, hb, hk⟩; have HH1 := Aside0.mk (HH.out.step HI.out (by omega) (by omega) hb hk); have HI1 := Aside0.mk hi; clear hi hb hk) | (go_at_call 36; refine (K2.out _ HI1.out HH1.out.below).mono ?_; rintro e v2 ⟨rfl, hb, hk⟩; exact bad_held _ HH1.out HI1.out hb hk rfl rfl rfl RN.out))
                        | some a2 =>
                          obtain ⟨x2, q2⟩ := a2
                          rw [e2] at K2
                          have hq2 := (oneA_ok e2).2.1
                          have K3 := Aside0.mk (fun (W : World) (hI : St66 W (w.heap.size + 1 + 1) s q2) (hB : Below w.heap.size w W) => number_c w W (w.heap.size + 1 + 1) s q2 65536 HS.out hI (by omega) hB hq2 (by omega) (by omega))
                          cases e3 : numA s 65536 q2 with
                          | none =>
                            have RN := Aside0.mk (readF_none (s := s) (by rw [RS.out]; simp [manyA, symA, e1, e2, e3]))
                            rw [e3] at K3
                            go_wp2_with (first | (go_at_call 35; refine (K1.out _ HI.out HH.out.below).mono ?_; rintro e v1 ⟨⟨rfl, hi⟩, hb, hk⟩; have HH1 := Aside0.mk (HH.out.step HI.out (by omega) (by omega) hb hk); have HI1 := Aside0.mk hi; clear hi hb hk) | (go_at_call 36; refine (K2.out _ HI1.out HH1.out.below).mono ?_; rintro e v2 ⟨⟨rfl, hi⟩, hb, hk⟩; have HH2 := Aside0.mk (HH1.out.step HI1.out (by omega) (by omega) hb hk); have HI2 := Aside0.mk hi; clear hi hb hk))
                            refine start_ (n := 11) (S := fun w' => w'.cell? ⟨w.heap.size, 2, none⟩ = some (.slice A1 acc.length c1)) (ds := [10]) #[false, false, false, false, false, false, false, false, false, false, false] (by kernel_rfl) rfl rfl ((blk_cell (blk_drew HH2.out.obj) 2).trans rfl) (fun hHeld => ?_)
                            refine pure_ (i := 0) (N := some 48) (v := ?_) (a' := ?_) #[true, false, false, false, false, false, false, false, false, false, false] rfl rfl (by kernel_rfl) (fun _ _ _ h => put_panic (by decide) h) (Or.inl ⟨by rfl, ?_⟩) ?_ ?_
                            rotate_left
                            · intro w'
                              go_simp
                              with_reducible rfl
                            rotate_left
                            · simp only [Act.put, List.setIfInBounds_toArray, List.set_cons_zero, List.set_cons_succ, i64_w, i32_w]
                              rfl
                            refine pure_ (i := 2) (N := some 50) (v := ?_) (a' := ?_) #[true, false, true, false, false, false, false, false, false, false, false] rfl rfl (by kernel_rfl) (fun _ _ _ h => put_panic (by decide) h) (Or.inl ⟨by rfl, ?_⟩) ?_ ?_
                            rotate_left
                            · intro w'
                              go_simp
                              with_reducible rfl
                            rotate_left
                            · simp only [Act.put, List.setIfInBounds_toArray, List.set_cons_zero, List.set_cons_succ, i64_w, i32_w]
                              rfl
                            refine pure_ (i := 3) (N := some 51) (v := ?_) (a' := ?_) #[true, false, true, true, false, false, false, false, false, false, false] rfl rfl (by kernel_rfl) (fun _ _ _ h => put_panic (by decide) h) (Or.inl ⟨by rfl, ?_⟩) ?_ ?_
                            rotate_left
                            · intro w'
                              go_simp
                              with_reducible rfl
                            rotate_left
                            · simp only [Act.put, List.setIfInBounds_toArray, List.set_cons_zero, List.set_cons_succ, i64_w, i32_w]
                              rfl
                            refine pure_ (i := 4) (N := some 52) (v := ?_) (a' := ?_) #[true, false, true, true, true, false, false, false, false, false, false] rfl rfl (by kernel_rfl) (fun _ _ _ h => put_panic (by decide) h) (Or.inl ⟨by rfl, ?_⟩) ?_ ?_
                            rotate_left
                            · intro w'
                              go_simp
                              with_reducible rfl
                            rotate_left
                            · simp only [Act.put, List.setIfInBounds_toArray, List.set_cons_zero, List.set_cons_succ, i64_w, i32_w]
                              rfl
                            refine take_ (i := 1) (N := some 49) (v := ?_) (a' := ?_) #[true, true, true, true, true, false, false, false, false, false, false] rfl rfl (by kernel_rfl) (fun _ _ _ h => put_panic (by decide) h) (Or.inl ⟨by rfl, ?_⟩) hHeld ?_ ?_
                            rotate_left
                            · intro w' s0
                              go_simp
                              with_reducible rfl
                            rotate_left
                            · simp only [Act.put, List.setIfInBounds_toArray, List.set_cons_zero, List.set_cons_succ, i64_w, i32_w]
                              rfl
                            refine one_ (i := 5) (N := some 53) #[true, true, true, true, true, true, false, false, false, false, false] rfl rfl (by kernel_rfl) (by decide) (fun K hK => ?_)
                            refine goesP_ Try.func33 (by kernel_rfl) rfl #[.pointer (some ⟨w.heap.size + 1 + 1, 0, none⟩), .int .i64 65536] (by rfl) rfl rfl (by (try simp only [List.map_toArray, List.map_cons, List.map_nil]); rfl) ?_
                            refine (K3.out v2.drew (blk_drew HI2.out) (below_drew HH2.out.below)).mono ?_
                            rintro e vb ⟨rfl, hb, hk⟩
                            exact .inr ⟨_, rfl, bad_held _ (HH2.out.next (below_drew1 (Below.refl _ _))) (blk_drew HI2.out) hb hk rfl rfl rfl RN.out⟩
                          | some a3 =>
                            obtain ⟨x3, q3⟩ := a3
                            rw [e3] at K3
                            have hq3 := (numA_ok e3 hq2).2.1
                            have RX := Aside0.mk (show readA s = ((manyA (symA s) (m - (k + 1)) q3).map fun y => ((acc ++ [(⟨x1, x2, x3⟩ : S41)]) ++ y.1, y.2)).bind (rd2 s code data) by rw [RS.out, many_step (x := (⟨x1, x2, x3⟩ : S41)) (p' := q3) (bad := false) (by simp [symA, e1, e2, e3])]; rfl)
                            clear RS RD e1 e2 e3
                            go_wp2_with (first | (go_at_call 35; refine (K1.out _ HI.out HH.out.below).mono ?_; rintro e v1 ⟨⟨rfl, hi⟩, hb, hk⟩; have HH1 := Aside0.mk (HH.out.step HI.out (by omega) (by omega) hb hk); have HI1 := Aside0.mk hi; clear hi hb hk) | (go_at_call 36; refine (K2.out _ HI1.out HH1.out.below).mono ?_; rintro e v2 ⟨⟨rfl, hi⟩, hb, hk⟩; have HH2 := Aside0.mk (HH1.out.step HI1.out (by omega) (by omega) hb hk); have HI2 := Aside0.mk hi; clear hi hb hk))
                            refine start_ (n := 11) (S := fun w' => w'.cell? ⟨w.heap.size, 2, none⟩ = some (.slice A1 acc.length c1)) (ds := [10]) #[false, false, false, false, false, false, false, false, false, false, false] (by kernel_rfl) rfl rfl ((blk_cell (blk_drew HH2.out.obj) 2).trans rfl) (fun hHeld => ?_)
                            refine pure_ (i := 0) (N := some 48) (v := ?_) (a' := ?_) #[true, false, false, false, false, false, false, false, false, false, false] rfl rfl (by kernel_rfl) (fun _ _ _ h => put_panic (by decide) h) (Or.inl ⟨by rfl, ?_⟩) ?_ ?_
                            rotate_left
                            · intro w'
                              go_simp
                              with_reducible rfl
                            rotate_left
                            · simp only [Act.put, List.setIfInBounds_toArray, List.set_cons_zero, List.set_cons_succ, i64_w, i32_w]
                              rfl
                            refine pure_ (i := 2) (N := some 50) (v := ?_) (a' := ?_) #[true, false, true, false, false, false, false, false, false, false, false] rfl rfl (by kernel_rfl) (fun _ _ _ h => put_panic (by decide) h) (Or.inl ⟨by rfl, ?_⟩) ?_ ?_
                            rotate_left
                            · intro w'
                              go_simp
                              with_reducible rfl
                            rotate_left
                            · simp only [Act.put, List.setIfInBounds_toArray, List.set_cons_zero, List.set_cons_succ, i64_w, i32_w]
                              rfl
                            refine pure_ (i := 3) (N := some 51) (v := ?_) (a' := ?_) #[true, false, true, true, false, false, false, false, false, false, false] rfl rfl (by kernel_rfl) (fun _ _ _ h => put_panic (by decide) h) (Or.inl ⟨by rfl, ?_⟩) ?_ ?_
                            rotate_left
                            · intro w'
                              go_simp
                              with_reducible rfl
                            rotate_left
                            · simp only [Act.put, List.setIfInBounds_toArray, List.set_cons_zero, List.set_cons_succ, i64_w, i32_w]
                              rfl
                            refine pure_ (i := 4) (N := some 52) (v := ?_) (a' := ?_) #[true, false, true, true, true, false, false, false, false, false, false] rfl rfl (by kernel_rfl) (fun _ _ _ h => put_panic (by decide) h) (Or.inl ⟨by rfl, ?_⟩) ?_ ?_
                            rotate_left
                            · intro w'
                              go_simp
                              with_reducible rfl
                            rotate_left
                            · simp only [Act.put, List.setIfInBounds_toArray, List.set_cons_zero, List.set_cons_succ, i64_w, i32_w]
                              rfl
                            refine take_ (i := 1) (N := some 49) (v := ?_) (a' := ?_) #[true, true, true, true, true, false, false, false, false, false, false] rfl rfl (by kernel_rfl) (fun _ _ _ h => put_panic (by decide) h) (Or.inl ⟨by rfl, ?_⟩) hHeld ?_ ?_
                            rotate_left
                            · intro w' s0
                              go_simp
                              with_reducible rfl
                            rotate_left
                            · simp only [Act.put, List.setIfInBounds_toArray, List.set_cons_zero, List.set_cons_succ, i64_w, i32_w]
                              rfl
                            refine one_ (i := 5) (N := some 53) #[true, true, true, true, true, true, false, false, false, false, false] rfl rfl (by kernel_rfl) (by decide) (fun K hK => ?_)
                            refine goesP_ Try.func33 (by kernel_rfl) rfl #[.pointer (some ⟨w.heap.size + 1 + 1, 0, none⟩), .int .i64 65536] (by rfl) rfl rfl (by (try simp only [List.map_toArray, List.map_cons, List.map_nil]); rfl) ?_
                            refine (K3.out v2.drew (blk_drew HI2.out) (below_drew HH2.out.below)).mono ?_
                            rintro e vb ⟨⟨rfl, hi⟩, hb, hk⟩
                            refine .inl ⟨_, rfl, ?_⟩
                            have HHb := Aside0.mk ((HH2.out.next (below_drew1 (Below.refl _ _))).step (blk_drew HI2.out) (by omega) (by omega) hb hk)
                            have HIb := Aside0.mk hi
                            clear hi hb hk
                            refine hK.out _ _ ((blk_cell (HHb.out.obj) 2).trans rfl) (fun hHeld => ?_)
                            clear hK K
                            refine norm_ (a' := ?_) ?_ ?_
                            rotate_left
                            · show Act.put _ (some 53) _ = _
                              simp only [Act.put, List.setIfInBounds_toArray, List.set_cons_zero, List.set_cons_succ, i64_w, i32_w]
                              rfl
                            refine pure_ (i := 6) (N := some 54) (v := ?_) (a' := ?_) #[true, true, true, true, true, true, true, false, false, false, false] rfl rfl (by kernel_rfl) (fun _ _ _ h => put_panic (by decide) h) (Or.inl ⟨by rfl, ?_⟩) ?_ ?_
                            rotate_left
                            · intro w'
                              go_simp
                              with_reducible rfl
                            rotate_left
                            · simp only [Act.put, List.setIfInBounds_toArray, List.set_cons_zero, List.set_cons_succ, i64_w, i32_w]
                              rfl
                            refine one_ (i := 7) (N := some 55) #[true, true, true, true, true, true, true, true, false, false, false] rfl rfl (by kernel_rfl) (by decide) (fun K hK => ?_)
                            refine value_ (w1 := vb.alloc (.cells #[.string x1, .int .i64 x2, .int .i64 x3] 41)) (v := .slice (some ⟨vb.heap.size, 0, none⟩) 1 1) (by rfl) rfl ?_ ?_
                            · go_simp
                            refine hK.out _ _ ((blk_cell (blk_alloc HHb.out.obj _) 2).trans rfl) (fun hHeld => ?_)
                            clear hK K
                            refine norm_ (a' := ?_) ?_ ?_
                            rotate_left
                            · show Act.put _ (some 55) _ = _
                              simp only [Act.put, List.setIfInBounds_toArray, List.set_cons_zero, List.set_cons_succ, i64_w, i32_w]
                              rfl
                            refine one_ (i := 8) (N := some 56) #[true, true, true, true, true, true, true, true, true, false, false] rfl rfl (by kernel_rfl) (by decide) (fun K hK => ?_)
                            refine Kd.R_append_step k41 w.heap.size (by rfl) (.tmp 49) (.tmp 55) 23 41 (.agg #[.string ⟨#[]⟩, .int .i64 0, .int .i64 0]) 32 rfl Try.underlying23 info41 rfl (by decide) (by omega) (.slice A1 acc.length c1) acc ((⟨x1, x2, x3⟩ : S41)) [.string x1, .int .i64 x2, .int .i64 x3] (fun _ => True) (fun _ => False) rfl (by first | (go_simp; done) | (go_simp; rfl)) (k41_mkM _ _ _ ((⟨x1, x2, x3⟩ : S41))) (fun _ hk => hk.elim) (fun _ _ => trivial) (R_all HHb.out.r2) HHb.out.below HHb.out.below.size (by have := HL.out; omega) ?_
                            intro v7 w7 ho hb hg hat
                            have HH7 := Aside0.mk (HHb.out.more2 ho hb hg)
                            have HI7 := Aside0.mk (show St66 w7 (w.heap.size + 1 + 1) s q3 from blk_grown HIb.out hg (Kd.R_ne HHb.out.r2 HIb.out (by decide)))
                            obtain ⟨A7, c7, rfl, -, -⟩ := Kd.R_reads ho
                            simp only [List.length_append, List.length_cons, List.length_nil, Nat.zero_add] at HH7
                            have cs7 : w7.cell? ⟨w.heap.size, 2, none⟩ = some (.slice A1 acc.length c1) := (blk_cell HH7.out.obj 2).trans rfl
                            have fs7 := blk_frozen HH7.out.obj 2
                            clear ho hb hg hat
                            refine hK.out _ _ ((blk_cell (HH7.out.obj) 2).trans rfl) (fun hHeld => ?_)
                            clear hK K
                            refine norm_ (a' := ?_) ?_ ?_
                            rotate_left
                            · show Act.put _ (some 56) _ = _
                              simp only [Act.put, List.setIfInBounds_toArray, List.set_cons_zero, List.set_cons_succ, i64_w, i32_w]
                              rfl
                            refine pure_ (i := 9) (N := some 57) (v := ?_) (a' := ?_) #[true, true, true, true, true, true, true, true, true, true, false] rfl rfl (by kernel_rfl) (fun _ _ _ h => put_panic (by decide) h) (Or.inl ⟨by rfl, ?_⟩) ?_ ?_
                            rotate_left
                            · intro w'
                              go_simp
                              with_reducible rfl
                            rotate_left
                            · simp only [Act.put, List.setIfInBounds_toArray, List.set_cons_zero, List.set_cons_succ, i64_w, i32_w]
                              rfl
                            refine last_ (i := 10) (N := none) #[true, true, true, true, true, true, true, true, true, true, true] rfl rfl (by kernel_rfl) (by decide) (fun K hK => ?_)
                            refine skip_ (w1 := ?_) (by rfl) rfl ?_ ?_
                            rotate_left
                            · go_simp
                              rfl
                            refine hK.out _ _ ?_
                            clear hK K
                            refine done_ (by kernel_rfl) ?_
                            go_wp2
                            go_roundw
                            case rel => exact ⟨k + 1, q3, .slice A7 (acc.length + 1) c7, acc ++ [(⟨x1, x2, x3⟩ : S41)], hlt, by first | rfl | go_num, ⟨by have := HL.out; simp; omega⟩, hq3, ⟨blk_far HI7.out (by simp; omega) _⟩, ⟨(HH7.out.put 2 (.slice A7 (acc.length + 1) c7) rfl).up (HH7.out.put 2 (.slice A7 (acc.length + 1) c7) rfl).lt (Nat.le_refl _)⟩, RX⟩
                            case measure => simp [intOf]; omega
                    case neg =>
                      obtain rfl : k = m := by omega
                      have RE := Aside0.mk (show readA s = rd2 s code data (acc, q) by rw [RD.out, Nat.sub_self]; simp [manyA])
                      have HHE := HH
                      have HIE := HI
                      clear HH HI RD
                      obtain ⟨VS, hVS⟩ : ∃ VS, VS = V := ⟨_, rfl⟩
                      obtain ⟨syms, hsym⟩ : ∃ d, d = acc := ⟨_, rfl⟩
                      rw [← hVS, ← hsym] at HHE
                      rw [← hsym] at RE
                      clear hVS hsym HL
                      have NN := Aside0.mk (number_c w wr (w.heap.size + 1 + 1) s q 8000 HS.out HIE.out (by omega) HHE.out.below hq (by omega) (by omega))
                      cases en : numA s 8000 q with
                      | none =>
                        have RN := Aside0.mk (readF_none (s := s) (by rw [RE.out]; unfold rd2 listA; rw [en]; rfl))
                        rw [en] at NN
                        go_wp2_with (first | (go_at_call 33; refine NN.out.mono ?_; rintro e wn ⟨rfl, hb, hk⟩; exact bad_held _ HHE.out HIE.out hb hk rfl rfl rfl RN.out))
                      | some an =>
                        obtain ⟨n, pn⟩ := an
                        have hn := numA_ok en hq
                        rw [en] at NN
                        obtain ⟨m, rfl⟩ : ∃ m : Nat, n = (m : Int) := ⟨n.toNat, by omega⟩
                        have RM := Aside0.mk (show readA s = (manyA (relA s) m pn).bind (rd3 s code data syms) by rw [RE.out]; unfold rd2 listA; rw [en]; simp)
                        have hm : m ≤ 8000 := by omega
                        have hqn := hn.2.1
                        clear en hn
                        go_wp2_with (first | (go_at_call 33; refine NN.out.mono ?_; rintro e wn ⟨⟨rfl, hi⟩, hb, hk⟩; have HHn := Aside0.mk (HHE.out.step HIE.out (by omega) (by omega) hb hk); have HIn := Aside0.mk hi; clear hi hb hk))
                        go_loopw [61] (fun v wr => ∃ (k q : Nat) (V : Value) (acc : List S43), k ≤ m ∧ v = .int .i64 k ∧ Aside0 (acc.length = k) ∧ q ≤ s.size ∧ Aside0 (St66 wr (w.heap.size + 1 + 1) s q) ∧ Aside0 (Held w wr wr.heap.size w.heap.size (w.heap.size + 1) #[.string code, VD, VS, V] #[.int .i64 0] 30 (VD) data (VS) syms (V) acc) ∧ Aside0 (readA s = ((manyA (relA s) (m - k) q).map fun y => (acc ++ y.1, y.2)).bind (rd3 s code data syms))) (fun v _ => m - (intOf v).toNat)
                        case atStart => exact ⟨0, pn, .slice none 0 0, [], Nat.zero_le _, rfl, ⟨rfl⟩, hqn, HIn, ⟨HHn.out.up HHn.out.lt (Nat.le_refl _)⟩, ⟨by rw [RM.out]; simp⟩⟩
                        case round =>
                          clear HHn HIn NN RM HHE HIE RE
                          obtain ⟨k, q, V, acc, hk, rfl, HL, hq, HI, HH, RD⟩ := hrel
                          by_cases hlt : k < m
                          case pos =>
                            obtain ⟨A1, c1, rfl, hc1, -⟩ := Kd.R_reads HH.out.r3
                            have RS := Aside0.mk (show readA s = ((manyA (relA s) ((m - (k + 1)) + 1) q).map fun y => (acc ++ y.1, y.2)).bind (rd3 s code data syms) by rw [RD.out, show m - (k + 1) + 1 = m - k by omega])
                            have K1 := Aside0.mk (fun (W : World) (hI : St66 W (w.heap.size + 1 + 1) s q) (hB : Below w.heap.size w W) => number_c w W (w.heap.size + 1 + 1) s q 65536 HS.out hI (by omega) hB hq (by omega) (by omega))
                            cases e1 : numA s 65536 q with
                            | none =>
                              have RN := Aside0.mk (readF_none (s := s) (by rw [RS.out]; simp [manyA, relA, e1]))
                              rw [e1] at K1
                              go_wp2_with (first | (go_at_call 33; refine (K1.out _ HI.out HH.out.below).mono ?_; rintro e v1 ⟨rfl, hb, hk⟩; exact bad_held _ HH.out HI.out hb hk rfl rfl rfl RN.out))
                            | some a1 =>
                              obtain ⟨x1, q1⟩ := a1
                              rw [e1] at K1
                              have hq1 := (numA_ok e1 hq).2.1
                              have K2 := Aside0.mk (fun (W : World) (hI : St66 W (w.heap.size + 1 + 1) s q1) (hB : Below w.heap.size w W) => one_c w W (w.heap.size + 1 + 1) s q1 HS.out hI (by omega) hB hq1)
                              cases e2 : oneA s q1 with
                              | none =>
                                have RN := Aside0.mk (readF_none (s := s) (by rw [RS.out]; simp [manyA, relA, e1, e2]))
                                rw [e2] at K2
                                go_wp2_with (first | (go_at_call 33; refine (K1.out _ HI.out HH.out.below).mono ?_; rintro e v1 ⟨⟨rfl, hi⟩, hb, hk⟩; have HH1 := Aside0.mk (HH.out.step HI.out (by omega) (by omega) hb hk); have HI1 := Aside0.mk hi; clear hi hb hk) | (go_at_call 36; refine (K2.out _ HI1.out HH1.out.below).mono ?_; rintro e v2 ⟨rfl, hb, hk⟩; exact bad_held _ HH1.out HI1.out hb hk rfl rfl rfl RN.out))
                              | some a2 =>
                                obtain ⟨x2, q2⟩ := a2
                                rw [e2] at K2
                                have hq2 := (oneA_ok e2).2.1
                                have K3 := Aside0.mk (fun (W : World) (hI : St66 W (w.heap.size + 1 + 1) s q2) (hB : Below w.heap.size w W) => name_c w W (w.heap.size + 1 + 1) s q2 HS.out hI (by omega) hB hq2)
                                cases e3 : textA s 28 q2 with
                                | none =>
                                  have RN := Aside0.mk (readF_none (s := s) (by rw [RS.out]; simp [manyA, relA, e1, e2, e3]))
                                  rw [e3] at K3
                                  go_wp2_with (first | (go_at_call 33; refine (K1.out _ HI.out HH.out.below).mono ?_; rintro e v1 ⟨⟨rfl, hi⟩, hb, hk⟩; have HH1 := Aside0.mk (HH.out.step HI.out (by omega) (by omega) hb hk); have HI1 := Aside0.mk hi; clear hi hb hk) | (go_at_call 36; refine (K2.out _ HI1.out HH1.out.below).mono ?_; rintro e v2 ⟨⟨rfl, hi⟩, hb, hk⟩; have HH2 := Aside0.mk (HH1.out.step HI1.out (by omega) (by omega) hb hk); have HI2 := Aside0.mk hi; clear hi hb hk) | (go_at_call 35; refine (K3.out _ HI2.out HH2.out.below).mono ?_; rintro e v3 ⟨rfl, hb, hk⟩; exact bad_held _ HH2.out HI2.out hb hk rfl rfl rfl RN.out))
                                | some a3 =>
                                  obtain ⟨x3, q3⟩ := a3
                                  rw [e3] at K3
                                  have hq3 := textA_ok e3
                                  have K4 := Aside0.mk (fun (W : World) (hI : St66 W (w.heap.size + 1 + 1) s q3) (hB : Below w.heap.size w W) => wide_c w W (w.heap.size + 1 + 1) s q3 HS.out hI (by omega) hB hq3)
                                  cases e4 : wideA s q3 with
                                  | none =>
                                    have RN := Aside0.mk (readF_none (s := s) (by rw [RS.out]; simp [manyA, relA, e1, e2, e3, e4]))
                                    rw [e4] at K4
                                    go_wp2_with (first | (go_at_call 33; refine (K1.out _ HI.out HH.out.below).mono ?_; rintro e v1 ⟨⟨rfl, hi⟩, hb, hk⟩; have HH1 := Aside0.mk (HH.out.step HI.out (by omega) (by omega) hb hk); have HI1 := Aside0.mk hi; clear hi hb hk) | (go_at_call 36; refine (K2.out _ HI1.out HH1.out.below).mono ?_; rintro e v2 ⟨⟨rfl, hi⟩, hb, hk⟩; have HH2 := Aside0.mk (HH1.out.step HI1.out (by omega) (by omega) hb hk); have HI2 := Aside0.mk hi; clear hi hb hk) | (go_at_call 35; refine (K3.out _ HI2.out HH2.out.below).mono ?_; rintro e v3 ⟨⟨rfl, hi⟩, hb, hk⟩; have HH3 := Aside0.mk (HH2.out.step HI2.out (by omega) (by omega) hb hk); have HI3 := Aside0.mk hi; clear hi hb hk))
                                    refine start_ (n := 12) (S := fun w' => w'.cell? ⟨w.heap.size, 3, none⟩ = some (.slice A1 acc.length c1)) (ds := [11]) #[false, false, false, false, false, false, false, false, false, false, false, false] (by kernel_rfl) rfl rfl ((blk_cell (blk_drew HH3.out.obj) 3).trans rfl) (fun hHeld => ?_)
                                    refine pure_ (i := 0) (N := some 69) (v := ?_) (a' := ?_) #[true, false, false, false, false, false, false, false, false, false, false, false] rfl rfl (by kernel_rfl) (fun _ _ _ h => put_panic (by decide) h) (Or.inl ⟨by rfl, ?_⟩) ?_ ?_
                                    rotate_left
                                    · intro w'
                                      go_simp
                                      with_reducible rfl
                                    rotate_left
                                    · simp only [Act.put, List.setIfInBounds_toArray, List.set_cons_zero, List.set_cons_succ, i64_w, i32_w]
                                      rfl
                                    refine pure_ (i := 2) (N := some 71) (v := ?_) (a' := ?_) #[true, false, true, false, false, false, false, false, false, false, false, false] rfl rfl (by kernel_rfl) (fun _ _ _ h => put_panic (by decide) h) (Or.inl ⟨by rfl, ?_⟩) ?_ ?_
                                    rotate_left
                                    · intro w'
                                      go_simp
                                      with_reducible rfl
                                    rotate_left
                                    · simp only [Act.put, List.setIfInBounds_toArray, List.set_cons_zero, List.set_cons_succ, i64_w, i32_w]
                                      rfl
                                    refine pure_ (i := 3) (N := some 72) (v := ?_) (a' := ?_) #[true, false, true, true, false, false, false, false, false, false, false, false] rfl rfl (by kernel_rfl) (fun _ _ _ h => put_panic (by decide) h) (Or.inl ⟨by rfl, ?_⟩) ?_ ?_
                                    rotate_left
                                    · intro w'
                                      go_simp
                                      with_reducible rfl
                                    rotate_left
                                    · simp only [Act.put, List.setIfInBounds_toArray, List.set_cons_zero, List.set_cons_succ, i64_w, i32_w]
                                      rfl
                                    refine pure_ (i := 4) (N := some 73) (v := ?_) (a' := ?_) #[true, false, true, true, true, false, false, false, false, false, false, false] rfl rfl (by kernel_rfl) (fun _ _ _ h => put_panic (by decide) h) (Or.inl ⟨by rfl, ?_⟩) ?_ ?_
                                    rotate_left
                                    · intro w'
                                      go_simp
                                      with_reducible rfl
                                    rotate_left
                                    · simp only [Act.put, List.setIfInBounds_toArray, List.set_cons_zero, List.set_cons_succ, i64_w, i32_w]
                                      rfl
                                    refine pure_ (i := 5) (N := some 74) (v := ?_) (a' := ?_) #[true, false, true, true, true, true, false, false, false, false, false, false] rfl rfl (by kernel_rfl) (fun _ _ _ h => put_panic (by decide) h) (Or.inl ⟨by rfl, ?_⟩) ?_ ?_
                                    rotate_left
                                    · intro w'
                                      go_simp
                                      with_reducible rfl
                                    rotate_left
                                    · simp only [Act.put, List.setIfInBounds_toArray, List.set_cons_zero, List.set_cons_succ, i64_w, i32_w]
                                      rfl
                                    refine take_ (i := 1) (N := some 70) (v := ?_) (a' := ?_) #[true, true, true, true, true, true, false, false, false, false, false, false] rfl rfl (by kernel_rfl) (fun _ _ _ h => put_panic (by decide) h) (Or.inl ⟨by rfl, ?_⟩) hHeld ?_ ?_
                                    rotate_left
                                    · intro w' s0
                                      go_simp
                                      with_reducible rfl
                                    rotate_left
                                    · simp only [Act.put, List.setIfInBounds_toArray, List.set_cons_zero, List.set_cons_succ, i64_w, i32_w]
                                      rfl
                                    refine one_ (i := 6) (N := some 75) #[true, true, true, true, true, true, true, false, false, false, false, false] rfl rfl (by kernel_rfl) (by decide) (fun K hK => ?_)
                                    refine goesP_ Try.func34 (by kernel_rfl) rfl #[.pointer (some ⟨w.heap.size + 1 + 1, 0, none⟩)] (by rfl) rfl rfl (by (try simp only [List.map_toArray, List.map_cons, List.map_nil]); rfl) ?_
                                    refine (K4.out v3.drew (blk_drew HI3.out) (below_drew HH3.out.below)).mono ?_
                                    rintro e vb ⟨rfl, hb, hk⟩
                                    exact .inr ⟨_, rfl, bad_held _ (HH3.out.next (below_drew1 (Below.refl _ _))) (blk_drew HI3.out) hb hk rfl rfl rfl RN.out⟩
                                  | some a4 =>
                                    obtain ⟨x4, q4⟩ := a4
                                    rw [e4] at K4
                                    have hq4 := (wideA_ok e4).2.1
                                    have RX := Aside0.mk (show readA s = ((manyA (relA s) (m - (k + 1)) q4).map fun y => ((acc ++ [(⟨x1, x2, x3, x4⟩ : S43)]) ++ y.1, y.2)).bind (rd3 s code data syms) by rw [RS.out, many_step (x := (⟨x1, x2, x3, x4⟩ : S43)) (p' := q4) (bad := false) (by simp [relA, e1, e2, e3, e4])]; rfl)
                                    clear RS RD e1 e2 e3 e4
                                    go_wp2_with (first | (go_at_call 33; refine (K1.out _ HI.out HH.out.below).mono ?_; rintro e v1 ⟨⟨rfl, hi⟩, hb, hk⟩; have HH1 := Aside0.mk (HH.out.step HI.out (by omega) (by omega) hb hk); have HI1 := Aside0.mk hi; clear hi hb hk) | (go_at_call 36; refine (K2.out _ HI1.out HH1.out.below).mono ?_; rintro e v2 ⟨⟨rfl, hi⟩, hb, hk⟩; have HH2 := Aside0.mk (HH1.out.step HI1.out (by omega) (by omega) hb hk); have HI2 := Aside0.mk hi; clear hi hb hk) | (go_at_call 35; refine (K3.out _ HI2.out HH2.out.below).mono ?_; rintro e v3 ⟨⟨rfl, hi⟩, hb, hk⟩; have HH3 := Aside0.mk (HH2.out.step HI2.out (by omega) (by omega) hb hk); have HI3 := Aside0.mk hi; clear hi hb hk))
                                    refine start_ (n := 12) (S := fun w' => w'.cell? ⟨w.heap.size, 3, none⟩ = some (.slice A1 acc.length c1)) (ds := [11]) #[false, false, false, false, false, false, false, false, false, false, false, false] (by kernel_rfl) rfl rfl ((blk_cell (blk_drew HH3.out.obj) 3).trans rfl) (fun hHeld => ?_)
                                    refine pure_ (i := 0) (N := some 69) (v := ?_) (a' := ?_) #[true, false, false, false, false, false, false, false, false, false, false, false] rfl rfl (by kernel_rfl) (fun _ _ _ h => put_panic (by decide) h) (Or.inl ⟨by rfl, ?_⟩) ?_ ?_
                                    rotate_left
                                    · intro w'
                                      go_simp
                                      with_reducible rfl
                                    rotate_left
                                    · simp only [Act.put, List.setIfInBounds_toArray, List.set_cons_zero, List.set_cons_succ, i64_w, i32_w]
                                      rfl
                                    refine pure_ (i := 2) (N := some 71) (v := ?_) (a' := ?_) #[true, false, true, false, false, false, false, false, false, false, false, false] rfl rfl (by kernel_rfl) (fun _ _ _ h => put_panic (by decide) h) (Or.inl ⟨by rfl, ?_⟩) ?_ ?_
                                    rotate_left
                                    · intro w'
                                      go_simp
                                      with_reducible rfl
                                    rotate_left
                                    · simp only [Act.put, List.setIfInBounds_toArray, List.set_cons_zero, List.set_cons_succ, i64_w, i32_w]
                                      rfl
                                    refine pure_ (i := 3) (N := some 72) (v := ?_) (a' := ?_) #[true, false, true, true, false, false, false, false, false, false, false, false] rfl rfl (by kernel_rfl) (fun _ _ _ h => put_panic (by decide) h) (Or.inl ⟨by rfl, ?_⟩) ?_ ?_
                                    rotate_left
                                    · intro w'
                                      go_simp
                                      with_reducible rfl
                                    rotate_left
                                    · simp only [Act.put, List.setIfInBounds_toArray, List.set_cons_zero, List.set_cons_succ, i64_w, i32_w]
                                      rfl
                                    refine pure_ (i := 4) (N := some 73) (v := ?_) (a' := ?_) #[true, false, true, true, true, false, false, false, false, false, false, false] rfl rfl (by kernel_rfl) (fun _ _ _ h => put_panic (by decide) h) (Or.inl ⟨by rfl, ?_⟩) ?_ ?_
                                    rotate_left
                                    · intro w'
                                      go_simp
                                      with_reducible rfl
                                    rotate_left
                                    · simp only [Act.put, List.setIfInBounds_toArray, List.set_cons_zero, List.set_cons_succ, i64_w, i32_w]
                                      rfl
                                    refine pure_ (i := 5) (N := some 74) (v := ?_) (a' := ?_) #[true, false, true, true, true, true, false, false, false, false, false, false] rfl rfl (by kernel_rfl) (fun _ _ _ h => put_panic (by decide) h) (Or.inl ⟨by rfl, ?_⟩) ?_ ?_
                                    rotate_left
                                    · intro w'
                                      go_simp
                                      with_reducible rfl
                                    rotate_left
                                    · simp only [Act.put, List.setIfInBounds_toArray, List.set_cons_zero, List.set_cons_succ, i64_w, i32_w]
                                      rfl
                                    refine take_ (i := 1) (N := some 70) (v := ?_) (a' := ?_) #[true, true, true, true, true, true, false, false, false, false, false, false] rfl rfl (by kernel_rfl) (fun _ _ _ h => put_panic (by decide) h) (Or.inl ⟨by rfl, ?_⟩) hHeld ?_ ?_
                                    rotate_left
                                    · intro w' s0
                                      go_simp
                                      with_reducible rfl
                                    rotate_left
                                    · simp only [Act.put, List.setIfInBounds_toArray, List.set_cons_zero, List.set_cons_succ, i64_w, i32_w]
                                      rfl
                                    refine one_ (i := 6) (N := some 75) #[true, true, true, true, true, true, true, false, false, false, false, false] rfl rfl (by kernel_rfl) (by decide) (fun K hK => ?_)
                                    refine goesP_ Try.func34 (by kernel_rfl) rfl #[.pointer (some ⟨w.heap.size + 1 + 1, 0, none⟩)] (by rfl) rfl rfl (by (try simp only [List.map_toArray, List.map_cons, List.map_nil]); rfl) ?_
                                    refine (K4.out v3.drew (blk_drew HI3.out) (below_drew HH3.out.below)).mono ?_
                                    rintro e vb ⟨⟨rfl, hi⟩, hb, hk⟩
                                    refine .inl ⟨_, rfl, ?_⟩
                                    have HHb := Aside0.mk ((HH3.out.next (below_drew1 (Below.refl _ _))).step (blk_drew HI3.out) (by omega) (by omega) hb hk)
                                    have HIb := Aside0.mk hi
                                    clear hi hb hk
                                    refine hK.out _ _ ((blk_cell (HHb.out.obj) 3).trans rfl) (fun hHeld => ?_)
                                    clear hK K
                                    refine norm_ (a' := ?_) ?_ ?_
                                    rotate_left
                                    · show Act.put _ (some 75) _ = _
                                      simp only [Act.put, List.setIfInBounds_toArray, List.set_cons_zero, List.set_cons_succ, i64_w, i32_w]
                                      rfl
                                    refine pure_ (i := 7) (N := some 76) (v := ?_) (a' := ?_) #[true, true, true, true, true, true, true, true, false, false, false, false] rfl rfl (by kernel_rfl) (fun _ _ _ h => put_panic (by decide) h) (Or.inl ⟨by rfl, ?_⟩) ?_ ?_
                                    rotate_left
                                    · intro w'
                                      go_simp
                                      with_reducible rfl
                                    rotate_left
                                    · simp only [Act.put, List.setIfInBounds_toArray, List.set_cons_zero, List.set_cons_succ, i64_w, i32_w]
                                      rfl
                                    refine one_ (i := 8) (N := some 77) #[true, true, true, true, true, true, true, true, true, false, false, false] rfl rfl (by kernel_rfl) (by decide) (fun K hK => ?_)
                                    refine value_ (w1 := vb.alloc (.cells #[.int .i64 x1, .int .i64 x2, .string x3, .int .i64 x4] 43)) (v := .slice (some ⟨vb.heap.size, 0, none⟩) 1 1) (by rfl) rfl ?_ ?_
                                    · go_simp
                                    refine hK.out _ _ ((blk_cell (blk_alloc HHb.out.obj _) 3).trans rfl) (fun hHeld => ?_)
                                    clear hK K
                                    refine norm_ (a' := ?_) ?_ ?_
                                    rotate_left
                                    · show Act.put _ (some 77) _ = _
                                      simp only [Act.put, List.setIfInBounds_toArray, List.set_cons_zero, List.set_cons_succ, i64_w, i32_w]
                                      rfl
                                    refine one_ (i := 9) (N := some 78) #[true, true, true, true, true, true, true, true, true, true, false, false] rfl rfl (by kernel_rfl) (by decide) (fun K hK => ?_)
                                    refine Kd.R_append_step k43 w.heap.size (by rfl) (.tmp 70) (.tmp 77) 24 43 (.agg #[.int .i64 0, .int .i64 0, .string ⟨#[]⟩, .int .i64 0]) 40 rfl Try.underlying24 info43 rfl (by decide) (by omega) (.slice A1 acc.length c1) acc ((⟨x1, x2, x3, x4⟩ : S43)) [.int .i64 x1, .int .i64 x2, .string x3, .int .i64 x4] (fun _ => True) (fun _ => False) rfl (by first | (go_simp; done) | (go_simp; rfl)) (k43_mkM _ _ _ ((⟨x1, x2, x3, x4⟩ : S43))) (fun _ hk => hk.elim) (fun _ _ => trivial) (R_all HHb.out.r3) HHb.out.below HHb.out.below.size (by have := HL.out; omega) ?_
                                    intro v7 w7 ho hb hg hat
                                    have HH7 := Aside0.mk (HHb.out.more3 ho hb hg)
                                    have HI7 := Aside0.mk (show St66 w7 (w.heap.size + 1 + 1) s q4 from blk_grown HIb.out hg (Kd.R_ne HHb.out.r3 HIb.out (by decide)))
                                    obtain ⟨A7, c7, rfl, -, -⟩ := Kd.R_reads ho
                                    simp only [List.length_append, List.length_cons, List.length_nil, Nat.zero_add] at HH7
                                    have cs7 : w7.cell? ⟨w.heap.size, 3, none⟩ = some (.slice A1 acc.length c1) := (blk_cell HH7.out.obj 3).trans rfl
                                    have fs7 := blk_frozen HH7.out.obj 3
                                    clear ho hb hg hat
                                    refine hK.out _ _ ((blk_cell (HH7.out.obj) 3).trans rfl) (fun hHeld => ?_)
                                    clear hK K
                                    refine norm_ (a' := ?_) ?_ ?_
                                    rotate_left
                                    · show Act.put _ (some 78) _ = _
                                      simp only [Act.put, List.setIfInBounds_toArray, List.set_cons_zero, List.set_cons_succ, i64_w, i32_w]
                                      rfl
                                    refine pure_ (i := 10) (N := some 79) (v := ?_) (a' := ?_) #[true, true, true, true, true, true, true, true, true, true, true, false] rfl rfl (by kernel_rfl) (fun _ _ _ h => put_panic (by decide) h) (Or.inl ⟨by rfl, ?_⟩) ?_ ?_
                                    rotate_left
                                    · intro w'
                                      go_simp
                                      with_reducible rfl
                                    rotate_left
                                    · simp only [Act.put, List.setIfInBounds_toArray, List.set_cons_zero, List.set_cons_succ, i64_w, i32_w]
                                      rfl
                                    refine last_ (i := 11) (N := none) #[true, true, true, true, true, true, true, true, true, true, true, true] rfl rfl (by kernel_rfl) (by decide) (fun K hK => ?_)
                                    refine skip_ (w1 := ?_) (by rfl) rfl ?_ ?_
                                    rotate_left
                                    · go_simp
                                      rfl
                                    refine hK.out _ _ ?_
                                    clear hK K
                                    refine done_ (by kernel_rfl) ?_
                                    go_wp2
                                    go_roundw
                                    case rel => exact ⟨k + 1, q4, .slice A7 (acc.length + 1) c7, acc ++ [(⟨x1, x2, x3, x4⟩ : S43)], hlt, by first | rfl | go_num, ⟨by have := HL.out; simp; omega⟩, hq4, ⟨blk_far HI7.out (by simp; omega) _⟩, ⟨(HH7.out.put 3 (.slice A7 (acc.length + 1) c7) rfl).up (HH7.out.put 3 (.slice A7 (acc.length + 1) c7) rfl).lt (Nat.le_refl _)⟩, RX⟩
                                    case measure => simp [intOf]; omega
                          case neg =>
                            obtain rfl : k = m := by omega
                            have RE := Aside0.mk (show readA s = rd3 s code data syms (acc, q) by rw [RD.out, Nat.sub_self]; simp [manyA])
                            obtain ⟨AD, cD, rfl, -, -⟩ := Kd.R_reads HH.out.r1
                            obtain ⟨AS, cS, rfl, -, -⟩ := Kd.R_reads HH.out.r2
                            obtain ⟨A1, c1, rfl, -, -⟩ := Kd.R_reads HH.out.r3
                            have cg1 : wr.cell? ⟨w.heap.size + 1 + 1, 1, none⟩ = some (.int .i64 q) := (blk_cell HI.out 1).trans rfl
                            have co0 : wr.cell? ⟨w.heap.size, 0, none⟩ = some (.string code) := (blk_cell HH.out.obj 0).trans rfl; have fco0 := blk_frozen HH.out.obj 0; have co1 : wr.cell? ⟨w.heap.size, 1, none⟩ = some (.slice AD data.length cD) := (blk_cell HH.out.obj 1).trans rfl; have fco1 := blk_frozen HH.out.obj 1; have co2 : wr.cell? ⟨w.heap.size, 2, none⟩ = some (.slice AS syms.length cS) := (blk_cell HH.out.obj 2).trans rfl; have fco2 := blk_frozen HH.out.obj 2; have co3 : wr.cell? ⟨w.heap.size, 3, none⟩ = some (.slice A1 acc.length c1) := (blk_cell HH.out.obj 3).trans rfl; have fco3 := blk_frozen HH.out.obj 3; have cox : wr.cell? ⟨w.heap.size + 1, 0, none⟩ = some (.int .i64 0) := (blk_cell HH.out.more 0).trans rfl; have fcox := blk_frozen HH.out.more 0
                            by_cases hqs : q = s.size
                            case neg =>
                              have RN := Aside0.mk (readF_none (s := s) (by rw [RE.out]; unfold rd3; rw [if_neg (fun h => hqs h.1)]))
                              have hqi : ((q : Int) == (s.size : Int)) = false := beq_eq_false_iff_ne.mpr (fun h => hqs (by omega))
                              go_wp2
                              exact zero_end _ HH.out rfl rfl rfl RN.out
                            case pos =>
                              subst hqs
                              have z1 := Aside0.mk (Kd.R_reads' HH.out.r1)
                              have z2 := Aside0.mk (Kd.R_reads' HH.out.r2)
                              have z3 := Aside0.mk (Kd.R_reads' HH.out.r3)
                              have hl := HL.out
                              have CK := Aside0.mk (check_f code data syms acc (by omega) (2 * acc.length + 2) (by omega))
                              clear hl HL
                              cases hmay : may code data syms acc
                              case false =>
                                have RN := Aside0.mk (readF_none (s := s) (by rw [RE.out]; unfold rd3; rw [if_neg (fun h => by rw [hmay] at h; cases h.2)]))
                                rw [hmay, if_neg (by simp)] at CK
                                go_wp2_with (first | (go_at_call 13; (with_reducible refine (objf_Check.calls (2 * acc.length + 2) code AD cD data AS cS syms A1 c1 acc 1 _ z1.out.2.2 z1.out.2.1 z2.out.2.2 z2.out.2.1 z3.out.2.2 z3.out.2.1 CK.out).mono ?_); rintro e w2 ⟨rfl, hb⟩; have HH2 := Aside0.mk (HH.out.next hb); clear hb; have cz0 : w2.cell? ⟨w.heap.size, 0, none⟩ = some (.string code) := (blk_cell HH2.out.obj 0).trans rfl; have fcz0 := blk_frozen HH2.out.obj 0; have cz1 : w2.cell? ⟨w.heap.size, 1, none⟩ = some (.slice AD data.length cD) := (blk_cell HH2.out.obj 1).trans rfl; have fcz1 := blk_frozen HH2.out.obj 1; have cz2 : w2.cell? ⟨w.heap.size, 2, none⟩ = some (.slice AS syms.length cS) := (blk_cell HH2.out.obj 2).trans rfl; have fcz2 := blk_frozen HH2.out.obj 2; have cz3 : w2.cell? ⟨w.heap.size, 3, none⟩ = some (.slice A1 acc.length c1) := (blk_cell HH2.out.obj 3).trans rfl; have fcz3 := blk_frozen HH2.out.obj 3; have czx : w2.cell? ⟨w.heap.size + 1, 0, none⟩ = some (.int .i64 0) := (blk_cell HH2.out.more 0).trans rfl; have fczx := blk_frozen HH2.out.more 0))
                                exact zero_end _ HH2.out rfl rfl rfl RN.out
                              case true =>
                                have RN := Aside0.mk (readF_some (s := s) (by rw [RE.out]; unfold rd3; rw [if_pos ⟨rfl, hmay⟩]))
                                rw [hmay, if_pos rfl] at CK
                                go_wp2_with (first | (go_at_call 13; (with_reducible refine (objf_Check.calls (2 * acc.length + 2) code AD cD data AS cS syms A1 c1 acc 0 _ z1.out.2.2 z1.out.2.1 z2.out.2.2 z2.out.2.1 z3.out.2.2 z3.out.2.1 CK.out).mono ?_); rintro e w2 ⟨rfl, hb⟩; have HH2 := Aside0.mk (HH.out.next hb); clear hb; have cz0 : w2.cell? ⟨w.heap.size, 0, none⟩ = some (.string code) := (blk_cell HH2.out.obj 0).trans rfl; have fcz0 := blk_frozen HH2.out.obj 0; have cz1 : w2.cell? ⟨w.heap.size, 1, none⟩ = some (.slice AD data.length cD) := (blk_cell HH2.out.obj 1).trans rfl; have fcz1 := blk_frozen HH2.out.obj 1; have cz2 : w2.cell? ⟨w.heap.size, 2, none⟩ = some (.slice AS syms.length cS) := (blk_cell HH2.out.obj 2).trans rfl; have fcz2 := blk_frozen HH2.out.obj 2; have cz3 : w2.cell? ⟨w.heap.size, 3, none⟩ = some (.slice A1 acc.length c1) := (blk_cell HH2.out.obj 3).trans rfl; have fcz3 := blk_frozen HH2.out.obj 3; have czx : w2.cell? ⟨w.heap.size + 1, 0, none⟩ = some (.int .i64 0) := (blk_cell HH2.out.more 0).trans rfl; have fczx := blk_frozen HH2.out.more 0))
                                exact ok_end _ HH2.out rfl rfl rfl RN.out
end Go.Proofs.Ytilmndkbloodbaa.M

-- Written by a program of this session (wip/ownprint.py) over the translation. Lean checks it.
namespace Go.Proofs.Ytilmndkbloodbaa.M
open Go.RowKit Go.Proofs.YtilmndkbloodbaaW.PrintWords Go.Proofs.YtilmndkbloodbaaW.PrintLast
set_option linter.unusedVariables false
set_option linter.unusedSimpArgs false

/-! ### cotterref06_named: function 45 -/
def cotterref06_named.f (a0 : ByteArray) : Option (Bool) := if (a0.size : Int) ≥ 1 then (some (decide ((a0.size : Int) ≤ 28))) else (some false)
set_option maxHeartbeats 8000000 in
set_option maxRecDepth 100000 in
theorem cotterref06_named.calls (a0 : ByteArray) (r : Bool) (w : World) (h : cotterref06_named.f a0 = some r) :
    Calls Try.prog 45 #[.string a0] w fun e w' => e = .returned (.bool r) ∧ Drawn0 w w' := by
  have H : (if (a0.size : Int) ≥ 1 then (some (decide ((a0.size : Int) ≤ 28))) else (some false)) = some r := h
  clear h
  by_cases c2 : (a0.size : Int) ≥ 1
  · rw [if_pos c2] at H
    have c2b0 : decide (1 ≤ (a0.size : Int)) = true := decide_eq_true c2
    have c2b1 : decide (1 ≤ a0.size) = true := decide_eq_true (by omega)
    clear c2
    obtain rfl := Option.some.inj H
    go_enter Try.func45, Try.ntmps45
    go_wp2
    go_ret
    exact ⟨by first | rfl | (simp; done) | (simp [*]; done), by repeat (first | exact Drawn0.refl _ | apply Drawn0.step)⟩
  · rw [if_neg c2] at H
    have c2b0 : decide (1 ≤ (a0.size : Int)) = false := decide_eq_false c2
    have c2b1 : decide (1 ≤ a0.size) = false := decide_eq_false (by omega)
    clear c2
    obtain rfl := Option.some.inj H
    go_enter Try.func45, Try.ntmps45
    go_wp2
    go_ret
    exact ⟨by first | rfl | (simp; done) | (simp [*]; done), by repeat (first | exact Drawn0.refl _ | apply Drawn0.step)⟩

end Go.Proofs.Ytilmndkbloodbaa.M

-- Written by a program of this session (wip/ownprint.py) over the translation. Lean checks it.
namespace Go.Proofs.Ytilmndkbloodbaa.M
open Go.RowKit Go.Proofs.YtilmndkbloodbaaW.PrintWords Go.Proofs.YtilmndkbloodbaaW.PrintLast
set_option linter.unusedVariables false
set_option linter.unusedSimpArgs false

/-! ### cotterref06_Syms: function 44 -/
mutual
def cotterref06_Syms.l0 : Nat → List (S41) → Int → Int → Int → Option (Bool)
  | 0, _, _, _, _ => none
  | k + 1, x0, x1, x2, x7 => if x7 < (x0.length : Int) then (if 0 ≤ x7 then ((cotterref06_named.f ((rd_T41 x0 x7).f0)).bind fun t103 => (if t103 = true then (if ((rd_T41 x0 x7).f1) < 1 then (cotterref06_Syms.j1 k x0 x1 x2 x7 true ((rd_T41 x0 x7).f0) ((rd_T41 x0 x7).f1) ((rd_T41 x0 x7).f2)) else (if ((rd_T41 x0 x7).f1) > 3 then (cotterref06_Syms.j1 k x0 x1 x2 x7 true ((rd_T41 x0 x7).f0) ((rd_T41 x0 x7).f1) ((rd_T41 x0 x7).f2)) else (if ((rd_T41 x0 x7).f2) < 0 then (cotterref06_Syms.j1 k x0 x1 x2 x7 true ((rd_T41 x0 x7).f0) ((rd_T41 x0 x7).f1) ((rd_T41 x0 x7).f2)) else (if ((rd_T41 x0 x7).f1) = 2 then (if ((rd_T41 x0 x7).f2) ≥ x2 then (cotterref06_Syms.j1 k x0 x1 x2 x7 true ((rd_T41 x0 x7).f0) ((rd_T41 x0 x7).f1) ((rd_T41 x0 x7).f2)) else (cotterref06_Syms.j1 k x0 x1 x2 x7 false ((rd_T41 x0 x7).f0) ((rd_T41 x0 x7).f1) ((rd_T41 x0 x7).f2))) else (cotterref06_Syms.j1 k x0 x1 x2 x7 (decide (((rd_T41 x0 x7).f2) ≥ x1)) ((rd_T41 x0 x7).f0) ((rd_T41 x0 x7).f1) ((rd_T41 x0 x7).f2)))))) else (cotterref06_Syms.j1 k x0 x1 x2 x7 true ((rd_T41 x0 x7).f0) ((rd_T41 x0 x7).f1) ((rd_T41 x0 x7).f2)))) else (none)) else (some true)
def cotterref06_Syms.j1 : Nat → List (S41) → Int → Int → Int → Bool → ByteArray → Int → Int → Option (Bool)
  | 0, _, _, _, _, _, _, _, _ => none
  | k + 1, x0, x1, x2, x7, x63, x103000, x103001, x103002 => if x63 = true then (some false) else (cotterref06_Syms.l1 k x0 x1 x2 x7 0 x103000 x103001 x103002)
def cotterref06_Syms.l1 : Nat → List (S41) → Int → Int → Int → Int → ByteArray → Int → Int → Option (Bool)
  | 0, _, _, _, _, _, _, _, _ => none
  | k + 1, x0, x1, x2, x7, x9, x103000, x103001, x103002 => if x9 < x7 then (if 0 ≤ x9 then (if x9 < (x0.length : Int) then (if ((rd_T41 x0 x9).f0).toList = x103000.toList then (some false) else (cotterref06_Syms.l1 k x0 x1 x2 x7 (wrap64 (x9 + 1)) x103000 x103001 x103002)) else (none)) else (none)) else (cotterref06_Syms.l0 k x0 x1 x2 (wrap64 (x7 + 1)))
end
def cotterref06_Syms.f (k : Nat) (l0 : List (S41)) (a1 : Int) (a2 : Int) : Option (Bool) := if (l0.length : Int) > 1000 then (some false) else (cotterref06_Syms.l0 k l0 a1 a2 0)
set_option maxHeartbeats 8000000 in
set_option maxRecDepth 100000 in
theorem cotterref06_Syms.calls (k : Nat) (A0 : Option Addr) (c0 : Nat) (l0 : List (S41)) (a1 : Int) (a2 : Int) (r : Bool) (w : World) (hr0 : Kd.C k41 w A0 l0.length l0) (hc0 : l0.length ≤ c0) (h : cotterref06_Syms.f k l0 a1 a2 = some r) :
    Calls Try.prog 44 #[.slice A0 l0.length c0, .int .i64 a1, .int .i64 a2] w fun e w' => e = .returned (.bool r) ∧ Below w.heap.size w w' := by
  have hu41 := Try.underlying41
  have HR0 := Aside0.mk hr0
  have HC0 := Aside0.mk hc0
  clear hr0 hc0
  have HB := Aside0.mk (Below.refl w.heap.size w)
  have H : (if (l0.length : Int) > 1000 then (some false) else (cotterref06_Syms.l0 k l0 a1 a2 0)) = some r := h
  clear h
  by_cases c4 : (l0.length : Int) > 1000
  · rw [if_pos c4] at H
    have c4b0 : decide (1000 < (l0.length : Int)) = true := decide_eq_true c4
    have c4b1 : decide (1000 < l0.length) = true := decide_eq_true (by omega)
    clear c4
    obtain rfl := Option.some.inj H
    go_enter Try.func44, Try.ntmps44
    go_wp2
    repeat (go_quiet (fail); try go_wp2)
    go_ret
    exact ⟨by first | rfl | (simp [errW_none, errW_some] <;> rfl) | (simp [*, errW_none, errW_some] <;> rfl), by repeat (first | (with_reducible first | exact HB.out | apply below_alloc | apply pw_below_drewN | apply below_drew1) | exact HB.out)⟩
  · rw [if_neg c4] at H
    have c4b0 : decide (1000 < (l0.length : Int)) = false := decide_eq_false c4
    have c4b1 : decide (1000 < l0.length) = false := decide_eq_false (by omega)
    clear c4
    have H' := Aside0.mk H
    clear H
    go_enter Try.func44, Try.ntmps44
    go_wp2
    repeat (go_quiet (fail); try go_wp2)
    go_loopg [7] k (fun kq v7 w' => ∃ (x7_1 : Int), v7 = .int .i64 x7_1 ∧ Aside0 (cotterref06_Syms.l0 kq l0 a1 a2 x7_1 = some r) ∧ Aside0 (kq ≤ k) ∧ Aside0 (Below w.heap.size w w'))
    case atStart => exact ⟨(0), (by first | rfl | (simp; done) | (simp [*]; done)), H', ⟨Nat.le_refl _⟩, ⟨by repeat (first | (with_reducible first | exact HB.out | apply below_alloc | apply pw_below_drewN | apply below_drew1) | exact HB.out)⟩⟩
    case round =>
      clear H'
      try clear p2
      try clear c4
      try clear c4b0
      try clear c4b1
      obtain ⟨x7_1, rfl, HA, HK1, HB⟩ := hrel
      cases gk with
      | zero => exact absurd HA.out (by simp [cotterref06_Syms.l0])
      | succ k1 =>
        have H := HA.out
        clear HA
        simp only [cotterref06_Syms.l0] at H
        by_cases c5 : x7_1 < (l0.length : Int)
        · rw [if_pos c5] at H
          have c5b0 : decide (x7_1 < (l0.length : Int)) = true := decide_eq_true c5
          clear c5
          by_cases c6 : 0 ≤ x7_1
          · rw [if_pos c6] at H
            have c6b0 : decide (0 ≤ x7_1) = true := decide_eq_true c6
            clear c6
            have HC7 := Aside0.mk H
            clear H
            have p101 : 0 ≤ (x7_1 : Int) := of_decide_eq_true (by first | (with_reducible assumption) | assumption)
            have q101 : x7_1 < (l0.length : Int) := of_decide_eq_true (by first | (with_reducible assumption) | assumption)
            obtain ⟨ad101, e101, hx101_0, hx101_1, hx101_2⟩ := at_T41 HR0.out x7_1 p101 q101
            cases e101
            replace hx101_0 := (HB.out.cell (World.block_lt_of_cell? w _ hx101_0)).trans hx101_0
            replace hx101_1 := (HB.out.cell (World.block_lt_of_cell? w _ hx101_1)).trans hx101_1
            replace hx101_2 := (HB.out.cell (World.block_lt_of_cell? w _ hx101_2)).trans hx101_2
            replace p101 := eq_true p101
            replace q101 := eq_true q101
            go_upto_region 7 with (first | ((with_reducible refine gate_dst (N := 8) rfl ?_); refine box_event ?hg (N := 8) ?hd (cs := #[.string (⟨#[]⟩ : ByteArray), .int .i64 0, .int .i64 0]) (t := 41) ?hr ?_; (case hd => rfl); (case hg => rfl); (case hr => first | (go_simp; done) | (go_simp; rfl)); intro gb102 hg w8 hbox hb; have n0_ := Aside0.mk (below_step (by repeat (first | (with_reducible first | exact HB.out | apply below_alloc | apply pw_below_drewN | apply below_drew1) | exact HB.out)) hb); have n1_ := Aside0.mk (hbox); have n2_ := Aside0.mk ((by rw [hg]; exact (below_size (by repeat (first | (with_reducible first | exact HB.out | apply below_alloc | apply pw_below_drewN | apply below_drew1) | exact HB.out))) : w.heap.size ≤ gb102)); have n3_ := Aside0.mk ((by rw [hg]; exact (below_size (by repeat (first | (with_reducible first | exact HB.out | apply below_alloc | apply pw_below_drewN | apply below_drew1) | exact HB.out))) : w.heap.size ≤ gb102)); clear HB; have HB := n0_; have BK102 := n1_; have GW102 := n2_; have GE102 := n3_; clear n0_ n1_ n2_ n3_; clear hb hbox hg; have hcz9_0 : w8.cell? ⟨gb102, 0, none⟩ = some (.string (⟨#[]⟩ : ByteArray)) := (blk_cell BK102.out 0).trans rfl; have hcz9_1 : w8.cell? ⟨gb102, 1, none⟩ = some (.int .i64 0) := (blk_cell BK102.out 1).trans rfl; have hcz9_2 : w8.cell? ⟨gb102, 2, none⟩ = some (.int .i64 0) := (blk_cell BK102.out 2).trans rfl; have hfz9_0 := blk_frozen BK102.out 0; have hfz9_1 := blk_frozen BK102.out 1; have hfz9_2 := blk_frozen BK102.out 2))
            repeat (go_quiet (first | ((with_reducible refine gate_dst (N := 8) rfl ?_); refine box_event ?hg (N := 8) ?hd (cs := #[.string (⟨#[]⟩ : ByteArray), .int .i64 0, .int .i64 0]) (t := 41) ?hr ?_; (case hd => rfl); (case hg => rfl); (case hr => first | (go_simp; done) | (go_simp; rfl)); intro gb102 hg w8 hbox hb; have n0_ := Aside0.mk (below_step (by repeat (first | (with_reducible first | exact HB.out | apply below_alloc | apply pw_below_drewN | apply below_drew1) | exact HB.out)) hb); have n1_ := Aside0.mk (hbox); have n2_ := Aside0.mk ((by rw [hg]; exact (below_size (by repeat (first | (with_reducible first | exact HB.out | apply below_alloc | apply pw_below_drewN | apply below_drew1) | exact HB.out))) : w.heap.size ≤ gb102)); have n3_ := Aside0.mk ((by rw [hg]; exact (below_size (by repeat (first | (with_reducible first | exact HB.out | apply below_alloc | apply pw_below_drewN | apply below_drew1) | exact HB.out))) : w.heap.size ≤ gb102)); clear HB; have HB := n0_; have BK102 := n1_; have GW102 := n2_; have GE102 := n3_; clear n0_ n1_ n2_ n3_; clear hb hbox hg; have hcz9_0 : w8.cell? ⟨gb102, 0, none⟩ = some (.string (⟨#[]⟩ : ByteArray)) := (blk_cell BK102.out 0).trans rfl; have hcz9_1 : w8.cell? ⟨gb102, 1, none⟩ = some (.int .i64 0) := (blk_cell BK102.out 1).trans rfl; have hcz9_2 : w8.cell? ⟨gb102, 2, none⟩ = some (.int .i64 0) := (blk_cell BK102.out 2).trans rfl; have hfz9_0 := blk_frozen BK102.out 0; have hfz9_1 := blk_frozen BK102.out 1; have hfz9_2 := blk_frozen BK102.out 2)); go_upto_region 7 with (first | ((with_reducible refine gate_dst (N := 8) rfl ?_); refine box_event ?hg (N := 8) ?hd (cs := #[.string (⟨#[]⟩ : ByteArray), .int .i64 0, .int .i64 0]) (t := 41) ?hr ?_; (case hd => rfl); (case hg => rfl); (case hr => first | (go_simp; done) | (go_simp; rfl)); intro gb102 hg w8 hbox hb; have n0_ := Aside0.mk (below_step (by repeat (first | (with_reducible first | exact HB.out | apply below_alloc | apply pw_below_drewN | apply below_drew1) | exact HB.out)) hb); have n1_ := Aside0.mk (hbox); have n2_ := Aside0.mk ((by rw [hg]; exact (below_size (by repeat (first | (with_reducible first | exact HB.out | apply below_alloc | apply pw_below_drewN | apply below_drew1) | exact HB.out))) : w.heap.size ≤ gb102)); have n3_ := Aside0.mk ((by rw [hg]; exact (below_size (by repeat (first | (with_reducible first | exact HB.out | apply below_alloc | apply pw_below_drewN | apply below_drew1) | exact HB.out))) : w.heap.size ≤ gb102)); clear HB; have HB := n0_; have BK102 := n1_; have GW102 := n2_; have GE102 := n3_; clear n0_ n1_ n2_ n3_; clear hb hbox hg; have hcz9_0 : w8.cell? ⟨gb102, 0, none⟩ = some (.string (⟨#[]⟩ : ByteArray)) := (blk_cell BK102.out 0).trans rfl; have hcz9_1 : w8.cell? ⟨gb102, 1, none⟩ = some (.int .i64 0) := (blk_cell BK102.out 1).trans rfl; have hcz9_2 : w8.cell? ⟨gb102, 2, none⟩ = some (.int .i64 0) := (blk_cell BK102.out 2).trans rfl; have hfz9_0 := blk_frozen BK102.out 0; have hfz9_1 := blk_frozen BK102.out 1; have hfz9_2 := blk_frozen BK102.out 2)))
            (try simp only [Act.put, List.setIfInBounds_toArray, List.set_cons_zero, List.set_cons_succ])
            go_cut [63] (fun v63 wc => ∃ (kq : Nat) (x63_6 : Bool), v63 = .bool x63_6 ∧ Aside0 (cotterref06_Syms.j1 kq l0 a1 a2 x7_1 x63_6 ((rd_T41 l0 x7_1).f0) ((rd_T41 l0 x7_1).f1) ((rd_T41 l0 x7_1).f2) = some r) ∧ Aside0 (kq ≤ k1) ∧ Aside0 (wc.heap[gb102]? = some (.cells #[.string ((rd_T41 l0 x7_1).f0), .int .i64 ((rd_T41 l0 x7_1).f1), .int .i64 ((rd_T41 l0 x7_1).f2)] 41 (0, 0))) ∧ Aside0 (Below w.heap.size w wc))
            case first =>
              have H := HC7.out
              clear HC7
              replace H := Option.bind_eq_some_iff.mp H
              obtain ⟨t103, A100, H⟩ := H
              replace H : (if t103 = true then (if ((rd_T41 l0 x7_1).f1) < 1 then (cotterref06_Syms.j1 k1 l0 a1 a2 x7_1 true ((rd_T41 l0 x7_1).f0) ((rd_T41 l0 x7_1).f1) ((rd_T41 l0 x7_1).f2)) else (if ((rd_T41 l0 x7_1).f1) > 3 then (cotterref06_Syms.j1 k1 l0 a1 a2 x7_1 true ((rd_T41 l0 x7_1).f0) ((rd_T41 l0 x7_1).f1) ((rd_T41 l0 x7_1).f2)) else (if ((rd_T41 l0 x7_1).f2) < 0 then (cotterref06_Syms.j1 k1 l0 a1 a2 x7_1 true ((rd_T41 l0 x7_1).f0) ((rd_T41 l0 x7_1).f1) ((rd_T41 l0 x7_1).f2)) else (if ((rd_T41 l0 x7_1).f1) = 2 then (if ((rd_T41 l0 x7_1).f2) ≥ a2 then (cotterref06_Syms.j1 k1 l0 a1 a2 x7_1 true ((rd_T41 l0 x7_1).f0) ((rd_T41 l0 x7_1).f1) ((rd_T41 l0 x7_1).f2)) else (cotterref06_Syms.j1 k1 l0 a1 a2 x7_1 false ((rd_T41 l0 x7_1).f0) ((rd_T41 l0 x7_1).f1) ((rd_T41 l0 x7_1).f2))) else (cotterref06_Syms.j1 k1 l0 a1 a2 x7_1 (decide (((rd_T41 l0 x7_1).f2) ≥ a1)) ((rd_T41 l0 x7_1).f0) ((rd_T41 l0 x7_1).f1) ((rd_T41 l0 x7_1).f2)))))) else (cotterref06_Syms.j1 k1 l0 a1 a2 x7_1 true ((rd_T41 l0 x7_1).f0) ((rd_T41 l0 x7_1).f1) ((rd_T41 l0 x7_1).f2))) = some r := H
              have A10 := Aside0.mk A100
              clear A100
              by_cases c11 : t103 = true
              · subst c11
                have H1 : (if ((rd_T41 l0 x7_1).f1) < 1 then (cotterref06_Syms.j1 k1 l0 a1 a2 x7_1 true ((rd_T41 l0 x7_1).f0) ((rd_T41 l0 x7_1).f1) ((rd_T41 l0 x7_1).f2)) else (if ((rd_T41 l0 x7_1).f1) > 3 then (cotterref06_Syms.j1 k1 l0 a1 a2 x7_1 true ((rd_T41 l0 x7_1).f0) ((rd_T41 l0 x7_1).f1) ((rd_T41 l0 x7_1).f2)) else (if ((rd_T41 l0 x7_1).f2) < 0 then (cotterref06_Syms.j1 k1 l0 a1 a2 x7_1 true ((rd_T41 l0 x7_1).f0) ((rd_T41 l0 x7_1).f1) ((rd_T41 l0 x7_1).f2)) else (if ((rd_T41 l0 x7_1).f1) = 2 then (if ((rd_T41 l0 x7_1).f2) ≥ a2 then (cotterref06_Syms.j1 k1 l0 a1 a2 x7_1 true ((rd_T41 l0 x7_1).f0) ((rd_T41 l0 x7_1).f1) ((rd_T41 l0 x7_1).f2)) else (cotterref06_Syms.j1 k1 l0 a1 a2 x7_1 false ((rd_T41 l0 x7_1).f0) ((rd_T41 l0 x7_1).f1) ((rd_T41 l0 x7_1).f2))) else (cotterref06_Syms.j1 k1 l0 a1 a2 x7_1 (decide (((rd_T41 l0 x7_1).f2) ≥ a1)) ((rd_T41 l0 x7_1).f0) ((rd_T41 l0 x7_1).f1) ((rd_T41 l0 x7_1).f2)))))) = some r := by rw [if_pos rfl] at H; exact H
                clear H
                have H := H1
                clear H1
                by_cases c12 : ((rd_T41 l0 x7_1).f1) < 1
                · rw [if_pos c12] at H
                  have c12b0 : decide (((rd_T41 l0 x7_1).f1) < 1) = true := decide_eq_true c12
                  clear c12
                  (first | rw [c12b0] | (simp only [i64_w, i32_w]; rw [c12b0]) | skip)
                  have H' := Aside0.mk H
                  clear H
                  have hcz13_0 : w8.cell? ⟨gb102, 0, none⟩ = some (.string (⟨#[]⟩ : ByteArray)) := (blk_cell BK102.out 0).trans rfl
                  have hcz13_1 : w8.cell? ⟨gb102, 1, none⟩ = some (.int .i64 0) := (blk_cell BK102.out 1).trans rfl
                  have hcz13_2 : w8.cell? ⟨gb102, 2, none⟩ = some (.int .i64 0) := (blk_cell BK102.out 2).trans rfl
                  have hfz13_0 := blk_frozen BK102.out 0
                  have hfz13_1 := blk_frozen BK102.out 1
                  have hfz13_2 := blk_frozen BK102.out 2
                  go_wp2_with (first | (go_at_call 45; (with_reducible refine (cotterref06_named.calls ((rd_T41 l0 x7_1).f0) true _ A10.out).mono ?_); rintro e w' ⟨rfl, ⟨nd, rfl⟩⟩; (try first | exact ⟨rfl, _, World.drewN_drewN _ _ _⟩ | exact ⟨rfl, _, Eq.trans (World.drewN_drewN _ _ _) (congrArg (World.drewN _) (Nat.add_assoc _ _ _))⟩)))
                  repeat (go_quiet (first | (go_at_call 45; (with_reducible refine (cotterref06_named.calls ((rd_T41 l0 x7_1).f0) true _ A10.out).mono ?_); rintro e w' ⟨rfl, ⟨nd, rfl⟩⟩; (try first | exact ⟨rfl, _, World.drewN_drewN _ _ _⟩ | exact ⟨rfl, _, Eq.trans (World.drewN_drewN _ _ _) (congrArg (World.drewN _) (Nat.add_assoc _ _ _))⟩))); try go_wp2_with (first | (go_at_call 45; (with_reducible refine (cotterref06_named.calls ((rd_T41 l0 x7_1).f0) true _ A10.out).mono ?_); rintro e w' ⟨rfl, ⟨nd, rfl⟩⟩; (try first | exact ⟨rfl, _, World.drewN_drewN _ _ _⟩ | exact ⟨rfl, _, Eq.trans (World.drewN_drewN _ _ _) (congrArg (World.drewN _) (Nat.add_assoc _ _ _))⟩))))
                  go_meet
                  case rel => exact ⟨_, (true), (by first | rfl | (simp; done) | (simp [*]; done)), H', ⟨by have := HK1.out; first | omega | exact Nat.le_refl _⟩, ⟨by (with_reducible repeat (first | refine blk_drewN ?_ _ | refine blk_drew ?_ | refine blk_alloc ?_ _)); refine blk_put (cs := #[.string ((rd_T41 l0 x7_1).f0), .int .i64 ((rd_T41 l0 x7_1).f1), .int .i64 0]) ?_ 2 _ rfl; (with_reducible repeat (first | refine blk_drewN ?_ _ | refine blk_drew ?_ | refine blk_alloc ?_ _)); refine blk_put (cs := #[.string ((rd_T41 l0 x7_1).f0), .int .i64 0, .int .i64 0]) ?_ 1 _ rfl; (with_reducible repeat (first | refine blk_drewN ?_ _ | refine blk_drew ?_ | refine blk_alloc ?_ _)); refine blk_put (cs := #[.string (⟨#[]⟩ : ByteArray), .int .i64 0, .int .i64 0]) ?_ 0 _ rfl; (with_reducible repeat (first | refine blk_drewN ?_ _ | refine blk_drew ?_ | refine blk_alloc ?_ _)); exact BK102.out⟩, ⟨by repeat (first | (with_reducible first | exact HB.out | apply below_alloc | apply pw_below_drewN | apply below_drew1 | refine below_set ?_ GE102.out) | exact HB.out)⟩⟩
                · rw [if_neg c12] at H
                  have c12b0 : decide (((rd_T41 l0 x7_1).f1) < 1) = false := decide_eq_false c12
                  clear c12
                  (first | rw [c12b0] | (simp only [i64_w, i32_w]; rw [c12b0]) | skip)
                  by_cases c14 : ((rd_T41 l0 x7_1).f1) > 3
                  · rw [if_pos c14] at H
                    have c14b0 : decide (3 < ((rd_T41 l0 x7_1).f1)) = true := decide_eq_true c14
                    clear c14
                    have H' := Aside0.mk H
                    clear H
                    have hcz15_0 : w8.cell? ⟨gb102, 0, none⟩ = some (.string (⟨#[]⟩ : ByteArray)) := (blk_cell BK102.out 0).trans rfl
                    have hcz15_1 : w8.cell? ⟨gb102, 1, none⟩ = some (.int .i64 0) := (blk_cell BK102.out 1).trans rfl
                    have hcz15_2 : w8.cell? ⟨gb102, 2, none⟩ = some (.int .i64 0) := (blk_cell BK102.out 2).trans rfl
                    have hfz15_0 := blk_frozen BK102.out 0
                    have hfz15_1 := blk_frozen BK102.out 1
                    have hfz15_2 := blk_frozen BK102.out 2
                    go_wp2_with (first | (go_at_call 45; (with_reducible refine (cotterref06_named.calls ((rd_T41 l0 x7_1).f0) true _ A10.out).mono ?_); rintro e w' ⟨rfl, ⟨nd, rfl⟩⟩; (try first | exact ⟨rfl, _, World.drewN_drewN _ _ _⟩ | exact ⟨rfl, _, Eq.trans (World.drewN_drewN _ _ _) (congrArg (World.drewN _) (Nat.add_assoc _ _ _))⟩)))
                    repeat (go_quiet (first | (go_at_call 45; (with_reducible refine (cotterref06_named.calls ((rd_T41 l0 x7_1).f0) true _ A10.out).mono ?_); rintro e w' ⟨rfl, ⟨nd, rfl⟩⟩; (try first | exact ⟨rfl, _, World.drewN_drewN _ _ _⟩ | exact ⟨rfl, _, Eq.trans (World.drewN_drewN _ _ _) (congrArg (World.drewN _) (Nat.add_assoc _ _ _))⟩))); try go_wp2_with (first | (go_at_call 45; (with_reducible refine (cotterref06_named.calls ((rd_T41 l0 x7_1).f0) true _ A10.out).mono ?_); rintro e w' ⟨rfl, ⟨nd, rfl⟩⟩; (try first | exact ⟨rfl, _, World.drewN_drewN _ _ _⟩ | exact ⟨rfl, _, Eq.trans (World.drewN_drewN _ _ _) (congrArg (World.drewN _) (Nat.add_assoc _ _ _))⟩))))
                    go_meet
                    case rel => exact ⟨_, (true), (by first | rfl | (simp; done) | (simp [*]; done)), H', ⟨by have := HK1.out; first | omega | exact Nat.le_refl _⟩, ⟨by (with_reducible repeat (first | refine blk_drewN ?_ _ | refine blk_drew ?_ | refine blk_alloc ?_ _)); refine blk_put (cs := #[.string ((rd_T41 l0 x7_1).f0), .int .i64 ((rd_T41 l0 x7_1).f1), .int .i64 0]) ?_ 2 _ rfl; (with_reducible repeat (first | refine blk_drewN ?_ _ | refine blk_drew ?_ | refine blk_alloc ?_ _)); refine blk_put (cs := #[.string ((rd_T41 l0 x7_1).f0), .int .i64 0, .int .i64 0]) ?_ 1 _ rfl; (with_reducible repeat (first | refine blk_drewN ?_ _ | refine blk_drew ?_ | refine blk_alloc ?_ _)); refine blk_put (cs := #[.string (⟨#[]⟩ : ByteArray), .int .i64 0, .int .i64 0]) ?_ 0 _ rfl; (with_reducible repeat (first | refine blk_drewN ?_ _ | refine blk_drew ?_ | refine blk_alloc ?_ _)); exact BK102.out⟩, ⟨by repeat (first | (with_reducible first | exact HB.out | apply below_alloc | apply pw_below_drewN | apply below_drew1 | refine below_set ?_ GE102.out) | exact HB.out)⟩⟩
                  · rw [if_neg c14] at H
                    have c14b0 : decide (3 < ((rd_T41 l0 x7_1).f1)) = false := decide_eq_false c14
                    clear c14
                    by_cases c16 : ((rd_T41 l0 x7_1).f2) < 0
                    · rw [if_pos c16] at H
                      have c16b0 : decide (((rd_T41 l0 x7_1).f2) < 0) = true := decide_eq_true c16
                      clear c16
                      have H' := Aside0.mk H
                      clear H
                      have hcz17_0 : w8.cell? ⟨gb102, 0, none⟩ = some (.string (⟨#[]⟩ : ByteArray)) := (blk_cell BK102.out 0).trans rfl
                      have hcz17_1 : w8.cell? ⟨gb102, 1, none⟩ = some (.int .i64 0) := (blk_cell BK102.out 1).trans rfl
                      have hcz17_2 : w8.cell? ⟨gb102, 2, none⟩ = some (.int .i64 0) := (blk_cell BK102.out 2).trans rfl
                      have hfz17_0 := blk_frozen BK102.out 0
                      have hfz17_1 := blk_frozen BK102.out 1
                      have hfz17_2 := blk_frozen BK102.out 2
                      go_wp2_with (first | (go_at_call 45; (with_reducible refine (cotterref06_named.calls ((rd_T41 l0 x7_1).f0) true _ A10.out).mono ?_); rintro e w' ⟨rfl, ⟨nd, rfl⟩⟩; (try first | exact ⟨rfl, _, World.drewN_drewN _ _ _⟩ | exact ⟨rfl, _, Eq.trans (World.drewN_drewN _ _ _) (congrArg (World.drewN _) (Nat.add_assoc _ _ _))⟩)))
                      repeat (go_quiet (first | (go_at_call 45; (with_reducible refine (cotterref06_named.calls ((rd_T41 l0 x7_1).f0) true _ A10.out).mono ?_); rintro e w' ⟨rfl, ⟨nd, rfl⟩⟩; (try first | exact ⟨rfl, _, World.drewN_drewN _ _ _⟩ | exact ⟨rfl, _, Eq.trans (World.drewN_drewN _ _ _) (congrArg (World.drewN _) (Nat.add_assoc _ _ _))⟩))); try go_wp2_with (first | (go_at_call 45; (with_reducible refine (cotterref06_named.calls ((rd_T41 l0 x7_1).f0) true _ A10.out).mono ?_); rintro e w' ⟨rfl, ⟨nd, rfl⟩⟩; (try first | exact ⟨rfl, _, World.drewN_drewN _ _ _⟩ | exact ⟨rfl, _, Eq.trans (World.drewN_drewN _ _ _) (congrArg (World.drewN _) (Nat.add_assoc _ _ _))⟩))))
                      go_meet
                      case rel => exact ⟨_, (true), (by first | rfl | (simp; done) | (simp [*]; done)), H', ⟨by have := HK1.out; first | omega | exact Nat.le_refl _⟩, ⟨by (with_reducible repeat (first | refine blk_drewN ?_ _ | refine blk_drew ?_ | refine blk_alloc ?_ _)); refine blk_put (cs := #[.string ((rd_T41 l0 x7_1).f0), .int .i64 ((rd_T41 l0 x7_1).f1), .int .i64 0]) ?_ 2 _ rfl; (with_reducible repeat (first | refine blk_drewN ?_ _ | refine blk_drew ?_ | refine blk_alloc ?_ _)); refine blk_put (cs := #[.string ((rd_T41 l0 x7_1).f0), .int .i64 0, .int .i64 0]) ?_ 1 _ rfl; (with_reducible repeat (first | refine blk_drewN ?_ _ | refine blk_drew ?_ | refine blk_alloc ?_ _)); refine blk_put (cs := #[.string (⟨#[]⟩ : ByteArray), .int .i64 0, .int .i64 0]) ?_ 0 _ rfl; (with_reducible repeat (first | refine blk_drewN ?_ _ | refine blk_drew ?_ | refine blk_alloc ?_ _)); exact BK102.out⟩, ⟨by repeat (first | (with_reducible first | exact HB.out | apply below_alloc | apply pw_below_drewN | apply below_drew1 | refine below_set ?_ GE102.out) | exact HB.out)⟩⟩
                    · rw [if_neg c16] at H
                      have c16b0 : decide (((rd_T41 l0 x7_1).f2) < 0) = false := decide_eq_false c16
                      clear c16
                      by_cases c18 : ((rd_T41 l0 x7_1).f1) = 2
                      · rw [if_pos c18] at H
                        have c18b0 : (((rd_T41 l0 x7_1).f1) == 2) = true := beq_iff_eq.mpr c18
                        have c18b1 : (((rd_T41 l0 x7_1).f1) != 2) = false := bne_eq_false_iff_eq.mpr c18
                        clear c18
                        by_cases c19 : ((rd_T41 l0 x7_1).f2) ≥ a2
                        · rw [if_pos c19] at H
                          have c19b0 : decide (a2 ≤ ((rd_T41 l0 x7_1).f2)) = true := decide_eq_true c19
                          clear c19
                          have H' := Aside0.mk H
                          clear H
                          have hcz20_0 : w8.cell? ⟨gb102, 0, none⟩ = some (.string (⟨#[]⟩ : ByteArray)) := (blk_cell BK102.out 0).trans rfl
                          have hcz20_1 : w8.cell? ⟨gb102, 1, none⟩ = some (.int .i64 0) := (blk_cell BK102.out 1).trans rfl
                          have hcz20_2 : w8.cell? ⟨gb102, 2, none⟩ = some (.int .i64 0) := (blk_cell BK102.out 2).trans rfl
                          have hfz20_0 := blk_frozen BK102.out 0
                          have hfz20_1 := blk_frozen BK102.out 1
                          have hfz20_2 := blk_frozen BK102.out 2
                          go_wp2_with (first | (go_at_call 45; (with_reducible refine (cotterref06_named.calls ((rd_T41 l0 x7_1).f0) true _ A10.out).mono ?_); rintro e w' ⟨rfl, ⟨nd, rfl⟩⟩; (try first | exact ⟨rfl, _, World.drewN_drewN _ _ _⟩ | exact ⟨rfl, _, Eq.trans (World.drewN_drewN _ _ _) (congrArg (World.drewN _) (Nat.add_assoc _ _ _))⟩)))
                          repeat (go_quiet (first | (go_at_call 45; (with_reducible refine (cotterref06_named.calls ((rd_T41 l0 x7_1).f0) true _ A10.out).mono ?_); rintro e w' ⟨rfl, ⟨nd, rfl⟩⟩; (try first | exact ⟨rfl, _, World.drewN_drewN _ _ _⟩ | exact ⟨rfl, _, Eq.trans (World.drewN_drewN _ _ _) (congrArg (World.drewN _) (Nat.add_assoc _ _ _))⟩))); try go_wp2_with (first | (go_at_call 45; (with_reducible refine (cotterref06_named.calls ((rd_T41 l0 x7_1).f0) true _ A10.out).mono ?_); rintro e w' ⟨rfl, ⟨nd, rfl⟩⟩; (try first | exact ⟨rfl, _, World.drewN_drewN _ _ _⟩ | exact ⟨rfl, _, Eq.trans (World.drewN_drewN _ _ _) (congrArg (World.drewN _) (Nat.add_assoc _ _ _))⟩))))
                          go_meet
                          case rel => exact ⟨_, (true), (by first | rfl | (simp; done) | (simp [*]; done)), H', ⟨by have := HK1.out; first | omega | exact Nat.le_refl _⟩, ⟨by (with_reducible repeat (first | refine blk_drewN ?_ _ | refine blk_drew ?_ | refine blk_alloc ?_ _)); refine blk_put (cs := #[.string ((rd_T41 l0 x7_1).f0), .int .i64 ((rd_T41 l0 x7_1).f1), .int .i64 0]) ?_ 2 _ rfl; (with_reducible repeat (first | refine blk_drewN ?_ _ | refine blk_drew ?_ | refine blk_alloc ?_ _)); refine blk_put (cs := #[.string ((rd_T41 l0 x7_1).f0), .int .i64 0, .int .i64 0]) ?_ 1 _ rfl; (with_reducible repeat (first | refine blk_drewN ?_ _ | refine blk_drew ?_ | refine blk_alloc ?_ _)); refine blk_put (cs := #[.string (⟨#[]⟩ : ByteArray), .int .i64 0, .int .i64 0]) ?_ 0 _ rfl; (with_reducible repeat (first | refine blk_drewN ?_ _ | refine blk_drew ?_ | refine blk_alloc ?_ _)); exact BK102.out⟩, ⟨by repeat (first | (with_reducible first | exact HB.out | apply below_alloc | apply pw_below_drewN | apply below_drew1 | refine below_set ?_ GE102.out) | exact HB.out)⟩⟩
                        · rw [if_neg c19] at H
                          have c19b0 : decide (a2 ≤ ((rd_T41 l0 x7_1).f2)) = false := decide_eq_false c19
                          clear c19
                          have H' := Aside0.mk H
                          clear H
                          have hcz21_0 : w8.cell? ⟨gb102, 0, none⟩ = some (.string (⟨#[]⟩ : ByteArray)) := (blk_cell BK102.out 0).trans rfl
                          have hcz21_1 : w8.cell? ⟨gb102, 1, none⟩ = some (.int .i64 0) := (blk_cell BK102.out 1).trans rfl
                          have hcz21_2 : w8.cell? ⟨gb102, 2, none⟩ = some (.int .i64 0) := (blk_cell BK102.out 2).trans rfl
                          have hfz21_0 := blk_frozen BK102.out 0
                          have hfz21_1 := blk_frozen BK102.out 1
                          have hfz21_2 := blk_frozen BK102.out 2
                          go_wp2_with (first | (go_at_call 45; (with_reducible refine (cotterref06_named.calls ((rd_T41 l0 x7_1).f0) true _ A10.out).mono ?_); rintro e w' ⟨rfl, ⟨nd, rfl⟩⟩; (try first | exact ⟨rfl, _, World.drewN_drewN _ _ _⟩ | exact ⟨rfl, _, Eq.trans (World.drewN_drewN _ _ _) (congrArg (World.drewN _) (Nat.add_assoc _ _ _))⟩)))
                          repeat (go_quiet (first | (go_at_call 45; (with_reducible refine (cotterref06_named.calls ((rd_T41 l0 x7_1).f0) true _ A10.out).mono ?_); rintro e w' ⟨rfl, ⟨nd, rfl⟩⟩; (try first | exact ⟨rfl, _, World.drewN_drewN _ _ _⟩ | exact ⟨rfl, _, Eq.trans (World.drewN_drewN _ _ _) (congrArg (World.drewN _) (Nat.add_assoc _ _ _))⟩))); try go_wp2_with (first | (go_at_call 45; (with_reducible refine (cotterref06_named.calls ((rd_T41 l0 x7_1).f0) true _ A10.out).mono ?_); rintro e w' ⟨rfl, ⟨nd, rfl⟩⟩; (try first | exact ⟨rfl, _, World.drewN_drewN _ _ _⟩ | exact ⟨rfl, _, Eq.trans (World.drewN_drewN _ _ _) (congrArg (World.drewN _) (Nat.add_assoc _ _ _))⟩))))
                          go_meet
                          case rel => exact ⟨_, (false), (by first | rfl | (simp; done) | (simp [*]; done)), H', ⟨by have := HK1.out; first | omega | exact Nat.le_refl _⟩, ⟨by (with_reducible repeat (first | refine blk_drewN ?_ _ | refine blk_drew ?_ | refine blk_alloc ?_ _)); refine blk_put (cs := #[.string ((rd_T41 l0 x7_1).f0), .int .i64 ((rd_T41 l0 x7_1).f1), .int .i64 0]) ?_ 2 _ rfl; (with_reducible repeat (first | refine blk_drewN ?_ _ | refine blk_drew ?_ | refine blk_alloc ?_ _)); refine blk_put (cs := #[.string ((rd_T41 l0 x7_1).f0), .int .i64 0, .int .i64 0]) ?_ 1 _ rfl; (with_reducible repeat (first | refine blk_drewN ?_ _ | refine blk_drew ?_ | refine blk_alloc ?_ _)); refine blk_put (cs := #[.string (⟨#[]⟩ : ByteArray), .int .i64 0, .int .i64 0]) ?_ 0 _ rfl; (with_reducible repeat (first | refine blk_drewN ?_ _ | refine blk_drew ?_ | refine blk_alloc ?_ _)); exact BK102.out⟩, ⟨by repeat (first | (with_reducible first | exact HB.out | apply below_alloc | apply pw_below_drewN | apply below_drew1 | refine below_set ?_ GE102.out) | exact HB.out)⟩⟩
                      · rw [if_neg c18] at H
                        have c18b0 : (((rd_T41 l0 x7_1).f1) == 2) = false := beq_eq_false_iff_ne.mpr c18
                        have c18b1 : (((rd_T41 l0 x7_1).f1) != 2) = true := bne_iff_ne.mpr c18
                        have H' := Aside0.mk H
                        clear H
                        have hcz22_0 : w8.cell? ⟨gb102, 0, none⟩ = some (.string (⟨#[]⟩ : ByteArray)) := (blk_cell BK102.out 0).trans rfl
                        have hcz22_1 : w8.cell? ⟨gb102, 1, none⟩ = some (.int .i64 0) := (blk_cell BK102.out 1).trans rfl
                        have hcz22_2 : w8.cell? ⟨gb102, 2, none⟩ = some (.int .i64 0) := (blk_cell BK102.out 2).trans rfl
                        have hfz22_0 := blk_frozen BK102.out 0
                        have hfz22_1 := blk_frozen BK102.out 1
                        have hfz22_2 := blk_frozen BK102.out 2
                        go_wp2_with (first | (go_at_call 45; (with_reducible refine (cotterref06_named.calls ((rd_T41 l0 x7_1).f0) true _ A10.out).mono ?_); rintro e w' ⟨rfl, ⟨nd, rfl⟩⟩; (try first | exact ⟨rfl, _, World.drewN_drewN _ _ _⟩ | exact ⟨rfl, _, Eq.trans (World.drewN_drewN _ _ _) (congrArg (World.drewN _) (Nat.add_assoc _ _ _))⟩)))
                        repeat (go_quiet (first | (go_at_call 45; (with_reducible refine (cotterref06_named.calls ((rd_T41 l0 x7_1).f0) true _ A10.out).mono ?_); rintro e w' ⟨rfl, ⟨nd, rfl⟩⟩; (try first | exact ⟨rfl, _, World.drewN_drewN _ _ _⟩ | exact ⟨rfl, _, Eq.trans (World.drewN_drewN _ _ _) (congrArg (World.drewN _) (Nat.add_assoc _ _ _))⟩))); try go_wp2_with (first | (go_at_call 45; (with_reducible refine (cotterref06_named.calls ((rd_T41 l0 x7_1).f0) true _ A10.out).mono ?_); rintro e w' ⟨rfl, ⟨nd, rfl⟩⟩; (try first | exact ⟨rfl, _, World.drewN_drewN _ _ _⟩ | exact ⟨rfl, _, Eq.trans (World.drewN_drewN _ _ _) (congrArg (World.drewN _) (Nat.add_assoc _ _ _))⟩))))
                        go_meet
                        case rel => exact ⟨_, (decide (((rd_T41 l0 x7_1).f2) ≥ a1)), (by first | rfl | (simp; done) | (simp [*]; done)), H', ⟨by have := HK1.out; first | omega | exact Nat.le_refl _⟩, ⟨by (with_reducible repeat (first | refine blk_drewN ?_ _ | refine blk_drew ?_ | refine blk_alloc ?_ _)); refine blk_put (cs := #[.string ((rd_T41 l0 x7_1).f0), .int .i64 ((rd_T41 l0 x7_1).f1), .int .i64 0]) ?_ 2 _ rfl; (with_reducible repeat (first | refine blk_drewN ?_ _ | refine blk_drew ?_ | refine blk_alloc ?_ _)); refine blk_put (cs := #[.string ((rd_T41 l0 x7_1).f0), .int .i64 0, .int .i64 0]) ?_ 1 _ rfl; (with_reducible repeat (first | refine blk_drewN ?_ _ | refine blk_drew ?_ | refine blk_alloc ?_ _)); refine blk_put (cs := #[.string (⟨#[]⟩ : ByteArray), .int .i64 0, .int .i64 0]) ?_ 0 _ rfl; (with_reducible repeat (first | refine blk_drewN ?_ _ | refine blk_drew ?_ | refine blk_alloc ?_ _)); exact BK102.out⟩, ⟨by repeat (first | (with_reducible first | exact HB.out | apply below_alloc | apply pw_below_drewN | apply below_drew1 | refine below_set ?_ GE102.out) | exact HB.out)⟩⟩
              · replace c11 := Bool.eq_false_iff.mpr c11
                subst c11
                have H1 : (cotterref06_Syms.j1 k1 l0 a1 a2 x7_1 true ((rd_T41 l0 x7_1).f0) ((rd_T41 l0 x7_1).f1) ((rd_T41 l0 x7_1).f2)) = some r := by rw [if_neg (show ¬ (false = true) by decide)] at H; exact H
                clear H
                have H := H1
                clear H1
                have H' := Aside0.mk H
                clear H
                have hcz23_0 : w8.cell? ⟨gb102, 0, none⟩ = some (.string (⟨#[]⟩ : ByteArray)) := (blk_cell BK102.out 0).trans rfl
                have hcz23_1 : w8.cell? ⟨gb102, 1, none⟩ = some (.int .i64 0) := (blk_cell BK102.out 1).trans rfl
                have hcz23_2 : w8.cell? ⟨gb102, 2, none⟩ = some (.int .i64 0) := (blk_cell BK102.out 2).trans rfl
                have hfz23_0 := blk_frozen BK102.out 0
                have hfz23_1 := blk_frozen BK102.out 1
                have hfz23_2 := blk_frozen BK102.out 2
                go_wp2_with (first | (go_at_call 45; (with_reducible refine (cotterref06_named.calls ((rd_T41 l0 x7_1).f0) false _ A10.out).mono ?_); rintro e w' ⟨rfl, ⟨nd, rfl⟩⟩; (try first | exact ⟨rfl, _, World.drewN_drewN _ _ _⟩ | exact ⟨rfl, _, Eq.trans (World.drewN_drewN _ _ _) (congrArg (World.drewN _) (Nat.add_assoc _ _ _))⟩)))
                repeat (go_quiet (first | (go_at_call 45; (with_reducible refine (cotterref06_named.calls ((rd_T41 l0 x7_1).f0) false _ A10.out).mono ?_); rintro e w' ⟨rfl, ⟨nd, rfl⟩⟩; (try first | exact ⟨rfl, _, World.drewN_drewN _ _ _⟩ | exact ⟨rfl, _, Eq.trans (World.drewN_drewN _ _ _) (congrArg (World.drewN _) (Nat.add_assoc _ _ _))⟩))); try go_wp2_with (first | (go_at_call 45; (with_reducible refine (cotterref06_named.calls ((rd_T41 l0 x7_1).f0) false _ A10.out).mono ?_); rintro e w' ⟨rfl, ⟨nd, rfl⟩⟩; (try first | exact ⟨rfl, _, World.drewN_drewN _ _ _⟩ | exact ⟨rfl, _, Eq.trans (World.drewN_drewN _ _ _) (congrArg (World.drewN _) (Nat.add_assoc _ _ _))⟩))))
                go_meet
                case rel => exact ⟨_, (true), (by first | rfl | (simp; done) | (simp [*]; done)), H', ⟨by have := HK1.out; first | omega | exact Nat.le_refl _⟩, ⟨by (with_reducible repeat (first | refine blk_drewN ?_ _ | refine blk_drew ?_ | refine blk_alloc ?_ _)); refine blk_put (cs := #[.string ((rd_T41 l0 x7_1).f0), .int .i64 ((rd_T41 l0 x7_1).f1), .int .i64 0]) ?_ 2 _ rfl; (with_reducible repeat (first | refine blk_drewN ?_ _ | refine blk_drew ?_ | refine blk_alloc ?_ _)); refine blk_put (cs := #[.string ((rd_T41 l0 x7_1).f0), .int .i64 0, .int .i64 0]) ?_ 1 _ rfl; (with_reducible repeat (first | refine blk_drewN ?_ _ | refine blk_drew ?_ | refine blk_alloc ?_ _)); refine blk_put (cs := #[.string (⟨#[]⟩ : ByteArray), .int .i64 0, .int .i64 0]) ?_ 0 _ rfl; (with_reducible repeat (first | refine blk_drewN ?_ _ | refine blk_drew ?_ | refine blk_alloc ?_ _)); exact BK102.out⟩, ⟨by repeat (first | (with_reducible first | exact HB.out | apply below_alloc | apply pw_below_drewN | apply below_drew1 | refine below_set ?_ GE102.out) | exact HB.out)⟩⟩
            case rest =>
              clear HC7
              try clear c1
              try clear p1
              try clear q1
              try clear hx1
              try clear p2
              try clear c4
              try clear c4b0
              try clear c4b1
              try clear c5
              try clear c5b0
              try clear c6
              try clear c6b0
              try clear p10
              try clear q10
              try clear hx10
              try clear c11
              try clear c12
              try clear c12b0
              try clear c14
              try clear c14b0
              try clear c16
              try clear c16b0
              try clear c18
              try clear c18b0
              try clear c18b1
              try clear c19
              try clear c19b0
              try clear hcz13_0
              try clear hcz13_1
              try clear hcz13_2
              try clear hcz15_0
              try clear hcz15_1
              try clear hcz15_2
              try clear hcz17_0
              try clear hcz17_1
              try clear hcz17_2
              try clear hcz20_0
              try clear hcz20_1
              try clear hcz20_2
              try clear hcz21_0
              try clear hcz21_1
              try clear hcz21_2
              try clear hcz22_0
              try clear hcz22_1
              try clear hcz22_2
              try clear hcz23_0
              try clear hcz23_1
              try clear hcz23_2
              try clear hcz9_0
              try clear hcz9_1
              try clear hcz9_2
              try clear hfz13_0
              try clear hfz13_1
              try clear hfz13_2
              try clear hfz15_0
              try clear hfz15_1
              try clear hfz15_2
              try clear hfz17_0
              try clear hfz17_1
              try clear hfz17_2
              try clear hfz20_0
              try clear hfz20_1
              try clear hfz20_2
              try clear hfz21_0
              try clear hfz21_1
              try clear hfz21_2
              try clear hfz22_0
              try clear hfz22_1
              try clear hfz22_2
              try clear hfz23_0
              try clear hfz23_1
              try clear hfz23_2
              try clear hfz9_0
              try clear hfz9_1
              try clear hfz9_2
              try clear hx101_0
              try clear hx101_1
              try clear hx101_2
              try clear p101
              try clear p2
              try clear q101
              obtain ⟨kq, x63_6, rfl, HA, HJ6, BK102, HB⟩ := hcut
              cases kq with
              | zero => exact absurd HA.out (by simp [cotterref06_Syms.j1])
              | succ kj6 =>
                have H := HA.out
                clear HA
                simp only [cotterref06_Syms.j1] at H
                by_cases c24 : x63_6 = true
                · subst c24
                  have H1 : (some false) = some r := by rw [if_pos rfl] at H; exact H
                  clear H
                  have H := H1
                  clear H1
                  obtain rfl := Option.some.inj H
                  go_wp2
                  repeat (go_quiet (fail); try go_wp2)
                  go_ret
                  exact ⟨by first | rfl | (simp [errW_none, errW_some] <;> rfl) | (simp [*, errW_none, errW_some] <;> rfl), by repeat (first | (with_reducible first | exact HB.out | apply below_alloc | apply pw_below_drewN | apply below_drew1 | refine below_set ?_ GE102.out) | exact HB.out)⟩
                · replace c24 := Bool.eq_false_iff.mpr c24
                  subst c24
                  have H1 : (cotterref06_Syms.l1 kj6 l0 a1 a2 x7_1 0 ((rd_T41 l0 x7_1).f0) ((rd_T41 l0 x7_1).f1) ((rd_T41 l0 x7_1).f2)) = some r := by rw [if_neg (show ¬ (false = true) by decide)] at H; exact H
                  clear H
                  have H := H1
                  clear H1
                  have H' := Aside0.mk H
                  clear H
                  go_wp2
                  repeat (go_quiet (fail); try go_wp2)
                  go_loopg [9] kj6 (fun kq v9 w' => ∃ (x9_3 : Int), v9 = .int .i64 x9_3 ∧ Aside0 (cotterref06_Syms.l1 kq l0 a1 a2 x7_1 x9_3 ((rd_T41 l0 x7_1).f0) ((rd_T41 l0 x7_1).f1) ((rd_T41 l0 x7_1).f2) = some r) ∧ Aside0 (kq ≤ kj6) ∧ Aside0 (w'.heap[gb102]? = some (.cells #[.string ((rd_T41 l0 x7_1).f0), .int .i64 ((rd_T41 l0 x7_1).f1), .int .i64 ((rd_T41 l0 x7_1).f2)] 41 (0, 0))) ∧ Aside0 (Below w.heap.size w w'))
                  case atStart => exact ⟨(0), (by first | rfl | (simp; done) | (simp [*]; done)), H', ⟨Nat.le_refl _⟩, ⟨by (with_reducible repeat (first | refine blk_drewN ?_ _ | refine blk_drew ?_ | refine blk_alloc ?_ _)); exact BK102.out⟩, ⟨by repeat (first | (with_reducible first | exact HB.out | apply below_alloc | apply pw_below_drewN | apply below_drew1 | refine below_set ?_ GE102.out) | exact HB.out)⟩⟩
                  case round =>
                    clear H'
                    try clear c1
                    try clear p1
                    try clear q1
                    try clear hx1
                    try clear c2
                    try clear p2
                    try clear c4
                    try clear c4b0
                    try clear c4b1
                    try clear c5
                    try clear c5b0
                    try clear c6
                    try clear c6b0
                    try clear p10
                    try clear q10
                    try clear hx10
                    try clear c11
                    try clear c12
                    try clear c12b0
                    try clear c14
                    try clear c14b0
                    try clear c16
                    try clear c16b0
                    try clear c18
                    try clear c18b0
                    try clear c18b1
                    try clear c19
                    try clear c19b0
                    try clear c24
                    try clear hcz13_0
                    try clear hcz13_1
                    try clear hcz13_2
                    try clear hcz15_0
                    try clear hcz15_1
                    try clear hcz15_2
                    try clear hcz17_0
                    try clear hcz17_1
                    try clear hcz17_2
                    try clear hcz20_0
                    try clear hcz20_1
                    try clear hcz20_2
                    try clear hcz21_0
                    try clear hcz21_1
                    try clear hcz21_2
                    try clear hcz22_0
                    try clear hcz22_1
                    try clear hcz22_2
                    try clear hcz23_0
                    try clear hcz23_1
                    try clear hcz23_2
                    try clear hcz9_0
                    try clear hcz9_1
                    try clear hcz9_2
                    try clear hfz13_0
                    try clear hfz13_1
                    try clear hfz13_2
                    try clear hfz15_0
                    try clear hfz15_1
                    try clear hfz15_2
                    try clear hfz17_0
                    try clear hfz17_1
                    try clear hfz17_2
                    try clear hfz20_0
                    try clear hfz20_1
                    try clear hfz20_2
                    try clear hfz21_0
                    try clear hfz21_1
                    try clear hfz21_2
                    try clear hfz22_0
                    try clear hfz22_1
                    try clear hfz22_2
                    try clear hfz23_0
                    try clear hfz23_1
                    try clear hfz23_2
                    try clear hfz9_0
                    try clear hfz9_1
                    try clear hfz9_2
                    try clear hx101_0
                    try clear hx101_1
                    try clear hx101_2
                    try clear p1
                    try clear p10
                    try clear p101
                    try clear p2
                    try clear q1
                    try clear q10
                    try clear q101
                    obtain ⟨x9_3, rfl, HA, HK3, BK102, HB⟩ := hrel
                    cases gk with
                    | zero => exact absurd HA.out (by simp [cotterref06_Syms.l1])
                    | succ k3 =>
                      have H := HA.out
                      clear HA
                      simp only [cotterref06_Syms.l1] at H
                      by_cases c25 : x9_3 < x7_1
                      · rw [if_pos c25] at H
                        have c25b0 : decide (x9_3 < x7_1) = true := decide_eq_true c25
                        clear c25
                        by_cases c26 : 0 ≤ x9_3
                        · rw [if_pos c26] at H
                          have c26b0 : decide (0 ≤ x9_3) = true := decide_eq_true c26
                          clear c26
                          by_cases c27 : x9_3 < (l0.length : Int)
                          · rw [if_pos c27] at H
                            have c27b0 : decide (x9_3 < (l0.length : Int)) = true := decide_eq_true c27
                            clear c27
                            by_cases c28 : ((rd_T41 l0 x9_3).f0).toList = ((rd_T41 l0 x7_1).f0).toList
                            · rw [if_pos c28] at H
                              have c28b0 : (((rd_T41 l0 x9_3).f0).toList == ((rd_T41 l0 x7_1).f0).toList) = true := beq_iff_eq.mpr c28
                              have c28b1 : (((rd_T41 l0 x9_3).f0).toList != ((rd_T41 l0 x7_1).f0).toList) = false := bne_eq_false_iff_eq.mpr c28
                              clear c28
                              obtain rfl := Option.some.inj H
                              have p104 : 0 ≤ (x9_3 : Int) := of_decide_eq_true (by first | (with_reducible assumption) | assumption)
                              have q104 : x9_3 < (l0.length : Int) := of_decide_eq_true (by first | (with_reducible assumption) | assumption)
                              obtain ⟨ad104, e104, hx104_0, hx104_1, hx104_2⟩ := at_T41 HR0.out x9_3 p104 q104
                              obtain rfl : ad101 = ad104 := (by injection e104)
                              replace hx104_0 := (HB.out.cell (World.block_lt_of_cell? w _ hx104_0)).trans hx104_0
                              replace hx104_1 := (HB.out.cell (World.block_lt_of_cell? w _ hx104_1)).trans hx104_1
                              replace hx104_2 := (HB.out.cell (World.block_lt_of_cell? w _ hx104_2)).trans hx104_2
                              replace p104 := eq_true p104
                              replace q104 := eq_true q104
                              have hcz29_0 : wr.cell? ⟨gb102, 0, none⟩ = some (.string ((rd_T41 l0 x7_1).f0)) := (blk_cell BK102.out 0).trans rfl
                              have hcz29_1 : wr.cell? ⟨gb102, 1, none⟩ = some (.int .i64 ((rd_T41 l0 x7_1).f1)) := (blk_cell BK102.out 1).trans rfl
                              have hcz29_2 : wr.cell? ⟨gb102, 2, none⟩ = some (.int .i64 ((rd_T41 l0 x7_1).f2)) := (blk_cell BK102.out 2).trans rfl
                              have hfz29_0 := blk_frozen BK102.out 0
                              have hfz29_1 := blk_frozen BK102.out 1
                              have hfz29_2 := blk_frozen BK102.out 2
                              go_wp2
                              repeat (go_quiet (fail); try go_wp2)
                              go_ret
                              exact ⟨by first | rfl | (simp [errW_none, errW_some] <;> rfl) | (simp [*, errW_none, errW_some] <;> rfl), by repeat (first | (with_reducible first | exact HB.out | apply below_alloc | apply pw_below_drewN | apply below_drew1 | refine below_set ?_ GE102.out) | exact HB.out)⟩
                            · rw [if_neg c28] at H
                              have c28b0 : (((rd_T41 l0 x9_3).f0).toList == ((rd_T41 l0 x7_1).f0).toList) = false := beq_eq_false_iff_ne.mpr c28
                              have c28b1 : (((rd_T41 l0 x9_3).f0).toList != ((rd_T41 l0 x7_1).f0).toList) = true := bne_iff_ne.mpr c28
                              have H' := Aside0.mk H
                              clear H
                              have p104 : 0 ≤ (x9_3 : Int) := of_decide_eq_true (by first | (with_reducible assumption) | assumption)
                              have q104 : x9_3 < (l0.length : Int) := of_decide_eq_true (by first | (with_reducible assumption) | assumption)
                              obtain ⟨ad104, e104, hx104_0, hx104_1, hx104_2⟩ := at_T41 HR0.out x9_3 p104 q104
                              obtain rfl : ad101 = ad104 := (by injection e104)
                              replace hx104_0 := (HB.out.cell (World.block_lt_of_cell? w _ hx104_0)).trans hx104_0
                              replace hx104_1 := (HB.out.cell (World.block_lt_of_cell? w _ hx104_1)).trans hx104_1
                              replace hx104_2 := (HB.out.cell (World.block_lt_of_cell? w _ hx104_2)).trans hx104_2
                              replace p104 := eq_true p104
                              replace q104 := eq_true q104
                              have hcz30_0 : wr.cell? ⟨gb102, 0, none⟩ = some (.string ((rd_T41 l0 x7_1).f0)) := (blk_cell BK102.out 0).trans rfl
                              have hcz30_1 : wr.cell? ⟨gb102, 1, none⟩ = some (.int .i64 ((rd_T41 l0 x7_1).f1)) := (blk_cell BK102.out 1).trans rfl
                              have hcz30_2 : wr.cell? ⟨gb102, 2, none⟩ = some (.int .i64 ((rd_T41 l0 x7_1).f2)) := (blk_cell BK102.out 2).trans rfl
                              have hfz30_0 := blk_frozen BK102.out 0
                              have hfz30_1 := blk_frozen BK102.out 1
                              have hfz30_2 := blk_frozen BK102.out 2
                              go_wp2
                              repeat (go_quiet (fail); try go_wp2)
                              go_roundg k3
                              case measure => have := HK1.out; have := HJ6.out; have := HK3.out; omega
                              case rel => exact ⟨(wrap64 (x9_3 + 1)), (by first | rfl | (simp; done) | (simp [*]; done)), H', ⟨by have := HK1.out; have := HJ6.out; have := HK3.out; omega⟩, ⟨by (with_reducible repeat (first | refine blk_drewN ?_ _ | refine blk_drew ?_ | refine blk_alloc ?_ _)); exact BK102.out⟩, ⟨by repeat (first | (with_reducible first | exact HB.out | apply below_alloc | apply pw_below_drewN | apply below_drew1 | refine below_set ?_ GE102.out) | exact HB.out)⟩⟩
                          · rw [if_neg c27] at H
                            exact absurd H (by simp)
                        · rw [if_neg c26] at H
                          exact absurd H (by simp)
                      · rw [if_neg c25] at H
                        have c25b0 : decide (x9_3 < x7_1) = false := decide_eq_false c25
                        clear c25
                        have H' := Aside0.mk H
                        clear H
                        go_wp2
                        repeat (go_quiet (fail); try go_wp2)
                        go_roundg k3
                        case measure => have := HK1.out; have := HJ6.out; have := HK3.out; omega
                        case rel => exact ⟨(wrap64 (x7_1 + 1)), (by first | rfl | (simp; done) | (simp [*]; done)), H', ⟨by have := HK1.out; have := HJ6.out; have := HK3.out; omega⟩, ⟨by repeat (first | (with_reducible first | exact HB.out | apply below_alloc | apply pw_below_drewN | apply below_drew1 | refine below_set ?_ GE102.out) | exact HB.out)⟩⟩
          · rw [if_neg c6] at H
            exact absurd H (by simp)
        · rw [if_neg c5] at H
          have c5b0 : decide (x7_1 < (l0.length : Int)) = false := decide_eq_false c5
          clear c5
          obtain rfl := Option.some.inj H
          go_wp2
          repeat (go_quiet (fail); try go_wp2)
          go_ret
          exact ⟨by first | rfl | (simp [errW_none, errW_some] <;> rfl) | (simp [*, errW_none, errW_some] <;> rfl), by repeat (first | (with_reducible first | exact HB.out | apply below_alloc | apply pw_below_drewN | apply below_drew1) | exact HB.out)⟩

end Go.Proofs.Ytilmndkbloodbaa.M

