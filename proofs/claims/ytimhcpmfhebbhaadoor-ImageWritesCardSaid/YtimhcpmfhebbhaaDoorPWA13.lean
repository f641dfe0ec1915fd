/-
  Texts of the proofs of ImageWrites, cut to what the proofs reach and packed by a program of this session (wip/packs.py). Each part begins with what it says; conditions: those told there.
-/
import Derived.Tactics2
import Derived.Defers
import Derived.Test.YtimhcpmfhebbhaaDoorPWA11
import Derived.Test.YtimhcpmfhebbhaaDoorPWA12
namespace Go.Proofs.YtimhcpmfhebbhaaDoor.M
set_option maxRecDepth 100000
open Go.RowKit Go.Proofs.YtimhcpmfhebbhaaDoorW.PrintWords Go.Proofs.YtimhcpmfhebbhaaDoor.Num Go.Proofs.YtimhcpmfhebbhaaDoor.Seven Go.Proofs.YtimhcpmfhebbhaaDoor.Word1 Go.Proofs.YtimhcpmfhebbhaaDoor.Obj
set_option linter.unusedVariables false
set_option linter.unusedSimpArgs false
set_option maxHeartbeats 4000000 in
theorem catch_lacking (o e : Nat) (c0 c1 c2 c3 : Value) (x : Int) (older : List PanicEntry) (W : World) (ho : W.heap[o]? = some (.cells #[c0, c1, c2, c3] 74 (0, 0))) (he : W.heap[e]? = some (.cells #[.int .i64 x] 29 (0, 0))) (hne : o ≠ e) :
 CallsD Tryd.prog 55 #[.pointer (some ⟨o, 0, none⟩), .pointer (some ⟨e, 0, none⟩)] (.panicking ({ v := .iface 105 (.agg #[]), recovered := false } :: older)) W fun e' u' W' =>
  e' = .returned (.tuple #[]) ∧ u' = .panicking ({ v := .iface 105 (.agg #[]), recovered := true } :: older) ∧
  W'.heap[o]? = some (.cells #[.string ⟨#[]⟩, .slice none 0 0, .slice none 0 0, .slice none 0 0] 74 (0, 0)) ∧ W'.heap[e]? = some (.cells #[.int .i64 9] 29 (0, 0)) ∧
  (∀ w : World, Below w.heap.size w W → w.heap.size ≤ o → w.heap.size ≤ e → Below w.heap.size w W') := by
 have co0 : W.cell? ⟨o, 0, none⟩ = some c0 := (blk_cell ho 0).trans rfl
 have co1 : W.cell? ⟨o, 1, none⟩ = some c1 := (blk_cell ho 1).trans rfl
 have co2 : W.cell? ⟨o, 2, none⟩ = some c2 := (blk_cell ho 2).trans rfl
 have co3 : W.cell? ⟨o, 3, none⟩ = some c3 := (blk_cell ho 3).trans rfl
 have ce0 : W.cell? ⟨e, 0, none⟩ = some (.int .i64 x) := (blk_cell he 0).trans rfl
 have fo0 := blk_frozen ho 0
 have fo1 := blk_frozen ho 1
 have fo2 := blk_frozen ho 2
 have fo3 := blk_frozen ho 3
 have fe0 := blk_frozen he 0
 have hlo := blk_lt ho
 have hle := blk_lt he
 have HO := Aside0.mk ho
 have HE := Aside0.mk he
 clear ho he
 refine callsD_of_wpS Tryd.func55 rfl fun c₀ cs hu => ?_
 apply wpS_seq
 apply wpS_region
 simp [wpOpsS, go_sem, recoverD, hu, Tryd.ntmps55, Exit.thenS]
 refine wpS_of_wp ?_
 have ht : ∀ w : World, (Instr.typeAssert (.iface 105 (.agg #[])) 20 105 true).run Tryd.prog w = .ok (.tuple #[.agg #[], .bool true]) w := fun w => by rfl
 go_wp2
 refine ⟨rfl, _, rfl, .tuple #[], by simp [results, Tryd.results31], rfl, rfl, ?_, ?_, ?_⟩
 ·exact blk_alloc (blk_far (blk_put (cs := #[.string ⟨#[]⟩, .slice none 0 0, .slice none 0 0, c3]) (blk_put (cs := #[.string ⟨#[]⟩, .slice none 0 0, c2, c3]) (blk_put (cs := #[.string ⟨#[]⟩, c1, c2, c3]) (blk_put HO.out 0 _ rfl) 1 _ rfl) 2 _ rfl) 3 _ rfl) (by simpa using hne) _) _
 ·exact blk_alloc (blk_put (blk_far (blk_far (blk_far (blk_far HE.out (by simpa using Ne.symm hne) _) (by simpa using Ne.symm hne) _) (by simpa using Ne.symm hne) _) (by simpa using Ne.symm hne) _) 0 _ rfl) _
 ·intro w hb h1 h2
  exact below_alloc (below_set (below_set (below_set (below_set (below_set hb h1) h1) h1) h1) h2) _
set_option maxHeartbeats 4000000 in
theorem catch_idle (o e : Nat) (W : World) :
 CallsD Tryd.prog 55 #[.pointer (some ⟨o, 0, none⟩), .pointer (some ⟨e, 0, none⟩)] .returning W fun e' u' W' => e' = .returned (.tuple #[]) ∧ u' = .returning ∧ W' = W := by
 refine callsD_of_wpS Tryd.func55 rfl fun c₀ cs hu => ?_
 apply wpS_seq
 apply wpS_region
 simp [wpOpsS, go_sem, recoverD, hu, Tryd.ntmps55, Exit.thenS]
 refine wpS_of_wp ?_
 go_wp2
 cases c₀
 simp_all [bodyPostS, results, Tryd.results31]
theorem results16 (tmps : Array Value) (W : World) (o e : Nat) (c0 c1 c2 c3 : Value) (x : Int) (h2 : tmps.getD 2 undef = .pointer (some ⟨o, 0, none⟩)) (h3 : tmps.getD 3 undef = .pointer (some ⟨e, 0, none⟩)) (ho : W.heap[o]? = some (.cells #[c0, c1, c2, c3] 74 (0, 0))) (he : W.heap[e]? = some (.cells #[.int .i64 x] 29 (0, 0))) :
 (results Tryd.f36 tmps).run Tryd.prog W = .ok (.tuple #[.agg #[c0, c1, c2, c3], .int .i64 x]) W := by
 have h2' : tmps[2]?.getD undef = .pointer (some ⟨o, 0, none⟩) := by simpa using h2
 have h3' : tmps[3]?.getD undef = .pointer (some ⟨e, 0, none⟩) := by simpa using h3
 have ce : W.cell? ⟨e, 0, none⟩ = some (.int .i64 x) := (blk_cell he 0).trans rfl
 have co0 : W.cell? ⟨o, 0, none⟩ = some c0 := (blk_cell ho 0).trans rfl
 have co1 : W.cell? ⟨o, 1, none⟩ = some c1 := (blk_cell ho 1).trans rfl
 have co2 : W.cell? ⟨o, 2, none⟩ = some c2 := (blk_cell ho 2).trans rfl
 have co3 : W.cell? ⟨o, 3, none⟩ = some c3 := (blk_cell ho 3).trans rfl
 simp [results, Tryd.results16, h2', h3', asAddr, go_sem, ce, co0, co1, co2, co3]
theorem leaves_same {P : Program} {fn : Func} {t1 t2 : Array Value} (R : Ending → World → Prop) (h : results fn t1 = results fn t2) : ∀ (ds : List Deferred) (m : FrameMode) (w : World), Leaves P fn t1 R ds m w = Leaves P fn t2 R ds m w := by
 intro ds
 induction ds with
 | nil => intro m w; cases m <;> simp [Leaves, h]
 | cons d ds ih => intro m w; simp only [Leaves, ih]
theorem put_panic {R : Ending → World → Prop} {c : List PanicEntry} {a : Act} {w : World} {d : Option Tmp} {v : Value} (hd : d ≠ some 2 ∧ d ≠ some 3) (h : bodyPostD Tryd.prog Tryd.f36 R (.panic c) (a.put d v) w) : bodyPostD Tryd.prog Tryd.f36 R (.panic c) a w := by
 cases d with
 | none => exact h
 | some n =>
  have h2 : n ≠ 2 := fun e => hd.1 (by rw [e])
  have h3 : n ≠ 3 := fun e => hd.2 (by rw [e])
  have e : results Tryd.f36 (a.put (some n) v).tmps = results Tryd.f36 a.tmps := by
   have g2 : (a.put (some n) v).tmps[2]?.getD undef = a.tmps[2]?.getD undef := by simp [Act.put, Array.getElem?_setIfInBounds, h2]
   have g3 : (a.put (some n) v).tmps[3]?.getD undef = a.tmps[3]?.getD undef := by simp [Act.put, Array.getElem?_setIfInBounds, h3]
   simp [results, Tryd.results16, g2, g3]
  have hh : Leaves Tryd.prog Tryd.f36 (a.put (some n) v).tmps R (a.put (some n) v).defers (.panicking c) w := h
  rw [leaves_same R e] at hh
  exact hh
def Post16 (s : ByteArray) (w : World) (e : Ending) (w' : World) : Prop := ∃ v1_ v2_ v3_ : Value, e = .returned (.tuple #[.agg #[.string (readF s).1, v1_, v2_, v3_], .int .i64 (readF s).2.2.2.2]) ∧ Kd.R (Kd.int .i64) 2 w' w.heap.size (fun _ => True) v1_ (readF s).2.1 ∧ Kd.R k68 68 w' w.heap.size (fun _ => True) v2_ (readF s).2.2.1 ∧ Kd.R k116 116 w' w.heap.size (fun _ => True) v3_ (readF s).2.2.2.1 ∧ Below w.heap.size w w'
/-- Where something lacks: the closure lays the empty object and its number. -/
theorem bad_end {s : ByteArray} {w W : World} {fv : Fn} {cap dargs : Array Value} {c0 c1 c2 c3 : Value} {x : Int} {o e : Nat} (a : Act) (hb : Below w.heap.size w W) (ho : W.heap[o]? = some (.cells #[c0, c1, c2, c3] 74 (0, 0))) (he : W.heap[e]? = some (.cells #[.int .i64 x] 29 (0, 0))) (h1 : w.heap.size ≤ o) (h2 : w.heap.size ≤ e) (hne : o ≠ e)
 (t2 : a.tmps.getD 2 undef = .pointer (some ⟨o, 0, none⟩)) (t3 : a.tmps.getD 3 undef = .pointer (some ⟨e, 0, none⟩)) (hd : a.defers = [{ target := .fn fv cap, args := dargs }]) (hi : (invoke (.fn fv cap) dargs).run Tryd.prog W = .ok (.enter 55 #[.pointer (some ⟨o, 0, none⟩), .pointer (some ⟨e, 0, none⟩)]) W)
 (hr : readF s = (⟨#[]⟩, [], [], [], 9)) : bodyPostD Tryd.prog Tryd.f36 (Post16 s w) (.panic [{ v := .iface 105 (.agg #[]), recovered := false }]) a W := by
 show Leaves _ _ _ _ a.defers _ _
 rw [hd]
 refine leaves_cons (f := 55) (args := #[.pointer (some ⟨o, 0, none⟩), .pointer (some ⟨e, 0, none⟩)]) (by simp) hi ?_
 refine (catch_lacking o e c0 c1 c2 c3 x [] W ho he hne).mono ?_
 rintro e' u' W' ⟨rfl, rfl, ho', he', hb'⟩
 have hres := results16 a.tmps W' o e _ _ _ _ 9 t2 t3 ho' he'
 show Leaves _ _ _ _ [] (settle _) W'
 refine ⟨_, hres, ?_⟩
 exact ⟨_, _, _, by rw [hr], by rw [hr]; exact Kd.R_nil _ _ _ _ _, by rw [hr]; exact Kd.R_nil _ _ _ _ _, by rw [hr]; exact Kd.R_nil _ _ _ _ _, hb' w hb h1 h2⟩
/-- A return. -/
theorem good_end {s : ByteArray} {w W : World} {fv : Fn} {cap dargs : Array Value} {c1 c2 c3 : Value} {o e : Nat} (a : Act) (ho : W.heap[o]? = some (.cells #[.string (readF s).1, c1, c2, c3] 74 (0, 0))) (he : W.heap[e]? = some (.cells #[.int .i64 (readF s).2.2.2.2] 29 (0, 0)))
 (t2 : a.tmps.getD 2 undef = .pointer (some ⟨o, 0, none⟩)) (t3 : a.tmps.getD 3 undef = .pointer (some ⟨e, 0, none⟩)) (hd : a.defers = [{ target := .fn fv cap, args := dargs }]) (hi : (invoke (.fn fv cap) dargs).run Tryd.prog W = .ok (.enter 55 #[.pointer (some ⟨o, 0, none⟩), .pointer (some ⟨e, 0, none⟩)]) W)
 (r1 : Kd.R (Kd.int .i64) 2 W w.heap.size (fun _ => True) c1 (readF s).2.1) (r2 : Kd.R k68 68 W w.heap.size (fun _ => True) c2 (readF s).2.2.1) (r3 : Kd.R k116 116 W w.heap.size (fun _ => True) c3 (readF s).2.2.2.1) (hb : Below w.heap.size w W) : bodyPostD Tryd.prog Tryd.f36 (Post16 s w) .ret a W := by
 show Leaves _ _ _ _ a.defers _ _
 rw [hd]
 refine leaves_cons (f := 55) (args := #[.pointer (some ⟨o, 0, none⟩), .pointer (some ⟨e, 0, none⟩)]) (by simp) hi ?_
 refine (catch_idle o e W).mono ?_
 rintro e' u' W' ⟨rfl, rfl, rfl⟩
 exact ⟨_, results16 a.tmps W' o e _ _ _ _ _ t2 t3 ho he, _, _, _, rfl, r1, r2, r3, hb⟩
end Go.Proofs.YtimhcpmfhebbhaaDoor.M
namespace Go.Proofs.YtimhcpmfhebbhaaDoor.M
set_option maxRecDepth 100000
open Go.RowKit
theorem info116 : (Tryd.prog.info? 116).map (fun i => (i.zero, i.size, i.bytes)) = some (some (.agg #[.int .i64 0, .int .i64 0, .string ⟨#[]⟩, .int .i64 0]), 4, 40) := by kernel_rfl
end Go.Proofs.YtimhcpmfhebbhaaDoor.M
namespace Go.Proofs.YtimhcpmfhebbhaaDoor.M
set_option maxRecDepth 100000
open Go.RowKit Go.Proofs.YtimhcpmfhebbhaaDoorW.PrintWords Go.Proofs.YtimhcpmfhebbhaaDoorW.PrintLast Go.Proofs.YtimhcpmfhebbhaaDoor.Num Go.Proofs.YtimhcpmfhebbhaaDoor.Seven Go.Proofs.YtimhcpmfhebbhaaDoor.Word1 Go.Proofs.YtimhcpmfhebbhaaDoor.Obj
set_option linter.unusedVariables false
set_option linter.unusedSimpArgs false
def rd3 (s code : ByteArray) (data : List Int) (syms : List S68) (r : List S116 × Nat) : Option (ByteArray × List Int × List S68 × List S116) := if r.2 = s.size ∧ may code data syms r.1 = true then some (code, data, syms, r.1) else none
def rd2 (s code : ByteArray) (data : List Int) (y : List S68 × Nat) : Option (ByteArray × List Int × List S68 × List S116) := (listA s 8000 (relA s) y.2).bind (rd3 s code data y.1)
def rd1 (s code : ByteArray) (d : List Int × Nat) : Option (ByteArray × List Int × List S68 × List S116) := (listA s 1000 (symA s) d.2).bind (rd2 s code d.1)
def rd0 (s : ByteArray) (c : ByteArray × Nat) : Option (ByteArray × List Int × List S68 × List S116) := (listA s 4096 (wideA s) c.2).bind (rd1 s c.1)
theorem readA_eq (s : ByteArray) : readA s = (bytesA s 4 0).bind fun m => if m.1 = COT1s then (textA s 65536 m.2).bind (rd0 s) else none := by
 unfold readA frontA
 cases bytesA s 4 0 with
 | none => rfl
 | some m =>
  simp only [Option.bind_some]
  by_cases hm : m.1 = COT1s
  ·rw [if_pos hm, if_pos hm]
   unfold rd0 rd1 rd2 rd3
   simp only [Option.bind_assoc, Option.bind_some]
  ·rw [if_neg hm, if_neg hm]
   rfl
theorem readF_none {s : ByteArray} (h : readA s = none) : readF s = (⟨#[]⟩, [], [], [], 9) := by unfold readF; rw [h]
theorem readF_some {s : ByteArray} {x : ByteArray × List Int × List S68 × List S116} (h : readA s = some x) : readF s = (x.1, x.2.1, x.2.2.1, x.2.2.2, 0) := by unfold readF; rw [h]
theorem textA_ok {s : ByteArray} {most : Int} {p : Nat} {x : ByteArray} {q : Nat} (h : textA s most p = some (x, q)) : q ≤ s.size := by
 unfold textA at h
 obtain ⟨a, _, h⟩ := Option.bind_eq_some_iff.1 h
 exact (bytesA_ok h).2.1
/-- A step of the reader beside what is held, well or ill. -/
theorem Held.step {w W W' : World} {B h x g : Nat} {cs xs : Array Value} {xt : TypeId} {v1 v2 v3 : Value} {d : List Int} {y : List S68} {r : List S116} {s : ByteArray} {p : Nat} (H : Held w W B h x cs xs xt v1 d v2 y v3 r) (hI : St66 W g s p) (hh : h ≠ g) (hx : x ≠ g) (hb : Below w.heap.size w W') (hk : KeepBut W W' g none) : Held w W' B h x cs xs xt v1 d v2 y v3 r := H.keep hk hb hh hx hI (by decide)
/-- Where something lacks, beside what is held. -/
theorem bad_held {s : ByteArray} {w W W' : World} {B : Nat} {c0 c1 c2 c3 v1 v2 v3 : Value} {d : List Int} {y : List S68} {r : List S116} {x : Int} {p : Nat} (a : Act) (H : Held w W B w.heap.size (w.heap.size + 1) #[c0, c1, c2, c3] #[.int .i64 x] 29 v1 d v2 y v3 r) (hI : St66 W (w.heap.size + 1 + 1) s p) (hb : Below w.heap.size w W') (hk : KeepBut W W' (w.heap.size + 1 + 1) none)
 (t2 : a.tmps.getD 2 undef = .pointer (some ⟨w.heap.size, 0, none⟩)) (t3 : a.tmps.getD 3 undef = .pointer (some ⟨w.heap.size + 1, 0, none⟩)) (hd : a.defers = [{ target := .fn (.func 55) #[.pointer (some ⟨w.heap.size, 0, none⟩), .pointer (some ⟨w.heap.size + 1, 0, none⟩)], args := #[] }])
 (hr : readF s = (⟨#[]⟩, [], [], [], 9)) : bodyPostD Tryd.prog Tryd.f36 (Post16 s w) (.panic [{ v := .iface 105 (.agg #[]), recovered := false }]) a W' := by
 have H' := H.step hI (by omega) (by omega) hb hk
 exact bad_end a hb H'.obj H'.more (Nat.le_refl _) (Nat.le_succ _) (by omega) t2 t3 hd (by simp [go_sem]) hr
theorem zero_end {s : ByteArray} {w W : World} {B : Nat} {c0 c1 c2 c3 v1 v2 v3 : Value} {d : List Int} {y : List S68} {r : List S116} {x : Int} (a : Act) (H : Held w W B w.heap.size (w.heap.size + 1) #[c0, c1, c2, c3] #[.int .i64 x] 29 v1 d v2 y v3 r)
 (t2 : a.tmps.getD 2 undef = .pointer (some ⟨w.heap.size, 0, none⟩)) (t3 : a.tmps.getD 3 undef = .pointer (some ⟨w.heap.size + 1, 0, none⟩)) (hd : a.defers = [{ target := .fn (.func 55) #[.pointer (some ⟨w.heap.size, 0, none⟩), .pointer (some ⟨w.heap.size + 1, 0, none⟩)], args := #[] }])
 (hr : readF s = (⟨#[]⟩, [], [], [], 9)) : bodyPostD Tryd.prog Tryd.f36 (Post16 s w) .ret a (((((W.setCell ⟨w.heap.size, 0, none⟩ (.string ⟨#[]⟩)).setCell ⟨w.heap.size, 1, none⟩ (.slice none 0 0)).setCell ⟨w.heap.size, 2, none⟩ (.slice none 0 0)).setCell ⟨w.heap.size, 3, none⟩ (.slice none 0 0)).setCell ⟨w.heap.size + 1, 0, none⟩ (.int .i64 9)) := by
 have H5 := ((((H.put 0 (.string ⟨#[]⟩) rfl).put 1 (.slice none 0 0) rfl).put 2 (.slice none 0 0) rfl).put 3 (.slice none 0 0) rfl).putX 0 (.int .i64 9) rfl
 exact good_end a (by rw [hr]; exact H5.obj) (by rw [hr]; exact H5.more) t2 t3 hd (by simp [go_sem]) (by rw [hr]; exact Kd.R_nil _ _ _ _ _) (by rw [hr]; exact Kd.R_nil _ _ _ _ _) (by rw [hr]; exact Kd.R_nil _ _ _ _ _) H5.below
theorem ok_end {s : ByteArray} {w W : World} {B : Nat} {code : ByteArray} {v1 v2 v3 : Value} {d : List Int} {y : List S68} {r : List S116} {x : Int} (a : Act) (H : Held w W B w.heap.size (w.heap.size + 1) #[.string code, v1, v2, v3] #[.int .i64 x] 29 v1 d v2 y v3 r)
 (t2 : a.tmps.getD 2 undef = .pointer (some ⟨w.heap.size, 0, none⟩)) (t3 : a.tmps.getD 3 undef = .pointer (some ⟨w.heap.size + 1, 0, none⟩)) (hd : a.defers = [{ target := .fn (.func 55) #[.pointer (some ⟨w.heap.size, 0, none⟩), .pointer (some ⟨w.heap.size + 1, 0, none⟩)], args := #[] }])
 (hr : readF s = (code, d, y, r, 0)) : bodyPostD Tryd.prog Tryd.f36 (Post16 s w) .ret a (((((W.setCell ⟨w.heap.size, 0, none⟩ (.string code)).setCell ⟨w.heap.size, 1, none⟩ v1).setCell ⟨w.heap.size, 2, none⟩ v2).setCell ⟨w.heap.size, 3, none⟩ v3).setCell ⟨w.heap.size + 1, 0, none⟩ (.int .i64 0)) := by
 have H5 := ((((H.put 0 (.string code) rfl).put 1 v1 rfl).put 2 v2 rfl).put 3 v3 rfl).putX 0 (.int .i64 0) rfl
 exact good_end a (by rw [hr]; exact H5.obj) (by rw [hr]; exact H5.more) t2 t3 hd (by simp [go_sem]) (by rw [hr]; exact R_all H5.r1) (by rw [hr]; exact R_all H5.r2) (by rw [hr]; exact R_all H5.r3) H5.below
set_option maxHeartbeats 16000000 in
set_option maxRecDepth 100000 in
theorem objf_Read.calls_ (s : ByteArray) (hs : s.size ≤ 281474976710656) (w : World) : Calls Tryd.prog 36 #[.string s] w (Post16 s w) := by
 have hmf : ∀ (fn : Fn) (first cap : Array Value) (w : World), (Instr.makeFunc fn first cap).run Tryd.prog w = .ok (.func fn first cap) w := fun _ _ _ _ => rfl
 have RA := z4 (readA_eq s)
 have HS := z4 hs
 clear hs
 have eA : ∀ o, (w.alloc o).heap.size = w.heap.size + 1 := fun o => by simp
 have eB : ∀ o o', ((w.alloc o).alloc o').heap.size = w.heap.size + 1 + 1 := fun o o' => by simp
 obtain ⟨X, hX⟩ : ∃ X, ((w.alloc (.cells #[.string ⟨#[]⟩, .slice none 0 0, .slice none 0 0, .slice none 0 0] 74)).alloc (.cells #[.int .i64 0] 29)).alloc (.cells #[.string s, .int .i64 0] 111) = X := ⟨_, rfl⟩
 have B0 : X.heap[w.heap.size]? = some (.cells #[.string ⟨#[]⟩, .slice none 0 0, .slice none 0 0, .slice none 0 0] 74) := hX ▸ zG (zG (blk_new w (.cells #[.string ⟨#[]⟩, .slice none 0 0, .slice none 0 0, .slice none 0 0] 74)) (.cells #[.int .i64 0] 29)) (.cells #[.string s, .int .i64 0] 111)
 have E0 : X.heap[w.heap.size + 1]? = some (.cells #[.int .i64 0] 29) := hX ▸ eA (.cells #[.string ⟨#[]⟩, .slice none 0 0, .slice none 0 0, .slice none 0 0] 74) ▸ zG (blk_new (w.alloc (.cells #[.string ⟨#[]⟩, .slice none 0 0, .slice none 0 0, .slice none 0 0] 74)) (.cells #[.int .i64 0] 29)) (.cells #[.string s, .int .i64 0] 111)
 have G0 : St66 X (w.heap.size + 1 + 1) s 0 := hX ▸ eB (.cells #[.string ⟨#[]⟩, .slice none 0 0, .slice none 0 0, .slice none 0 0] 74) (.cells #[.int .i64 0] 29) ▸ blk_new ((w.alloc (.cells #[.string ⟨#[]⟩, .slice none 0 0, .slice none 0 0, .slice none 0 0] 74)).alloc (.cells #[.int .i64 0] 29)) (.cells #[.string s, .int .i64 0] 111)
 have BX : Below w.heap.size w X := hX ▸ zA (zA (zA (Below.refl _ _) _) _) _
 have hG0 := blk_lt G0
 have HH0 := z4 (show Held w X X.heap.size w.heap.size (w.heap.size + 1) #[.string ⟨#[]⟩, .slice none 0 0, .slice none 0 0, .slice none 0 0] #[.int .i64 0] 29 (.slice none 0 0) [] (.slice none 0 0) [] (.slice none 0 0) [] from ⟨BX, B0, E0, Kd.R_nil _ _ _ _ _, Kd.R_nil _ _ _ _ _, Kd.R_nil _ _ _ _ _, Nat.le_refl _, by omega, by decide⟩)
 have T0 := z4 (take_c w X (w.heap.size + 1 + 1) s 0 4 HS.out G0 (by omega) BX (Nat.zero_le _) (by omega) (by omega))
 rw [show (4 : Int).toNat = 4 from rfl] at T0
 have HI0 := z4 G0
 rw [← hX] at HH0 T0 HI0
 clear eA eB B0 E0 G0 BX hG0 hX
 cases e0 : bytesA s 4 0 with
 | none =>
  rw [e0] at T0
  have RN := z4 (readF_none (s := s) (by rw [RA.out, e0]; rfl))
  go_enter_defers Tryd.func36, Tryd.ntmps36
  go_wp2_with (first | (go_at_call 56; refine T0.out.mono ?_; rintro e w4 ⟨rfl, hb, hk⟩; exact bad_held _ HH0.out HI0.out hb hk rfl rfl rfl RN.out))
 | some m0 =>
  obtain ⟨mk, p0⟩ := m0
  rw [e0] at T0
  have hq0 := (bytesA_ok e0).2.1
  by_cases hmk : mk = COT1s
  case neg =>
   have RN := z4 (readF_none (s := s) (by rw [RA.out, e0]; simp [hmk]))
   have hml : (mk.toList == [67, 79, 84, 49]) = false := z7 (fun h => hmk (toList_inj (h.trans (by rw [ByteArray.toList_eq]))))
   go_enter_defers Tryd.func36, Tryd.ntmps36
   go_wp2_with (first | (go_at_call 56; refine T0.out.mono ?_; rintro e w4 ⟨⟨rfl, hi⟩, hb, hk⟩; have HH4 := z4 (HH0.out.step HI0.out (by omega) (by omega) hb hk); have cz0 : w4.cell? ⟨w.heap.size, 0, none⟩ = some (.string ⟨#[]⟩) := (zC HH4.out.obj 0).trans rfl; have fcz0 := zF HH4.out.obj 0; have cz1 : w4.cell? ⟨w.heap.size, 1, none⟩ = some (.slice none 0 0) := (zC HH4.out.obj 1).trans rfl; have fcz1 := zF HH4.out.obj 1; have cz2 : w4.cell? ⟨w.heap.size, 2, none⟩ = some (.slice none 0 0) := (zC HH4.out.obj 2).trans rfl; have fcz2 := zF HH4.out.obj 2; have cz3 : w4.cell? ⟨w.heap.size, 3, none⟩ = some (.slice none 0 0) := (zC HH4.out.obj 3).trans rfl; have fcz3 := zF HH4.out.obj 3; have czx : w4.cell? ⟨w.heap.size + 1, 0, none⟩ = some (.int .i64 0) := (zC HH4.out.more 0).trans rfl; have fczx := zF HH4.out.more 0))
   exact zero_end _ HH4.out rfl rfl rfl RN.out
  case pos =>
   subst hmk
   have RB := z4 (show readA s = (textA s 65536 p0).bind (rd0 s) by rw [RA.out, e0]; simp)
   clear e0 RA
   go_enter_defers Tryd.func36, Tryd.ntmps36
   go_wp2_with (first | (go_at_call 56; refine T0.out.mono ?_; rintro e w4 ⟨⟨rfl, hi⟩, hb, hk⟩; have HH4 := z4 (HH0.out.step HI0.out (by omega) (by omega) hb hk); have HI4 := z4 hi; clear hi hb hk))
   have N1 := z4 (fun (W : World) hI hB => number_c w W (w.heap.size + 1 + 1) s p0 65536 HS.out hI (by omega) hB hq0 (by omega) (by omega))
   cases e1 : numA s 65536 p0 with
   | none =>
    have RN := z4 (readF_none (s := s) (by rw [RB.out]; unfold textA; rw [e1]; rfl))
    rw [e1] at N1
    refine start_ (n := 8) (S := fun w' => True) (ds := []) #[false, false, false, false, false, false, false, false] (by kernel_rfl) rfl rfl trivial (fun hHeld => ?_)
    refine pure_ (i := 0) (N := some 21) (v := ?_) (a' := ?_) #[true, false, false, false, false, false, false, false] rfl rfl (by kernel_rfl) (fun _ _ _ h => put_panic (by decide) h) (Or.inl ⟨by rfl, ?_⟩) ?_ ?_
    rotate_left
    ·intro w'
     go_simp
     with_reducible rfl
    rotate_left
    ·simp only [Act.put, z1, z2, z3, i64_w, i32_w]
     rfl
    refine pure_ (i := 1) (N := some 22) (v := ?_) (a' := ?_) #[true, true, false, false, false, false, false, false] rfl rfl (by kernel_rfl) (fun _ _ _ h => put_panic (by decide) h) (Or.inl ⟨by rfl, ?_⟩) ?_ ?_
    rotate_left
    ·intro w'
     go_simp
     with_reducible rfl
    rotate_left
    ·simp only [Act.put, z1, z2, z3, i64_w, i32_w]
     rfl
    refine pure_ (i := 2) (N := some 23) (v := ?_) (a' := ?_) #[true, true, true, false, false, false, false, false] rfl rfl (by kernel_rfl) (fun _ _ _ h => put_panic (by decide) h) (Or.inl ⟨by rfl, ?_⟩) ?_ ?_
    rotate_left
    ·intro w'
     go_simp
     with_reducible rfl
    rotate_left
    ·simp only [Act.put, z1, z2, z3, i64_w, i32_w]
     rfl
    refine pure_ (i := 3) (N := some 24) (v := ?_) (a' := ?_) #[true, true, true, true, false, false, false, false] rfl rfl (by kernel_rfl) (fun _ _ _ h => put_panic (by decide) h) (Or.inl ⟨by rfl, ?_⟩) ?_ ?_
    rotate_left
    ·intro w'
     go_simp
     with_reducible rfl
    rotate_left
    ·simp only [Act.put, z1, z2, z3, i64_w, i32_w]
     rfl
    refine one_ (i := 4) (N := some 25) #[true, true, true, true, true, false, false, false] rfl rfl (by kernel_rfl) (by decide) (fun K hK => ?_)
    refine goesP_ Tryd.func57 (by kernel_rfl) rfl #[.pointer (some ⟨w.heap.size + 1 + 1, 0, none⟩), .int .i64 65536] (by rfl) rfl rfl (by (try simp only [z9, List.map_cons, List.map_nil]); rfl) ?_
    refine (N1.out w4.drew (zI HI4.out) (below_drew HH4.out.below)).mono ?_
    rintro e w5 ⟨rfl, hb, hk⟩
    exact .inr ⟨_, rfl, bad_held _ (HH4.out.next (zD (Below.refl _ _))) (zI HI4.out) hb hk rfl rfl rfl RN.out⟩
   | some a1 =>
    obtain ⟨n1, p1⟩ := a1
    have hn1 := numA_ok e1 hq0
    rw [e1] at N1
    have T1 := z4 (fun (W : World) hI hB => take_c w W (w.heap.size + 1 + 1) s p1 n1 HS.out hI (by omega) hB hn1.2.1 hn1.2.2.1 (by have := hn1.2.2.2.1; omega))
    cases e2 : bytesA s n1.toNat p1 with
    | none =>
     have RN := z4 (readF_none (s := s) (by rw [RB.out]; unfold textA; rw [e1, Option.bind_some, e2]; rfl))
     rw [e2] at T1
     refine start_ (n := 8) (S := fun w' => True) (ds := []) #[false, false, false, false, false, false, false, false] (by kernel_rfl) rfl rfl trivial (fun hHeld => ?_)
     refine pure_ (i := 0) (N := some 21) (v := ?_) (a' := ?_) #[true, false, false, false, false, false, false, false] rfl rfl (by kernel_rfl) (fun _ _ _ h => put_panic (by decide) h) (Or.inl ⟨by rfl, ?_⟩) ?_ ?_
     rotate_left
     ·intro w'
      go_simp
      with_reducible rfl
     rotate_left
     ·simp only [Act.put, z1, z2, z3, i64_w, i32_w]
      rfl
     refine pure_ (i := 1) (N := some 22) (v := ?_) (a' := ?_) #[true, true, false, false, false, false, false, false] rfl rfl (by kernel_rfl) (fun _ _ _ h => put_panic (by decide) h) (Or.inl ⟨by rfl, ?_⟩) ?_ ?_
     rotate_left
     ·intro w'
      go_simp
      with_reducible rfl
     rotate_left
     ·simp only [Act.put, z1, z2, z3, i64_w, i32_w]
      rfl
     refine pure_ (i := 2) (N := some 23) (v := ?_) (a' := ?_) #[true, true, true, false, false, false, false, false] rfl rfl (by kernel_rfl) (fun _ _ _ h => put_panic (by decide) h) (Or.inl ⟨by rfl, ?_⟩) ?_ ?_
     rotate_left
     ·intro w'
      go_simp
      with_reducible rfl
     rotate_left
     ·simp only [Act.put, z1, z2, z3, i64_w, i32_w]
      rfl
     refine pure_ (i := 3) (N := some 24) (v := ?_) (a' := ?_) #[true, true, true, true, false, false, false, false] rfl rfl (by kernel_rfl) (fun _ _ _ h => put_panic (by decide) h) (Or.inl ⟨by rfl, ?_⟩) ?_ ?_
     rotate_left
     ·intro w'
      go_simp
      with_reducible rfl
     rotate_left
     ·simp only [Act.put, z1, z2, z3, i64_w, i32_w]
      rfl
     refine one_ (i := 4) (N := some 25) #[true, true, true, true, true, false, false, false] rfl rfl (by kernel_rfl) (by decide) (fun K hK => ?_)
     refine goesP_ Tryd.func57 (by kernel_rfl) rfl #[.pointer (some ⟨w.heap.size + 1 + 1, 0, none⟩), .int .i64 65536] (by rfl) rfl rfl (by (try simp only [z9, List.map_cons, List.map_nil]); rfl) ?_
     refine (N1.out w4.drew (zI HI4.out) (below_drew HH4.out.below)).mono ?_
     rintro e w5 ⟨⟨rfl, hi⟩, hb, hk⟩
     refine .inl ⟨_, rfl, ?_⟩
     have HH5 := z4 ((HH4.out.next (zD (Below.refl _ _))).step (zI HI4.out) (by omega) (by omega) hb hk)
     have HI5 := z4 hi
     clear hi hb hk
     refine hK.out _ _ trivial (fun hHeld => ?_)
     clear hK K
     refine norm_ (a' := ?_) ?_ ?_
     rotate_left
     ·show Act.put _ (some 25) _ = _
      simp only [Act.put, z1, z2, z3, i64_w, i32_w]
      rfl
     refine one_ (i := 5) (N := some 26) #[true, true, true, true, true, true, false, false] rfl rfl (by kernel_rfl) (by decide) (fun K hK => ?_)
     refine goesP_ Tryd.func56 (by kernel_rfl) rfl #[.pointer (some ⟨w.heap.size + 1 + 1, 0, none⟩), .int .i64 n1] (by rfl) rfl rfl (by (try simp only [z9, List.map_cons, List.map_nil]); rfl) ?_
     refine (T1.out w5 HI5.out HH5.out.below).mono ?_
     rintro e w6 ⟨rfl, hb, hk⟩
     exact .inr ⟨_, rfl, bad_held _ (HH5.out) (HI5.out) hb hk rfl rfl rfl RN.out⟩
    | some a2 =>
     obtain ⟨code, p2⟩ := a2
     have hq2 := (bytesA_ok e2).2.1
     rw [e2] at T1
     have RC := z4 (show readA s = rd0 s (code, p2) by rw [RB.out]; unfold textA; rw [e1, Option.bind_some, e2]; rfl)
     refine start_ (n := 8) (S := fun w' => True) (ds := []) #[false, false, false, false, false, false, false, false] (by kernel_rfl) rfl rfl trivial (fun hHeld => ?_)
     refine pure_ (i := 0) (N := some 21) (v := ?_) (a' := ?_) #[true, false, false, false, false, false, false, false] rfl rfl (by kernel_rfl) (fun _ _ _ h => put_panic (by decide) h) (Or.inl ⟨by rfl, ?_⟩) ?_ ?_
     rotate_left
     ·intro w'
      go_simp
      with_reducible rfl
     rotate_left
     ·simp only [Act.put, z1, z2, z3, i64_w, i32_w]
      rfl
     refine pure_ (i := 1) (N := some 22) (v := ?_) (a' := ?_) #[true, true, false, false, false, false, false, false] rfl rfl (by kernel_rfl) (fun _ _ _ h => put_panic (by decide) h) (Or.inl ⟨by rfl, ?_⟩) ?_ ?_
     rotate_left
     ·intro w'
      go_simp
      with_reducible rfl
     rotate_left
     ·simp only [Act.put, z1, z2, z3, i64_w, i32_w]
      rfl
     refine pure_ (i := 2) (N := some 23) (v := ?_) (a' := ?_) #[true, true, true, false, false, false, false, false] rfl rfl (by kernel_rfl) (fun _ _ _ h => put_panic (by decide) h) (Or.inl ⟨by rfl, ?_⟩) ?_ ?_
     rotate_left
     ·intro w'
      go_simp
      with_reducible rfl
     rotate_left
     ·simp only [Act.put, z1, z2, z3, i64_w, i32_w]
      rfl
     refine pure_ (i := 3) (N := some 24) (v := ?_) (a' := ?_) #[true, true, true, true, false, false, false, false] rfl rfl (by kernel_rfl) (fun _ _ _ h => put_panic (by decide) h) (Or.inl ⟨by rfl, ?_⟩) ?_ ?_
     rotate_left
     ·intro w'
      go_simp
      with_reducible rfl
     rotate_left
     ·simp only [Act.put, z1, z2, z3, i64_w, i32_w]
      rfl
     refine one_ (i := 4) (N := some 25) #[true, true, true, true, true, false, false, false] rfl rfl (by kernel_rfl) (by decide) (fun K hK => ?_)
     refine goesP_ Tryd.func57 (by kernel_rfl) rfl #[.pointer (some ⟨w.heap.size + 1 + 1, 0, none⟩), .int .i64 65536] (by rfl) rfl rfl (by (try simp only [z9, List.map_cons, List.map_nil]); rfl) ?_
     refine (N1.out w4.drew (zI HI4.out) (below_drew HH4.out.below)).mono ?_
     rintro e w5 ⟨⟨rfl, hi⟩, hb, hk⟩
     refine .inl ⟨_, rfl, ?_⟩
     have HH5 := z4 ((HH4.out.next (zD (Below.refl _ _))).step (zI HI4.out) (by omega) (by omega) hb hk)
     have HI5 := z4 hi
     clear hi hb hk
     refine hK.out _ _ trivial (fun hHeld => ?_)
     clear hK K
     refine norm_ (a' := ?_) ?_ ?_
     rotate_left
     ·show Act.put _ (some 25) _ = _
      simp only [Act.put, z1, z2, z3, i64_w, i32_w]
      rfl
     refine one_ (i := 5) (N := some 26) #[true, true, true, true, true, true, false, false] rfl rfl (by kernel_rfl) (by decide) (fun K hK => ?_)
     refine goesP_ Tryd.func56 (by kernel_rfl) rfl #[.pointer (some ⟨w.heap.size + 1 + 1, 0, none⟩), .int .i64 n1] (by rfl) rfl rfl (by (try simp only [z9, List.map_cons, List.map_nil]); rfl) ?_
     refine (T1.out w5 HI5.out HH5.out.below).mono ?_
     rintro e w6 ⟨⟨rfl, hi⟩, hb, hk⟩
     refine .inl ⟨_, rfl, ?_⟩
     have HH6 := z4 (HH5.out.step HI5.out (by omega) (by omega) hb hk)
     have HI6 := z4 hi
     have cs6 : w6.cell? ⟨w.heap.size, 0, none⟩ = some (.string ⟨#[]⟩) := (zC HH6.out.obj 0).trans rfl
     have fs6 := zF HH6.out.obj 0
     clear hi hb hk
     refine hK.out _ _ trivial (fun hHeld => ?_)
     clear hK K
     refine norm_ (a' := ?_) ?_ ?_
     rotate_left
     ·show Act.put _ (some 26) _ = _
      simp only [Act.put, z1, z2, z3, i64_w, i32_w]
      rfl
     refine pure_ (i := 6) (N := some 27) (v := ?_) (a' := ?_) #[true, true, true, true, true, true, true, false] rfl rfl (by kernel_rfl) (fun _ _ _ h => put_panic (by decide) h) (Or.inl ⟨by rfl, ?_⟩) ?_ ?_
     rotate_left
     ·intro w'
      go_simp
      with_reducible rfl
     rotate_left
     ·simp only [Act.put, z1, z2, z3, i64_w, i32_w]
      rfl
     refine one_ (i := 7) (N := none) #[true, true, true, true, true, true, true, true] rfl rfl (by kernel_rfl) (by decide) (fun K hK => ?_)
     refine skip_ (w1 := ?_) (by rfl) rfl ?_ ?_
     rotate_left
     ·go_simp
      rfl
     refine hK.out _ _ trivial (fun hHeld => ?_)
     clear hK K
     refine done_ (by kernel_rfl) ?_
     have HHA := z4 (HH6.out.put 0 (.string code) rfl)
     have HIA := z4 (blk_far HI6.out (p := ⟨w.heap.size, 0, none⟩) (by simp; omega) (.string code))
     generalize w6.setCell ⟨w.heap.size, 0, none⟩ (.string code) = wa at HHA HIA ⊢
     clear HH0 HI0 HH4 HI4 HH5 HI5 HH6 HI6 T0 N1 T1 RB cs6 fs6 hHeld e1 e2 hn1 hq0
     have NN := z4 (number_c w wa (w.heap.size + 1 + 1) s p2 4096 HS.out HIA.out (by omega) HHA.out.below hq2 (by omega) (by omega))
     cases en : numA s 4096 p2 with
     | none =>
      have RN := z4 (readF_none (s := s) (by rw [RC.out]; unfold rd0 listA; rw [en]; rfl))
      rw [en] at NN
      go_wp2_with (first | (go_at_call 57; refine NN.out.mono ?_; rintro e wn ⟨rfl, hb, hk⟩; exact bad_held _ HHA.out HIA.out hb hk rfl rfl rfl RN.out))
     | some an =>
      obtain ⟨n, pn⟩ := an
      have hn := numA_ok en hq2
      rw [en] at NN
      obtain ⟨m, rfl⟩ : ∃ m : Nat, n = (m : Int) := ⟨n.toNat, by omega⟩
      have RM := z4 (show readA s = (manyA (wideA s) m pn).bind (rd1 s code) by rw [RC.out]; unfold rd0 listA; rw [en]; simp)
      have hm : m ≤ 4096 := by omega
      have hqn := hn.2.1
      clear en hn
      go_wp2_with (first | (go_at_call 57; refine NN.out.mono ?_; rintro e wn ⟨⟨rfl, hi⟩, hb, hk⟩; have HHn := z4 (HHA.out.step HIA.out (by omega) (by omega) hb hk); have HIn := z4 hi; clear hi hb hk))
      go_loopw [30] (fun v wr => ∃ (k q : Nat) (V : Value) (acc : List Int), k ≤ m ∧ v = .int .i64 k ∧ Aside0 (acc.length = k) ∧ q ≤ s.size ∧ Aside0 (St66 wr (w.heap.size + 1 + 1) s q) ∧ Aside0 (Held w wr wr.heap.size w.heap.size (w.heap.size + 1) #[.string code, V, .slice none 0 0, .slice none 0 0] #[.int .i64 0] 29 (V) acc (.slice none 0 0) [] (.slice none 0 0) []) ∧ Aside0 (readA s = ((manyA (wideA s) (m - k) q).map fun y => (acc ++ y.1, y.2)).bind (rd1 s code))) (fun v _ => m - (intOf v).toNat)
      case atStart => exact ⟨0, pn, .slice none 0 0, [], Nat.zero_le _, rfl, ⟨rfl⟩, hqn, HIn, ⟨HHn.out.up HHn.out.lt (Nat.le_refl _)⟩, ⟨by rw [RM.out]; simp⟩⟩
      case round =>
       clear HHn HIn NN RM HHA HIA RC
       obtain ⟨k, q, V, acc, hk, rfl, HL, hq, HI, HH, RD⟩ := hrel
       by_cases hlt : k < m
       case pos =>
        obtain ⟨A1, c1, rfl, hc1, -⟩ := Kd.R_reads HH.out.r1
        have WW := z4 (wide_c w wr.drew (w.heap.size + 1 + 1) s q HS.out (zI HI.out) (by omega) (below_drew HH.out.below) hq)
        have RS := z4 (show readA s = ((manyA (wideA s) ((m - (k + 1)) + 1) q).map fun y => (acc ++ y.1, y.2)).bind (rd1 s code) by rw [RD.out, show m - (k + 1) + 1 = m - k by omega])
        cases ew : wideA s q with
        | none =>
         have RN := z4 (readF_none (s := s) (by rw [RS.out]; simp [manyA, ew]))
         rw [ew] at WW
         go_wp2
         refine start_ (n := 8) (S := fun w' => w'.cell? ⟨w.heap.size, 1, none⟩ = some (.slice A1 acc.length c1)) (ds := [7]) #[false, false, false, false, false, false, false, false] (by kernel_rfl) rfl rfl ((zC (zI HH.out.obj) 1).trans rfl) (fun hHeld => ?_)
         refine pure_ (i := 0) (N := some 32) (v := ?_) (a' := ?_) #[true, false, false, false, false, false, false, false] rfl rfl (by kernel_rfl) (fun _ _ _ h => put_panic (by decide) h) (Or.inl ⟨by rfl, ?_⟩) ?_ ?_
         rotate_left
         ·intro w'
          go_simp
          with_reducible rfl
         rotate_left
         ·simp only [Act.put, z1, z2, z3, i64_w, i32_w]
          rfl
         refine pure_ (i := 2) (N := some 34) (v := ?_) (a' := ?_) #[true, false, true, false, false, false, false, false] rfl rfl (by kernel_rfl) (fun _ _ _ h => put_panic (by decide) h) (Or.inl ⟨by rfl, ?_⟩) ?_ ?_
         rotate_left
         ·intro w'
          go_simp
          with_reducible rfl
         rotate_left
         ·simp only [Act.put, z1, z2, z3, i64_w, i32_w]
          rfl
         refine take_ (i := 1) (N := some 33) (v := ?_) (a' := ?_) #[true, true, true, false, false, false, false, false] rfl rfl (by kernel_rfl) (fun _ _ _ h => put_panic (by decide) h) (Or.inl ⟨by rfl, ?_⟩) hHeld ?_ ?_
         rotate_left
         ·intro w' s0
          go_simp
          with_reducible rfl
         rotate_left
         ·simp only [Act.put, z1, z2, z3, i64_w, i32_w]
          rfl
         refine one_ (i := 3) (N := some 35) #[true, true, true, true, false, false, false, false] rfl rfl (by kernel_rfl) (by decide) (fun K hK => ?_)
         refine goesP_ Tryd.func58 (by kernel_rfl) rfl #[.pointer (some ⟨w.heap.size + 1 + 1, 0, none⟩)] (by rfl) rfl rfl (by (try simp only [z9, List.map_cons, List.map_nil]); rfl) ?_
         refine (WW.out).mono ?_
         rintro e w5 ⟨rfl, hb, hk⟩
         exact .inr ⟨_, rfl, bad_held _ (HH.out.next (zD (Below.refl _ _))) (zI HI.out) hb hk rfl rfl rfl RN.out⟩
        | some a1 =>
         obtain ⟨x, q5⟩ := a1
         have hq5 := (wideA_ok ew).2.1
         rw [ew] at WW
         have RX := z4 (show readA s = ((manyA (wideA s) (m - (k + 1)) q5).map fun y => ((acc ++ [x]) ++ y.1, y.2)).bind (rd1 s code) by rw [RS.out, many_step (x := x) (p' := q5) (bad := false) (by rw [ew]; rfl)]; rfl)
         clear RS RD ew
         go_wp2
         refine start_ (n := 8) (S := fun w' => w'.cell? ⟨w.heap.size, 1, none⟩ = some (.slice A1 acc.length c1)) (ds := [7]) #[false, false, false, false, false, false, false, false] (by kernel_rfl) rfl rfl ((zC (zI HH.out.obj) 1).trans rfl) (fun hHeld => ?_)
         refine pure_ (i := 0) (N := some 32) (v := ?_) (a' := ?_) #[true, false, false, false, false, false, false, false] rfl rfl (by kernel_rfl) (fun _ _ _ h => put_panic (by decide) h) (Or.inl ⟨by rfl, ?_⟩) ?_ ?_
         rotate_left
         ·intro w'
          go_simp
          with_reducible rfl
         rotate_left
         ·simp only [Act.put, z1, z2, z3, i64_w, i32_w]
          rfl
         refine pure_ (i := 2) (N := some 34) (v := ?_) (a' := ?_) #[true, false, true, false, false, false, false, false] rfl rfl (by kernel_rfl) (fun _ _ _ h => put_panic (by decide) h) (Or.inl ⟨by rfl, ?_⟩) ?_ ?_
         rotate_left
         ·intro w'
          go_simp
          with_reducible rfl
         rotate_left
         ·simp only [Act.put, z1, z2, z3, i64_w, i32_w]
          rfl
         refine take_ (i := 1) (N := some 33) (v := ?_) (a' := ?_) #[true, true, true, false, false, false, false, false] rfl rfl (by kernel_rfl) (fun _ _ _ h => put_panic (by decide) h) (Or.inl ⟨by rfl, ?_⟩) hHeld ?_ ?_
         rotate_left
         ·intro w' s0
          go_simp
          with_reducible rfl
         rotate_left
         ·simp only [Act.put, z1, z2, z3, i64_w, i32_w]
          rfl
         refine one_ (i := 3) (N := some 35) #[true, true, true, true, false, false, false, false] rfl rfl (by kernel_rfl) (by decide) (fun K hK => ?_)
         refine goesP_ Tryd.func58 (by kernel_rfl) rfl #[.pointer (some ⟨w.heap.size + 1 + 1, 0, none⟩)] (by rfl) rfl rfl (by (try simp only [z9, List.map_cons, List.map_nil]); rfl) ?_
         refine (WW.out).mono ?_
         rintro e w5 ⟨⟨rfl, hi⟩, hb, hk⟩
         refine .inl ⟨_, rfl, ?_⟩
         have HH5 := z4 ((HH.out.next (zD (Below.refl _ _))).step (zI HI.out) (by omega) (by omega) hb hk)
         have HI5 := z4 hi
         clear hi hb hk
         refine hK.out _ _ ((zC (HH5.out.obj) 1).trans rfl) (fun hHeld => ?_)
         clear hK K
         refine norm_ (a' := ?_) ?_ ?_
         rotate_left
         ·show Act.put _ (some 35) _ = _
          simp only [Act.put, z1, z2, z3, i64_w, i32_w]
          rfl
         refine one_ (i := 4) (N := some 36) #[true, true, true, true, true, false, false, false] rfl rfl (by kernel_rfl) (by decide) (fun K hK => ?_)
         refine value_ (w1 := w5.alloc (.cells #[.int .i64 x] 2)) (v := .slice (some ⟨w5.heap.size, 0, none⟩) 1 1) (by rfl) rfl ?_ ?_
         ·go_simp
         refine hK.out _ _ ((zC (zG HH5.out.obj _) 1).trans rfl) (fun hHeld => ?_)
         clear hK K
         refine norm_ (a' := ?_) ?_ ?_
         rotate_left
         ·show Act.put _ (some 36) _ = _
          simp only [Act.put, z1, z2, z3, i64_w, i32_w]
          rfl
         refine one_ (i := 5) (N := some 37) #[true, true, true, true, true, true, false, false] rfl rfl (by kernel_rfl) (by decide) (fun K hK => ?_)
         refine Kd.R_append_step (Kd.int .i64) w.heap.size (by rfl) (.tmp 33) (.tmp 36) 22 2 (.int .i64 0) 8 rfl Tryd.underlying22 info2 rfl (by decide) (by omega) (.slice A1 acc.length c1) acc x [.int .i64 x] (fun _ => True) (fun _ => False) rfl (by first | (go_simp; done) | (go_simp; rfl)) rfl (fun _ hk => hk.elim) (fun _ _ => trivial) (R_all HH5.out.r1) HH5.out.below HH5.out.below.size (by have := HL.out; omega) ?_
         intro v7 w7 ho hb hg hat
         have HH7 := z4 (HH5.out.more1 ho hb hg)
         have HI7 := z4 (show St66 w7 (w.heap.size + 1 + 1) s q5 from blk_grown HI5.out hg (Kd.R_ne HH5.out.r1 HI5.out (by decide)))
         obtain ⟨A7, c7, rfl, -, -⟩ := Kd.R_reads ho
         simp only [List.length_append, List.length_cons, List.length_nil, Nat.zero_add] at HH7
         have cs7 : w7.cell? ⟨w.heap.size, 1, none⟩ = some (.slice A1 acc.length c1) := (zC HH7.out.obj 1).trans rfl
         have fs7 := zF HH7.out.obj 1
         clear ho hb hg hat
         refine hK.out _ _ ((zC (HH7.out.obj) 1).trans rfl) (fun hHeld => ?_)
         clear hK K
         refine norm_ (a' := ?_) ?_ ?_
         rotate_left
         ·show Act.put _ (some 37) _ = _
          simp only [Act.put, z1, z2, z3, i64_w, i32_w]
          rfl
         refine pure_ (i := 6) (N := some 38) (v := ?_) (a' := ?_) #[true, true, true, true, true, true, true, false] rfl rfl (by kernel_rfl) (fun _ _ _ h => put_panic (by decide) h) (Or.inl ⟨by rfl, ?_⟩) ?_ ?_
         rotate_left
         ·intro w'
          go_simp
          with_reducible rfl
         rotate_left
         ·simp only [Act.put, z1, z2, z3, i64_w, i32_w]
          rfl
         refine last_ (i := 7) (N := none) #[true, true, true, true, true, true, true, true] rfl rfl (by kernel_rfl) (by decide) (fun K hK => ?_)
         refine skip_ (w1 := ?_) (by rfl) rfl ?_ ?_
         rotate_left
         ·go_simp
          rfl
         refine hK.out _ _ ?_
         clear hK K
         refine done_ (by kernel_rfl) ?_
         go_wp2
         go_roundw
         case rel => exact ⟨k + 1, q5, .slice A7 (acc.length + 1) c7, acc ++ [x], hlt, by first | rfl | go_num, ⟨by have := HL.out; simp; omega⟩, hq5, ⟨blk_far HI7.out (by simp; omega) _⟩, ⟨(HH7.out.put 1 (.slice A7 (acc.length + 1) c7) rfl).up (HH7.out.put 1 (.slice A7 (acc.length + 1) c7) rfl).lt (Nat.le_refl _)⟩, RX⟩
         case measure => simp [intOf]; omega
       case neg =>
        obtain rfl : k = m := by omega
        have RE := z4 (show readA s = rd1 s code (acc, q) by rw [RD.out, Nat.sub_self]; simp [manyA])
        have HHD := HH
        have HID := HI
        clear HH HI RD
        obtain ⟨VD, hVD⟩ : ∃ VD, VD = V := ⟨_, rfl⟩
        obtain ⟨data, hdat⟩ : ∃ d, d = acc := ⟨_, rfl⟩
        rw [← hVD, ← hdat] at HHD
        rw [← hdat] at RE
        clear hVD hdat HL
        have NN := z4 (number_c w wr (w.heap.size + 1 + 1) s q 1000 HS.out HID.out (by omega) HHD.out.below hq (by omega) (by omega))
        cases en : numA s 1000 q with
        | none =>
         have RN := z4 (readF_none (s := s) (by rw [RE.out]; unfold rd1 listA; rw [en]; rfl))
         rw [en] at NN
         go_wp2_with (first | (go_at_call 57; refine NN.out.mono ?_; rintro e wn ⟨rfl, hb, hk⟩; exact bad_held _ HHD.out HID.out hb hk rfl rfl rfl RN.out))
        | some an =>
         obtain ⟨n, pn⟩ := an
         have hn := numA_ok en hq
         rw [en] at NN
         obtain ⟨m, rfl⟩ : ∃ m : Nat, n = (m : Int) := ⟨n.toNat, by omega⟩
         have RM := z4 (show readA s = (manyA (symA s) m pn).bind (rd2 s code data) by rw [RE.out]; unfold rd1 listA; rw [en]; simp)
         have hm : m ≤ 1000 := by omega
         have hqn := hn.2.1
         clear en hn
         go_wp2_with (first | (go_at_call 57; refine NN.out.mono ?_; rintro e wn ⟨⟨rfl, hi⟩, hb, hk⟩; have HHn := z4 (HHD.out.step HID.out (by omega) (by omega) hb hk); have HIn := z4 hi; clear hi hb hk))
         go_loopw [42] (fun v wr => ∃ (k q : Nat) (V : Value) (acc : List S68), k ≤ m ∧ v = .int .i64 k ∧ Aside0 (acc.length = k) ∧ q ≤ s.size ∧ Aside0 (St66 wr (w.heap.size + 1 + 1) s q) ∧ Aside0 (Held w wr wr.heap.size w.heap.size (w.heap.size + 1) #[.string code, VD, V, .slice none 0 0] #[.int .i64 0] 29 (VD) data (V) acc (.slice none 0 0) []) ∧ Aside0 (readA s = ((manyA (symA s) (m - k) q).map fun y => (acc ++ y.1, y.2)).bind (rd2 s code data))) (fun v _ => m - (intOf v).toNat)
         case atStart => exact ⟨0, pn, .slice none 0 0, [], Nat.zero_le _, rfl, ⟨rfl⟩, hqn, HIn, ⟨HHn.out.up HHn.out.lt (Nat.le_refl _)⟩, ⟨by rw [RM.out]; simp⟩⟩
         case round =>
          clear HHn HIn NN RM HHD HID RE
          obtain ⟨k, q, V, acc, hk, rfl, HL, hq, HI, HH, RD⟩ := hrel
          by_cases hlt : k < m
          case pos =>
           obtain ⟨A1, c1, rfl, hc1, -⟩ := Kd.R_reads HH.out.r2
           have RS := z4 (show readA s = ((manyA (symA s) ((m - (k + 1)) + 1) q).map fun y => (acc ++ y.1, y.2)).bind (rd2 s code data) by rw [RD.out, show m - (k + 1) + 1 = m - k by omega])
           have K1 := z4 (fun (W : World) (hI : St66 W (w.heap.size + 1 + 1) s q) (hB : Below w.heap.size w W) => name_c w W (w.heap.size + 1 + 1) s q HS.out hI (by omega) hB hq)
           cases e1 : textA s 28 q with
           | none =>
            have RN := z4 (readF_none (s := s) (by rw [RS.out]; simp [manyA, symA, e1]))
            rw [e1] at K1
            go_wp2_with (first | (go_at_call 59; refine (K1.out _ HI.out HH.out.below).mono ?_; rintro e v1 ⟨rfl, hb, hk⟩; exact bad_held _ HH.out HI.out hb hk rfl rfl rfl RN.out))
           | some a1 =>
            obtain ⟨x1, q1⟩ := a1
            rw [e1] at K1
            have hq1 := textA_ok e1
            have K2 := z4 (fun (W : World) (hI : St66 W (w.heap.size + 1 + 1) s q1) (hB : Below w.heap.size w W) => one_c w W (w.heap.size + 1 + 1) s q1 HS.out hI (by omega) hB hq1)
            cases e2 : oneA s q1 with
            | none =>
             have RN := z4 (readF_none (s := s) (by rw [RS.out]; simp [manyA, symA, e1, e2]))
             rw [e2] at K2
             go_wp2_with (first | (go_at_call 59; refine (K1.out _ HI.out HH.out.below).mono ?_; rintro e v1 ⟨⟨rfl, hi⟩, hb, hk⟩; have HH1 := z4 (HH.out.step HI.out (by omega) (by omega) hb hk); have HI1 := z4 hi; clear hi hb hk) | (go_at_call 60; refine (K2.out _ HI1.out HH1.out.below).mono ?_; rintro e v2 ⟨rfl, hb, hk⟩; exact bad_held _ HH1.out HI1.out hb hk rfl rfl rfl RN.out))
            | some a2 =>
             obtain ⟨x2, q2⟩ := a2
             rw [e2] at K2
             have hq2 := (oneA_ok e2).2.1
             have K3 := z4 (fun (W : World) (hI : St66 W (w.heap.size + 1 + 1) s q2) (hB : Below w.heap.size w W) => number_c w W (w.heap.size + 1 + 1) s q2 65536 HS.out hI (by omega) hB hq2 (by omega) (by omega))
             cases e3 : numA s 65536 q2 with
             | none =>
              have RN := z4 (readF_none (s := s) (by rw [RS.out]; simp [manyA, symA, e1, e2, e3]))
              rw [e3] at K3
              go_wp2_with (first | (go_at_call 59; refine (K1.out _ HI.out HH.out.below).mono ?_; rintro e v1 ⟨⟨rfl, hi⟩, hb, hk⟩; have HH1 := z4 (HH.out.step HI.out (by omega) (by omega) hb hk); have HI1 := z4 hi; clear hi hb hk) | (go_at_call 60; refine (K2.out _ HI1.out HH1.out.below).mono ?_; rintro e v2 ⟨⟨rfl, hi⟩, hb, hk⟩; have HH2 := z4 (HH1.out.step HI1.out (by omega) (by omega) hb hk); have HI2 := z4 hi; clear hi hb hk))
              refine start_ (n := 11) (S := fun w' => w'.cell? ⟨w.heap.size, 2, none⟩ = some (.slice A1 acc.length c1)) (ds := [10]) #[false, false, false, false, false, false, false, false, false, false, false] (by kernel_rfl) rfl rfl ((zC (zI HH2.out.obj) 2).trans rfl) (fun hHeld => ?_)
              refine pure_ (i := 0) (N := some 48) (v := ?_) (a' := ?_) #[true, false, false, false, false, false, false, false, false, false, false] rfl rfl (by kernel_rfl) (fun _ _ _ h => put_panic (by decide) h) (Or.inl ⟨by rfl, ?_⟩) ?_ ?_
              rotate_left
              ·intro w'
               go_simp
               with_reducible rfl
              rotate_left
              ·simp only [Act.put, z1, z2, z3, i64_w, i32_w]
               rfl
              refine pure_ (i := 2) (N := some 50) (v := ?_) (a' := ?_) #[true, false, true, false, false, false, false, false, false, false, false] rfl rfl (by kernel_rfl) (fun _ _ _ h => put_panic (by decide) h) (Or.inl ⟨by rfl, ?_⟩) ?_ ?_
              rotate_left
              ·intro w'
               go_simp
               with_reducible rfl
              rotate_left
              ·simp only [Act.put, z1, z2, z3, i64_w, i32_w]
               rfl
              refine pure_ (i := 3) (N := some 51) (v := ?_) (a' := ?_) #[true, false, true, true, false, false, false, false, false, false, false] rfl rfl (by kernel_rfl) (fun _ _ _ h => put_panic (by decide) h) (Or.inl ⟨by rfl, ?_⟩) ?_ ?_
              rotate_left
              ·intro w'
               go_simp
               with_reducible rfl
              rotate_left
              ·simp only [Act.put, z1, z2, z3, i64_w, i32_w]
               rfl
              refine pure_ (i := 4) (N := some 52) (v := ?_) (a' := ?_) #[true, false, true, true, true, false, false, false, false, false, false] rfl rfl (by kernel_rfl) (fun _ _ _ h => put_panic (by decide) h) (Or.inl ⟨by rfl, ?_⟩) ?_ ?_
              rotate_left
              ·intro w'
               go_simp
               with_reducible rfl
              rotate_left
              ·simp only [Act.put, z1, z2, z3, i64_w, i32_w]
               rfl
              refine take_ (i := 1) (N := some 49) (v := ?_) (a' := ?_) #[true, true, true, true, true, false, false, false, false, false, false] rfl rfl (by kernel_rfl) (fun _ _ _ h => put_panic (by decide) h) (Or.inl ⟨by rfl, ?_⟩) hHeld ?_ ?_
              rotate_left
              ·intro w' s0
               go_simp
               with_reducible rfl
              rotate_left
              ·simp only [Act.put, z1, z2, z3, i64_w, i32_w]
               rfl
              refine one_ (i := 5) (N := some 53) #[true, true, true, true, true, true, false, false, false, false, false] rfl rfl (by kernel_rfl) (by decide) (fun K hK => ?_)
              refine goesP_ Tryd.func57 (by kernel_rfl) rfl #[.pointer (some ⟨w.heap.size + 1 + 1, 0, none⟩), .int .i64 65536] (by rfl) rfl rfl (by (try simp only [z9, List.map_cons, List.map_nil]); rfl) ?_
              refine (K3.out v2.drew (zI HI2.out) (below_drew HH2.out.below)).mono ?_
              rintro e vb ⟨rfl, hb, hk⟩
              exact .inr ⟨_, rfl, bad_held _ (HH2.out.next (zD (Below.refl _ _))) (zI HI2.out) hb hk rfl rfl rfl RN.out⟩
             | some a3 =>
              obtain ⟨x3, q3⟩ := a3
              rw [e3] at K3
              have hq3 := (numA_ok e3 hq2).2.1
              have RX := z4 (show readA s = ((manyA (symA s) (m - (k + 1)) q3).map fun y => ((acc ++ [(⟨x1, x2, x3⟩ : S68)]) ++ y.1, y.2)).bind (rd2 s code data) by rw [RS.out, many_step (x := (⟨x1, x2, x3⟩ : S68)) (p' := q3) (bad := false) (by simp [symA, e1, e2, e3])]; rfl)
              clear RS RD e1 e2 e3
              go_wp2_with (first | (go_at_call 59; refine (K1.out _ HI.out HH.out.below).mono ?_; rintro e v1 ⟨⟨rfl, hi⟩, hb, hk⟩; have HH1 := z4 (HH.out.step HI.out (by omega) (by omega) hb hk); have HI1 := z4 hi; clear hi hb hk) | (go_at_call 60; refine (K2.out _ HI1.out HH1.out.below).mono ?_; rintro e v2 ⟨⟨rfl, hi⟩, hb, hk⟩; have HH2 := z4 (HH1.out.step HI1.out (by omega) (by omega) hb hk); have HI2 := z4 hi; clear hi hb hk))
              refine start_ (n := 11) (S := fun w' => w'.cell? ⟨w.heap.size, 2, none⟩ = some (.slice A1 acc.length c1)) (ds := [10]) #[false, false, false, false, false, false, false, false, false, false, false] (by kernel_rfl) rfl rfl ((zC (zI HH2.out.obj) 2).trans rfl) (fun hHeld => ?_)
              refine pure_ (i := 0) (N := some 48) (v := ?_) (a' := ?_) #[true, false, false, false, false, false, false, false, false, false, false] rfl rfl (by kernel_rfl) (fun _ _ _ h => put_panic (by decide) h) (Or.inl ⟨by rfl, ?_⟩) ?_ ?_
              rotate_left
              ·intro w'
               go_simp
               with_reducible rfl
              rotate_left
              ·simp only [Act.put, z1, z2, z3, i64_w, i32_w]
               rfl
              refine pure_ (i := 2) (N := some 50) (v := ?_) (a' := ?_) #[true, false, true, false, false, false, false, false, false, false, false] rfl rfl (by kernel_rfl) (fun _ _ _ h => put_panic (by decide) h) (Or.inl ⟨by rfl, ?_⟩) ?_ ?_
              rotate_left
              ·intro w'
               go_simp
               with_reducible rfl
              rotate_left
              ·simp only [Act.put, z1, z2, z3, i64_w, i32_w]
               rfl
              refine pure_ (i := 3) (N := some 51) (v := ?_) (a' := ?_) #[true, false, true, true, false, false, false, false, false, false, false] rfl rfl (by kernel_rfl) (fun _ _ _ h => put_panic (by decide) h) (Or.inl ⟨by rfl, ?_⟩) ?_ ?_
              rotate_left
              ·intro w'
               go_simp
               with_reducible rfl
              rotate_left
              ·simp only [Act.put, z1, z2, z3, i64_w, i32_w]
               rfl
              refine pure_ (i := 4) (N := some 52) (v := ?_) (a' := ?_) #[true, false, true, true, true, false, false, false, false, false, false] rfl rfl (by kernel_rfl) (fun _ _ _ h => put_panic (by decide) h) (Or.inl ⟨by rfl, ?_⟩) ?_ ?_
              rotate_left
              ·intro w'
               go_simp
               with_reducible rfl
              rotate_left
              ·simp only [Act.put, z1, z2, z3, i64_w, i32_w]
               rfl
              refine take_ (i := 1) (N := some 49) (v := ?_) (a' := ?_) #[true, true, true, true, true, false, false, false, false, false, false] rfl rfl (by kernel_rfl) (fun _ _ _ h => put_panic (by decide) h) (Or.inl ⟨by rfl, ?_⟩) hHeld ?_ ?_
              rotate_left
              ·intro w' s0
               go_simp
               with_reducible rfl
              rotate_left
              ·simp only [Act.put, z1, z2, z3, i64_w, i32_w]
               rfl
              refine one_ (i := 5) (N := some 53) #[true, true, true, true, true, true, false, false, false, false, false] rfl rfl (by kernel_rfl) (by decide) (fun K hK => ?_)
              refine goesP_ Tryd.func57 (by kernel_rfl) rfl #[.pointer (some ⟨w.heap.size + 1 + 1, 0, none⟩), .int .i64 65536] (by rfl) rfl rfl (by (try simp only [z9, List.map_cons, List.map_nil]); rfl) ?_
              refine (K3.out v2.drew (zI HI2.out) (below_drew HH2.out.below)).mono ?_
              rintro e vb ⟨⟨rfl, hi⟩, hb, hk⟩
              refine .inl ⟨_, rfl, ?_⟩
              have HHb := z4 ((HH2.out.next (zD (Below.refl _ _))).step (zI HI2.out) (by omega) (by omega) hb hk)
              have HIb := z4 hi
              clear hi hb hk
              refine hK.out _ _ ((zC (HHb.out.obj) 2).trans rfl) (fun hHeld => ?_)
              clear hK K
              refine norm_ (a' := ?_) ?_ ?_
              rotate_left
              ·show Act.put _ (some 53) _ = _
               simp only [Act.put, z1, z2, z3, i64_w, i32_w]
               rfl
              refine pure_ (i := 6) (N := some 54) (v := ?_) (a' := ?_) #[true, true, true, true, true, true, true, false, false, false, false] rfl rfl (by kernel_rfl) (fun _ _ _ h => put_panic (by decide) h) (Or.inl ⟨by rfl, ?_⟩) ?_ ?_
              rotate_left
              ·intro w'
               go_simp
               with_reducible rfl
              rotate_left
              ·simp only [Act.put, z1, z2, z3, i64_w, i32_w]
               rfl
              refine one_ (i := 7) (N := some 55) #[true, true, true, true, true, true, true, true, false, false, false] rfl rfl (by kernel_rfl) (by decide) (fun K hK => ?_)
              refine value_ (w1 := vb.alloc (.cells #[.string x1, .int .i64 x2, .int .i64 x3] 68)) (v := .slice (some ⟨vb.heap.size, 0, none⟩) 1 1) (by rfl) rfl ?_ ?_
              ·go_simp
              refine hK.out _ _ ((zC (zG HHb.out.obj _) 2).trans rfl) (fun hHeld => ?_)
              clear hK K
              refine norm_ (a' := ?_) ?_ ?_
              rotate_left
              ·show Act.put _ (some 55) _ = _
               simp only [Act.put, z1, z2, z3, i64_w, i32_w]
               rfl
              refine one_ (i := 8) (N := some 56) #[true, true, true, true, true, true, true, true, true, false, false] rfl rfl (by kernel_rfl) (by decide) (fun K hK => ?_)
              refine Kd.R_append_step k68 w.heap.size (by rfl) (.tmp 49) (.tmp 55) 23 68 (.agg #[.string ⟨#[]⟩, .int .i64 0, .int .i64 0]) 32 rfl Tryd.underlying23 info68 rfl (by decide) (by omega) (.slice A1 acc.length c1) acc ((⟨x1, x2, x3⟩ : S68)) [.string x1, .int .i64 x2, .int .i64 x3] (fun _ => True) (fun _ => False) rfl (by first | (go_simp; done) | (go_simp; rfl)) (k68_mkM _ _ _ ((⟨x1, x2, x3⟩ : S68))) (fun _ hk => hk.elim) (fun _ _ => trivial) (R_all HHb.out.r2) HHb.out.below HHb.out.below.size (by have := HL.out; omega) ?_
              intro v7 w7 ho hb hg hat
              have HH7 := z4 (HHb.out.more2 ho hb hg)
              have HI7 := z4 (show St66 w7 (w.heap.size + 1 + 1) s q3 from blk_grown HIb.out hg (Kd.R_ne HHb.out.r2 HIb.out (by decide)))
              obtain ⟨A7, c7, rfl, -, -⟩ := Kd.R_reads ho
              simp only [List.length_append, List.length_cons, List.length_nil, Nat.zero_add] at HH7
              have cs7 : w7.cell? ⟨w.heap.size, 2, none⟩ = some (.slice A1 acc.length c1) := (zC HH7.out.obj 2).trans rfl
              have fs7 := zF HH7.out.obj 2
              clear ho hb hg hat
              refine hK.out _ _ ((zC (HH7.out.obj) 2).trans rfl) (fun hHeld => ?_)
              clear hK K
              refine norm_ (a' := ?_) ?_ ?_
              rotate_left
              ·show Act.put _ (some 56) _ = _
               simp only [Act.put, z1, z2, z3, i64_w, i32_w]
               rfl
              refine pure_ (i := 9) (N := some 57) (v := ?_) (a' := ?_) #[true, true, true, true, true, true, true, true, true, true, false] rfl rfl (by kernel_rfl) (fun _ _ _ h => put_panic (by decide) h) (Or.inl ⟨by rfl, ?_⟩) ?_ ?_
              rotate_left
              ·intro w'
               go_simp
               with_reducible rfl
              rotate_left
              ·simp only [Act.put, z1, z2, z3, i64_w, i32_w]
               rfl
              refine last_ (i := 10) (N := none) #[true, true, true, true, true, true, true, true, true, true, true] rfl rfl (by kernel_rfl) (by decide) (fun K hK => ?_)
              refine skip_ (w1 := ?_) (by rfl) rfl ?_ ?_
              rotate_left
              ·go_simp
               rfl
              refine hK.out _ _ ?_
              clear hK K
              refine done_ (by kernel_rfl) ?_
              go_wp2
              go_roundw
              case rel => exact ⟨k + 1, q3, .slice A7 (acc.length + 1) c7, acc ++ [(⟨x1, x2, x3⟩ : S68)], hlt, by first | rfl | go_num, ⟨by have := HL.out; simp; omega⟩, hq3, ⟨blk_far HI7.out (by simp; omega) _⟩, ⟨(HH7.out.put 2 (.slice A7 (acc.length + 1) c7) rfl).up (HH7.out.put 2 (.slice A7 (acc.length + 1) c7) rfl).lt (Nat.le_refl _)⟩, RX⟩
              case measure => simp [intOf]; omega
          case neg =>
           obtain rfl : k = m := by omega
           have RE := z4 (show readA s = rd2 s code data (acc, q) by rw [RD.out, Nat.sub_self]; simp [manyA])
           have HHE := HH
           have HIE := HI
           clear HH HI RD
           obtain ⟨VS, hVS⟩ : ∃ VS, VS = V := ⟨_, rfl⟩
           obtain ⟨syms, hsym⟩ : ∃ d, d = acc := ⟨_, rfl⟩
           rw [← hVS, ← hsym] at HHE
           rw [← hsym] at RE
           clear hVS hsym HL
           have NN := z4 (number_c w wr (w.heap.size + 1 + 1) s q 8000 HS.out HIE.out (by omega) HHE.out.below hq (by omega) (by omega))
           cases en : numA s 8000 q with
           | none =>
            have RN := z4 (readF_none (s := s) (by rw [RE.out]; unfold rd2 listA; rw [en]; rfl))
            rw [en] at NN
            go_wp2_with (first | (go_at_call 57; refine NN.out.mono ?_; rintro e wn ⟨rfl, hb, hk⟩; exact bad_held _ HHE.out HIE.out hb hk rfl rfl rfl RN.out))
           | some an =>
            obtain ⟨n, pn⟩ := an
            have hn := numA_ok en hq
            rw [en] at NN
            obtain ⟨m, rfl⟩ : ∃ m : Nat, n = (m : Int) := ⟨n.toNat, by omega⟩
            have RM := z4 (show readA s = (manyA (relA s) m pn).bind (rd3 s code data syms) by rw [RE.out]; unfold rd2 listA; rw [en]; simp)
            have hm : m ≤ 8000 := by omega
            have hqn := hn.2.1
            clear en hn
            go_wp2_with (first | (go_at_call 57; refine NN.out.mono ?_; rintro e wn ⟨⟨rfl, hi⟩, hb, hk⟩; have HHn := z4 (HHE.out.step HIE.out (by omega) (by omega) hb hk); have HIn := z4 hi; clear hi hb hk))
            go_loopw [61] (fun v wr => ∃ (k q : Nat) (V : Value) (acc : List S116), k ≤ m ∧ v = .int .i64 k ∧ Aside0 (acc.length = k) ∧ q ≤ s.size ∧ Aside0 (St66 wr (w.heap.size + 1 + 1) s q) ∧ Aside0 (Held w wr wr.heap.size w.heap.size (w.heap.size + 1) #[.string code, VD, VS, V] #[.int .i64 0] 29 (VD) data (VS) syms (V) acc) ∧ Aside0 (readA s = ((manyA (relA s) (m - k) q).map fun y => (acc ++ y.1, y.2)).bind (rd3 s code data syms))) (fun v _ => m - (intOf v).toNat)
            case atStart => exact ⟨0, pn, .slice none 0 0, [], Nat.zero_le _, rfl, ⟨rfl⟩, hqn, HIn, ⟨HHn.out.up HHn.out.lt (Nat.le_refl _)⟩, ⟨by rw [RM.out]; simp⟩⟩
            case round =>
             clear HHn HIn NN RM HHE HIE RE
             obtain ⟨k, q, V, acc, hk, rfl, HL, hq, HI, HH, RD⟩ := hrel
             by_cases hlt : k < m
             case pos =>
              obtain ⟨A1, c1, rfl, hc1, -⟩ := Kd.R_reads HH.out.r3
              have RS := z4 (show readA s = ((manyA (relA s) ((m - (k + 1)) + 1) q).map fun y => (acc ++ y.1, y.2)).bind (rd3 s code data syms) by rw [RD.out, show m - (k + 1) + 1 = m - k by omega])
              have K1 := z4 (fun (W : World) (hI : St66 W (w.heap.size + 1 + 1) s q) (hB : Below w.heap.size w W) => number_c w W (w.heap.size + 1 + 1) s q 65536 HS.out hI (by omega) hB hq (by omega) (by omega))
              cases e1 : numA s 65536 q with
              | none =>
               have RN := z4 (readF_none (s := s) (by rw [RS.out]; simp [manyA, relA, e1]))
               rw [e1] at K1
               go_wp2_with (first | (go_at_call 57; refine (K1.out _ HI.out HH.out.below).mono ?_; rintro e v1 ⟨rfl, hb, hk⟩; exact bad_held _ HH.out HI.out hb hk rfl rfl rfl RN.out))
              | some a1 =>
               obtain ⟨x1, q1⟩ := a1
               rw [e1] at K1
               have hq1 := (numA_ok e1 hq).2.1
               have K2 := z4 (fun (W : World) (hI : St66 W (w.heap.size + 1 + 1) s q1) (hB : Below w.heap.size w W) => one_c w W (w.heap.size + 1 + 1) s q1 HS.out hI (by omega) hB hq1)
               cases e2 : oneA s q1 with
               | none =>
                have RN := z4 (readF_none (s := s) (by rw [RS.out]; simp [manyA, relA, e1, e2]))
                rw [e2] at K2
                go_wp2_with (first | (go_at_call 57; refine (K1.out _ HI.out HH.out.below).mono ?_; rintro e v1 ⟨⟨rfl, hi⟩, hb, hk⟩; have HH1 := z4 (HH.out.step HI.out (by omega) (by omega) hb hk); have HI1 := z4 hi; clear hi hb hk) | (go_at_call 60; refine (K2.out _ HI1.out HH1.out.below).mono ?_; rintro e v2 ⟨rfl, hb, hk⟩; exact bad_held _ HH1.out HI1.out hb hk rfl rfl rfl RN.out))
               | some a2 =>
                obtain ⟨x2, q2⟩ := a2
                rw [e2] at K2
                have hq2 := (oneA_ok e2).2.1
                have K3 := z4 (fun (W : World) (hI : St66 W (w.heap.size + 1 + 1) s q2) (hB : Below w.heap.size w W) => name_c w W (w.heap.size + 1 + 1) s q2 HS.out hI (by omega) hB hq2)
                cases e3 : textA s 28 q2 with
                | none =>
                 have RN := z4 (readF_none (s := s) (by rw [RS.out]; simp [manyA, relA, e1, e2, e3]))
                 rw [e3] at K3
                 go_wp2_with (first | (go_at_call 57; refine (K1.out _ HI.out HH.out.below).mono ?_; rintro e v1 ⟨⟨rfl, hi⟩, hb, hk⟩; have HH1 := z4 (HH.out.step HI.out (by omega) (by omega) hb hk); have HI1 := z4 hi; clear hi hb hk) | (go_at_call 60; refine (K2.out _ HI1.out HH1.out.below).mono ?_; rintro e v2 ⟨⟨rfl, hi⟩, hb, hk⟩; have HH2 := z4 (HH1.out.step HI1.out (by omega) (by omega) hb hk); have HI2 := z4 hi; clear hi hb hk) | (go_at_call 59; refine (K3.out _ HI2.out HH2.out.below).mono ?_; rintro e v3 ⟨rfl, hb, hk⟩; exact bad_held _ HH2.out HI2.out hb hk rfl rfl rfl RN.out))
                | some a3 =>
                 obtain ⟨x3, q3⟩ := a3
                 rw [e3] at K3
                 have hq3 := textA_ok e3
                 have K4 := z4 (fun (W : World) (hI : St66 W (w.heap.size + 1 + 1) s q3) (hB : Below w.heap.size w W) => wide_c w W (w.heap.size + 1 + 1) s q3 HS.out hI (by omega) hB hq3)
                 cases e4 : wideA s q3 with
                 | none =>
                  have RN := z4 (readF_none (s := s) (by rw [RS.out]; simp [manyA, relA, e1, e2, e3, e4]))
                  rw [e4] at K4
                  go_wp2_with (first | (go_at_call 57; refine (K1.out _ HI.out HH.out.below).mono ?_; rintro e v1 ⟨⟨rfl, hi⟩, hb, hk⟩; have HH1 := z4 (HH.out.step HI.out (by omega) (by omega) hb hk); have HI1 := z4 hi; clear hi hb hk) | (go_at_call 60; refine (K2.out _ HI1.out HH1.out.below).mono ?_; rintro e v2 ⟨⟨rfl, hi⟩, hb, hk⟩; have HH2 := z4 (HH1.out.step HI1.out (by omega) (by omega) hb hk); have HI2 := z4 hi; clear hi hb hk) | (go_at_call 59; refine (K3.out _ HI2.out HH2.out.below).mono ?_; rintro e v3 ⟨⟨rfl, hi⟩, hb, hk⟩; have HH3 := z4 (HH2.out.step HI2.out (by omega) (by omega) hb hk); have HI3 := z4 hi; clear hi hb hk))
                  refine start_ (n := 12) (S := fun w' => w'.cell? ⟨w.heap.size, 3, none⟩ = some (.slice A1 acc.length c1)) (ds := [11]) #[false, false, false, false, false, false, false, false, false, false, false, false] (by kernel_rfl) rfl rfl ((zC (zI HH3.out.obj) 3).trans rfl) (fun hHeld => ?_)
                  refine pure_ (i := 0) (N := some 69) (v := ?_) (a' := ?_) #[true, false, false, false, false, false, false, false, false, false, false, false] rfl rfl (by kernel_rfl) (fun _ _ _ h => put_panic (by decide) h) (Or.inl ⟨by rfl, ?_⟩) ?_ ?_
                  rotate_left
                  ·intro w'
                   go_simp
                   with_reducible rfl
                  rotate_left
                  ·simp only [Act.put, z1, z2, z3, i64_w, i32_w]
                   rfl
                  refine pure_ (i := 2) (N := some 71) (v := ?_) (a' := ?_) #[true, false, true, false, false, false, false, false, false, false, false, false] rfl rfl (by kernel_rfl) (fun _ _ _ h => put_panic (by decide) h) (Or.inl ⟨by rfl, ?_⟩) ?_ ?_
                  rotate_left
                  ·intro w'
                   go_simp
                   with_reducible rfl
                  rotate_left
                  ·simp only [Act.put, z1, z2, z3, i64_w, i32_w]
                   rfl
                  refine pure_ (i := 3) (N := some 72) (v := ?_) (a' := ?_) #[true, false, true, true, false, false, false, false, false, false, false, false] rfl rfl (by kernel_rfl) (fun _ _ _ h => put_panic (by decide) h) (Or.inl ⟨by rfl, ?_⟩) ?_ ?_
                  rotate_left
                  ·intro w'
                   go_simp
                   with_reducible rfl
                  rotate_left
                  ·simp only [Act.put, z1, z2, z3, i64_w, i32_w]
                   rfl
                  refine pure_ (i := 4) (N := some 73) (v := ?_) (a' := ?_) #[true, false, true, true, true, false, false, false, false, false, false, false] rfl rfl (by kernel_rfl) (fun _ _ _ h => put_panic (by decide) h) (Or.inl ⟨by rfl, ?_⟩) ?_ ?_
                  rotate_left
                  ·intro w'
                   go_simp
                   with_reducible rfl
                  rotate_left
                  ·simp only [Act.put, z1, z2, z3, i64_w, i32_w]
                   rfl
                  refine pure_ (i := 5) (N := some 74) (v := ?_) (a' := ?_) #[true, false, true, true, true, true, false, false, false, false, false, false] rfl rfl (by kernel_rfl) (fun _ _ _ h => put_panic (by decide) h) (Or.inl ⟨by rfl, ?_⟩) ?_ ?_
                  rotate_left
                  ·intro w'
                   go_simp
                   with_reducible rfl
                  rotate_left
                  ·simp only [Act.put, z1, z2, z3, i64_w, i32_w]
                   rfl
                  refine take_ (i := 1) (N := some 70) (v := ?_) (a' := ?_) #[true, true, true, true, true, true, false, false, false, false, false, false] rfl rfl (by kernel_rfl) (fun _ _ _ h => put_panic (by decide) h) (Or.inl ⟨by rfl, ?_⟩) hHeld ?_ ?_
                  rotate_left
                  ·intro w' s0
                   go_simp
                   with_reducible rfl
                  rotate_left
                  ·simp only [Act.put, z1, z2, z3, i64_w, i32_w]
                   rfl
                  refine one_ (i := 6) (N := some 75) #[true, true, true, true, true, true, true, false, false, false, false, false] rfl rfl (by kernel_rfl) (by decide) (fun K hK => ?_)
                  refine goesP_ Tryd.func58 (by kernel_rfl) rfl #[.pointer (some ⟨w.heap.size + 1 + 1, 0, none⟩)] (by rfl) rfl rfl (by (try simp only [z9, List.map_cons, List.map_nil]); rfl) ?_
                  refine (K4.out v3.drew (zI HI3.out) (below_drew HH3.out.below)).mono ?_
                  rintro e vb ⟨rfl, hb, hk⟩
                  exact .inr ⟨_, rfl, bad_held _ (HH3.out.next (zD (Below.refl _ _))) (zI HI3.out) hb hk rfl rfl rfl RN.out⟩
                 | some a4 =>
                  obtain ⟨x4, q4⟩ := a4
                  rw [e4] at K4
                  have hq4 := (wideA_ok e4).2.1
                  have RX := z4 (show readA s = ((manyA (relA s) (m - (k + 1)) q4).map fun y => ((acc ++ [(⟨x1, x2, x3, x4⟩ : S116)]) ++ y.1, y.2)).bind (rd3 s code data syms) by rw [RS.out, many_step (x := (⟨x1, x2, x3, x4⟩ : S116)) (p' := q4) (bad := false) (by simp [relA, e1, e2, e3, e4])]; rfl)
                  clear RS RD e1 e2 e3 e4
                  go_wp2_with (first | (go_at_call 57; refine (K1.out _ HI.out HH.out.below).mono ?_; rintro e v1 ⟨⟨rfl, hi⟩, hb, hk⟩; have HH1 := z4 (HH.out.step HI.out (by omega) (by omega) hb hk); have HI1 := z4 hi; clear hi hb hk) | (go_at_call 60; refine (K2.out _ HI1.out HH1.out.below).mono ?_; rintro e v2 ⟨⟨rfl, hi⟩, hb, hk⟩; have HH2 := z4 (HH1.out.step HI1.out (by omega) (by omega) hb hk); have HI2 := z4 hi; clear hi hb hk) | (go_at_call 59; refine (K3.out _ HI2.out HH2.out.below).mono ?_; rintro e v3 ⟨⟨rfl, hi⟩, hb, hk⟩; have HH3 := z4 (HH2.out.step HI2.out (by omega) (by omega) hb hk); have HI3 := z4 hi; clear hi hb hk))
                  refine start_ (n := 12) (S := fun w' => w'.cell? ⟨w.heap.size, 3, none⟩ = some (.slice A1 acc.length c1)) (ds := [11]) #[false, false, false, false, false, false, false, false, false, false, false, false] (by kernel_rfl) rfl rfl ((zC (zI HH3.out.obj) 3).trans rfl) (fun hHeld => ?_)
                  refine pure_ (i := 0) (N := some 69) (v := ?_) (a' := ?_) #[true, false, false, false, false, false, false, false, false, false, false, false] rfl rfl (by kernel_rfl) (fun _ _ _ h => put_panic (by decide) h) (Or.inl ⟨by rfl, ?_⟩) ?_ ?_
                  rotate_left
                  ·intro w'
                   go_simp
                   with_reducible rfl
                  rotate_left
                  ·simp only [Act.put, z1, z2, z3, i64_w, i32_w]
                   rfl
                  refine pure_ (i := 2) (N := some 71) (v := ?_) (a' := ?_) #[true, false, true, false, false, false, false, false, false, false, false, false] rfl rfl (by kernel_rfl) (fun _ _ _ h => put_panic (by decide) h) (Or.inl ⟨by rfl, ?_⟩) ?_ ?_
                  rotate_left
                  ·intro w'
                   go_simp
                   with_reducible rfl
                  rotate_left
                  ·simp only [Act.put, z1, z2, z3, i64_w, i32_w]
                   rfl
                  refine pure_ (i := 3) (N := some 72) (v := ?_) (a' := ?_) #[true, false, true, true, false, false, false, false, false, false, false, false] rfl rfl (by kernel_rfl) (fun _ _ _ h => put_panic (by decide) h) (Or.inl ⟨by rfl, ?_⟩) ?_ ?_
                  rotate_left
                  ·intro w'
                   go_simp
                   with_reducible rfl
                  rotate_left
                  ·simp only [Act.put, z1, z2, z3, i64_w, i32_w]
                   rfl
                  refine pure_ (i := 4) (N := some 73) (v := ?_) (a' := ?_) #[true, false, true, true, true, false, false, false, false, false, false, false] rfl rfl (by kernel_rfl) (fun _ _ _ h => put_panic (by decide) h) (Or.inl ⟨by rfl, ?_⟩) ?_ ?_
                  rotate_left
                  ·intro w'
                   go_simp
                   with_reducible rfl
                  rotate_left
                  ·simp only [Act.put, z1, z2, z3, i64_w, i32_w]
                   rfl
                  refine pure_ (i := 5) (N := some 74) (v := ?_) (a' := ?_) #[true, false, true, true, true, true, false, false, false, false, false, false] rfl rfl (by kernel_rfl) (fun _ _ _ h => put_panic (by decide) h) (Or.inl ⟨by rfl, ?_⟩) ?_ ?_
                  rotate_left
                  ·intro w'
                   go_simp
                   with_reducible rfl
                  rotate_left
                  ·simp only [Act.put, z1, z2, z3, i64_w, i32_w]
                   rfl
                  refine take_ (i := 1) (N := some 70) (v := ?_) (a' := ?_) #[true, true, true, true, true, true, false, false, false, false, false, false] rfl rfl (by kernel_rfl) (fun _ _ _ h => put_panic (by decide) h) (Or.inl ⟨by rfl, ?_⟩) hHeld ?_ ?_
                  rotate_left
                  ·intro w' s0
                   go_simp
                   with_reducible rfl
                  rotate_left
                  ·simp only [Act.put, z1, z2, z3, i64_w, i32_w]
                   rfl
                  refine one_ (i := 6) (N := some 75) #[true, true, true, true, true, true, true, false, false, false, false, false] rfl rfl (by kernel_rfl) (by decide) (fun K hK => ?_)
                  refine goesP_ Tryd.func58 (by kernel_rfl) rfl #[.pointer (some ⟨w.heap.size + 1 + 1, 0, none⟩)] (by rfl) rfl rfl (by (try simp only [z9, List.map_cons, List.map_nil]); rfl) ?_
                  refine (K4.out v3.drew (zI HI3.out) (below_drew HH3.out.below)).mono ?_
                  rintro e vb ⟨⟨rfl, hi⟩, hb, hk⟩
                  refine .inl ⟨_, rfl, ?_⟩
                  have HHb := z4 ((HH3.out.next (zD (Below.refl _ _))).step (zI HI3.out) (by omega) (by omega) hb hk)
                  have HIb := z4 hi
                  clear hi hb hk
                  refine hK.out _ _ ((zC (HHb.out.obj) 3).trans rfl) (fun hHeld => ?_)
                  clear hK K
                  refine norm_ (a' := ?_) ?_ ?_
                  rotate_left
                  ·show Act.put _ (some 75) _ = _
                   simp only [Act.put, z1, z2, z3, i64_w, i32_w]
                   rfl
                  refine pure_ (i := 7) (N := some 76) (v := ?_) (a' := ?_) #[true, true, true, true, true, true, true, true, false, false, false, false] rfl rfl (by kernel_rfl) (fun _ _ _ h => put_panic (by decide) h) (Or.inl ⟨by rfl, ?_⟩) ?_ ?_
                  rotate_left
                  ·intro w'
                   go_simp
                   with_reducible rfl
                  rotate_left
                  ·simp only [Act.put, z1, z2, z3, i64_w, i32_w]
                   rfl
                  refine one_ (i := 8) (N := some 77) #[true, true, true, true, true, true, true, true, true, false, false, false] rfl rfl (by kernel_rfl) (by decide) (fun K hK => ?_)
                  refine value_ (w1 := vb.alloc (.cells #[.int .i64 x1, .int .i64 x2, .string x3, .int .i64 x4] 116)) (v := .slice (some ⟨vb.heap.size, 0, none⟩) 1 1) (by rfl) rfl ?_ ?_
                  ·go_simp
                  refine hK.out _ _ ((zC (zG HHb.out.obj _) 3).trans rfl) (fun hHeld => ?_)
                  clear hK K
                  refine norm_ (a' := ?_) ?_ ?_
                  rotate_left
                  ·show Act.put _ (some 77) _ = _
                   simp only [Act.put, z1, z2, z3, i64_w, i32_w]
                   rfl
                  refine one_ (i := 9) (N := some 78) #[true, true, true, true, true, true, true, true, true, true, false, false] rfl rfl (by kernel_rfl) (by decide) (fun K hK => ?_)
                  refine Kd.R_append_step k116 w.heap.size (by rfl) (.tmp 70) (.tmp 77) 72 116 (.agg #[.int .i64 0, .int .i64 0, .string ⟨#[]⟩, .int .i64 0]) 40 rfl Tryd.underlying72 info116 rfl (by decide) (by omega) (.slice A1 acc.length c1) acc ((⟨x1, x2, x3, x4⟩ : S116)) [.int .i64 x1, .int .i64 x2, .string x3, .int .i64 x4] (fun _ => True) (fun _ => False) rfl (by first | (go_simp; done) | (go_simp; rfl)) (k116_mkM _ _ _ ((⟨x1, x2, x3, x4⟩ : S116))) (fun _ hk => hk.elim) (fun _ _ => trivial) (R_all HHb.out.r3) HHb.out.below HHb.out.below.size (by have := HL.out; omega) ?_
                  intro v7 w7 ho hb hg hat
                  have HH7 := z4 (HHb.out.more3 ho hb hg)
                  have HI7 := z4 (show St66 w7 (w.heap.size + 1 + 1) s q4 from blk_grown HIb.out hg (Kd.R_ne HHb.out.r3 HIb.out (by decide)))
                  obtain ⟨A7, c7, rfl, -, -⟩ := Kd.R_reads ho
                  simp only [List.length_append, List.length_cons, List.length_nil, Nat.zero_add] at HH7
                  have cs7 : w7.cell? ⟨w.heap.size, 3, none⟩ = some (.slice A1 acc.length c1) := (zC HH7.out.obj 3).trans rfl
                  have fs7 := zF HH7.out.obj 3
                  clear ho hb hg hat
                  refine hK.out _ _ ((zC (HH7.out.obj) 3).trans rfl) (fun hHeld => ?_)
                  clear hK K
                  refine norm_ (a' := ?_) ?_ ?_
                  rotate_left
                  ·show Act.put _ (some 78) _ = _
                   simp only [Act.put, z1, z2, z3, i64_w, i32_w]
                   rfl
                  refine pure_ (i := 10) (N := some 79) (v := ?_) (a' := ?_) #[true, true, true, true, true, true, true, true, true, true, true, false] rfl rfl (by kernel_rfl) (fun _ _ _ h => put_panic (by decide) h) (Or.inl ⟨by rfl, ?_⟩) ?_ ?_
                  rotate_left
                  ·intro w'
                   go_simp
                   with_reducible rfl
                  rotate_left
                  ·simp only [Act.put, z1, z2, z3, i64_w, i32_w]
                   rfl
                  refine last_ (i := 11) (N := none) #[true, true, true, true, true, true, true, true, true, true, true, true] rfl rfl (by kernel_rfl) (by decide) (fun K hK => ?_)
                  refine skip_ (w1 := ?_) (by rfl) rfl ?_ ?_
                  rotate_left
                  ·go_simp
                   rfl
                  refine hK.out _ _ ?_
                  clear hK K
                  refine done_ (by kernel_rfl) ?_
                  go_wp2
                  go_roundw
                  case rel => exact ⟨k + 1, q4, .slice A7 (acc.length + 1) c7, acc ++ [(⟨x1, x2, x3, x4⟩ : S116)], hlt, by first | rfl | go_num, ⟨by have := HL.out; simp; omega⟩, hq4, ⟨blk_far HI7.out (by simp; omega) _⟩, ⟨(HH7.out.put 3 (.slice A7 (acc.length + 1) c7) rfl).up (HH7.out.put 3 (.slice A7 (acc.length + 1) c7) rfl).lt (Nat.le_refl _)⟩, RX⟩
                  case measure => simp [intOf]; omega
             case neg =>
              obtain rfl : k = m := by omega
              have RE := z4 (show readA s = rd3 s code data syms (acc, q) by rw [RD.out, Nat.sub_self]; simp [manyA])
              obtain ⟨AD, cD, rfl, -, -⟩ := Kd.R_reads HH.out.r1
              obtain ⟨AS, cS, rfl, -, -⟩ := Kd.R_reads HH.out.r2
              obtain ⟨A1, c1, rfl, -, -⟩ := Kd.R_reads HH.out.r3
              have cg1 : wr.cell? ⟨w.heap.size + 1 + 1, 1, none⟩ = some (.int .i64 q) := (zC HI.out 1).trans rfl
              have co0 : wr.cell? ⟨w.heap.size, 0, none⟩ = some (.string code) := (zC HH.out.obj 0).trans rfl; have fco0 := zF HH.out.obj 0; have co1 : wr.cell? ⟨w.heap.size, 1, none⟩ = some (.slice AD data.length cD) := (zC HH.out.obj 1).trans rfl; have fco1 := zF HH.out.obj 1; have co2 : wr.cell? ⟨w.heap.size, 2, none⟩ = some (.slice AS syms.length cS) := (zC HH.out.obj 2).trans rfl; have fco2 := zF HH.out.obj 2; have co3 : wr.cell? ⟨w.heap.size, 3, none⟩ = some (.slice A1 acc.length c1) := (zC HH.out.obj 3).trans rfl; have fco3 := zF HH.out.obj 3; have cox : wr.cell? ⟨w.heap.size + 1, 0, none⟩ = some (.int .i64 0) := (zC HH.out.more 0).trans rfl; have fcox := zF HH.out.more 0
              by_cases hqs : q = s.size
              case neg =>
               have RN := z4 (readF_none (s := s) (by rw [RE.out]; unfold rd3; rw [if_neg (fun h => hqs h.1)]))
               have hqi : ((q : Int) == (s.size : Int)) = false := z7 (fun h => hqs (by omega))
               go_wp2
               exact zero_end _ HH.out rfl rfl rfl RN.out
              case pos =>
               subst hqs
               have z1 := z4 (zT HH.out.r1)
               have z2 := z4 (zT HH.out.r2)
               have z3 := z4 (zT HH.out.r3)
               have hl := HL.out
               have CK := z4 (check_f code data syms acc (by omega) (2 * acc.length + 2) (by omega))
               clear hl HL
               cases hmay : may code data syms acc
               case false =>
                have RN := z4 (readF_none (s := s) (by rw [RE.out]; unfold rd3; rw [if_neg (fun h => by rw [hmay] at h; cases h.2)]))
                rw [hmay, if_neg (by simp)] at CK
                go_wp2_with (first | (go_at_call 31; (with_reducible refine (objf_Check.calls (2 * acc.length + 2) code AD cD data AS cS syms A1 c1 acc 1 _ z1.out.2.2 z1.out.2.1 z2.out.2.2 z2.out.2.1 z3.out.2.2 z3.out.2.1 CK.out).mono ?_); rintro e w2 ⟨rfl, hb⟩; have HH2 := z4 (HH.out.next hb); clear hb; have cz0 : w2.cell? ⟨w.heap.size, 0, none⟩ = some (.string code) := (zC HH2.out.obj 0).trans rfl; have fcz0 := zF HH2.out.obj 0; have cz1 : w2.cell? ⟨w.heap.size, 1, none⟩ = some (.slice AD data.length cD) := (zC HH2.out.obj 1).trans rfl; have fcz1 := zF HH2.out.obj 1; have cz2 : w2.cell? ⟨w.heap.size, 2, none⟩ = some (.slice AS syms.length cS) := (zC HH2.out.obj 2).trans rfl; have fcz2 := zF HH2.out.obj 2; have cz3 : w2.cell? ⟨w.heap.size, 3, none⟩ = some (.slice A1 acc.length c1) := (zC HH2.out.obj 3).trans rfl; have fcz3 := zF HH2.out.obj 3; have czx : w2.cell? ⟨w.heap.size + 1, 0, none⟩ = some (.int .i64 0) := (zC HH2.out.more 0).trans rfl; have fczx := zF HH2.out.more 0))
                exact zero_end _ HH2.out rfl rfl rfl RN.out
               case true =>
                have RN := z4 (readF_some (s := s) (by rw [RE.out]; unfold rd3; rw [if_pos ⟨rfl, hmay⟩]))
                rw [hmay, if_pos rfl] at CK
                go_wp2_with (first | (go_at_call 31; (with_reducible refine (objf_Check.calls (2 * acc.length + 2) code AD cD data AS cS syms A1 c1 acc 0 _ z1.out.2.2 z1.out.2.1 z2.out.2.2 z2.out.2.1 z3.out.2.2 z3.out.2.1 CK.out).mono ?_); rintro e w2 ⟨rfl, hb⟩; have HH2 := z4 (HH.out.next hb); clear hb; have cz0 : w2.cell? ⟨w.heap.size, 0, none⟩ = some (.string code) := (zC HH2.out.obj 0).trans rfl; have fcz0 := zF HH2.out.obj 0; have cz1 : w2.cell? ⟨w.heap.size, 1, none⟩ = some (.slice AD data.length cD) := (zC HH2.out.obj 1).trans rfl; have fcz1 := zF HH2.out.obj 1; have cz2 : w2.cell? ⟨w.heap.size, 2, none⟩ = some (.slice AS syms.length cS) := (zC HH2.out.obj 2).trans rfl; have fcz2 := zF HH2.out.obj 2; have cz3 : w2.cell? ⟨w.heap.size, 3, none⟩ = some (.slice A1 acc.length c1) := (zC HH2.out.obj 3).trans rfl; have fcz3 := zF HH2.out.obj 3; have czx : w2.cell? ⟨w.heap.size + 1, 0, none⟩ = some (.int .i64 0) := (zC HH2.out.more 0).trans rfl; have fczx := zF HH2.out.more 0))
                exact ok_end _ HH2.out rfl rfl rfl RN.out
end Go.Proofs.YtimhcpmfhebbhaaDoor.M
namespace Go.Proofs.YtimhcpmfhebbhaaDoor.M
set_option maxRecDepth 100000
open Go.RowKit Go.Proofs.YtimhcpmfhebbhaaDoorW.PrintWords Go.Proofs.YtimhcpmfhebbhaaDoorW.PrintLast Go.Proofs.YtimhcpmfhebbhaaDoor.Num Go.Proofs.YtimhcpmfhebbhaaDoor.Seven Go.Proofs.YtimhcpmfhebbhaaDoor.Word1 Go.Proofs.YtimhcpmfhebbhaaDoor.Obj
set_option linter.unusedVariables false
set_option linter.unusedSimpArgs false
abbrev IMG1s : ByteArray := ⟨#[73, 77, 71, 49]⟩
def objText (s : ByteArray) : ByteArray := COT1s ++ s.extract 4 s.size ++ ⟨#[0]⟩
def imgZ : ByteArray × List Int × List S68 × Int := (⟨#[]⟩, [], [], 9)
/-- What image.Read tells of a text. -/
def imgQ (s : ByteArray) : ByteArray × List Int × List S68 × Int :=
 if 4 ≤ s.size ∧ (s.extract 0 4).toList = [73, 77, 71, 49] then (match readA (objText s) with
  | none => imgZ
  | some r => if mayI r.1 r.2.1 r.2.2.1 = true ∧ r.2.2.2 = [] then (r.1, r.2.1, r.2.2.1, 0) else imgZ) else imgZ
def Post8 (R : ByteArray × List Int × List S68 × Int) (w : World) (e : Ending) (w' : World) : Prop := ∃ v1_ v2_ : Value, e = .returned (.tuple #[.agg #[.string R.1, v1_, v2_], .int .i64 R.2.2.2]) ∧ Kd.R (Kd.int .i64) 2 w' w.heap.size (fun _ => True) v1_ R.2.1 ∧ Kd.R k68 68 w' w.heap.size (fun _ => True) v2_ R.2.2.1 ∧ Below w.heap.size w w'
theorem rz_end {w W : World} {a : Act} (hB : Below w.heap.size w W) (hb : W.heap[w.heap.size]? = some (.cells #[.string ⟨#[]⟩, .slice none 0 0, .slice none 0 0] 25 (0, 0))) (t2 : a.tmps.getD 2 undef = .pointer (some ⟨w.heap.size, 0, none⟩)) (t3 : a.tmps.getD 3 undef = .int .i64 9) (hd : a.defers = []) : bodyPost Tryd.prog Tryd.f17 (Post8 imgZ w) Exit.ret a W := by
 refine bodyPost_ret (results_ct rfl _ _ w.heap.size 25 #[.string ⟨#[]⟩, .slice none 0 0, .slice none 0 0] (0, 0) _ t2 hb Tryd.underlying25 rfl (by kernel_rfl)) hd ?_
 rw [t3]
 exact ⟨.slice none 0 0, .slice none 0 0, rfl, Kd.R_nil _ _ _ _ _, Kd.R_nil _ _ _ _ _, hB⟩
set_option maxHeartbeats 8000000 in
set_option maxRecDepth 100000 in
theorem iread_a (s : ByteArray) (w : World) (h4 : s.size < 4) : Calls Tryd.prog 17 #[.string s] w (Post8 imgZ w) := by
 have B0 := z4 (blk_new w (.cells #[.string ⟨#[]⟩, .slice none 0 0, .slice none 0 0] 25))
 have HB := z4 (zA (Below.refl w.heap.size w) (.cells #[.string ⟨#[]⟩, .slice none 0 0, .slice none 0 0] 25))
 have hl : ((s.size : Int) < 4) := by omega
 go_enter Tryd.func17, Tryd.ntmps17
 go_wp2
 exact rz_end HB.out B0.out rfl rfl rfl
set_option maxHeartbeats 8000000 in
set_option maxRecDepth 100000 in
theorem iread_b (s : ByteArray) (w : World) (h4 : 4 ≤ s.size) (hp : ¬ (s.extract 0 4).toList = [73, 77, 71, 49]) : Calls Tryd.prog 17 #[.string s] w (Post8 imgZ w) := by
 have B0 := z4 (blk_new w (.cells #[.string ⟨#[]⟩, .slice none 0 0, .slice none 0 0] 25))
 have HB := z4 (zA (Below.refl w.heap.size w) (.cells #[.string ⟨#[]⟩, .slice none 0 0, .slice none 0 0] 25))
 have hl : ¬ ((s.size : Int) < 4) := by omega
 have hq : ((s.extract 0 4).toList == [73, 77, 71, 49]) = false := z7 hp
 clear hp
 go_enter Tryd.func17, Tryd.ntmps17
 go_wp2
 exact rz_end HB.out B0.out rfl rfl rfl
theorem R_put3 {α : Type} {k : Kd α} {e : Nat} {W : World} {B : Nat} {v : Value} {l : List α} (h : k.R e W (B + 1) (fun _ => True) v l) (u0 u1 u2 : Value) : k.R e (((W.setCell ⟨B, 0, none⟩ u0).setCell ⟨B, 1, none⟩ u1).setCell ⟨B, 2, none⟩ u2) B (fun _ => True) v l := by
 have hb := Kd.R_mono (ok' := fun k => B + 1 ≤ k) (Kd.R_bound h) (fun k hk => hk.2.1)
 exact Kd.R_mono (zU (Kd.R_far (Kd.R_far (Kd.R_far hb (fun k hk => by have : B + 1 ≤ k := hk; simp; omega) u0) (fun k hk => by have : B + 1 ≤ k := hk; simp; omega) u1) (fun k hk => by have : B + 1 ≤ k := hk; simp; omega) u2) (by omega)) (fun _ _ => trivial)
theorem blk_put3 {W : World} {B t : Nat} {c0 c1 c2 : Value} (h : W.heap[B]? = some (.cells #[c0, c1, c2] t (0, 0))) (u0 u1 u2 : Value) : (((W.setCell ⟨B, 0, none⟩ u0).setCell ⟨B, 1, none⟩ u1).setCell ⟨B, 2, none⟩ u2).heap[B]? = some (.cells #[u0, u1, u2] t (0, 0)) :=
 blk_put (cs' := #[u0, u1, u2]) (blk_put (cs' := #[u0, u1, c2]) (blk_put (cs' := #[u0, c1, c2]) h 0 u0 rfl) 1 u1 rfl) 2 u2 rfl
theorem below_put3 {w W : World} {B : Nat} (h : Below w.heap.size w W) (hB : w.heap.size ≤ B) (u0 u1 u2 : Value) : Below w.heap.size w (((W.setCell ⟨B, 0, none⟩ u0).setCell ⟨B, 1, none⟩ u1).setCell ⟨B, 2, none⟩ u2) := zJ (zJ (zJ h hB) hB) hB
set_option maxHeartbeats 8000000 in
set_option maxRecDepth 100000 in
/-- The object cannot be read. -/
theorem iread_c (s : ByteArray) (w : World) (h4 : 4 ≤ s.size) (hs : s.size ≤ 140737488355328) (hp : (s.extract 0 4).toList = [73, 77, 71, 49]) (hA : readA (objText s) = none) : Calls Tryd.prog 17 #[.string s] w (Post8 imgZ w) := by
 have hl : ¬ ((s.size : Int) < 4) := by omega
 have hq : ((s.extract 0 4).toList == [73, 77, 71, 49]) = true := z5 hp
 have z1 : (s.extract 4 s.size).size = s.size - 4 := by rw [ByteArray.size_extract]; omega
 have z2 : (objText s).size ≤ 281474976710656 := by unfold objText; rw [ByteArray.size_append, ByteArray.size_append, z1]; show 4 + (s.size - 4) + 1 ≤ _; omega
 have hF : readF (objText s) = (⟨#[]⟩, [], [], [], 9) := by unfold readF; rw [hA]
 have B0 := z4 (blk_new w (.cells #[.string ⟨#[]⟩, .slice none 0 0, .slice none 0 0] 25))
 have HB := z4 (zA (Below.refl w.heap.size w) (.cells #[.string ⟨#[]⟩, .slice none 0 0, .slice none 0 0] 25))
 have OC := z4 (show ∀ W : World, Calls Tryd.prog 36 #[.string (COT1s ++ s.extract 4 s.size ++ ⟨#[0]⟩)] W fun e w' => ∃ (A1 A2 A3 : Option Addr) (n1 n2 n3 c1 c2 c3 : Nat), e = .returned (.tuple #[.agg #[.string ⟨#[]⟩, .slice A1 n1 c1, .slice A2 n2 c2, .slice A3 n3 c3], .int .i64 9]) ∧ Below W.heap.size W w' from fun W => (objf_Read.calls_ (objText s) z2 W).mono (by
  rintro e w' ⟨v1, v2, v3, h1, h2, h3, h4, h5⟩
  rw [hF] at h1
  obtain ⟨A1, c1, rfl⟩ := Kd.R_slice h2
  obtain ⟨A2, c2, rfl⟩ := Kd.R_slice h3
  obtain ⟨A3, c3, rfl⟩ := Kd.R_slice h4
  exact ⟨A1, A2, A3, _, _, _, c1, c2, c3, h1, h5⟩))
 clear hp z2 hF hA
 go_enter Tryd.func17, Tryd.ntmps17
 go_wp2_with (first | (go_at_call 36; (with_reducible refine (OC.out _).mono ?_); rintro e w3 ⟨A1, A2, A3, n1, n2, n3, c1, c2, c3, rfl, hb⟩; have HB3 := z4 (zA (below_inL HB.out hb) (.cells #[.string ⟨#[]⟩, .slice A1 n1 c1, .slice A2 n2 c2, .slice A3 n3 c3] 74)); have B3 := z4 (zG (blk_below B0.out hb) (.cells #[.string ⟨#[]⟩, .slice A1 n1 c1, .slice A2 n2 c2, .slice A3 n3 c3] 74)); clear hb; have hz0 : (w3.alloc (.cells #[.string ⟨#[]⟩, .slice A1 n1 c1, .slice A2 n2 c2, .slice A3 n3 c3] 74)).cell? ⟨w.heap.size, 0, none⟩ = some (.string ⟨#[]⟩) := (zC B3.out 0).trans rfl; have fhz0 : (w3.alloc (.cells #[.string ⟨#[]⟩, .slice A1 n1 c1, .slice A2 n2 c2, .slice A3 n3 c3] 74)).frozen? ⟨w.heap.size, 0, none⟩ = false := zF B3.out 0; have hz1 : (w3.alloc (.cells #[.string ⟨#[]⟩, .slice A1 n1 c1, .slice A2 n2 c2, .slice A3 n3 c3] 74)).cell? ⟨w.heap.size, 1, none⟩ = some (.slice none 0 0) := (zC B3.out 1).trans rfl; have fhz1 : (w3.alloc (.cells #[.string ⟨#[]⟩, .slice A1 n1 c1, .slice A2 n2 c2, .slice A3 n3 c3] 74)).frozen? ⟨w.heap.size, 1, none⟩ = false := zF B3.out 1; have hz2 : (w3.alloc (.cells #[.string ⟨#[]⟩, .slice A1 n1 c1, .slice A2 n2 c2, .slice A3 n3 c3] 74)).cell? ⟨w.heap.size, 2, none⟩ = some (.slice none 0 0) := (zC B3.out 2).trans rfl; have fhz2 : (w3.alloc (.cells #[.string ⟨#[]⟩, .slice A1 n1 c1, .slice A2 n2 c2, .slice A3 n3 c3] 74)).frozen? ⟨w.heap.size, 2, none⟩ = false := zF B3.out 2))
 exact rz_end (below_put3 HB3.out (Nat.le_refl _) _ _ _) (blk_put3 B3.out _ _ _) rfl rfl rfl
set_option maxHeartbeats 16000000 in
set_option maxRecDepth 100000 in
/-- The object is read. -/
theorem iread_d (s : ByteArray) (w : World) (hG : Glob w) (h4 : 4 ≤ s.size) (hs : s.size ≤ 140737488355328) (hp : (s.extract 0 4).toList = [73, 77, 71, 49]) {x0 : ByteArray} {d : List Int} {y : List S68} {r : List S116} (hA : readA (objText s) = some (x0, d, y, r)) : Calls Tryd.prog 17 #[.string s] w (Post8 (if mayI x0 d y = true ∧ r = [] then (x0, d, y, 0) else imgZ) w) := by
 have hl : ¬ ((s.size : Int) < 4) := by omega
 have hq : ((s.extract 0 4).toList == [73, 77, 71, 49]) = true := z5 hp
 have z1 : (s.extract 4 s.size).size = s.size - 4 := by rw [ByteArray.size_extract]; omega
 have z2 : (objText s).size ≤ 281474976710656 := by unfold objText; rw [ByteArray.size_append, ByteArray.size_append, z1]; show 4 + (s.size - 4) + 1 ≤ _; omega
 have hF : readF (objText s) = (x0, d, y, r, 0) := by unfold readF; rw [hA]
 have B0 := z4 (blk_new w (.cells #[.string ⟨#[]⟩, .slice none 0 0, .slice none 0 0] 25))
 have HB := z4 (zA (Below.refl w.heap.size w) (.cells #[.string ⟨#[]⟩, .slice none 0 0, .slice none 0 0] 25))
 have HG := z4 hG
 have OC := z4 (show ∀ W : World, Calls Tryd.prog 36 #[.string (COT1s ++ s.extract 4 s.size ++ ⟨#[0]⟩)] W fun e w' => ∃ (A1 A2 A3 : Option Addr) (c1 c2 c3 : Nat), e = .returned (.tuple #[.agg #[.string x0, .slice A1 d.length c1, .slice A2 y.length c2, .slice A3 r.length c3], .int .i64 0]) ∧ d.length ≤ c1 ∧ y.length ≤ c2 ∧ Kd.R (Kd.int .i64) 2 w' W.heap.size (fun _ => True) (.slice A1 d.length c1) d ∧ Kd.R k68 68 w' W.heap.size (fun _ => True) (.slice A2 y.length c2) y ∧ Below W.heap.size W w' from fun W => (objf_Read.calls_ (objText s) z2 W).mono (by
  rintro e w' ⟨v1, v2, v3, h1, h2, h3, h4, h5⟩
  rw [hF] at h1 h2 h3 h4
  obtain ⟨A1, c1, rfl⟩ := Kd.R_slice h2
  obtain ⟨A2, c2, rfl⟩ := Kd.R_slice h3
  obtain ⟨A3, c3, rfl⟩ := Kd.R_slice h4
  exact ⟨A1, A2, A3, c1, c2, c3, h1, (zT h2).2.1, (zT h3).2.1, h2, h3, h5⟩))
 have CK := z4 (fun (W : World) (h : Glob W) (A1 : Option Addr) (c1 : Nat) (A2 : Option Addr) (c2 : Nat) (g1 : Kd.C (Kd.int .i64) W A1 d.length d) (g2 : d.length ≤ c1) (g3 : Kd.C k68 W A2 y.length y) (g4 : y.length ≤ c2) => image_Check_c x0 A1 c1 d A2 c2 y h g1 g2 g3 g4)
 have hw1 : (w.alloc (.cells #[.string ⟨#[]⟩, .slice none 0 0, .slice none 0 0] 25)).heap.size = w.heap.size + 1 := by simp
 have HW1 := z4 hw1
 clear hp z2 hF hA hG hw1
 by_cases hm : mayI x0 d y = true
 case neg =>
  rw [if_neg (fun h => hm h.1)]
  simp only [if_neg hm] at CK
  clear hm
  go_enter Tryd.func17, Tryd.ntmps17
  go_wp2_with (first | (go_at_call 36; (with_reducible refine (OC.out _).mono ?_); rintro e w3 ⟨A1, A2, A3, c1, c2, c3, rfl, hc1, hc2, h1, h2, hb⟩; have HB3 := z4 (below_inL HB.out hb); have B3 := z4 (zG (zG (blk_below B0.out hb) (.cells #[.string x0, .slice A1 d.length c1, .slice A2 y.length c2, .slice A3 r.length c3] 74)) (.cells #[.string x0, .slice A1 d.length c1, .slice A2 y.length c2] 25)); have B4 := z4 (blk_new w3 (.cells #[.string x0, .slice A1 d.length c1, .slice A2 y.length c2, .slice A3 r.length c3] 74)); have hs3 : (w3.alloc (.cells #[.string x0, .slice A1 d.length c1, .slice A2 y.length c2, .slice A3 r.length c3] 74)).heap.size = w3.heap.size + 1 := (by simp); have B5 := z4 (hs3 ▸ blk_new (w3.alloc (.cells #[.string x0, .slice A1 d.length c1, .slice A2 y.length c2, .slice A3 r.length c3] 74)) (.cells #[.string x0, .slice A1 d.length c1, .slice A2 y.length c2] 25)); have B4' := z4 (zG B4.out (.cells #[.string x0, .slice A1 d.length c1, .slice A2 y.length c2] 25)); have H1 := z4 h1; have H2 := z4 h2; have HC1 := z4 hc1; have HC2 := z4 hc2; have GB := z4 (HG.out.below (zA (zA HB3.out (.cells #[.string x0, .slice A1 d.length c1, .slice A2 y.length c2, .slice A3 r.length c3] 74)) (.cells #[.string x0, .slice A1 d.length c1, .slice A2 y.length c2] 25)) rfl); have HBB := z4 (zA (zA HB3.out (.cells #[.string x0, .slice A1 d.length c1, .slice A2 y.length c2, .slice A3 r.length c3] 74)) (.cells #[.string x0, .slice A1 d.length c1, .slice A2 y.length c2] 25)); clear hb h1 h2 hc1 hc2 hs3; have hy0 : (w3.alloc (.cells #[.string x0, .slice A1 d.length c1, .slice A2 y.length c2, .slice A3 r.length c3] 74)).cell? ⟨w3.heap.size, 0, none⟩ = some (.string x0) := (zC B4.out 0).trans rfl; have hy1 : (w3.alloc (.cells #[.string x0, .slice A1 d.length c1, .slice A2 y.length c2, .slice A3 r.length c3] 74)).cell? ⟨w3.heap.size, 1, none⟩ = some (.slice A1 d.length c1) := (zC B4.out 1).trans rfl; have hy2 : (w3.alloc (.cells #[.string x0, .slice A1 d.length c1, .slice A2 y.length c2, .slice A3 r.length c3] 74)).cell? ⟨w3.heap.size, 2, none⟩ = some (.slice A2 y.length c2) := (zC B4.out 2).trans rfl; have hw0 : ((w3.alloc (.cells #[.string x0, .slice A1 d.length c1, .slice A2 y.length c2, .slice A3 r.length c3] 74)).alloc (.cells #[.string x0, .slice A1 d.length c1, .slice A2 y.length c2] 25)).cell? ⟨w3.heap.size + 1, 0, none⟩ = some (.string x0) := (zC B5.out 0).trans rfl; have hw1 : ((w3.alloc (.cells #[.string x0, .slice A1 d.length c1, .slice A2 y.length c2, .slice A3 r.length c3] 74)).alloc (.cells #[.string x0, .slice A1 d.length c1, .slice A2 y.length c2] 25)).cell? ⟨w3.heap.size + 1, 1, none⟩ = some (.slice A1 d.length c1) := (zC B5.out 1).trans rfl; have hw2 : ((w3.alloc (.cells #[.string x0, .slice A1 d.length c1, .slice A2 y.length c2, .slice A3 r.length c3] 74)).alloc (.cells #[.string x0, .slice A1 d.length c1, .slice A2 y.length c2] 25)).cell? ⟨w3.heap.size + 1, 2, none⟩ = some (.slice A2 y.length c2) := (zC B5.out 2).trans rfl) | (go_at_call 14; (with_reducible refine (CK.out _ GB.out A1 c1 A2 c2 (zP (zP (zT H1.out).2.2 _) _) HC1.out (zP (zP (zT H2.out).2.2 _) _) HC2.out).mono ?_); rintro e w6 ⟨rfl, hb⟩; have HB6 := z4 (below_inL HBB.out hb); have B6 := z4 (blk_below B3.out hb); have O6 := z4 (blk_below B4'.out hb); have I6 := z4 (blk_below B5.out hb); have R1 := z4 (zV (zM (zM H1.out _) _) hb); have R2 := z4 (zV (zM (zM H2.out _) _) hb); clear hb; have hz0 : (w6).cell? ⟨w.heap.size, 0, none⟩ = some (.string ⟨#[]⟩) := (zC B6.out 0).trans rfl; have fhz0 : (w6).frozen? ⟨w.heap.size, 0, none⟩ = false := zF B6.out 0; have hz1 : (w6).cell? ⟨w.heap.size, 1, none⟩ = some (.slice none 0 0) := (zC B6.out 1).trans rfl; have fhz1 : (w6).frozen? ⟨w.heap.size, 1, none⟩ = false := zF B6.out 1; have hz2 : (w6).cell? ⟨w.heap.size, 2, none⟩ = some (.slice none 0 0) := (zC B6.out 2).trans rfl; have fhz2 : (w6).frozen? ⟨w.heap.size, 2, none⟩ = false := zF B6.out 2; have ho3 : w6.cell? ⟨w3.heap.size, 3, none⟩ = some (.slice A3 r.length c3) := (zC O6.out 3).trans rfl; have hi0 : (w6).cell? ⟨w3.heap.size + 1, 0, none⟩ = some (.string x0) := (zC I6.out 0).trans rfl; have hi1 : (w6).cell? ⟨w3.heap.size + 1, 1, none⟩ = some (.slice A1 d.length c1) := (zC I6.out 1).trans rfl; have hi2 : (w6).cell? ⟨w3.heap.size + 1, 2, none⟩ = some (.slice A2 y.length c2) := (zC I6.out 2).trans rfl))
  exact rz_end (below_put3 HB6.out (Nat.le_refl _) _ _ _) (blk_put3 B6.out _ _ _) rfl rfl rfl
 case pos =>
  simp only [if_pos hm] at CK
  by_cases hr : r = []
  case neg =>
   rw [if_neg (fun h => hr h.2)]
   have hrl : (0 : Int) < (r.length : Int) := by
    cases r with
    | nil => exact absurd rfl hr
    | cons a l => simp
   clear hm hr
   go_enter Tryd.func17, Tryd.ntmps17
   go_wp2_with (first | (go_at_call 36; (with_reducible refine (OC.out _).mono ?_); rintro e w3 ⟨A1, A2, A3, c1, c2, c3, rfl, hc1, hc2, h1, h2, hb⟩; have HB3 := z4 (below_inL HB.out hb); have B3 := z4 (zG (zG (blk_below B0.out hb) (.cells #[.string x0, .slice A1 d.length c1, .slice A2 y.length c2, .slice A3 r.length c3] 74)) (.cells #[.string x0, .slice A1 d.length c1, .slice A2 y.length c2] 25)); have B4 := z4 (blk_new w3 (.cells #[.string x0, .slice A1 d.length c1, .slice A2 y.length c2, .slice A3 r.length c3] 74)); have hs3 : (w3.alloc (.cells #[.string x0, .slice A1 d.length c1, .slice A2 y.length c2, .slice A3 r.length c3] 74)).heap.size = w3.heap.size + 1 := (by simp); have B5 := z4 (hs3 ▸ blk_new (w3.alloc (.cells #[.string x0, .slice A1 d.length c1, .slice A2 y.length c2, .slice A3 r.length c3] 74)) (.cells #[.string x0, .slice A1 d.length c1, .slice A2 y.length c2] 25)); have B4' := z4 (zG B4.out (.cells #[.string x0, .slice A1 d.length c1, .slice A2 y.length c2] 25)); have H1 := z4 h1; have H2 := z4 h2; have HC1 := z4 hc1; have HC2 := z4 hc2; have GB := z4 (HG.out.below (zA (zA HB3.out (.cells #[.string x0, .slice A1 d.length c1, .slice A2 y.length c2, .slice A3 r.length c3] 74)) (.cells #[.string x0, .slice A1 d.length c1, .slice A2 y.length c2] 25)) rfl); have HBB := z4 (zA (zA HB3.out (.cells #[.string x0, .slice A1 d.length c1, .slice A2 y.length c2, .slice A3 r.length c3] 74)) (.cells #[.string x0, .slice A1 d.length c1, .slice A2 y.length c2] 25)); clear hb h1 h2 hc1 hc2 hs3; have hy0 : (w3.alloc (.cells #[.string x0, .slice A1 d.length c1, .slice A2 y.length c2, .slice A3 r.length c3] 74)).cell? ⟨w3.heap.size, 0, none⟩ = some (.string x0) := (zC B4.out 0).trans rfl; have hy1 : (w3.alloc (.cells #[.string x0, .slice A1 d.length c1, .slice A2 y.length c2, .slice A3 r.length c3] 74)).cell? ⟨w3.heap.size, 1, none⟩ = some (.slice A1 d.length c1) := (zC B4.out 1).trans rfl; have hy2 : (w3.alloc (.cells #[.string x0, .slice A1 d.length c1, .slice A2 y.length c2, .slice A3 r.length c3] 74)).cell? ⟨w3.heap.size, 2, none⟩ = some (.slice A2 y.length c2) := (zC B4.out 2).trans rfl; have hw0 : ((w3.alloc (.cells #[.string x0, .slice A1 d.length c1, .slice A2 y.length c2, .slice A3 r.length c3] 74)).alloc (.cells #[.string x0, .slice A1 d.length c1, .slice A2 y.length c2] 25)).cell? ⟨w3.heap.size + 1, 0, none⟩ = some (.string x0) := (zC B5.out 0).trans rfl; have hw1 : ((w3.alloc (.cells #[.string x0, .slice A1 d.length c1, .slice A2 y.length c2, .slice A3 r.length c3] 74)).alloc (.cells #[.string x0, .slice A1 d.length c1, .slice A2 y.length c2] 25)).cell? ⟨w3.heap.size + 1, 1, none⟩ = some (.slice A1 d.length c1) := (zC B5.out 1).trans rfl; have hw2 : ((w3.alloc (.cells #[.string x0, .slice A1 d.length c1, .slice A2 y.length c2, .slice A3 r.length c3] 74)).alloc (.cells #[.string x0, .slice A1 d.length c1, .slice A2 y.length c2] 25)).cell? ⟨w3.heap.size + 1, 2, none⟩ = some (.slice A2 y.length c2) := (zC B5.out 2).trans rfl) | (go_at_call 14; (with_reducible refine (CK.out _ GB.out A1 c1 A2 c2 (zP (zP (zT H1.out).2.2 _) _) HC1.out (zP (zP (zT H2.out).2.2 _) _) HC2.out).mono ?_); rintro e w6 ⟨rfl, hb⟩; have HB6 := z4 (below_inL HBB.out hb); have B6 := z4 (blk_below B3.out hb); have O6 := z4 (blk_below B4'.out hb); have I6 := z4 (blk_below B5.out hb); have R1 := z4 (zV (zM (zM H1.out _) _) hb); have R2 := z4 (zV (zM (zM H2.out _) _) hb); clear hb; have hz0 : (w6).cell? ⟨w.heap.size, 0, none⟩ = some (.string ⟨#[]⟩) := (zC B6.out 0).trans rfl; have fhz0 : (w6).frozen? ⟨w.heap.size, 0, none⟩ = false := zF B6.out 0; have hz1 : (w6).cell? ⟨w.heap.size, 1, none⟩ = some (.slice none 0 0) := (zC B6.out 1).trans rfl; have fhz1 : (w6).frozen? ⟨w.heap.size, 1, none⟩ = false := zF B6.out 1; have hz2 : (w6).cell? ⟨w.heap.size, 2, none⟩ = some (.slice none 0 0) := (zC B6.out 2).trans rfl; have fhz2 : (w6).frozen? ⟨w.heap.size, 2, none⟩ = false := zF B6.out 2; have ho3 : w6.cell? ⟨w3.heap.size, 3, none⟩ = some (.slice A3 r.length c3) := (zC O6.out 3).trans rfl; have hi0 : (w6).cell? ⟨w3.heap.size + 1, 0, none⟩ = some (.string x0) := (zC I6.out 0).trans rfl; have hi1 : (w6).cell? ⟨w3.heap.size + 1, 1, none⟩ = some (.slice A1 d.length c1) := (zC I6.out 1).trans rfl; have hi2 : (w6).cell? ⟨w3.heap.size + 1, 2, none⟩ = some (.slice A2 y.length c2) := (zC I6.out 2).trans rfl))
   exact rz_end (below_put3 HB6.out (Nat.le_refl _) _ _ _) (blk_put3 B6.out _ _ _) rfl rfl rfl
  case pos =>
   subst hr
   rw [if_pos ⟨hm, rfl⟩]
   clear hm
   go_enter Tryd.func17, Tryd.ntmps17
   go_wp2_with (first | (go_at_call 36; (with_reducible refine (OC.out _).mono ?_); rintro e w3 ⟨A1, A2, A3, c1, c2, c3, rfl, hc1, hc2, h1, h2, hb⟩; have HB3 := z4 (below_inL HB.out hb); have B3 := z4 (zG (zG (blk_below B0.out hb) (.cells #[.string x0, .slice A1 d.length c1, .slice A2 y.length c2, .slice A3 0 c3] 74)) (.cells #[.string x0, .slice A1 d.length c1, .slice A2 y.length c2] 25)); have B4 := z4 (blk_new w3 (.cells #[.string x0, .slice A1 d.length c1, .slice A2 y.length c2, .slice A3 0 c3] 74)); have hs3 : (w3.alloc (.cells #[.string x0, .slice A1 d.length c1, .slice A2 y.length c2, .slice A3 0 c3] 74)).heap.size = w3.heap.size + 1 := (by simp); have B5 := z4 (hs3 ▸ blk_new (w3.alloc (.cells #[.string x0, .slice A1 d.length c1, .slice A2 y.length c2, .slice A3 0 c3] 74)) (.cells #[.string x0, .slice A1 d.length c1, .slice A2 y.length c2] 25)); have B4' := z4 (zG B4.out (.cells #[.string x0, .slice A1 d.length c1, .slice A2 y.length c2] 25)); have H1 := z4 h1; have H2 := z4 h2; have HC1 := z4 hc1; have HC2 := z4 hc2; have GB := z4 (HG.out.below (zA (zA HB3.out (.cells #[.string x0, .slice A1 d.length c1, .slice A2 y.length c2, .slice A3 0 c3] 74)) (.cells #[.string x0, .slice A1 d.length c1, .slice A2 y.length c2] 25)) rfl); have HBB := z4 (zA (zA HB3.out (.cells #[.string x0, .slice A1 d.length c1, .slice A2 y.length c2, .slice A3 0 c3] 74)) (.cells #[.string x0, .slice A1 d.length c1, .slice A2 y.length c2] 25)); clear hb h1 h2 hc1 hc2 hs3; have hy0 : (w3.alloc (.cells #[.string x0, .slice A1 d.length c1, .slice A2 y.length c2, .slice A3 0 c3] 74)).cell? ⟨w3.heap.size, 0, none⟩ = some (.string x0) := (zC B4.out 0).trans rfl; have hy1 : (w3.alloc (.cells #[.string x0, .slice A1 d.length c1, .slice A2 y.length c2, .slice A3 0 c3] 74)).cell? ⟨w3.heap.size, 1, none⟩ = some (.slice A1 d.length c1) := (zC B4.out 1).trans rfl; have hy2 : (w3.alloc (.cells #[.string x0, .slice A1 d.length c1, .slice A2 y.length c2, .slice A3 0 c3] 74)).cell? ⟨w3.heap.size, 2, none⟩ = some (.slice A2 y.length c2) := (zC B4.out 2).trans rfl; have hw0 : ((w3.alloc (.cells #[.string x0, .slice A1 d.length c1, .slice A2 y.length c2, .slice A3 0 c3] 74)).alloc (.cells #[.string x0, .slice A1 d.length c1, .slice A2 y.length c2] 25)).cell? ⟨w3.heap.size + 1, 0, none⟩ = some (.string x0) := (zC B5.out 0).trans rfl; have hw1 : ((w3.alloc (.cells #[.string x0, .slice A1 d.length c1, .slice A2 y.length c2, .slice A3 0 c3] 74)).alloc (.cells #[.string x0, .slice A1 d.length c1, .slice A2 y.length c2] 25)).cell? ⟨w3.heap.size + 1, 1, none⟩ = some (.slice A1 d.length c1) := (zC B5.out 1).trans rfl; have hw2 : ((w3.alloc (.cells #[.string x0, .slice A1 d.length c1, .slice A2 y.length c2, .slice A3 0 c3] 74)).alloc (.cells #[.string x0, .slice A1 d.length c1, .slice A2 y.length c2] 25)).cell? ⟨w3.heap.size + 1, 2, none⟩ = some (.slice A2 y.length c2) := (zC B5.out 2).trans rfl) | (go_at_call 14; (with_reducible refine (CK.out _ GB.out A1 c1 A2 c2 (zP (zP (zT H1.out).2.2 _) _) HC1.out (zP (zP (zT H2.out).2.2 _) _) HC2.out).mono ?_); rintro e w6 ⟨rfl, hb⟩; have HB6 := z4 (below_inL HBB.out hb); have B6 := z4 (blk_below B3.out hb); have O6 := z4 (blk_below B4'.out hb); have I6 := z4 (blk_below B5.out hb); have R1 := z4 (zV (zM (zM H1.out _) _) hb); have R2 := z4 (zV (zM (zM H2.out _) _) hb); clear hb; have hz0 : (w6).cell? ⟨w.heap.size, 0, none⟩ = some (.string ⟨#[]⟩) := (zC B6.out 0).trans rfl; have fhz0 : (w6).frozen? ⟨w.heap.size, 0, none⟩ = false := zF B6.out 0; have hz1 : (w6).cell? ⟨w.heap.size, 1, none⟩ = some (.slice none 0 0) := (zC B6.out 1).trans rfl; have fhz1 : (w6).frozen? ⟨w.heap.size, 1, none⟩ = false := zF B6.out 1; have hz2 : (w6).cell? ⟨w.heap.size, 2, none⟩ = some (.slice none 0 0) := (zC B6.out 2).trans rfl; have fhz2 : (w6).frozen? ⟨w.heap.size, 2, none⟩ = false := zF B6.out 2; have ho3 : w6.cell? ⟨w3.heap.size, 3, none⟩ = some (.slice A3 0 c3) := (zC O6.out 3).trans rfl; have hi0 : (w6).cell? ⟨w3.heap.size + 1, 0, none⟩ = some (.string x0) := (zC I6.out 0).trans rfl; have hi1 : (w6).cell? ⟨w3.heap.size + 1, 1, none⟩ = some (.slice A1 d.length c1) := (zC I6.out 1).trans rfl; have hi2 : (w6).cell? ⟨w3.heap.size + 1, 2, none⟩ = some (.slice A2 y.length c2) := (zC I6.out 2).trans rfl))
   refine bodyPost_ret (results_ct rfl _ _ w.heap.size 25 #[.string x0, .slice A1 d.length c1, .slice A2 y.length c2] (0, 0) _ rfl (blk_put3 B6.out _ _ _) Tryd.underlying25 rfl (by kernel_rfl)) rfl ?_
   rw [HW1.out] at R1 R2
   exact ⟨.slice A1 d.length c1, .slice A2 y.length c2, rfl, R_put3 R1.out _ _ _, R_put3 R2.out _ _ _, below_put3 HB6.out (Nat.le_refl _) _ _ _⟩
theorem image_Read.calls_ (s : ByteArray) (hs : s.size ≤ 140737488355328) (w : World) (hG : Glob w) : Calls Tryd.prog 17 #[.string s] w (Post8 (imgQ s) w) := by
 unfold imgQ
 by_cases h : 4 ≤ s.size ∧ (s.extract 0 4).toList = [73, 77, 71, 49]
 ·rw [if_pos h]
  cases hA : readA (objText s) with
  | none => exact iread_c s w h.1 hs h.2 hA
  | some r =>
   obtain ⟨x0, d, y, rl⟩ := r
   exact iread_d s w hG h.1 hs h.2 hA
 ·rw [if_neg h]
  by_cases h4 : 4 ≤ s.size
  ·exact iread_b s w h4 (fun e => h ⟨h4, e⟩)
  ·exact iread_a s w (by omega)
end Go.Proofs.YtimhcpmfhebbhaaDoor.M
namespace Go.Proofs.YtimhcpmfhebbhaaDoor.M
set_option maxRecDepth 100000
open Go.RowKit Go.Proofs.YtimhcpmfhebbhaaDoorW.PrintWords Go.Proofs.YtimhcpmfhebbhaaDoorW.PrintLast Go.Proofs.YtimhcpmfhebbhaaDoor.Num Go.Proofs.YtimhcpmfhebbhaaDoor.Seven Go.Proofs.YtimhcpmfhebbhaaDoor.Word1 Go.Proofs.YtimhcpmfhebbhaaDoor.Obj
set_option linter.unusedVariables false
set_option linter.unusedSimpArgs false
/-- The image of a text's bytes. -/
def imgR (s : ByteArray) : ByteArray × List Int × List S68 × Int :=
 match frontA s IMG1s 0 with
 | none => imgZ
 | some r => if r.2.2.2 = s.size ∧ mayI r.1 r.2.1 r.2.2.1 = true then (r.1, r.2.1, r.2.2.1, 0) else imgZ
end Go.Proofs.YtimhcpmfhebbhaaDoor.M
namespace Go.Proofs.YtimhcpmfhebbhaaDoor.M
set_option maxRecDepth 100000
open Go.RowKit Go.Proofs.YtimhcpmfhebbhaaDoorW.PrintWords Go.Proofs.YtimhcpmfhebbhaaDoor.Num Go.Proofs.YtimhcpmfhebbhaaDoor.Seven Go.Proofs.YtimhcpmfhebbhaaDoor.Word1 Go.Proofs.YtimhcpmfhebbhaaDoor.Obj
set_option linter.unusedVariables false
set_option linter.unusedSimpArgs false
theorem img_of : bytesOf IMG1s = IMG1 := by rfl
def tailL (code : ByteArray) (d : List Int) (y : List S68) : List Int := textL code ++ (putL d.length ++ (dataL d ++ (putL y.length ++ symsL y)))
theorem front_tail (mark : List Int) (code : ByteArray) (d : List Int) (y : List S68) : front mark code d y = mark ++ tailL code d y := by
 simp only [front, front1, front0, tailL, List.append_assoc]
theorem front_put {s mark code : ByteArray} {data : List Int} {syms : List S68} {rest : List Int} (hk : mark.size = 4) (h : bytesOf s = front (bytesOf mark) code data syms ++ rest) (hm : may code data syms [] = true) (hw : wordsOk data) :
 frontA s mark 0 = some (code, data, syms, (front (bytesOf mark) code data syms).length) := by
 obtain ⟨m1, m2, m3, -, m5, -⟩ := may_parts hm
 have h0 : (bytesOf s).drop 0 = bytesOf mark ++ (textL code ++ (putL data.length ++ (dataL data ++ (putL syms.length ++ (symsL syms ++ rest))))) := by
  rw [List.drop_zero, h]
  unfold front front1 front0
  simp only [List.append_assoc]
 have a0 := drop_len' (Nat.zero_le _) h0
 have b0 := bytesA_put (Nat.zero_le _) h0
 rw [bytesOf_length] at a0
 rw [hk] at a0 b0
 have a1 := drop_len' a0.1 a0.2
 have b1 := textA_put (most := 65536) a0.2 (by omega) (by omega)
 have a2 := drop_len' a1.1 a1.2
 have b2 := listA_put (q := wideA s) (enc := fun n => leL n 8) (ok := fun n => -9223372036854775808 ≤ n ∧ n < 9223372036854775808) (fun x p r hx hp h => by rw [leL_len]; exact wideA_put h hx.1 hx.2) (most := 4096) a1.2 (by omega) (by omega) hw
 have a3 := drop_len' a2.1 a2.2
 have a4 := drop_len' a3.1 a3.2
 have b4 := listA_put (q := symA s) (enc := symL) (ok := fun y => named y.f0 ∧ 0 ≤ y.f2 ∧ y.f2 < 65536 ∧ (y.f1 = 1 ∨ y.f1 = 2 ∨ y.f1 = 3)) (fun x p r hx hp h => symA_put h hx.1 hx.2.1 hx.2.2.1 hx.2.2.2) (most := 1000) a3.2 (by omega) (by omega) m5
 have e1 : (front (bytesOf mark) code data syms).length = 0 + 4 + (textL code).length + (putL data.length).length + (dataL data).length + (putL syms.length).length + (symsL syms).length := by
  unfold front front1 front0
  simp only [List.length_append, bytesOf_length, hk]
  try omega
 unfold frontA
 rw [b0, Option.bind_some]
 dsimp only
 rw [if_pos rfl, b1, Option.bind_some]
 dsimp only
 rw [b2, Option.bind_some]
 dsimp only
 rw [show (data.flatMap fun n => leL n 8) = dataL data from rfl, b4, e1]
 rfl
theorem front_back {s mark code : ByteArray} {data : List Int} {syms : List S68} {p : Nat} (h : frontA s mark 0 = some (code, data, syms, p)) : p ≤ s.size ∧ bytesOf s = front (bytesOf mark) code data syms ++ (bytesOf s).drop p ∧ wordsOk data := by
 unfold frontA at h
 obtain ⟨⟨mk, p0⟩, h0, h1⟩ := Option.bind_eq_some_iff.1 h
 dsimp only at h1
 split at h1
 case isFalse => cases h1
 next hmk =>
 obtain ⟨⟨c1, p1⟩, e1, h1⟩ := Option.bind_eq_some_iff.1 h1
 obtain ⟨⟨d1, p2⟩, e2, h1⟩ := Option.bind_eq_some_iff.1 h1
 obtain ⟨⟨y1, p3'⟩, e3, h1⟩ := Option.bind_eq_some_iff.1 h1
 simp only [Option.some.injEq, Prod.mk.injEq] at h1
 obtain ⟨rfl, rfl, rfl, rfl⟩ := h1
 subst hmk
 have a0 := bytesA_back h0
 have a1 := textA_back e1 a0.1
 have a2 := listA_back (enc := fun n => leL n 8) (ok := fun n => -9223372036854775808 ≤ n ∧ n < 9223372036854775808) (fun x p r hp h => ⟨(wideA_back h).1, (wideA_back h).2.2.2, (wideA_back h).2.1, (wideA_back h).2.2.1⟩) a1.1 e2
 have a3 := listA_back (enc := symL) (ok := fun _ => True) (fun x p r hp h => ⟨(symA_back h hp).1, (symA_back h hp).2, trivial⟩) a2.1 e3
 refine ⟨a3.1, ?_, a2.2.2⟩
 have e0 := a0.2.2
 rw [List.drop_zero] at e0
 rw [show bytesOf s = bytesOf mk ++ (bytesOf s).drop p0 from e0]
 conv => lhs; rw [a1.2, a2.2.1, a3.2.1]
 rw [← e0]
 unfold front front1 front0 dataL symsL
 simp only [List.append_assoc]
/-- A text that is an image's. -/
def IsImg (s code : ByteArray) (d : List Int) (y : List S68) : Prop := bytesOf s = front IMG1 code d y ∧ mayI code d y = true ∧ wordsOk d
theorem may_of {code : ByteArray} {d : List Int} {y : List S68} (h : mayI code d y = true) : may code d y [] = true := by
 unfold mayI at h
 rw [Bool.and_eq_true] at h
 exact h.1
theorem imgR_yes {s code : ByteArray} {d : List Int} {y : List S68} (h : IsImg s code d y) : imgR s = (code, d, y, 0) := by
 have h1 := front_put (s := s) (mark := IMG1s) (rest := []) rfl (by rw [img_of, List.append_nil]; exact h.1) (may_of h.2.1) h.2.2
 have h2 := congrArg List.length h.1
 rw [bytesOf_length] at h2
 unfold imgR
 rw [h1]
 dsimp only
 rw [if_pos ⟨by rw [img_of]; exact h2.symm, h.2.1⟩]
theorem imgR_cases (s : ByteArray) : (∃ code d y, IsImg s code d y) ∨ imgR s = imgZ := by
 cases hf : frontA s IMG1s 0 with
 | none => right; unfold imgR; rw [hf]
 | some r =>
  obtain ⟨code, d, y, p⟩ := r
  by_cases hc : p = s.size ∧ mayI code d y = true
  ·left
   obtain ⟨h1, h2, h3⟩ := front_back hf
   refine ⟨code, d, y, ?_, hc.2, h3⟩
   rw [hc.1, List.drop_eq_nil_of_le (by rw [bytesOf_length]; exact Nat.le_refl _), List.append_nil, img_of] at h2
   exact h2
  ·right
   unfold imgR
   rw [hf]
   dsimp only
   rw [if_neg hc]
theorem pre_take (s : ByteArray) : (s.extract 0 4).toList = [73, 77, 71, 49] ↔ (bytesOf s).take 4 = IMG1 := by
 have e := bytesOf_extract s 0 4
 rw [List.drop_zero, Nat.zero_add] at e
 rw [← e, ByteArray.toList_eq, ← img_of]
 constructor
 ·intro h
  exact congrArg bytesOf (WideShapes.bytes_inj (b := IMG1s) h)
 ·intro h
  rw [bytesOf_inj h]
theorem put_zero : putL 0 = [0] := by
 rw [putL]
 rfl
theorem objText_bytes (s : ByteArray) : bytesOf (objText s) = COT1 ++ (bytesOf s).drop 4 ++ [0] := by
 unfold objText
 rw [bytesOf_append, bytesOf_append, show bytesOf COT1s = COT1 from bytesOf_str cot_bs]
 have e := bytesOf_extract s 4 (s.size - 4)
 congr 1
 congr 1
 by_cases h : 4 ≤ s.size
 ·rw [show 4 + (s.size - 4) = s.size by omega] at e
  rw [e, List.take_of_length_le (by rw [List.length_drop, bytesOf_length]; exact Nat.le_refl _)]
 ·have h1 : (s.extract 4 s.size).size = 0 := by rw [ByteArray.size_extract]; omega
  rw [List.drop_eq_nil_of_le (by rw [bytesOf_length]; omega)]
  exact List.length_eq_zero_iff.1 (by rw [bytesOf_length]; exact h1)
theorem imgQ_yes {s code : ByteArray} {d : List Int} {y : List S68} (h : IsImg s code d y) : imgQ s = (code, d, y, 0) := by
 have h1 : bytesOf s = IMG1 ++ tailL code d y := by rw [h.1, front_tail]
 have hl := congrArg List.length h1
 rw [bytesOf_length, List.length_append, show IMG1.length = 4 from rfl] at hl
 have hp : (s.extract 0 4).toList = [73, 77, 71, 49] := by
  rw [pre_take, h1]
  exact List.take_left' rfl
 have hd : (bytesOf s).drop 4 = tailL code d y := by rw [h1]; exact List.drop_left' rfl
 have ho : bytesOf (objText s) = form COT1 code d y [] ++ [] := by
  rw [objText_bytes, hd, List.append_nil]
  unfold form relsL
  rw [front_tail, show ([] : List S116).length = 0 from rfl, put_zero]
  simp
 have hr := read_form ho (may_of h.2.1) h.2.2
 rw [if_pos rfl] at hr
 unfold imgQ
 rw [if_pos ⟨by omega, hp⟩, hr]
 dsimp only
 rw [if_pos ⟨h.2.1, rfl⟩]
theorem imgQ_cases (s : ByteArray) : (∃ code d y, IsImg s code d y) ∨ imgQ s = imgZ := by
 by_cases hp : 4 ≤ s.size ∧ (s.extract 0 4).toList = [73, 77, 71, 49]
 ·cases hr : readA (objText s) with
  | none => right; unfold imgQ; rw [if_pos hp, hr]
  | some r =>
   obtain ⟨code, d, y, rl⟩ := r
   by_cases hc : mayI code d y = true ∧ rl = []
   ·left
    obtain ⟨hm, rfl⟩ := hc
    obtain ⟨h1, h2, h3⟩ := read_back hr
    refine ⟨code, d, y, ?_, hm, h3⟩
    rw [objText_bytes] at h1
    unfold form relsL at h1
    rw [front_tail, show ([] : List S116).length = 0 from rfl, put_zero] at h1
    simp only [List.flatMap_nil, List.append_nil] at h1
    have h4 := List.append_cancel_right h1
    have h5 := List.append_cancel_left h4
    rw [front_tail, ← h5, ← (pre_take s).1 hp.2, List.take_append_drop]
   ·right
    unfold imgQ
    rw [if_pos hp, hr]
    dsimp only
    rw [if_neg hc]
 ·right; unfold imgQ; rw [if_neg hp]
/-- Both tell the same. -/
theorem imgQ_eq (s : ByteArray) : imgQ s = imgR s := by
 rcases imgR_cases s with ⟨c, d, y, h⟩ | h
 ·rw [imgQ_yes h, imgR_yes h]
 ·rcases imgQ_cases s with ⟨c, d, y, h2⟩ | h2
  ·rw [imgQ_yes h2, imgR_yes h2]
  ·rw [h, h2]
end Go.Proofs.YtimhcpmfhebbhaaDoor.M
namespace Go.Proofs.YtimhcpmfhebbhaaDoor.M
set_option maxRecDepth 100000
open Go.RowKit Go.Proofs.YtimhcpmfhebbhaaDoorW.PrintWords Go.Proofs.YtimhcpmfhebbhaaDoorW.PrintLast Go.Proofs.YtimhcpmfhebbhaaDoor.Num Go.Proofs.YtimhcpmfhebbhaaDoor.Seven Go.Proofs.YtimhcpmfhebbhaaDoor.Word1 Go.Proofs.YtimhcpmfhebbhaaDoor.Obj
set_option linter.unusedVariables false
set_option linter.unusedSimpArgs false
def image_Check.f (a0_0 : ByteArray) (l0_1 : List Int) (l0_2 : List S68) : Option Int := some (if mayI a0_0 l0_1 l0_2 = true then 0 else 9)
theorem image_Check.calls (a0_0 : ByteArray) (A0_1 : Option Addr) (c0_1 : Nat) (l0_1 : List Int) (A0_2 : Option Addr) (c0_2 : Nat) (l0_2 : List S68) (r : Int) (w : World) (hG : Glob w) (hr0_1 : Kd.C (Kd.int .i64) w A0_1 l0_1.length l0_1) (hc0_1 : l0_1.length ≤ c0_1) (hr0_2 : Kd.C k68 w A0_2 l0_2.length l0_2) (hc0_2 : l0_2.length ≤ c0_2) (h : image_Check.f a0_0 l0_1 l0_2 = some r) :
 Calls Tryd.prog 14 #[.agg #[.string a0_0, .slice A0_1 l0_1.length c0_1, .slice A0_2 l0_2.length c0_2]] w fun e w' => e = .returned (.int .i64 r) ∧ Below w.heap.size w w' := by
 unfold image_Check.f at h
 injection h with h
 subst h
 exact image_Check_c a0_0 A0_1 c0_1 l0_1 A0_2 c0_2 l0_2 hG hr0_1 hc0_1 hr0_2 hc0_2
def image_Read.f (s : ByteArray) : Option (ByteArray × List Int × List S68 × Int) := if s.size ≤ 140737488355328 then some (imgR s) else none
theorem image_Read.calls (a0 : ByteArray) (r1 : ByteArray) (r2 : List Int) (r3 : List S68) (r4 : Int) (w : World) (hG : Glob w) (h : image_Read.f a0 = some (r1, r2, r3, r4)) :
 Calls Tryd.prog 17 #[.string a0] w fun e w' => ∃ v1_ v2_ : Value, e = .returned (.tuple #[.agg #[.string r1, v1_, v2_], .int .i64 r4]) ∧ Kd.R (Kd.int .i64) 2 w' w.heap.size (fun _ => True) v1_ r2 ∧ Kd.R k68 68 w' w.heap.size (fun _ => True) v2_ r3 ∧ Below w.heap.size w w' := by
 unfold image_Read.f at h
 split at h
 case isFalse => cases h
 case isTrue hs =>
  injection h with h
  have := image_Read.calls_ a0 hs w hG
  rw [imgQ_eq, h] at this
  exact this
def cotterref08_Write.f (a0_0 : ByteArray) (l0_1 : List Int) (l0_2 : List S68) : Option (ByteArray × Int) := image_Write.f a0_0 l0_1 l0_2
set_option maxHeartbeats 8000000 in
set_option maxRecDepth 100000 in
theorem cotterref08_Write.calls (a0_0 : ByteArray) (A0_1 : Option Addr) (c0_1 : Nat) (l0_1 : List Int) (A0_2 : Option Addr) (c0_2 : Nat) (l0_2 : List S68) (r1 : ByteArray) (r2 : Int) (w : World) (hr0_1 : Kd.C (Kd.int .i64) w A0_1 l0_1.length l0_1) (hc0_1 : l0_1.length ≤ c0_1) (hr0_2 : Kd.C k68 w A0_2 l0_2.length l0_2) (hc0_2 : l0_2.length ≤ c0_2) (h : cotterref08_Write.f a0_0 l0_1 l0_2 = some (r1, r2)) :
 Calls Tryd.prog 11 #[.agg #[.string a0_0, .slice A0_1 l0_1.length c0_1, .slice A0_2 l0_2.length c0_2]] w fun e w' => e = .returned (.tuple #[.string r1, .int .i64 r2]) ∧ Below w.heap.size w w' := by
 unfold cotterref08_Write.f image_Write.f at h
 split at h
 case isFalse => cases h
 case isTrue hw =>
  injection h with h
  have HB := z4 (zA (Below.refl w.heap.size w) (.cells #[.string a0_0, .slice A0_1 l0_1.length c0_1, .slice A0_2 l0_2.length c0_2] 25))
  have BO := z4 (blk_new w (.cells #[.string a0_0, .slice A0_1 l0_1.length c0_1, .slice A0_2 l0_2.length c0_2] 25))
  have CK := z4 (may_f a0_0 l0_1 l0_2 2000001 (by omega))
  have HR1 := z4 hr0_1
  have HR2 := z4 hr0_2
  have HC1 := z4 hc0_1
  have HC2 := z4 hc0_2
  unfold imgW at h
  cases hm : mayI a0_0 l0_1 l0_2
  case false =>
   rw [hm] at CK
   rw [hm, if_neg (by simp)] at h
   obtain ⟨rfl, rfl⟩ := Prod.mk.inj h
   clear hm hr0_1 hr0_2 hc0_1 hc0_2 hw h
   go_enter Tryd.func11, Tryd.ntmps11
   go_wp2_with (first | (go_at_call 29; (with_reducible refine (cotterref08_May.calls 2000001 a0_0 A0_1 c0_1 l0_1 A0_2 c0_2 l0_2 false _ (zP HR1.out _) HC1.out (zP HR2.out _) HC2.out CK.out).mono ?_); rintro e w1 ⟨rfl, hb⟩; have HB1 := z4 (below_inL HB.out hb); clear hb))
   go_ret2
   exact ⟨rfl, HB1.out⟩
  case true =>
   rw [hm] at CK
   rw [hm, if_pos rfl] at h
   obtain ⟨rfl, rfl⟩ := Prod.mk.inj h
   obtain ⟨m1, m2, m3, -, m5, -⟩ := may_parts (may_of hm)
   have FC := z4 (fun (W : World) (g1 : Kd.C (Kd.int .i64) W A0_1 l0_1.length l0_1) (g2 : Kd.C k68 W A0_2 l0_2.length l0_2) => front_c IMG1s a0_0 A0_1 c0_1 l0_1 A0_2 c0_2 l0_2 W g1 hc0_1 g2 hc0_2 (by decide) m1 m2 m3 hw (fun s hs => ⟨(m5 s hs).1, (m5 s hs).2.1, (m5 s hs).2.2.1⟩))
   rw [img_of] at FC
   clear hm hr0_1 hr0_2 hc0_1 hc0_2 hw h m1 m2 m3 m5
   go_enter Tryd.func11, Tryd.ntmps11
   go_wp2_with (first
    | (go_at_call 29; (with_reducible refine (cotterref08_May.calls 2000001 a0_0 A0_1 c0_1 l0_1 A0_2 c0_2 l0_2 true _ (zP HR1.out _) HC1.out (zP HR2.out _) HC2.out CK.out).mono ?_); rintro e w1 ⟨rfl, hb⟩; have HB1 := z4 (below_inL HB.out hb); have BO1 := z4 (blk_below BO.out hb); have hk0 : w1.cell? ⟨w.heap.size, 0, none⟩ = some (.string a0_0) := (zC BO1.out 0).trans rfl; have hk1 : w1.cell? ⟨w.heap.size, 1, none⟩ = some (.slice A0_1 l0_1.length c0_1) := (zC BO1.out 1).trans rfl; have hk2 : w1.cell? ⟨w.heap.size, 2, none⟩ = some (.slice A0_2 l0_2.length c0_2) := (zC BO1.out 2).trans rfl; clear hb)
    | (go_at_call 30; (with_reducible refine (FC.out _ (zS HR1.out HB1.out) (zS HR2.out HB1.out)).mono ?_); rintro e w2 ⟨rfl, hb⟩; have HB2 := z4 (below_inL HB1.out hb); clear hb))
   go_ret2
   exact ⟨rfl, HB2.out⟩
end Go.Proofs.YtimhcpmfhebbhaaDoor.M
namespace Go.Proofs.YtimhcpmfhebbhaaDoor.M
open Go.RowKit Go.Proofs.YtimhcpmfhebbhaaDoorW.PrintWords Go.Proofs.YtimhcpmfhebbhaaDoorW.PrintLast
set_option linter.unusedVariables false
set_option linter.unusedSimpArgs false
theorem eqA68 (d : Nat) (w : World) (x0 y0 : ByteArray) (x1 y1 : Int) (x2 y2 : Int) :
 (Op.equalIn (d + 2) 68 (.agg #[.string x0, .int .i64 x1, .int .i64 x2]) (.agg #[.string y0, .int .i64 y1, .int .i64 y2])).run Tryd.prog w = .ok (x0.toList == y0.toList && (x1 == y1 && (x2 == y2))) w := by
 refine eqA_of Tryd.underlying68 (by kernel_rfl) ?_
 refine eqf_cons (by rfl) (by go_simp; rfl) (by go_simp; rfl) (by go_simp) ?_
 refine eqf_cons (by rfl) (by go_simp; rfl) (by go_simp; rfl) (by go_simp) ?_
 exact eqf_last (by rfl) (by go_simp; rfl) (by go_simp; rfl) (by go_simp)
end Go.Proofs.YtimhcpmfhebbhaaDoor.M
namespace Go.Proofs.YtimhcpmfhebbhaaDoor.M
open Go.RowKit Go.Proofs.YtimhcpmfhebbhaaDoorW.PrintWords Go.Proofs.YtimhcpmfhebbhaaDoorW.PrintLast
set_option linter.unusedVariables false
set_option linter.unusedSimpArgs false
attribute [local go_sem high] eqA68
def cotterref07_Copy.f (a0_0 : ByteArray) (l0_1 : List Int) (l0_2 : List (S68)) : Option (ByteArray × List Int × (List (S68))) := if ([] : List Int).length + l0_1.length < 17592186044416 then (if ([] : List (S68)).length + l0_2.length < 4398046511104 then (some (a0_0, (([] : List Int) ++ l0_1), (([] : List (S68)) ++ l0_2))) else (none)) else (none)
set_option maxHeartbeats 8000000 in
set_option maxRecDepth 100000 in
theorem cotterref07_Copy.calls (a0_0 : ByteArray) (A0_1 : Option Addr) (c0_1 : Nat) (l0_1 : List Int) (A0_2 : Option Addr) (c0_2 : Nat) (l0_2 : List (S68)) (r1 : ByteArray) (r2 : List Int) (r3 : List (S68)) (w : World) (hr0_1 : Kd.C (Kd.int .i64) w A0_1 l0_1.length l0_1) (hc0_1 : l0_1.length ≤ c0_1) (hr0_2 : Kd.C k68 w A0_2 l0_2.length l0_2) (hc0_2 : l0_2.length ≤ c0_2) (h : cotterref07_Copy.f a0_0 l0_1 l0_2 = some (r1, r2, r3)) :
 Calls Tryd.prog 9 #[.agg #[.string a0_0, .slice A0_1 l0_1.length c0_1, .slice A0_2 l0_2.length c0_2]] w fun e w' => ∃ v1_ v2_ : Value, e = .returned (.agg #[.string r1, v1_, v2_]) ∧ Kd.R (Kd.int .i64) 2 w' w.heap.size (fun _ => True) v1_ r2 ∧ Kd.R k68 68 w' w.heap.size (fun _ => True) v2_ r3 ∧ Below w.heap.size w w' := by
 have hu25 := Tryd.underlying25
 have HR0_1 := z4 hr0_1
 have HC0_1 := z4 hc0_1
 clear hr0_1 hc0_1
 have HR0_2 := z4 hr0_2
 have HC0_2 := z4 hc0_2
 clear hr0_2 hc0_2
 have HB := z4 (Below.refl w.heap.size w)
 have H : (if ([] : List Int).length + l0_1.length < 17592186044416 then (if ([] : List (S68)).length + l0_2.length < 4398046511104 then (some (a0_0, (([] : List Int) ++ l0_1), (([] : List (S68)) ++ l0_2))) else (none)) else (none)) = some (r1, r2, r3) := h
 clear h
 by_cases c2 : ([] : List Int).length + l0_1.length < 17592186044416
 ·rw [if_pos c2] at H
  have LMc2 := z4 c2
  clear c2
  obtain ⟨y233, hy233⟩ : ∃ y_ : List Int, y_ = (([] : List Int) ++ l0_1) := ⟨_, rfl⟩
  replace H : (if ([] : List (S68)).length + l0_2.length < 4398046511104 then (some (a0_0, y233, (([] : List (S68)) ++ l0_2))) else (none)) = some (r1, r2, r3) := by first | (rw [hy233]; with_reducible exact H) | (have H2_ := (Option.bind_some _ _).symm.trans H; rw [hy233]; with_reducible exact H2_) | (have H2_ := (Option.bind_some _ _).symm.trans H; with_reducible exact H2_) | with_reducible exact H | (rw [hy233]; exact H) | exact H
  have Ny233 := z4 hy233
  clear hy233
  by_cases c3 : ([] : List (S68)).length + l0_2.length < 4398046511104
  ·rw [if_pos c3] at H
   have LMc3 := z4 c3
   clear c3
   obtain ⟨y236, hy236⟩ : ∃ y_ : List (S68), y_ = (([] : List (S68)) ++ l0_2) := ⟨_, rfl⟩
   replace H : (some (a0_0, y233, y236)) = some (r1, r2, r3) := by first | (rw [hy236]; with_reducible exact H) | (have H2_ := (Option.bind_some _ _).symm.trans H; rw [hy236]; with_reducible exact H2_) | (have H2_ := (Option.bind_some _ _).symm.trans H; with_reducible exact H2_) | with_reducible exact H | (rw [hy236]; exact H) | exact H
   have Ny236 := z4 hy236
   clear hy236
   simp only [Option.some.injEq, Prod.mk.injEq] at H
   obtain ⟨rfl, rfl, rfl⟩ := H
   go_enter Tryd.func9, Tryd.ntmps9
   go_wp2_with (first | ((with_reducible refine gate_dst (N := 1) rfl ?_); refine box_event ?hg (N := 1) ?hd (cs := #[.string a0_0, .slice A0_1 l0_1.length c0_1, .slice A0_2 l0_2.length c0_2]) (t := 25) ?hr ?_; (case hd => rfl); (case hg => rfl); (case hr => first | (go_simp; done) | (go_simp; rfl)); intro gb230 hg w4 hbox hb; have n0_ := z4 (zK (by repeat (first | exact HB.out | apply zA | apply zB | apply zD)) hb); have n1_ := z4 (hbox); have n2_ := z4 ((by rw [hg]; exact (zL (by repeat (first | exact HB.out | apply zA | apply zB | apply zD))) : w.heap.size ≤ gb230)); have n3_ := z4 ((by rw [hg]; exact (zL (by repeat (first | exact HB.out | apply zA | apply zB | apply zD))) : w.heap.size ≤ gb230)); clear HB; have HB := n0_; have BK230 := n1_; have GW230 := n2_; have GE230 := n3_; clear n0_ n1_ n2_ n3_; clear hb hbox hg) | ((with_reducible refine gate_dst (N := 2) rfl ?_); refine box_event ?hg (N := 2) ?hd (cs := #[.string (⟨#[]⟩ : ByteArray), .slice none 0 0, .slice none 0 0]) (t := 25) ?hr ?_; (case hd => rfl); (case hg => rfl); (case hr => first | (go_simp; done) | (go_simp; rfl)); intro gb231 hg w5 hbox hb; have n0_ := z4 (blk_below (g := gb230) (o := .cells #[.string a0_0, .slice A0_1 l0_1.length c0_1, .slice A0_2 l0_2.length c0_2] 25 (0, 0)) (by (with_reducible repeat (first | refine zH ?_ _ | refine zI ?_ | refine zG ?_ _)); exact BK230.out) hb); have n1_ := z4 (zK (by repeat (first | exact HB.out | apply zA | apply zB | apply zD | refine zJ ?_ GE230.out)) hb); have n2_ := z4 (hbox); have n3_ := z4 ((by rw [hg]; exact (zL (by repeat (first | exact HB.out | apply zA | apply zB | apply zD | refine zJ ?_ GE230.out))) : w.heap.size ≤ gb231)); have n4_ := z4 ((by rw [hg]; exact (zL (by repeat (first | exact HB.out | apply zA | apply zB | apply zD | refine zJ ?_ GE230.out))) : w.heap.size ≤ gb231)); have n5_ := z4 ((by rw [hg]; exact Nat.ne_of_lt (blk_lt (g := gb230) (o := .cells #[.string a0_0, .slice A0_1 l0_1.length c0_1, .slice A0_2 l0_2.length c0_2] 25 (0, 0)) (by (with_reducible repeat (first | refine zH ?_ _ | refine zI ?_ | refine zG ?_ _)); exact BK230.out)) : gb230 ≠ gb231)); have n6_ := z4 ((by rw [hg]; exact Nat.ne_of_gt (blk_lt (g := gb230) (o := .cells #[.string a0_0, .slice A0_1 l0_1.length c0_1, .slice A0_2 l0_2.length c0_2] 25 (0, 0)) (by (with_reducible repeat (first | refine zH ?_ _ | refine zI ?_ | refine zG ?_ _)); exact BK230.out)) : gb231 ≠ gb230)); clear BK230; clear HB; have BK230 := n0_; have HB := n1_; have BK231 := n2_; have GW231 := n3_; have GE231 := n4_; have NB230_231 := n5_; have NB231_230 := n6_; clear n0_ n1_ n2_ n3_ n4_ n5_ n6_; clear hb hbox hg; have hnb6 := NB230_231.out; have hnc6 := NB231_230.out; have hcz7_0 : w5.cell? ⟨gb230, 0, none⟩ = some (.string a0_0) := (zC BK230.out 0).trans rfl; have hcz7_1 : w5.cell? ⟨gb230, 1, none⟩ = some (.slice A0_1 l0_1.length c0_1) := (zC BK230.out 1).trans rfl; have hcz7_2 : w5.cell? ⟨gb230, 2, none⟩ = some (.slice A0_2 l0_2.length c0_2) := (zC BK230.out 2).trans rfl; have hfz7_0 := zF BK230.out 0; have hfz7_1 := zF BK230.out 1; have hfz7_2 := zF BK230.out 2) | ((with_reducible refine gate_dst (N := 3) rfl ?_); refine box_event ?hg (N := 3) ?hd (cs := #[.string (⟨#[]⟩ : ByteArray), .slice none 0 0, .slice none 0 0]) (t := 25) ?hr ?_; (case hd => rfl); (case hg => rfl); (case hr => first | (go_simp; done) | (go_simp; rfl)); intro gb232 hg w8 hbox hb; have n0_ := z4 (blk_below (g := gb230) (o := .cells #[.string a0_0, .slice A0_1 l0_1.length c0_1, .slice A0_2 l0_2.length c0_2] 25 (0, 0)) (by (with_reducible repeat (first | refine zH ?_ _ | refine zI ?_ | refine zG ?_ _)); exact BK230.out) hb); have n1_ := z4 (blk_below (g := gb231) (o := .cells #[.string (⟨#[]⟩ : ByteArray), .slice none 0 0, .slice none 0 0] 25 (0, 0)) (by (with_reducible repeat (first | refine zH ?_ _ | refine zI ?_ | refine zG ?_ _)); exact BK231.out) hb); have n2_ := z4 (zK (by repeat (first | exact HB.out | apply zA | apply zB | apply zD | refine zJ ?_ GE230.out | refine zJ ?_ GE231.out)) hb); have n3_ := z4 (hbox); have n4_ := z4 ((by rw [hg]; exact (zL (by repeat (first | exact HB.out | apply zA | apply zB | apply zD | refine zJ ?_ GE230.out | refine zJ ?_ GE231.out))) : w.heap.size ≤ gb232)); have n5_ := z4 ((by rw [hg]; exact (zL (by repeat (first | exact HB.out | apply zA | apply zB | apply zD | refine zJ ?_ GE230.out | refine zJ ?_ GE231.out))) : w.heap.size ≤ gb232)); have n6_ := z4 ((by rw [hg]; exact Nat.ne_of_lt (blk_lt (g := gb230) (o := .cells #[.string a0_0, .slice A0_1 l0_1.length c0_1, .slice A0_2 l0_2.length c0_2] 25 (0, 0)) (by (with_reducible repeat (first | refine zH ?_ _ | refine zI ?_ | refine zG ?_ _)); exact BK230.out)) : gb230 ≠ gb232)); have n7_ := z4 ((by rw [hg]; exact Nat.ne_of_gt (blk_lt (g := gb230) (o := .cells #[.string a0_0, .slice A0_1 l0_1.length c0_1, .slice A0_2 l0_2.length c0_2] 25 (0, 0)) (by (with_reducible repeat (first | refine zH ?_ _ | refine zI ?_ | refine zG ?_ _)); exact BK230.out)) : gb232 ≠ gb230)); have n8_ := z4 ((by rw [hg]; exact Nat.ne_of_lt (blk_lt (g := gb231) (o := .cells #[.string (⟨#[]⟩ : ByteArray), .slice none 0 0, .slice none 0 0] 25 (0, 0)) (by (with_reducible repeat (first | refine zH ?_ _ | refine zI ?_ | refine zG ?_ _)); exact BK231.out)) : gb231 ≠ gb232)); have n9_ := z4 ((by rw [hg]; exact Nat.ne_of_gt (blk_lt (g := gb231) (o := .cells #[.string (⟨#[]⟩ : ByteArray), .slice none 0 0, .slice none 0 0] 25 (0, 0)) (by (with_reducible repeat (first | refine zH ?_ _ | refine zI ?_ | refine zG ?_ _)); exact BK231.out)) : gb232 ≠ gb231)); clear BK230; clear BK231; clear HB; have BK230 := n0_; have BK231 := n1_; have HB := n2_; have BK232 := n3_; have GW232 := n4_; have GE232 := n5_; have NB230_232 := n6_; have NB232_230 := n7_; have NB231_232 := n8_; have NB232_231 := n9_; clear n0_ n1_ n2_ n3_ n4_ n5_ n6_ n7_ n8_ n9_; clear hb hbox hg; have hnb9 := NB232_230.out; have hnc9 := NB230_232.out; have hnb10 := NB232_231.out; have hnc10 := NB231_232.out; have hcz11_0 : w8.cell? ⟨gb232, 0, none⟩ = some (.string (⟨#[]⟩ : ByteArray)) := (zC BK232.out 0).trans rfl; have hcz11_1 : w8.cell? ⟨gb232, 1, none⟩ = some (.slice none 0 0) := (zC BK232.out 1).trans rfl; have hcz11_2 : w8.cell? ⟨gb232, 2, none⟩ = some (.slice none 0 0) := (zC BK232.out 2).trans rfl; have hfz11_0 := zF BK232.out 0; have hfz11_1 := zF BK232.out 1; have hfz11_2 := zF BK232.out 2; have hcz12_0 : w8.cell? ⟨gb230, 0, none⟩ = some (.string a0_0) := (zC BK230.out 0).trans rfl; have hcz12_1 : w8.cell? ⟨gb230, 1, none⟩ = some (.slice A0_1 l0_1.length c0_1) := (zC BK230.out 1).trans rfl; have hcz12_2 : w8.cell? ⟨gb230, 2, none⟩ = some (.slice A0_2 l0_2.length c0_2) := (zC BK230.out 2).trans rfl; have hfz12_0 := zF BK230.out 0; have hfz12_1 := zF BK230.out 1; have hfz12_2 := zF BK230.out 2) | ((with_reducible refine gate_builtin (b := .append) (xs := #[.tmp 8, .tmp 10]) rfl ?_); at_builtin; refine Kd.R_append_rows (Kd.int .i64) (w0 := w) w.heap.size rfl (.tmp 8) (.tmp 10) 22 2 (.int .i64 0) 8 rfl Tryd.underlying22 info2 rfl (by decide) (by omega) (.slice none 0 0) ([] : List Int) l0_1 _ _ _ (fun _ => True) (fun _ => False) rfl rfl ?aO ?aR (fun _ _ h => h) (fun _ h => h.elim) ?aF ?aB ?aS ?aL ?_; (case aR => exact zS HR0_1.out (by repeat (first | exact HB.out | apply zA | apply zB | apply zD | refine zJ ?_ GE230.out | refine zJ ?_ GE231.out | refine zJ ?_ GE232.out))); (case aB => exact (by repeat (first | exact HB.out | apply zA | apply zB | apply zD | refine zJ ?_ GE230.out | refine zJ ?_ GE231.out | refine zJ ?_ GE232.out))); (case aF => exact (fun _ _ => trivial)); (case aO => exact ((Kd.R_nil _ _ _ _ (fun _ => True)))); (case aS => exact (zL (by repeat (first | exact HB.out | apply zA | apply zB | apply zD | refine zJ ?_ GE230.out | refine zJ ?_ GE231.out | refine zJ ?_ GE232.out)))); (case aL => have := LMc2.out; omega); intro v234 w13 ho hb hg hat; rw [← Ny233.out] at ho; have n0_ := z4 (blk_grown (g := gb230) (o := .cells #[.string a0_0, .slice A0_1 l0_1.length c0_1, .slice A0_2 l0_2.length c0_2] 25 (0, 0)) (by (with_reducible repeat (first | refine zH ?_ _ | refine zI ?_ | refine zG ?_ _)); refine blk_far ?_ NB230_232.out _; (with_reducible repeat (first | refine zH ?_ _ | refine zI ?_ | refine zG ?_ _)); refine blk_far ?_ NB230_232.out _; (with_reducible repeat (first | refine zH ?_ _ | refine zI ?_ | refine zG ?_ _)); refine blk_far ?_ NB230_232.out _; (with_reducible repeat (first | refine zH ?_ _ | refine zI ?_ | refine zG ?_ _)); exact BK230.out) hg (by simp [Value.ownBlock])); have n1_ := z4 (blk_grown (g := gb231) (o := .cells #[.string (⟨#[]⟩ : ByteArray), .slice none 0 0, .slice none 0 0] 25 (0, 0)) (by (with_reducible repeat (first | refine zH ?_ _ | refine zI ?_ | refine zG ?_ _)); refine blk_far ?_ NB231_232.out _; (with_reducible repeat (first | refine zH ?_ _ | refine zI ?_ | refine zG ?_ _)); refine blk_far ?_ NB231_232.out _; (with_reducible repeat (first | refine zH ?_ _ | refine zI ?_ | refine zG ?_ _)); refine blk_far ?_ NB231_232.out _; (with_reducible repeat (first | refine zH ?_ _ | refine zI ?_ | refine zG ?_ _)); exact BK231.out) hg (by simp [Value.ownBlock])); have n2_ := z4 (blk_grown (g := gb232) (o := .cells #[.string a0_0, .slice none 0 0, .slice none 0 0] 25 (0, 0)) (by (with_reducible repeat (first | refine zH ?_ _ | refine zI ?_ | refine zG ?_ _)); refine blk_put (cs := #[.string a0_0, .slice none 0 0, .slice none 0 0]) ?_ 2 _ rfl; (with_reducible repeat (first | refine zH ?_ _ | refine zI ?_ | refine zG ?_ _)); refine blk_put (cs := #[.string a0_0, .slice none 0 0, .slice none 0 0]) ?_ 1 _ rfl; (with_reducible repeat (first | refine zH ?_ _ | refine zI ?_ | refine zG ?_ _)); refine blk_put (cs := #[.string (⟨#[]⟩ : ByteArray), .slice none 0 0, .slice none 0 0]) ?_ 0 _ rfl; (with_reducible repeat (first | refine zH ?_ _ | refine zI ?_ | refine zG ?_ _)); exact BK232.out) hg (by simp [Value.ownBlock])); have n3_ := z4 (hb); have n4_ := z4 (ho); clear BK230; clear BK231; clear BK232; clear HB; have BK230 := n0_; have BK231 := n1_; have BK232 := n2_; have HB := n3_; have HO235 := n4_; clear n0_ n1_ n2_ n3_ n4_; clear ho hb hg hat; obtain ⟨Ao14, co14, eo14⟩ := Kd.R_slice HO235.out; subst eo14; have hcz15_0 : w13.cell? ⟨gb232, 0, none⟩ = some (.string a0_0) := (zC BK232.out 0).trans rfl; have hcz15_1 : w13.cell? ⟨gb232, 1, none⟩ = some (.slice none 0 0) := (zC BK232.out 1).trans rfl; have hcz15_2 : w13.cell? ⟨gb232, 2, none⟩ = some (.slice none 0 0) := (zC BK232.out 2).trans rfl; have hfz15_0 := zF BK232.out 0; have hfz15_1 := zF BK232.out 1; have hfz15_2 := zF BK232.out 2; have hcz16_0 : w13.cell? ⟨gb230, 0, none⟩ = some (.string a0_0) := (zC BK230.out 0).trans rfl; have hcz16_1 : w13.cell? ⟨gb230, 1, none⟩ = some (.slice A0_1 l0_1.length c0_1) := (zC BK230.out 1).trans rfl; have hcz16_2 : w13.cell? ⟨gb230, 2, none⟩ = some (.slice A0_2 l0_2.length c0_2) := (zC BK230.out 2).trans rfl; have hfz16_0 := zF BK230.out 0; have hfz16_1 := zF BK230.out 1; have hfz16_2 := zF BK230.out 2) | ((with_reducible refine gate_builtin (b := .append) (xs := #[.tmp 14, .tmp 16]) rfl ?_); at_builtin; refine Kd.R_append_rows k68 (w0 := w) w.heap.size rfl (.tmp 14) (.tmp 16) 23 68 (.agg #[(.string ⟨#[]⟩), (.int .i64 0), (.int .i64 0)]) 32 rfl Tryd.underlying23 info68 rfl (by decide) (by omega) (.slice none 0 0) ([] : List (S68)) l0_2 _ _ _ (fun _ => True) (fun _ => False) rfl rfl ?aO ?aR (fun _ _ h => h) (fun _ h => h.elim) ?aF ?aB ?aS ?aL ?_; (case aR => exact zS HR0_2.out (by repeat (first | exact HB.out | apply zA | apply zB | apply zD | refine zJ ?_ GE230.out | refine zJ ?_ GE231.out | refine zJ ?_ GE232.out))); (case aB => exact (by repeat (first | exact HB.out | apply zA | apply zB | apply zD | refine zJ ?_ GE230.out | refine zJ ?_ GE231.out | refine zJ ?_ GE232.out))); (case aF => exact (fun _ _ => trivial)); (case aO => exact ((Kd.R_nil _ _ _ _ (fun _ => True)))); (case aS => exact (zL (by repeat (first | exact HB.out | apply zA | apply zB | apply zD | refine zJ ?_ GE230.out | refine zJ ?_ GE231.out | refine zJ ?_ GE232.out)))); (case aL => have := LMc3.out; omega); intro v237 w17 ho hb hg hat; rw [← Ny236.out] at ho; have n0_ := z4 (blk_grown (g := gb230) (o := .cells #[.string a0_0, .slice A0_1 l0_1.length c0_1, .slice A0_2 l0_2.length c0_2] 25 (0, 0)) (by (with_reducible repeat (first | refine zH ?_ _ | refine zI ?_ | refine zG ?_ _)); refine blk_far ?_ NB230_232.out _; (with_reducible repeat (first | refine zH ?_ _ | refine zI ?_ | refine zG ?_ _)); exact BK230.out) hg (by simp [Value.ownBlock])); have n1_ := z4 (blk_grown (g := gb231) (o := .cells #[.string (⟨#[]⟩ : ByteArray), .slice none 0 0, .slice none 0 0] 25 (0, 0)) (by (with_reducible repeat (first | refine zH ?_ _ | refine zI ?_ | refine zG ?_ _)); refine blk_far ?_ NB231_232.out _; (with_reducible repeat (first | refine zH ?_ _ | refine zI ?_ | refine zG ?_ _)); exact BK231.out) hg (by simp [Value.ownBlock])); have n2_ := z4 (blk_grown (g := gb232) (o := .cells #[.string a0_0, .slice Ao14 y233.length co14, .slice none 0 0] 25 (0, 0)) (by (with_reducible repeat (first | refine zH ?_ _ | refine zI ?_ | refine zG ?_ _)); refine blk_put (cs := #[.string a0_0, .slice none 0 0, .slice none 0 0]) ?_ 1 _ rfl; (with_reducible repeat (first | refine zH ?_ _ | refine zI ?_ | refine zG ?_ _)); exact BK232.out) hg (by simp [Value.ownBlock])); have n3_ := z4 (Kd.R_grown (by (with_reducible repeat (first | apply zM | apply zN | apply zO)); exact (Kd.R_mono (Kd.R_far (p := ⟨gb232, 1, none⟩) (Kd.R_types HO235.out BK232.out (by decide)) (fun _ hk => hk.2) (.slice Ao14 y233.length co14)) (fun _ h_ => h_.1))) hg (fun _ _ => by simp [Value.ownBlock])); have n4_ := z4 (hb); have n5_ := z4 (ho); clear BK230; clear BK231; clear BK232; clear HO235; clear HB; have BK230 := n0_; have BK231 := n1_; have BK232 := n2_; have HO235 := n3_; have HB := n4_; have HO238 := n5_; clear n0_ n1_ n2_ n3_ n4_ n5_; clear ho hb hg hat; obtain ⟨Ao18, co18, eo18⟩ := Kd.R_slice HO238.out; subst eo18; have hcz19_0 : w17.cell? ⟨gb232, 0, none⟩ = some (.string a0_0) := (zC BK232.out 0).trans rfl; have hcz19_1 : w17.cell? ⟨gb232, 1, none⟩ = some (.slice Ao14 y233.length co14) := (zC BK232.out 1).trans rfl; have hcz19_2 : w17.cell? ⟨gb232, 2, none⟩ = some (.slice none 0 0) := (zC BK232.out 2).trans rfl; have hfz19_0 := zF BK232.out 0; have hfz19_1 := zF BK232.out 1; have hfz19_2 := zF BK232.out 2; have hcz20_0 : w17.cell? ⟨gb231, 0, none⟩ = some (.string (⟨#[]⟩ : ByteArray)) := (zC BK231.out 0).trans rfl; have hcz20_1 : w17.cell? ⟨gb231, 1, none⟩ = some (.slice none 0 0) := (zC BK231.out 1).trans rfl; have hcz20_2 : w17.cell? ⟨gb231, 2, none⟩ = some (.slice none 0 0) := (zC BK231.out 2).trans rfl; have hfz20_0 := zF BK231.out 0; have hfz20_1 := zF BK231.out 1; have hfz20_2 := zF BK231.out 2))
   refine bodyPost_ret (results_cell_row rfl _ _ gb231 25 #[.string a0_0, .slice Ao14 y233.length co14, .slice Ao18 y236.length co18] (0, 0) _ rfl (by (with_reducible repeat (first | refine zH ?_ _ | refine zI ?_ | refine zG ?_ _)); refine blk_put (cs := #[.string a0_0, .slice Ao14 y233.length co14, .slice none 0 0]) ?_ 2 _ rfl; (with_reducible repeat (first | refine zH ?_ _ | refine zI ?_ | refine zG ?_ _)); refine blk_put (cs := #[.string a0_0, .slice none 0 0, .slice none 0 0]) ?_ 1 _ rfl; (with_reducible repeat (first | refine zH ?_ _ | refine zI ?_ | refine zG ?_ _)); refine blk_put (cs := #[.string (⟨#[]⟩ : ByteArray), .slice none 0 0, .slice none 0 0]) ?_ 0 _ rfl; (with_reducible repeat (first | refine zH ?_ _ | refine zI ?_ | refine zG ?_ _)); refine blk_far ?_ NB231_232.out _; (with_reducible repeat (first | refine zH ?_ _ | refine zI ?_ | refine zG ?_ _)); exact BK231.out) Tryd.underlying25 rfl (by kernel_rfl)) rfl ?_
   exact ⟨_, _, by first | rfl | (simp [errW_none, errW_some] <;> rfl) | (simp [*, errW_none, errW_some] <;> rfl), by (with_reducible repeat (first | apply zM | apply zN | apply zO)); exact Kd.R_mono (Kd.R_far (p := ⟨gb231, 2, none⟩) (Kd.R_far (p := ⟨gb231, 1, none⟩) (Kd.R_far (p := ⟨gb231, 0, none⟩) (Kd.R_far (p := ⟨gb232, 2, none⟩) (Kd.R_types (Kd.R_types HO235.out BK232.out (by decide)) BK231.out (by decide)) (fun _ hk => hk.1.2) (.slice Ao18 y236.length co18)) (fun _ hk => hk.2) (.string a0_0)) (fun _ hk => hk.2) (.slice Ao14 y233.length co14)) (fun _ hk => hk.2) (.slice Ao18 y236.length co18)) (fun _ hk => trivial), by (with_reducible repeat (first | apply zM | apply zN | apply zO)); exact Kd.R_mono (Kd.R_far (p := ⟨gb231, 2, none⟩) (Kd.R_far (p := ⟨gb231, 1, none⟩) (Kd.R_far (p := ⟨gb231, 0, none⟩) (Kd.R_far (p := ⟨gb232, 2, none⟩) (Kd.R_types (Kd.R_types HO238.out BK232.out (by decide)) BK231.out (by decide)) (fun _ hk => hk.1.2) (.slice Ao18 y236.length co18)) (fun _ hk => hk.2) (.string a0_0)) (fun _ hk => hk.2) (.slice Ao14 y233.length co14)) (fun _ hk => hk.2) (.slice Ao18 y236.length co18)) (fun _ hk => trivial), by repeat (first | exact HB.out | apply zA | apply zB | apply zD | refine zJ ?_ GE230.out | refine zJ ?_ GE231.out | refine zJ ?_ GE232.out)⟩
  ·rw [if_neg c3] at H
   exact absurd H (by simp)
 ·rw [if_neg c2] at H
  exact absurd H (by simp)
def cotterref06_SameData.l0 : Nat → List Int → List Int → Int → Option (Bool)
 | 0, _, _, _ => none
 | k + 1, x0, x1, x5 => if x5 < (x0.length : Int) then (if 0 ≤ x5 then (if x5 < (x1.length : Int) then (if (rd x0 x5) = (rd x1 x5) then (cotterref06_SameData.l0 k x0 x1 (wrap64 (x5 + 1))) else (some false)) else (none)) else (none)) else (some true)
def cotterref06_SameData.f (k : Nat) (l0 : List Int) (l1 : List Int) : Option (Bool) := if (l0.length : Int) = (l1.length : Int) then (cotterref06_SameData.l0 k l0 l1 0) else (some false)
set_option maxHeartbeats 8000000 in
set_option maxRecDepth 100000 in
theorem cotterref06_SameData.calls (k : Nat) (A0 : Option Addr) (c0 : Nat) (l0 : List Int) (A1 : Option Addr) (c1 : Nat) (l1 : List Int) (r : Bool) (w : World) (hr0 : Kd.C (Kd.int .i64) w A0 l0.length l0) (hc0 : l0.length ≤ c0) (hr1 : Kd.C (Kd.int .i64) w A1 l1.length l1) (hc1 : l1.length ≤ c1) (h : cotterref06_SameData.f k l0 l1 = some r) :
 Calls Tryd.prog 34 #[.slice A0 l0.length c0, .slice A1 l1.length c1] w fun e w' => e = .returned (.bool r) ∧ Drawn0 w w' := by
 have HR0 := z4 hr0
 have HC0 := z4 hc0
 clear hr0 hc0
 have HR1 := z4 hr1
 have HC1 := z4 hc1
 clear hr1 hc1
 have H : (if (l0.length : Int) = (l1.length : Int) then (cotterref06_SameData.l0 k l0 l1 0) else (some false)) = some r := h
 clear h
 by_cases c3 : (l0.length : Int) = (l1.length : Int)
 ·rw [if_pos c3] at H
  have c3b0 : ((l0.length : Int) == (l1.length : Int)) = true := z5 c3
  have c3b1 : ((l0.length : Int) != (l1.length : Int)) = false := z6 c3
  have c3b2 : (l0.length == l1.length) = true := by first | simpa using c3 | (simp at c3 ⊢; omega)
  clear c3
  have H' := z4 H
  clear H
  go_enter Tryd.func34, Tryd.ntmps34
  go_wp2
  repeat (go_quiet (fail); try go_wp2)
  go_loopg [5] k (fun kq v5 w' => ∃ (x5_1 : Int), v5 = .int .i64 x5_1 ∧ Aside0 (cotterref06_SameData.l0 kq l0 l1 x5_1 = some r) ∧ Aside0 (kq ≤ k) ∧ Drawn0 w w')
  case atStart => exact ⟨(0), (by first | rfl | (simp; done) | (simp [*]; done)), H', ⟨Nat.le_refl _⟩, by repeat (first | exact Drawn0.refl _ | apply Drawn0.step)⟩
  case round =>
   clear H'
   try clear c1
   try clear p2
   try clear c3
   try clear c3b0
   try clear c3b1
   try clear c3b2
   obtain ⟨x5_1, rfl, HA, HK1, ⟨m1, rfl⟩⟩ := hrel
   cases gk with
   | zero => exact absurd HA.out (by simp [cotterref06_SameData.l0])
   | succ k1 =>
    have H := HA.out
    clear HA
    simp only [cotterref06_SameData.l0] at H
    by_cases c4 : x5_1 < (l0.length : Int)
    ·rw [if_pos c4] at H
     have c4b0 : decide (x5_1 < (l0.length : Int)) = true := decide_eq_true c4
     clear c4
     by_cases c5 : 0 ≤ x5_1
     ·rw [if_pos c5] at H
      have c5b0 : decide (0 ≤ x5_1) = true := decide_eq_true c5
      clear c5
      by_cases c6 : x5_1 < (l1.length : Int)
      ·rw [if_pos c6] at H
       have c6b0 : decide (x5_1 < (l1.length : Int)) = true := decide_eq_true c6
       clear c6
       by_cases c7 : (rd l0 x5_1) = (rd l1 x5_1)
       ·rw [if_pos c7] at H
        have c7b0 : ((rd l0 x5_1) == (rd l1 x5_1)) = true := z5 c7
        have c7b1 : ((rd l0 x5_1) != (rd l1 x5_1)) = false := z6 c7
        clear c7
        have H' := z4 H
        clear H
        have p239 : 0 ≤ (x5_1 : Int) := of_decide_eq_true (by first | (with_reducible assumption) | assumption)
        have q239 : x5_1 < (l0.length : Int) := of_decide_eq_true (by first | (with_reducible assumption) | assumption)
        obtain ⟨ad239, e239, hx239_0⟩ := Kd.at_int HR0.out x5_1 p239 q239
        cases e239
        replace p239 := eq_true p239
        replace q239 := eq_true q239
        have p240 : 0 ≤ (x5_1 : Int) := of_decide_eq_true (by first | (with_reducible assumption) | assumption)
        have q240 : x5_1 < (l1.length : Int) := of_decide_eq_true (by first | (with_reducible assumption) | assumption)
        obtain ⟨ad240, e240, hx240_0⟩ := Kd.at_int HR1.out x5_1 p240 q240
        cases e240
        replace p240 := eq_true p240
        replace q240 := eq_true q240
        go_wp2
        repeat (go_quiet (fail); try go_wp2)
        go_roundg k1
        case measure => have := HK1.out; omega
        case rel => exact ⟨(wrap64 (x5_1 + 1)), (by first | rfl | (simp; done) | (simp [*]; done)), H', ⟨by have := HK1.out; omega⟩, by repeat (first | exact Drawn0.refl _ | apply Drawn0.step)⟩
       ·rw [if_neg c7] at H
        have c7b0 : ((rd l0 x5_1) == (rd l1 x5_1)) = false := z7 c7
        have c7b1 : ((rd l0 x5_1) != (rd l1 x5_1)) = true := bne_iff_ne.mpr c7
        obtain rfl := Option.some.inj H
        have p239 : 0 ≤ (x5_1 : Int) := of_decide_eq_true (by first | (with_reducible assumption) | assumption)
        have q239 : x5_1 < (l0.length : Int) := of_decide_eq_true (by first | (with_reducible assumption) | assumption)
        obtain ⟨ad239, e239, hx239_0⟩ := Kd.at_int HR0.out x5_1 p239 q239
        cases e239
        replace p239 := eq_true p239
        replace q239 := eq_true q239
        have p240 : 0 ≤ (x5_1 : Int) := of_decide_eq_true (by first | (with_reducible assumption) | assumption)
        have q240 : x5_1 < (l1.length : Int) := of_decide_eq_true (by first | (with_reducible assumption) | assumption)
        obtain ⟨ad240, e240, hx240_0⟩ := Kd.at_int HR1.out x5_1 p240 q240
        cases e240
        replace p240 := eq_true p240
        replace q240 := eq_true q240
        go_wp2
        repeat (go_quiet (fail); try go_wp2)
        go_ret
        exact ⟨by first | rfl | (simp; done) | (simp [*]; done), by repeat (first | exact Drawn0.refl _ | apply Drawn0.step)⟩
      ·rw [if_neg c6] at H
       exact absurd H (by simp)
     ·rw [if_neg c5] at H
      exact absurd H (by simp)
    ·rw [if_neg c4] at H
     have c4b0 : decide (x5_1 < (l0.length : Int)) = false := decide_eq_false c4
     clear c4
     obtain rfl := Option.some.inj H
     go_wp2
     repeat (go_quiet (fail); try go_wp2)
     go_ret
     exact ⟨by first | rfl | (simp; done) | (simp [*]; done), by repeat (first | exact Drawn0.refl _ | apply Drawn0.step)⟩
 ·rw [if_neg c3] at H
  have c3b0 : ((l0.length : Int) == (l1.length : Int)) = false := z7 c3
  have c3b1 : ((l0.length : Int) != (l1.length : Int)) = true := bne_iff_ne.mpr c3
  have c3b2 : (l0.length == l1.length) = false := by first | simpa using c3 | (simp at c3 ⊢; omega)
  obtain rfl := Option.some.inj H
  go_enter Tryd.func34, Tryd.ntmps34
  go_wp2
  repeat (go_quiet (fail); try go_wp2)
  go_ret
  exact ⟨by first | rfl | (simp; done) | (simp [*]; done), by repeat (first | exact Drawn0.refl _ | apply Drawn0.step)⟩
def cotterref06_SameSyms.l0 : Nat → List (S68) → List (S68) → Int → Option (Bool)
 | 0, _, _, _ => none
 | k + 1, x0, x1, x5 => if x5 < (x0.length : Int) then (if 0 ≤ x5 then (if x5 < (x1.length : Int) then (if (!((((rd_T68 x0 x5).f0).toList) == (((rd_T68 x1 x5).f0).toList)) || (!(((rd_T68 x0 x5).f1) == ((rd_T68 x1 x5).f1)) || (!(((rd_T68 x0 x5).f2) == ((rd_T68 x1 x5).f2))))) = true then (some false) else (cotterref06_SameSyms.l0 k x0 x1 (wrap64 (x5 + 1)))) else (none)) else (none)) else (some true)
def cotterref06_SameSyms.f (k : Nat) (l0 : List (S68)) (l1 : List (S68)) : Option (Bool) := if (l0.length : Int) = (l1.length : Int) then (cotterref06_SameSyms.l0 k l0 l1 0) else (some false)
set_option maxHeartbeats 8000000 in
set_option maxRecDepth 100000 in
theorem cotterref06_SameSyms.calls (k : Nat) (A0 : Option Addr) (c0 : Nat) (l0 : List (S68)) (A1 : Option Addr) (c1 : Nat) (l1 : List (S68)) (r : Bool) (w : World) (hr0 : Kd.C k68 w A0 l0.length l0) (hc0 : l0.length ≤ c0) (hr1 : Kd.C k68 w A1 l1.length l1) (hc1 : l1.length ≤ c1) (h : cotterref06_SameSyms.f k l0 l1 = some r) :
 Calls Tryd.prog 35 #[.slice A0 l0.length c0, .slice A1 l1.length c1] w fun e w' => e = .returned (.bool r) ∧ Drawn0 w w' := by
 have hu68 := Tryd.underlying68
 have HR0 := z4 hr0
 have HC0 := z4 hc0
 clear hr0 hc0
 have HR1 := z4 hr1
 have HC1 := z4 hc1
 clear hr1 hc1
 have H : (if (l0.length : Int) = (l1.length : Int) then (cotterref06_SameSyms.l0 k l0 l1 0) else (some false)) = some r := h
 clear h
 by_cases c3 : (l0.length : Int) = (l1.length : Int)
 ·rw [if_pos c3] at H
  have c3b0 : ((l0.length : Int) == (l1.length : Int)) = true := z5 c3
  have c3b1 : ((l0.length : Int) != (l1.length : Int)) = false := z6 c3
  have c3b2 : (l0.length == l1.length) = true := by first | simpa using c3 | (simp at c3 ⊢; omega)
  clear c3
  have H' := z4 H
  clear H
  go_enter Tryd.func35, Tryd.ntmps35
  go_wp2
  repeat (go_quiet (fail); try go_wp2)
  go_loopg [5] k (fun kq v5 w' => ∃ (x5_1 : Int), v5 = .int .i64 x5_1 ∧ Aside0 (cotterref06_SameSyms.l0 kq l0 l1 x5_1 = some r) ∧ Aside0 (kq ≤ k) ∧ Drawn0 w w')
  case atStart => exact ⟨(0), (by first | rfl | (simp; done) | (simp [*]; done)), H', ⟨Nat.le_refl _⟩, by repeat (first | exact Drawn0.refl _ | apply Drawn0.step)⟩
  case round =>
   clear H'
   try clear c1
   try clear p2
   try clear c3
   try clear c3b0
   try clear c3b1
   try clear c3b2
   obtain ⟨x5_1, rfl, HA, HK1, ⟨m1, rfl⟩⟩ := hrel
   cases gk with
   | zero => exact absurd HA.out (by simp [cotterref06_SameSyms.l0])
   | succ k1 =>
    have H := HA.out
    clear HA
    simp only [cotterref06_SameSyms.l0] at H
    by_cases c4 : x5_1 < (l0.length : Int)
    ·rw [if_pos c4] at H
     have c4b0 : decide (x5_1 < (l0.length : Int)) = true := decide_eq_true c4
     clear c4
     by_cases c5 : 0 ≤ x5_1
     ·rw [if_pos c5] at H
      have c5b0 : decide (0 ≤ x5_1) = true := decide_eq_true c5
      clear c5
      by_cases c6 : x5_1 < (l1.length : Int)
      ·rw [if_pos c6] at H
       have c6b0 : decide (x5_1 < (l1.length : Int)) = true := decide_eq_true c6
       clear c6
       by_cases c7 : (!((((rd_T68 l0 x5_1).f0).toList) == (((rd_T68 l1 x5_1).f0).toList)) || (!(((rd_T68 l0 x5_1).f1) == ((rd_T68 l1 x5_1).f1)) || (!(((rd_T68 l0 x5_1).f2) == ((rd_T68 l1 x5_1).f2))))) = true
       ·rw [if_pos c7] at H
        have c7b0 : (!((((rd_T68 l0 x5_1).f0).toList) == (((rd_T68 l1 x5_1).f0).toList)) || (!(((rd_T68 l0 x5_1).f1) == ((rd_T68 l1 x5_1).f1)) || (!(((rd_T68 l0 x5_1).f2) == ((rd_T68 l1 x5_1).f2))))) = true := c7
        clear c7
        obtain rfl := Option.some.inj H
        have p241 : 0 ≤ (x5_1 : Int) := of_decide_eq_true (by first | (with_reducible assumption) | assumption)
        have q241 : x5_1 < (l0.length : Int) := of_decide_eq_true (by first | (with_reducible assumption) | assumption)
        obtain ⟨ad241, e241, hx241_0, hx241_1, hx241_2⟩ := at_T68 HR0.out x5_1 p241 q241
        cases e241
        replace p241 := eq_true p241
        replace q241 := eq_true q241
        have p242 : 0 ≤ (x5_1 : Int) := of_decide_eq_true (by first | (with_reducible assumption) | assumption)
        have q242 : x5_1 < (l1.length : Int) := of_decide_eq_true (by first | (with_reducible assumption) | assumption)
        obtain ⟨ad242, e242, hx242_0, hx242_1, hx242_2⟩ := at_T68 HR1.out x5_1 p242 q242
        cases e242
        replace p242 := eq_true p242
        replace q242 := eq_true q242
        go_wp2
        repeat (go_quiet (fail); try go_wp2)
        go_ret
        exact ⟨by first | rfl | (simp; done) | (simp [*]; done), by repeat (first | exact Drawn0.refl _ | apply Drawn0.step)⟩
       ·rw [if_neg c7] at H
        have c7b0 : (!((((rd_T68 l0 x5_1).f0).toList) == (((rd_T68 l1 x5_1).f0).toList)) || (!(((rd_T68 l0 x5_1).f1) == ((rd_T68 l1 x5_1).f1)) || (!(((rd_T68 l0 x5_1).f2) == ((rd_T68 l1 x5_1).f2))))) = false := by simpa using c7
        clear c7
        have H' := z4 H
        clear H
        have p241 : 0 ≤ (x5_1 : Int) := of_decide_eq_true (by first | (with_reducible assumption) | assumption)
        have q241 : x5_1 < (l0.length : Int) := of_decide_eq_true (by first | (with_reducible assumption) | assumption)
        obtain ⟨ad241, e241, hx241_0, hx241_1, hx241_2⟩ := at_T68 HR0.out x5_1 p241 q241
        cases e241
        replace p241 := eq_true p241
        replace q241 := eq_true q241
        have p242 : 0 ≤ (x5_1 : Int) := of_decide_eq_true (by first | (with_reducible assumption) | assumption)
        have q242 : x5_1 < (l1.length : Int) := of_decide_eq_true (by first | (with_reducible assumption) | assumption)
        obtain ⟨ad242, e242, hx242_0, hx242_1, hx242_2⟩ := at_T68 HR1.out x5_1 p242 q242
        cases e242
        replace p242 := eq_true p242
        replace q242 := eq_true q242
        go_wp2
        repeat (go_quiet (fail); try go_wp2)
        go_roundg k1
        case measure => have := HK1.out; omega
        case rel => exact ⟨(wrap64 (x5_1 + 1)), (by first | rfl | (simp; done) | (simp [*]; done)), H', ⟨by have := HK1.out; omega⟩, by repeat (first | exact Drawn0.refl _ | apply Drawn0.step)⟩
      ·rw [if_neg c6] at H
       exact absurd H (by simp)
     ·rw [if_neg c5] at H
      exact absurd H (by simp)
    ·rw [if_neg c4] at H
     have c4b0 : decide (x5_1 < (l0.length : Int)) = false := decide_eq_false c4
     clear c4
     obtain rfl := Option.some.inj H
     go_wp2
     repeat (go_quiet (fail); try go_wp2)
     go_ret
     exact ⟨by first | rfl | (simp; done) | (simp [*]; done), by repeat (first | exact Drawn0.refl _ | apply Drawn0.step)⟩
 ·rw [if_neg c3] at H
  have c3b0 : ((l0.length : Int) == (l1.length : Int)) = false := z7 c3
  have c3b1 : ((l0.length : Int) != (l1.length : Int)) = true := bne_iff_ne.mpr c3
  have c3b2 : (l0.length == l1.length) = false := by first | simpa using c3 | (simp at c3 ⊢; omega)
  obtain rfl := Option.some.inj H
  go_enter Tryd.func35, Tryd.ntmps35
  go_wp2
  repeat (go_quiet (fail); try go_wp2)
  go_ret
  exact ⟨by first | rfl | (simp; done) | (simp [*]; done), by repeat (first | exact Drawn0.refl _ | apply Drawn0.step)⟩
def cotterref07_Same.f (k : Nat) (a0_0 : ByteArray) (l0_1 : List Int) (l0_2 : List (S68)) (a1_0 : ByteArray) (l1_1 : List Int) (l1_2 : List (S68)) : Option (Bool) := if a0_0.toList = a1_0.toList then ((cotterref06_SameData.f k l0_1 l1_1).bind fun t245 => (if t245 = true then ((cotterref06_SameSyms.f k l0_2 l1_2).bind fun t246 => (some t246)) else (some false))) else (some false)
set_option maxHeartbeats 8000000 in
set_option maxRecDepth 100000 in
theorem cotterref07_Same.calls (k : Nat) (a0_0 : ByteArray) (A0_1 : Option Addr) (c0_1 : Nat) (l0_1 : List Int) (A0_2 : Option Addr) (c0_2 : Nat) (l0_2 : List (S68)) (a1_0 : ByteArray) (A1_1 : Option Addr) (c1_1 : Nat) (l1_1 : List Int) (A1_2 : Option Addr) (c1_2 : Nat) (l1_2 : List (S68)) (r : Bool) (w : World) (hr0_1 : Kd.C (Kd.int .i64) w A0_1 l0_1.length l0_1) (hc0_1 : l0_1.length ≤ c0_1) (hr0_2 : Kd.C k68 w A0_2 l0_2.length l0_2) (hc0_2 : l0_2.length ≤ c0_2) (hr1_1 : Kd.C (Kd.int .i64) w A1_1 l1_1.length l1_1) (hc1_1 : l1_1.length ≤ c1_1) (hr1_2 : Kd.C k68 w A1_2 l1_2.length l1_2) (hc1_2 : l1_2.length ≤ c1_2) (h : cotterref07_Same.f k a0_0 l0_1 l0_2 a1_0 l1_1 l1_2 = some r) :
 Calls Tryd.prog 16 #[.agg #[.string a0_0, .slice A0_1 l0_1.length c0_1, .slice A0_2 l0_2.length c0_2], .agg #[.string a1_0, .slice A1_1 l1_1.length c1_1, .slice A1_2 l1_2.length c1_2]] w fun e w' => e = .returned (.bool r) ∧ Below w.heap.size w w' := by
 have hu25 := Tryd.underlying25
 have HR0_1 := z4 hr0_1
 have HC0_1 := z4 hc0_1
 clear hr0_1 hc0_1
 have HR0_2 := z4 hr0_2
 have HC0_2 := z4 hc0_2
 clear hr0_2 hc0_2
 have HR1_1 := z4 hr1_1
 have HC1_1 := z4 hc1_1
 clear hr1_1 hc1_1
 have HR1_2 := z4 hr1_2
 have HC1_2 := z4 hc1_2
 clear hr1_2 hc1_2
 have HB := z4 (Below.refl w.heap.size w)
 have H : (if a0_0.toList = a1_0.toList then ((cotterref06_SameData.f k l0_1 l1_1).bind fun t245 => (if t245 = true then ((cotterref06_SameSyms.f k l0_2 l1_2).bind fun t246 => (some t246)) else (some false))) else (some false)) = some r := h
 clear h
 by_cases c3 : a0_0.toList = a1_0.toList
 ·rw [if_pos c3] at H
  have c3b0 : (a0_0.toList == a1_0.toList) = true := z5 c3
  have c3b1 : (a0_0.toList != a1_0.toList) = false := z6 c3
  clear c3
  replace H := z8 H
  obtain ⟨t245, A40, H⟩ := H
  replace H : (if t245 = true then ((cotterref06_SameSyms.f k l0_2 l1_2).bind fun t246 => (some t246)) else (some false)) = some r := H
  have A4 := z4 A40
  clear A40
  by_cases c5 : t245 = true
  ·subst c5
   have H1 : ((cotterref06_SameSyms.f k l0_2 l1_2).bind fun t246 => (some t246)) = some r := by rw [if_pos rfl] at H; exact H
   clear H
   have H := H1
   clear H1
   replace H := z8 H
   obtain ⟨t246, A60, H⟩ := H
   replace H : (some t246) = some r := H
   have A6 := z4 A60
   clear A60
   obtain rfl := Option.some.inj H
   go_enter Tryd.func16, Tryd.ntmps16
   go_wp2_with (first | ((with_reducible refine gate_dst (N := 2) rfl ?_); refine box_event ?hg (N := 2) ?hd (cs := #[.string a0_0, .slice A0_1 l0_1.length c0_1, .slice A0_2 l0_2.length c0_2]) (t := 25) ?hr ?_; (case hd => rfl); (case hg => rfl); (case hr => first | (go_simp; done) | (go_simp; rfl)); intro gb243 hg w7 hbox hb; have n0_ := z4 (zK (by repeat (first | exact HB.out | apply zA | apply zB | apply zD)) hb); have n1_ := z4 (hbox); have n2_ := z4 ((by rw [hg]; exact (zL (by repeat (first | exact HB.out | apply zA | apply zB | apply zD))) : w.heap.size ≤ gb243)); have n3_ := z4 ((by rw [hg]; exact (zL (by repeat (first | exact HB.out | apply zA | apply zB | apply zD))) : w.heap.size ≤ gb243)); clear HB; have HB := n0_; have BK243 := n1_; have GW243 := n2_; have GE243 := n3_; clear n0_ n1_ n2_ n3_; clear hb hbox hg) | ((with_reducible refine gate_dst (N := 3) rfl ?_); refine box_event ?hg (N := 3) ?hd (cs := #[.string a1_0, .slice A1_1 l1_1.length c1_1, .slice A1_2 l1_2.length c1_2]) (t := 25) ?hr ?_; (case hd => rfl); (case hg => rfl); (case hr => first | (go_simp; done) | (go_simp; rfl)); intro gb244 hg w8 hbox hb; have n0_ := z4 (blk_below (g := gb243) (o := .cells #[.string a0_0, .slice A0_1 l0_1.length c0_1, .slice A0_2 l0_2.length c0_2] 25 (0, 0)) (by (with_reducible repeat (first | refine zH ?_ _ | refine zI ?_ | refine zG ?_ _)); exact BK243.out) hb); have n1_ := z4 (zK (by repeat (first | exact HB.out | apply zA | apply zB | apply zD | refine zJ ?_ GE243.out)) hb); have n2_ := z4 (hbox); have n3_ := z4 ((by rw [hg]; exact (zL (by repeat (first | exact HB.out | apply zA | apply zB | apply zD | refine zJ ?_ GE243.out))) : w.heap.size ≤ gb244)); have n4_ := z4 ((by rw [hg]; exact (zL (by repeat (first | exact HB.out | apply zA | apply zB | apply zD | refine zJ ?_ GE243.out))) : w.heap.size ≤ gb244)); have n5_ := z4 ((by rw [hg]; exact Nat.ne_of_lt (blk_lt (g := gb243) (o := .cells #[.string a0_0, .slice A0_1 l0_1.length c0_1, .slice A0_2 l0_2.length c0_2] 25 (0, 0)) (by (with_reducible repeat (first | refine zH ?_ _ | refine zI ?_ | refine zG ?_ _)); exact BK243.out)) : gb243 ≠ gb244)); have n6_ := z4 ((by rw [hg]; exact Nat.ne_of_gt (blk_lt (g := gb243) (o := .cells #[.string a0_0, .slice A0_1 l0_1.length c0_1, .slice A0_2 l0_2.length c0_2] 25 (0, 0)) (by (with_reducible repeat (first | refine zH ?_ _ | refine zI ?_ | refine zG ?_ _)); exact BK243.out)) : gb244 ≠ gb243)); clear BK243; clear HB; have BK243 := n0_; have HB := n1_; have BK244 := n2_; have GW244 := n3_; have GE244 := n4_; have NB243_244 := n5_; have NB244_243 := n6_; clear n0_ n1_ n2_ n3_ n4_ n5_ n6_; clear hb hbox hg; have hnb9 := NB243_244.out; have hnc9 := NB244_243.out; have hcz10_0 : w8.cell? ⟨gb243, 0, none⟩ = some (.string a0_0) := (zC BK243.out 0).trans rfl; have hcz10_1 : w8.cell? ⟨gb243, 1, none⟩ = some (.slice A0_1 l0_1.length c0_1) := (zC BK243.out 1).trans rfl; have hcz10_2 : w8.cell? ⟨gb243, 2, none⟩ = some (.slice A0_2 l0_2.length c0_2) := (zC BK243.out 2).trans rfl; have hfz10_0 := zF BK243.out 0; have hfz10_1 := zF BK243.out 1; have hfz10_2 := zF BK243.out 2; have hcz11_0 : w8.cell? ⟨gb244, 0, none⟩ = some (.string a1_0) := (zC BK244.out 0).trans rfl; have hcz11_1 : w8.cell? ⟨gb244, 1, none⟩ = some (.slice A1_1 l1_1.length c1_1) := (zC BK244.out 1).trans rfl; have hcz11_2 : w8.cell? ⟨gb244, 2, none⟩ = some (.slice A1_2 l1_2.length c1_2) := (zC BK244.out 2).trans rfl; have hfz11_0 := zF BK244.out 0; have hfz11_1 := zF BK244.out 1; have hfz11_2 := zF BK244.out 2) | (go_at_call 34; (with_reducible refine (cotterref06_SameData.calls k _ _ l0_1 _ _ l1_1 true _ ?side1 ?side2 ?side3 ?side4 A4.out).mono ?_); (case side1 => repeat (first | exact (zS HR0_1.out HB.out) | (with_reducible refine zP ?_ _) | (with_reducible refine zQ ?_ _) | (with_reducible refine zR ?_))); (case side2 => exact HC0_1.out); (case side3 => repeat (first | exact (zS HR1_1.out HB.out) | (with_reducible refine zP ?_ _) | (with_reducible refine zQ ?_ _) | (with_reducible refine zR ?_))); (case side4 => exact HC1_1.out); rintro e w' ⟨rfl, ⟨nd, rfl⟩⟩) | (go_at_call 35; (with_reducible refine (cotterref06_SameSyms.calls k _ _ l0_2 _ _ l1_2 t246 _ ?side1 ?side2 ?side3 ?side4 A6.out).mono ?_); (case side1 => repeat (first | exact (zS HR0_2.out (by repeat (first | exact HB.out | apply zA | apply zB | apply zD | refine zJ ?_ GE243.out | refine zJ ?_ GE244.out))) | (with_reducible refine zP ?_ _) | (with_reducible refine zQ ?_ _) | (with_reducible refine zR ?_))); (case side2 => exact HC0_2.out); (case side3 => repeat (first | exact (zS HR1_2.out (by repeat (first | exact HB.out | apply zA | apply zB | apply zD | refine zJ ?_ GE243.out | refine zJ ?_ GE244.out))) | (with_reducible refine zP ?_ _) | (with_reducible refine zQ ?_ _) | (with_reducible refine zR ?_))); (case side4 => exact HC1_2.out); rintro e w' ⟨rfl, ⟨nd, rfl⟩⟩))
   go_ret
   exact ⟨by first | rfl | (simp [errW_none, errW_some] <;> rfl) | (simp [*, errW_none, errW_some] <;> rfl), by repeat (first | exact HB.out | apply zA | apply zB | apply zD | refine zJ ?_ GE243.out | refine zJ ?_ GE244.out)⟩
  ·replace c5 := Bool.eq_false_iff.mpr c5
   subst c5
   have H1 : (some false) = some r := by rw [if_neg (show ¬ (false = true) by decide)] at H; exact H
   clear H
   have H := H1
   clear H1
   obtain rfl := Option.some.inj H
   go_enter Tryd.func16, Tryd.ntmps16
   go_wp2_with (first | ((with_reducible refine gate_dst (N := 2) rfl ?_); refine box_event ?hg (N := 2) ?hd (cs := #[.string a0_0, .slice A0_1 l0_1.length c0_1, .slice A0_2 l0_2.length c0_2]) (t := 25) ?hr ?_; (case hd => rfl); (case hg => rfl); (case hr => first | (go_simp; done) | (go_simp; rfl)); intro gb243 hg w12 hbox hb; have n0_ := z4 (zK (by repeat (first | exact HB.out | apply zA | apply zB | apply zD)) hb); have n1_ := z4 (hbox); have n2_ := z4 ((by rw [hg]; exact (zL (by repeat (first | exact HB.out | apply zA | apply zB | apply zD))) : w.heap.size ≤ gb243)); have n3_ := z4 ((by rw [hg]; exact (zL (by repeat (first | exact HB.out | apply zA | apply zB | apply zD))) : w.heap.size ≤ gb243)); clear HB; have HB := n0_; have BK243 := n1_; have GW243 := n2_; have GE243 := n3_; clear n0_ n1_ n2_ n3_; clear hb hbox hg) | ((with_reducible refine gate_dst (N := 3) rfl ?_); refine box_event ?hg (N := 3) ?hd (cs := #[.string a1_0, .slice A1_1 l1_1.length c1_1, .slice A1_2 l1_2.length c1_2]) (t := 25) ?hr ?_; (case hd => rfl); (case hg => rfl); (case hr => first | (go_simp; done) | (go_simp; rfl)); intro gb244 hg w13 hbox hb; have n0_ := z4 (blk_below (g := gb243) (o := .cells #[.string a0_0, .slice A0_1 l0_1.length c0_1, .slice A0_2 l0_2.length c0_2] 25 (0, 0)) (by (with_reducible repeat (first | refine zH ?_ _ | refine zI ?_ | refine zG ?_ _)); exact BK243.out) hb); have n1_ := z4 (zK (by repeat (first | exact HB.out | apply zA | apply zB | apply zD | refine zJ ?_ GE243.out)) hb); have n2_ := z4 (hbox); have n3_ := z4 ((by rw [hg]; exact (zL (by repeat (first | exact HB.out | apply zA | apply zB | apply zD | refine zJ ?_ GE243.out))) : w.heap.size ≤ gb244)); have n4_ := z4 ((by rw [hg]; exact (zL (by repeat (first | exact HB.out | apply zA | apply zB | apply zD | refine zJ ?_ GE243.out))) : w.heap.size ≤ gb244)); have n5_ := z4 ((by rw [hg]; exact Nat.ne_of_lt (blk_lt (g := gb243) (o := .cells #[.string a0_0, .slice A0_1 l0_1.length c0_1, .slice A0_2 l0_2.length c0_2] 25 (0, 0)) (by (with_reducible repeat (first | refine zH ?_ _ | refine zI ?_ | refine zG ?_ _)); exact BK243.out)) : gb243 ≠ gb244)); have n6_ := z4 ((by rw [hg]; exact Nat.ne_of_gt (blk_lt (g := gb243) (o := .cells #[.string a0_0, .slice A0_1 l0_1.length c0_1, .slice A0_2 l0_2.length c0_2] 25 (0, 0)) (by (with_reducible repeat (first | refine zH ?_ _ | refine zI ?_ | refine zG ?_ _)); exact BK243.out)) : gb244 ≠ gb243)); clear BK243; clear HB; have BK243 := n0_; have HB := n1_; have BK244 := n2_; have GW244 := n3_; have GE244 := n4_; have NB243_244 := n5_; have NB244_243 := n6_; clear n0_ n1_ n2_ n3_ n4_ n5_ n6_; clear hb hbox hg; have hnb14 := NB243_244.out; have hnc14 := NB244_243.out; have hcz15_0 : w13.cell? ⟨gb243, 0, none⟩ = some (.string a0_0) := (zC BK243.out 0).trans rfl; have hcz15_1 : w13.cell? ⟨gb243, 1, none⟩ = some (.slice A0_1 l0_1.length c0_1) := (zC BK243.out 1).trans rfl; have hcz15_2 : w13.cell? ⟨gb243, 2, none⟩ = some (.slice A0_2 l0_2.length c0_2) := (zC BK243.out 2).trans rfl; have hfz15_0 := zF BK243.out 0; have hfz15_1 := zF BK243.out 1; have hfz15_2 := zF BK243.out 2; have hcz16_0 : w13.cell? ⟨gb244, 0, none⟩ = some (.string a1_0) := (zC BK244.out 0).trans rfl; have hcz16_1 : w13.cell? ⟨gb244, 1, none⟩ = some (.slice A1_1 l1_1.length c1_1) := (zC BK244.out 1).trans rfl; have hcz16_2 : w13.cell? ⟨gb244, 2, none⟩ = some (.slice A1_2 l1_2.length c1_2) := (zC BK244.out 2).trans rfl; have hfz16_0 := zF BK244.out 0; have hfz16_1 := zF BK244.out 1; have hfz16_2 := zF BK244.out 2) | (go_at_call 34; (with_reducible refine (cotterref06_SameData.calls k _ _ l0_1 _ _ l1_1 false _ ?side1 ?side2 ?side3 ?side4 A4.out).mono ?_); (case side1 => repeat (first | exact (zS HR0_1.out HB.out) | (with_reducible refine zP ?_ _) | (with_reducible refine zQ ?_ _) | (with_reducible refine zR ?_))); (case side2 => exact HC0_1.out); (case side3 => repeat (first | exact (zS HR1_1.out HB.out) | (with_reducible refine zP ?_ _) | (with_reducible refine zQ ?_ _) | (with_reducible refine zR ?_))); (case side4 => exact HC1_1.out); rintro e w' ⟨rfl, ⟨nd, rfl⟩⟩))
   go_ret
   exact ⟨by first | rfl | (simp [errW_none, errW_some] <;> rfl) | (simp [*, errW_none, errW_some] <;> rfl), by repeat (first | exact HB.out | apply zA | apply zB | apply zD | refine zJ ?_ GE243.out | refine zJ ?_ GE244.out)⟩
 ·rw [if_neg c3] at H
  have c3b0 : (a0_0.toList == a1_0.toList) = false := z7 c3
  have c3b1 : (a0_0.toList != a1_0.toList) = true := bne_iff_ne.mpr c3
  obtain rfl := Option.some.inj H
  go_enter Tryd.func16, Tryd.ntmps16
  go_wp2_with (first | ((with_reducible refine gate_dst (N := 2) rfl ?_); refine box_event ?hg (N := 2) ?hd (cs := #[.string a0_0, .slice A0_1 l0_1.length c0_1, .slice A0_2 l0_2.length c0_2]) (t := 25) ?hr ?_; (case hd => rfl); (case hg => rfl); (case hr => first | (go_simp; done) | (go_simp; rfl)); intro gb243 hg w17 hbox hb; have n0_ := z4 (zK (by repeat (first | exact HB.out | apply zA | apply zB | apply zD)) hb); have n1_ := z4 (hbox); have n2_ := z4 ((by rw [hg]; exact (zL (by repeat (first | exact HB.out | apply zA | apply zB | apply zD))) : w.heap.size ≤ gb243)); have n3_ := z4 ((by rw [hg]; exact (zL (by repeat (first | exact HB.out | apply zA | apply zB | apply zD))) : w.heap.size ≤ gb243)); clear HB; have HB := n0_; have BK243 := n1_; have GW243 := n2_; have GE243 := n3_; clear n0_ n1_ n2_ n3_; clear hb hbox hg) | ((with_reducible refine gate_dst (N := 3) rfl ?_); refine box_event ?hg (N := 3) ?hd (cs := #[.string a1_0, .slice A1_1 l1_1.length c1_1, .slice A1_2 l1_2.length c1_2]) (t := 25) ?hr ?_; (case hd => rfl); (case hg => rfl); (case hr => first | (go_simp; done) | (go_simp; rfl)); intro gb244 hg w18 hbox hb; have n0_ := z4 (blk_below (g := gb243) (o := .cells #[.string a0_0, .slice A0_1 l0_1.length c0_1, .slice A0_2 l0_2.length c0_2] 25 (0, 0)) (by (with_reducible repeat (first | refine zH ?_ _ | refine zI ?_ | refine zG ?_ _)); exact BK243.out) hb); have n1_ := z4 (zK (by repeat (first | exact HB.out | apply zA | apply zB | apply zD | refine zJ ?_ GE243.out)) hb); have n2_ := z4 (hbox); have n3_ := z4 ((by rw [hg]; exact (zL (by repeat (first | exact HB.out | apply zA | apply zB | apply zD | refine zJ ?_ GE243.out))) : w.heap.size ≤ gb244)); have n4_ := z4 ((by rw [hg]; exact (zL (by repeat (first | exact HB.out | apply zA | apply zB | apply zD | refine zJ ?_ GE243.out))) : w.heap.size ≤ gb244)); have n5_ := z4 ((by rw [hg]; exact Nat.ne_of_lt (blk_lt (g := gb243) (o := .cells #[.string a0_0, .slice A0_1 l0_1.length c0_1, .slice A0_2 l0_2.length c0_2] 25 (0, 0)) (by (with_reducible repeat (first | refine zH ?_ _ | refine zI ?_ | refine zG ?_ _)); exact BK243.out)) : gb243 ≠ gb244)); have n6_ := z4 ((by rw [hg]; exact Nat.ne_of_gt (blk_lt (g := gb243) (o := .cells #[.string a0_0, .slice A0_1 l0_1.length c0_1, .slice A0_2 l0_2.length c0_2] 25 (0, 0)) (by (with_reducible repeat (first | refine zH ?_ _ | refine zI ?_ | refine zG ?_ _)); exact BK243.out)) : gb244 ≠ gb243)); clear BK243; clear HB; have BK243 := n0_; have HB := n1_; have BK244 := n2_; have GW244 := n3_; have GE244 := n4_; have NB243_244 := n5_; have NB244_243 := n6_; clear n0_ n1_ n2_ n3_ n4_ n5_ n6_; clear hb hbox hg; have hnb19 := NB243_244.out; have hnc19 := NB244_243.out; have hcz20_0 : w18.cell? ⟨gb243, 0, none⟩ = some (.string a0_0) := (zC BK243.out 0).trans rfl; have hcz20_1 : w18.cell? ⟨gb243, 1, none⟩ = some (.slice A0_1 l0_1.length c0_1) := (zC BK243.out 1).trans rfl; have hcz20_2 : w18.cell? ⟨gb243, 2, none⟩ = some (.slice A0_2 l0_2.length c0_2) := (zC BK243.out 2).trans rfl; have hfz20_0 := zF BK243.out 0; have hfz20_1 := zF BK243.out 1; have hfz20_2 := zF BK243.out 2; have hcz21_0 : w18.cell? ⟨gb244, 0, none⟩ = some (.string a1_0) := (zC BK244.out 0).trans rfl; have hcz21_1 : w18.cell? ⟨gb244, 1, none⟩ = some (.slice A1_1 l1_1.length c1_1) := (zC BK244.out 1).trans rfl; have hcz21_2 : w18.cell? ⟨gb244, 2, none⟩ = some (.slice A1_2 l1_2.length c1_2) := (zC BK244.out 2).trans rfl; have hfz21_0 := zF BK244.out 0; have hfz21_1 := zF BK244.out 1; have hfz21_2 := zF BK244.out 2))
  go_ret
  exact ⟨by first | rfl | (simp [errW_none, errW_some] <;> rfl) | (simp [*, errW_none, errW_some] <;> rfl), by repeat (first | exact HB.out | apply zA | apply zB | apply zD | refine zJ ?_ GE243.out | refine zJ ?_ GE244.out)⟩
def cotterlaw08_small.f (a0_0 : ByteArray) (l0_1 : List Int) (l0_2 : List (S68)) : Option (Bool) := if (l0_2.length : Int) ≤ 200 then (some (decide ((a0_0.size : Int) ≤ 4000))) else (some false)
set_option maxHeartbeats 8000000 in
set_option maxRecDepth 100000 in
theorem cotterlaw08_small.calls (a0_0 : ByteArray) (A0_1 : Option Addr) (c0_1 : Nat) (l0_1 : List Int) (A0_2 : Option Addr) (c0_2 : Nat) (l0_2 : List (S68)) (r : Bool) (w : World) (hr0_1 : Kd.C (Kd.int .i64) w A0_1 l0_1.length l0_1) (hc0_1 : l0_1.length ≤ c0_1) (hr0_2 : Kd.C k68 w A0_2 l0_2.length l0_2) (hc0_2 : l0_2.length ≤ c0_2) (h : cotterlaw08_small.f a0_0 l0_1 l0_2 = some r) :
 Calls Tryd.prog 7 #[.agg #[.string a0_0, .slice A0_1 l0_1.length c0_1, .slice A0_2 l0_2.length c0_2]] w fun e w' => e = .returned (.bool r) ∧ Below w.heap.size w w' := by
 have hu25 := Tryd.underlying25
 have HR0_1 := z4 hr0_1
 have HC0_1 := z4 hc0_1
 clear hr0_1 hc0_1
 have HR0_2 := z4 hr0_2
 have HC0_2 := z4 hc0_2
 clear hr0_2 hc0_2
 have HB := z4 (Below.refl w.heap.size w)
 have H : (if (l0_2.length : Int) ≤ 200 then (some (decide ((a0_0.size : Int) ≤ 4000))) else (some false)) = some r := h
 clear h
 by_cases c2 : (l0_2.length : Int) ≤ 200
 ·rw [if_pos c2] at H
  have c2b0 : decide ((l0_2.length : Int) ≤ 200) = true := decide_eq_true c2
  have c2b1 : decide (l0_2.length ≤ 200) = true := decide_eq_true (by omega)
  clear c2
  obtain rfl := Option.some.inj H
  go_enter Tryd.func7, Tryd.ntmps7
  go_wp2_with (first | ((with_reducible refine gate_dst (N := 1) rfl ?_); (try (refine gate_guard (by rfl) ?_; dsimp only)); refine box_event ?hg (N := 1) ?hd (cs := #[.string a0_0, .slice A0_1 l0_1.length c0_1, .slice A0_2 l0_2.length c0_2]) (t := 25) ?hr ?_; (case hd => rfl); (case hg => rfl); (case hr => first | (go_simp; done) | (go_simp; rfl)); intro gb247 hg w3 hbox hb; have n0_ := z4 (zK (by repeat (first | exact HB.out | apply zA | apply zB | apply zD)) hb); have n1_ := z4 (hbox); have n2_ := z4 ((by rw [hg]; exact (zL (by repeat (first | exact HB.out | apply zA | apply zB | apply zD))) : w.heap.size ≤ gb247)); have n3_ := z4 ((by rw [hg]; exact (zL (by repeat (first | exact HB.out | apply zA | apply zB | apply zD))) : w.heap.size ≤ gb247)); clear HB; have HB := n0_; have BK247 := n1_; have GW247 := n2_; have GE247 := n3_; clear n0_ n1_ n2_ n3_; clear hb hbox hg; have hcz4_0 : w3.cell? ⟨gb247, 0, none⟩ = some (.string a0_0) := (zC BK247.out 0).trans rfl; have hcz4_1 : w3.cell? ⟨gb247, 1, none⟩ = some (.slice A0_1 l0_1.length c0_1) := (zC BK247.out 1).trans rfl; have hcz4_2 : w3.cell? ⟨gb247, 2, none⟩ = some (.slice A0_2 l0_2.length c0_2) := (zC BK247.out 2).trans rfl; have hfz4_0 := zF BK247.out 0; have hfz4_1 := zF BK247.out 1; have hfz4_2 := zF BK247.out 2))
  go_ret
  exact ⟨by first | rfl | (simp [errW_none, errW_some] <;> rfl) | (simp [*, errW_none, errW_some] <;> rfl), by repeat (first | exact HB.out | apply zA | apply zB | apply zD | refine zJ ?_ GE247.out)⟩
 ·rw [if_neg c2] at H
  have c2b0 : decide ((l0_2.length : Int) ≤ 200) = false := decide_eq_false c2
  have c2b1 : decide (l0_2.length ≤ 200) = false := decide_eq_false (by omega)
  clear c2
  obtain rfl := Option.some.inj H
  go_enter Tryd.func7, Tryd.ntmps7
  go_wp2_with (first | ((with_reducible refine gate_dst (N := 1) rfl ?_); (try (refine gate_guard (by rfl) ?_; dsimp only)); refine box_event ?hg (N := 1) ?hd (cs := #[.string a0_0, .slice A0_1 l0_1.length c0_1, .slice A0_2 l0_2.length c0_2]) (t := 25) ?hr ?_; (case hd => rfl); (case hg => rfl); (case hr => first | (go_simp; done) | (go_simp; rfl)); intro gb247 hg w5 hbox hb; have n0_ := z4 (zK (by repeat (first | exact HB.out | apply zA | apply zB | apply zD)) hb); have n1_ := z4 (hbox); have n2_ := z4 ((by rw [hg]; exact (zL (by repeat (first | exact HB.out | apply zA | apply zB | apply zD))) : w.heap.size ≤ gb247)); have n3_ := z4 ((by rw [hg]; exact (zL (by repeat (first | exact HB.out | apply zA | apply zB | apply zD))) : w.heap.size ≤ gb247)); clear HB; have HB := n0_; have BK247 := n1_; have GW247 := n2_; have GE247 := n3_; clear n0_ n1_ n2_ n3_; clear hb hbox hg; have hcz6_0 : w5.cell? ⟨gb247, 0, none⟩ = some (.string a0_0) := (zC BK247.out 0).trans rfl; have hcz6_1 : w5.cell? ⟨gb247, 1, none⟩ = some (.slice A0_1 l0_1.length c0_1) := (zC BK247.out 1).trans rfl; have hcz6_2 : w5.cell? ⟨gb247, 2, none⟩ = some (.slice A0_2 l0_2.length c0_2) := (zC BK247.out 2).trans rfl; have hfz6_0 := zF BK247.out 0; have hfz6_1 := zF BK247.out 1; have hfz6_2 := zF BK247.out 2))
  go_ret
  exact ⟨by first | rfl | (simp [errW_none, errW_some] <;> rfl) | (simp [*, errW_none, errW_some] <;> rfl), by repeat (first | exact HB.out | apply zA | apply zB | apply zD | refine zJ ?_ GE247.out)⟩
def cotterlaw08_halt.f (a0 : Int) : Option (ByteArray × List Int × (List (S68))) := some ((⟨#[32]⟩ : ByteArray), ([] : List Int), (([(⟨(⟨#[116]⟩ : ByteArray), 3, a0⟩ : S68)] : List (S68))))
set_option maxHeartbeats 8000000 in
set_option maxRecDepth 100000 in
theorem cotterlaw08_halt.calls (a0 : Int) (r1 : ByteArray) (r2 : List Int) (r3 : List (S68)) (w : World) (h : cotterlaw08_halt.f a0 = some (r1, r2, r3)) :
 Calls Tryd.prog 22 #[.int .i64 a0] w fun e w' => ∃ v1_ v2_ : Value, e = .returned (.agg #[.string r1, v1_, v2_]) ∧ Kd.R (Kd.int .i64) 2 w' w.heap.size (fun _ => True) v1_ r2 ∧ Kd.R k68 68 w' w.heap.size (fun _ => True) v2_ r3 ∧ Below w.heap.size w w' := by
 have hu25 := Tryd.underlying25
 have hu68 := Tryd.underlying68
 have HB := z4 (Below.refl w.heap.size w)
 have H : (some ((⟨#[32]⟩ : ByteArray), ([] : List Int), (([(⟨(⟨#[116]⟩ : ByteArray), 3, a0⟩ : S68)] : List (S68))))) = some (r1, r2, r3) := h
 clear h
 obtain ⟨y249, hy249⟩ : ∃ y_ : List (S68), y_ = (([(⟨(⟨#[116]⟩ : ByteArray), 3, a0⟩ : S68)] : List (S68))) := ⟨_, rfl⟩
 replace H : (some ((⟨#[32]⟩ : ByteArray), ([] : List Int), y249)) = some (r1, r2, r3) := by first | (rw [hy249]; with_reducible exact H) | (have H2_ := (Option.bind_some _ _).symm.trans H; rw [hy249]; with_reducible exact H2_) | (have H2_ := (Option.bind_some _ _).symm.trans H; with_reducible exact H2_) | with_reducible exact H | (rw [hy249]; exact H) | exact H
 have Ny249 := z4 hy249
 clear hy249
 simp only [Option.some.injEq, Prod.mk.injEq] at H
 obtain ⟨rfl, rfl, rfl⟩ := H
 go_enter Tryd.func22, Tryd.ntmps22
 go_wp2_with (first | ((with_reducible refine gate_dst (N := 2) rfl ?_); refine box_event ?hg (N := 2) ?hd (cs := #[.string (⟨#[]⟩ : ByteArray), .slice none 0 0, .slice none 0 0]) (t := 25) ?hr ?_; (case hd => rfl); (case hg => rfl); (case hr => first | (go_simp; done) | (go_simp; rfl)); intro gb248 hg w2 hbox hb; have n0_ := z4 (zK (by repeat (first | exact HB.out | apply zA | apply zB | apply zD)) hb); have n1_ := z4 (hbox); have n2_ := z4 ((by rw [hg]; exact (zL (by repeat (first | exact HB.out | apply zA | apply zB | apply zD))) : w.heap.size ≤ gb248)); have n3_ := z4 ((by rw [hg]; exact (zL (by repeat (first | exact HB.out | apply zA | apply zB | apply zD))) : w.heap.size ≤ gb248)); clear HB; have HB := n0_; have BK248 := n1_; have GW248 := n2_; have GE248 := n3_; clear n0_ n1_ n2_ n3_; clear hb hbox hg) | ((with_reducible refine gate_dst (N := 5) rfl ?_); refine Kd.R_lit k68 _ 68 ?hg (N := 5) ?hd (xs := ([(⟨(⟨#[116]⟩ : ByteArray), 3, a0⟩ : S68)] : List (S68))) (inner := [.string (⟨#[116]⟩ : ByteArray), .int .i64 3, .int .i64 a0]) (ok := fun _ => True) (okp := fun _ => True) ?hr ?hp (fun _ hk => hk) trivial (Below.refl _ _) (Nat.le_refl _) (by simp) ?_; (case hd => rfl); (case hg => rfl); (case hr => first | (go_simp; done) | (go_simp; rfl)); (case hp => exact (Reps.c3 (show Kd.M k68 _ _ _ (⟨(⟨#[116]⟩ : ByteArray), 3, a0⟩ : S68) [.string (⟨#[116]⟩ : ByteArray), .int .i64 3, .int .i64 a0] from (k68_mkM _ _ _ (⟨(⟨#[116]⟩ : ByteArray), 3, a0⟩ : S68) )) (Reps.none _ _))); intro v250 w3 ho4 hb hg_ hnew_; clear hg_ hnew_; (first | rw [← Ny249.out] at ho4 | (simp only [Int.reduceToNat] at ho4; rw [← Ny249.out] at ho4)); have n0_ := z4 (zU ho4 (zL (by repeat (first | exact HB.out | apply zA | apply zB | apply zD | refine zJ ?_ GE248.out)))); have n1_ := z4 (blk_below (g := gb248) (o := .cells #[.string (⟨#[]⟩ : ByteArray), .slice none 0 0, .slice none 0 0] 25 (0, 0)) (by (with_reducible repeat (first | refine zH ?_ _ | refine zI ?_ | refine zG ?_ _)); exact BK248.out) hb); have n2_ := z4 (zK (by repeat (first | exact HB.out | apply zA | apply zB | apply zD | refine zJ ?_ GE248.out)) hb); clear BK248; clear HB; have HO251 := n0_; have BK248 := n1_; have HB := n2_; clear n0_ n1_ n2_; clear hb ho4; obtain ⟨Ao5, co5, eo5⟩ := Kd.R_slice HO251.out; subst eo5; have hcz6_0 : w3.cell? ⟨gb248, 0, none⟩ = some (.string (⟨#[]⟩ : ByteArray)) := (zC BK248.out 0).trans rfl; have hcz6_1 : w3.cell? ⟨gb248, 1, none⟩ = some (.slice none 0 0) := (zC BK248.out 1).trans rfl; have hcz6_2 : w3.cell? ⟨gb248, 2, none⟩ = some (.slice none 0 0) := (zC BK248.out 2).trans rfl; have hfz6_0 := zF BK248.out 0; have hfz6_1 := zF BK248.out 1; have hfz6_2 := zF BK248.out 2))
 refine bodyPost_ret (results_cell_row rfl _ _ gb248 25 #[.string (⟨#[32]⟩ : ByteArray), .slice none 0 0, .slice Ao5 y249.length co5] (0, 0) _ rfl (by (with_reducible repeat (first | refine zH ?_ _ | refine zI ?_ | refine zG ?_ _)); refine blk_put (cs := #[.string (⟨#[32]⟩ : ByteArray), .slice none 0 0, .slice none 0 0]) ?_ 2 _ rfl; (with_reducible repeat (first | refine zH ?_ _ | refine zI ?_ | refine zG ?_ _)); refine blk_put (cs := #[.string (⟨#[32]⟩ : ByteArray), .slice none 0 0, .slice none 0 0]) ?_ 1 _ rfl; (with_reducible repeat (first | refine zH ?_ _ | refine zI ?_ | refine zG ?_ _)); refine blk_put (cs := #[.string (⟨#[]⟩ : ByteArray), .slice none 0 0, .slice none 0 0]) ?_ 0 _ rfl; (with_reducible repeat (first | refine zH ?_ _ | refine zI ?_ | refine zG ?_ _)); exact BK248.out) Tryd.underlying25 rfl (by kernel_rfl)) rfl ?_
 exact ⟨_, _, by first | rfl | (simp [errW_none, errW_some] <;> rfl) | (simp [*, errW_none, errW_some] <;> rfl), by first | exact Kd.R_nil _ _ _ _ _ | exact Kd.N_nil _ _ _ _ _ | exact Kd.V_nil _ _ _ _ _ | exact Kd.Q_nil _ _ _ _ _ | exact Kd.S_nil _ _ _ _ _, by (with_reducible repeat (first | apply zM | apply zN | apply zO)); exact Kd.R_mono (Kd.R_far (p := ⟨gb248, 2, none⟩) (Kd.R_far (p := ⟨gb248, 1, none⟩) (Kd.R_far (p := ⟨gb248, 0, none⟩) (Kd.R_types HO251.out BK248.out (by decide)) (fun _ hk => hk.2) (.string (⟨#[32]⟩ : ByteArray))) (fun _ hk => hk.2) (.slice none 0 0)) (fun _ hk => hk.2) (.slice Ao5 y249.length co5)) (fun _ hk => trivial), by repeat (first | exact HB.out | apply zA | apply zB | apply zD | refine zJ ?_ GE248.out)⟩
end Go.Proofs.YtimhcpmfhebbhaaDoor.M
namespace Go.Proofs.YtimhcpmfhebbhaaDoor.M
set_option maxRecDepth 100000
set_option maxRecDepth 100000
open Go.RowKit Go.Proofs.YtimhcpmfhebbhaaDoorW.PrintWords Go.Proofs.YtimhcpmfhebbhaaDoorW.PrintLast Go.Proofs.YtimhcpmfhebbhaaDoor.Num Go.Proofs.YtimhcpmfhebbhaaDoor.Seven Go.Proofs.YtimhcpmfhebbhaaDoor.Word1 Go.Proofs.YtimhcpmfhebbhaaDoor.Obj
set_option linter.unusedVariables false
set_option linter.unusedSimpArgs false
theorem put_one : putL 1 = [1] := by
 rw [putL]
 rfl
abbrev HaltC : ByteArray := ⟨#[32]⟩
abbrev HaltY (n : Int) : List S68 := [⟨⟨#[116]⟩, 3, n⟩]
abbrev HaltS : ByteArray := ⟨#[73, 77, 71, 49, 1, 32, 0, 1, 1, 116, 3, 0]⟩
theorem halt_front : front IMG1 HaltC [] (HaltY 0) = bytesOf HaltS := by
 simp only [front, front1, front0, textL, dataL, symsL, symL, List.flatMap_cons, List.flatMap_nil, List.length_nil, List.length_cons]
 rw [show HaltC.size = 1 from rfl, show (⟨#[116]⟩ : ByteArray).size = 1 from rfl, show (0 : Int).toNat = 0 from rfl, show 0 + 1 = 1 from rfl, put_zero, put_one]
 rfl
theorem halt_may : mayI HaltC [] (HaltY 0) = true := by kernel_rfl
theorem halt_not : mayI HaltC [] (HaltY 1) = false := by kernel_rfl
theorem words_nil : wordsOk [] := fun n hn => by cases hn
theorem halt_write : image_Write.f HaltC [] (HaltY 0) = some (HaltS, 0) := by
 unfold image_Write.f imgW
 rw [if_pos words_nil, if_pos halt_may, halt_front, str_bytesOf]
theorem halt_read : image_Read.f HaltS = some (HaltC, [], HaltY 0, 0) := by
 unfold image_Read.f
 rw [if_pos (by decide), imgR_yes ⟨halt_front.symm, halt_may, words_nil⟩]
/-- What live's callees tell, by names for the values. -/
structure LiveF (c S : ByteArray) (d : List Int) (y0 y1 : List S68) (th : List ByteArray) : Prop where
 h0 : ∀ w : World, Calls Tryd.prog 22 #[.int .i64 0] w fun e w' => ∃ (A1 A2 : Option Addr) (c1 c2 : Nat), e = .returned (.agg #[.string c, .slice A1 d.length c1, .slice A2 y0.length c2]) ∧ Kd.R (Kd.int .i64) 2 w' w.heap.size (fun _ => True) (.slice A1 d.length c1) d ∧ Kd.R k68 68 w' w.heap.size (fun _ => True) (.slice A2 y0.length c2) y0 ∧ Below w.heap.size w w'
 h1 : ∀ w : World, Calls Tryd.prog 22 #[.int .i64 1] w fun e w' => ∃ (A1 A2 : Option Addr) (c1 c2 : Nat), e = .returned (.agg #[.string c, .slice A1 d.length c1, .slice A2 y1.length c2]) ∧ Kd.R (Kd.int .i64) 2 w' w.heap.size (fun _ => True) (.slice A1 d.length c1) d ∧ Kd.R k68 68 w' w.heap.size (fun _ => True) (.slice A2 y1.length c2) y1 ∧ Below w.heap.size w w'
 wr : image_Write.f c d y0 = some (S, 0)
 rd : image_Read.f S = some (c, d, y0, 0)
 ths : image_Threads.f 100 c d y0 = some th
 sm : cotterref07_Same.f 100 c d y0 c d y0 = some true
 ck : image_Check.f c d y1 = some 9
 tx : (S.toList == ([73, 77, 71, 49, 1, 32, 0, 1, 1, 116, 3, 0] : List UInt8)) = true
 tl : th.length = 1
 t0 : ((rdOf ByteArray.empty th 0).toList == ([116] : List UInt8)) = true
theorem halt_c (n : Int) (w : World) : Calls Tryd.prog 22 #[.int .i64 n] w fun e w' => ∃ (A1 A2 : Option Addr) (c1 c2 : Nat), e = .returned (.agg #[.string HaltC, .slice A1 ([] : List Int).length c1, .slice A2 (HaltY n).length c2]) ∧ Kd.R (Kd.int .i64) 2 w' w.heap.size (fun _ => True) (.slice A1 ([] : List Int).length c1) [] ∧ Kd.R k68 68 w' w.heap.size (fun _ => True) (.slice A2 (HaltY n).length c2) (HaltY n) ∧ Below w.heap.size w w' := by
 refine (cotterlaw08_halt.calls n HaltC [] (HaltY n) w rfl).mono ?_
 rintro e w' ⟨v1, v2, rfl, h1, h2, hb⟩
 obtain ⟨A1, c1, rfl⟩ := Kd.R_slice h1
 obtain ⟨A2, c2, rfl⟩ := Kd.R_slice h2
 exact ⟨A1, A2, c1, c2, rfl, h1, h2, hb⟩
theorem live_facts : LiveF HaltC HaltS [] (HaltY 0) (HaltY 1) (threadsOf (HaltY 0)) where
 h0 := halt_c 0
 h1 := halt_c 1
 wr := halt_write
 rd := halt_read
 ths := ithreads_f HaltC [] (HaltY 0) (by decide) 100 (by decide)
 sm := by kernel_rfl
 ck := by unfold image_Check.f; rw [halt_not]; rfl
 tx := by kernel_rfl
 tl := rfl
 t0 := by kernel_rfl
theorem and_belowL {W w1 : World} (hb : Below W.heap.size W w1) {a : Addr} {v : Value} {R R' : Prop} (h : W.cell? a = some v ∧ R) (k : R → R') : w1.cell? a = some v ∧ R' := ⟨pw_cell_below hb h.1, k h.2⟩
set_option maxHeartbeats 16000000 in
theorem live_c {c S : ByteArray} {d : List Int} {y0 y1 : List S68} {th : List ByteArray} (F : LiveF c S d y0 y1 th) (w : World) (hG : Glob w) : Calls Tryd.prog 8 #[] w fun e w' => e = .returned (.bool true) ∧ Below w.heap.size w w' := by
 have HG := z4 hG
 have FF := z4 F
 have tx := F.tx
 have tl := F.tl
 have TL := z4 tl
 have tl1 : ((th.length : Int) == 1) = true := by rw [tl]; rfl
 have t0 := F.t0
 have T1 : True := trivial
 have T2 : True := trivial
 clear hG F
 go_enter Tryd.func8, Tryd.ntmps8
 go_wp2_with (first
  | (clear T1; go_at_call 22; (with_reducible refine (FF.out.h0 _).mono ?_); rintro e w1 ⟨A1, A2, c1, c2, rfl, h1, h2, hb⟩; have H1 := z4 (zT h1); have H2 := z4 (zT h2); have HB1 := z4 hb; clear h1 h2 hb)
  | (go_at_call 10; (with_reducible refine (image_Write.calls c A1 c1 d A2 c2 y0 S 0 _ (HG.out.below HB1.out rfl) H1.out.2.2 H1.out.2.1 H2.out.2.2 H2.out.2.1 FF.out.wr).mono ?_); rintro e w2 ⟨rfl, hb⟩; have HB2 := z4 (below_inL HB1.out hb); clear hb H1 H2)
  | (go_at_call 17; (with_reducible refine (image_Read.calls S c d y0 0 _ (HG.out.below HB2.out rfl) FF.out.rd).mono ?_); rintro e w3 ⟨v1, v2, rfl, h1, h2, hb⟩; obtain ⟨A3, c3, rfl⟩ := Kd.R_slice h1; obtain ⟨A4, c4, rfl⟩ := Kd.R_slice h2; have H1 := z4 (zT h1); have H2 := z4 (zT h2); have HB3 := z4 (zA (below_inL HB2.out hb) (.cells #[.string c, .slice A3 d.length c3, .slice A4 y0.length c4] 25)); have BX := z4 (blk_new w3 (.cells #[.string c, .slice A3 d.length c3, .slice A4 y0.length c4] 25)); have HC1 := z4 (zP H1.out.2.2 (.cells #[.string c, .slice A3 d.length c3, .slice A4 y0.length c4] 25)); have HC2 := z4 (zP H2.out.2.2 (.cells #[.string c, .slice A3 d.length c3, .slice A4 y0.length c4] 25)); clear h1 h2 hb)
  | (clear T2; go_at_call 22; (with_reducible refine (FF.out.h0 _).mono ?_); rintro e w4 ⟨A5, A6, c5, c6, rfl, h1, h2, hb⟩; have H5 := z4 (zT h1); have H6 := z4 (zT h2); have HB4 := z4 (below_inL HB3.out hb); have BX4 := z4 (blk_below BX.out hb); have HC14 := z4 (zS HC1.out hb); have HC24 := z4 (zS HC2.out hb); clear h1 h2 hb)
  | (go_at_call 12; (with_reducible refine (image_Threads.calls 100 c A5 c5 d A6 c6 y0 th _ H5.out.2.2 H5.out.2.1 H6.out.2.2 H6.out.2.1 FF.out.ths).mono ?_); rintro e w5 ⟨v7, rfl, h1, hb⟩; obtain ⟨A7, c7, rfl⟩ := Kd.R_slice h1; obtain ⟨ad7, e7, hx7⟩ := Kd.at_string (zT h1).2.2 0 (by omega) (by have := TL.out; omega); cases e7; have HB5 := z4 (below_inL HB4.out hb); have BX5 := z4 (blk_below BX4.out hb); have HC15 := z4 (zS HC14.out hb); have HC25 := z4 (zS HC24.out hb); clear h1 hb HB4 BX4 HC14 HC24 HB3 BX HC1 HC2 H5 H6))
 have hq0 : w5.cell? ⟨w3.heap.size, 0, none⟩ = some (.string c) := (zC BX5.out 0).trans rfl
 have hq1 : w5.cell? ⟨w3.heap.size, 1, none⟩ = some (.slice A3 d.length c3) := (zC BX5.out 1).trans rfl
 have hq2 : w5.cell? ⟨w3.heap.size, 2, none⟩ = some (.slice A4 y0.length c4) := (zC BX5.out 2).trans rfl
 rw [show Int.toNat 0 = 0 from rfl] at hx7
 generalize rdOf ByteArray.empty th 0 = tn at *
 have ea : ad7.add 0 = ad7 := by
  obtain ⟨b, o, q⟩ := ad7
  cases q <;> first | rfl | simp [Addr.add]
 rw [ea] at hx7
 clear ea
 go_region_held3 (fun w' => w'.cell? ⟨w3.heap.size, 0, none⟩ = some (.string c) ∧ w'.cell? ⟨w3.heap.size, 1, none⟩ = some (.slice A3 d.length c3) ∧ w'.cell? ⟨w3.heap.size, 2, none⟩ = some (.slice A4 y0.length c4) ∧ w'.cell? ad7 = some (.string tn) ∧ Below w5.heap.size w5 w') (first | (refine and_belowL (by assumption) (by assumption) (fun h => ?_); (repeat (refine and_belowL (by assumption) h (fun h => ?_))); exact below_then h h.size (by assumption)) | ((repeat' apply And.intro) <;> first | (apply zD; exact Below.refl _ _) | (go_keep; done)))
  (first
   | (go_at_call 22; (first | (with_reducible refine (FF.out.h0 _).mono ?_) | (with_reducible refine (FF.out.h1 _).mono ?_)); rintro e w6 ⟨A8, A9, c8, c9, rfl, h1, h2, hb1⟩; have H8 := z4 (zT h1); have H9 := z4 (zT h2); clear h1 h2)
   | (go_at_call 16; (have hS_ := ‹_ ∧ _›); (have hB_ := hS_.2.2.2.2); clear hS_; (with_reducible refine (cotterref07_Same.calls 100 c A3 c3 d A4 c4 y0 c A8 c8 d A9 c9 y0 true _ (zS HC15.out hB_) H1.out.2.1 (zS HC25.out hB_) H2.out.2.1 H8.out.2.2 H8.out.2.1 H9.out.2.2 H9.out.2.1 FF.out.sm).mono ?_); rintro e w7 ⟨rfl, hb1⟩)
   | (go_at_call 14; (have hS_ := ‹_ ∧ _›); (have hB_ := hS_.2.2.2.2); clear hS_; (with_reducible refine (image_Check.calls c A8 c8 d A9 c9 y1 9 _ (HG.out.below (below_inL HB5.out hB_) rfl) H8.out.2.2 H8.out.2.1 H9.out.2.2 H9.out.2.1 FF.out.ck).mono ?_); rintro e w8 ⟨rfl, hb1⟩))
 all_goals (have hS_ := ‹_ ∧ _›)
 all_goals (have HE := z4 (below_inL HB5.out hS_.2.2.2.2))
 all_goals clear hS_
 all_goals go_wp2
 all_goals go_ret
 all_goals exact ⟨rfl, HE.out⟩
def cotterlaw08_live.f : Option Bool := some true
theorem cotterlaw08_live.calls (r : Bool) (w : World) (hG : Glob w) (h : cotterlaw08_live.f = some r) :
 Calls Tryd.prog 8 #[] w fun e w' => e = .returned (.bool r) ∧ Below w.heap.size w w' := by
 unfold cotterlaw08_live.f at h
 injection h with h
 subst h
 exact live_c live_facts w hG
end Go.Proofs.YtimhcpmfhebbhaaDoor.M
namespace Go.Proofs.YtimhcpmfhebbhaaDoor.M
set_option maxRecDepth 100000
open Go.RowKit Go.Proofs.YtimhcpmfhebbhaaDoorW.PrintWords Go.Proofs.YtimhcpmfhebbhaaDoor.Num Go.Proofs.YtimhcpmfhebbhaaDoor.Seven Go.Proofs.YtimhcpmfhebbhaaDoor.Word1 Go.Proofs.YtimhcpmfhebbhaaDoor.Obj
set_option linter.unusedVariables false
set_option linter.unusedSimpArgs false
theorem drop_cons {α : Type} {l : List α} {i : Nat} (h : i < l.length) : l.drop i = l[i] :: l.drop (i + 1) := List.drop_eq_getElem_cons h
theorem sameData_l0 (x y : List Int) (hl : x.length = y.length) (hm : x.length ≤ 9223372036854775806) : ∀ (d k i : Nat), x.length - i = d → i ≤ x.length → d < k → ∃ b, cotterref06_SameData.l0 k x y i = some b ∧ (b = true ↔ x.drop i = y.drop i) := by
 intro d
 induction d with
 | zero =>
  intro k i h1 h2 hk
  match k, hk with
  | k + 1, hk =>
   refine ⟨true, ?_, ?_⟩
   ·rw [cotterref06_SameData.l0, if_neg (by omega)]
   ·rw [List.drop_eq_nil_of_le (by omega), List.drop_eq_nil_of_le (by omega)]; simp
 | succ d ih =>
  intro k i h1 h2 hk
  match k, hk with
  | k + 1, hk =>
   have hx : i < x.length := by omega
   have hy : i < y.length := by omega
   rw [cotterref06_SameData.l0, if_pos (by omega), if_pos (by omega), if_pos (by omega)]
   have ex : rd x (i : Int) = x[i] := by simp [rd, List.getD_eq_getElem?_getD, List.getElem?_eq_getElem hx]
   have ey : rd y (i : Int) = y[i] := by simp [rd, List.getD_eq_getElem?_getD, List.getElem?_eq_getElem hy]
   rw [ex, ey, drop_cons hx, drop_cons hy, wrap64_id (by omega) (by omega)]
   clear ex ey
   generalize x[i] = a
   generalize y[i] = c
   by_cases he : a = c
   ·rw [if_pos he]
    obtain ⟨b, hb, hi⟩ := ih k (i + 1) (by omega) (by omega) (by omega)
    exact ⟨b, hb, by rw [hi, he]; simp⟩
   ·rw [if_neg he]
    exact ⟨false, rfl, by simp [he]⟩
theorem sameData_f (x y : List Int) (hm : x.length ≤ 9223372036854775806) (k : Nat) (hk : x.length < k) : ∃ b, cotterref06_SameData.f k x y = some b ∧ (b = true ↔ x = y) := by
 unfold cotterref06_SameData.f
 by_cases hl : x.length = y.length
 ·rw [if_pos (by omega)]
  obtain ⟨b, hb, hi⟩ := sameData_l0 x y hl hm x.length k 0 (by omega) (by omega) hk
  exact ⟨b, hb, by simpa using hi⟩
 ·rw [if_neg (by omega)]
  exact ⟨false, rfl, by simp; intro e; exact hl (by rw [e])⟩
theorem rdS {l : List S68} {i : Nat} (h : i < l.length) : rd_T68 l (i : Int) = l[i] := by simp [rd_T68, List.getD_eq_getElem?_getD, List.getElem?_eq_getElem h]
theorem text_beq (a b : ByteArray) : (a.toList == b.toList) = true ↔ a = b := by
 rw [beq_iff_eq]
 exact ⟨toList_inj, fun h => by rw [h]⟩
theorem sameSyms_l0 (x y : List S68) (hl : x.length = y.length) (hm : x.length ≤ 9223372036854775806) : ∀ (d k i : Nat), x.length - i = d → i ≤ x.length → d < k → ∃ b, cotterref06_SameSyms.l0 k x y i = some b ∧ (b = true ↔ x.drop i = y.drop i) := by
 intro d
 induction d with
 | zero =>
  intro k i h1 h2 hk
  match k, hk with
  | k + 1, hk =>
   refine ⟨true, ?_, ?_⟩
   ·rw [cotterref06_SameSyms.l0, if_neg (by omega)]
   ·rw [List.drop_eq_nil_of_le (by omega), List.drop_eq_nil_of_le (by omega)]; simp
 | succ d ih =>
  intro k i h1 h2 hk
  match k, hk with
  | k + 1, hk =>
   have hx : i < x.length := by omega
   have hy : i < y.length := by omega
   rw [cotterref06_SameSyms.l0, if_pos (by omega), if_pos (by omega), if_pos (by omega), rdS hx, rdS hy, drop_cons hx, drop_cons hy, wrap64_id (by omega) (by omega)]
   generalize x[i] = a
   generalize y[i] = c
   obtain ⟨a0, a1, a2⟩ := a
   obtain ⟨c0, c1, c2⟩ := c
   dsimp only
   by_cases he : a0 = c0 ∧ a1 = c1 ∧ a2 = c2
   ·obtain ⟨rfl, rfl, rfl⟩ := he
    rw [if_neg (by simp)]
    obtain ⟨b, hb, hi⟩ := ih k (i + 1) (by omega) (by omega) (by omega)
    exact ⟨b, hb, by rw [hi]; simp⟩
   ·rw [if_pos]
    ·exact ⟨false, rfl, by simp; intro h1 h2 h3; exact absurd ⟨h1, h2, h3⟩ he⟩
    ·by_cases e0 : a0 = c0
     ·by_cases e1 : a1 = c1
      ·have e2 : a2 ≠ c2 := fun e2 => he ⟨e0, e1, e2⟩
       simp [e2]
      ·simp [e1]
     ·have : (a0.toList == c0.toList) = false := by rw [Bool.eq_false_iff]; exact fun h => e0 ((text_beq _ _).1 h)
      simp [this]
theorem sameSyms_f (x y : List S68) (hm : x.length ≤ 9223372036854775806) (k : Nat) (hk : x.length < k) : ∃ b, cotterref06_SameSyms.f k x y = some b ∧ (b = true ↔ x = y) := by
 unfold cotterref06_SameSyms.f
 by_cases hl : x.length = y.length
 ·rw [if_pos (by omega)]
  obtain ⟨b, hb, hi⟩ := sameSyms_l0 x y hl hm x.length k 0 (by omega) (by omega) hk
  exact ⟨b, hb, by simpa using hi⟩
 ·rw [if_neg (by omega)]
  exact ⟨false, rfl, by simp; intro e; exact hl (by rw [e])⟩
end Go.Proofs.YtimhcpmfhebbhaaDoor.M
