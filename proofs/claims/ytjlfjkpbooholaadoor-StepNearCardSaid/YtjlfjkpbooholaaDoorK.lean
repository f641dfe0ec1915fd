/-
  Layer 4: a thread's registers, what an instruction makes of them (the document's table), and the small functions of package step. No condition.
-/
import Derived.Test.YtjlfjkpbooholaaDoorM1
import Derived.Test.YtjlfjkpbooholaaDoorM3
import Derived.Test.YtjlfjkpbooholaaDoorM5
import Derived.Test.YtjlfjkpbooholaaDoorM6
import Derived.Deep.RegionWith
import Derived.Deep.QuietTactic
import Derived.BigQuiet
import Derived.StillTailTactics
namespace Go.Proofs.YtjlfjkpbooholaaDoor.M
open Go.RowKit Go.Proofs.YtjlfjkpbooholaaDoorW.PrintWords Go.Proofs.YtjlfjkpbooholaaDoorW.PrintLast
set_option linter.unusedSimpArgs false
set_option linter.unusedVariables false
def mn (a b : Int) : Int := if b < a then b else a
def mx (a b : Int) : Int := if a < b then b else a
theorem min_ints (ats : Array TypeId) (ty : TypeId) (k : IntKind) (a b : Int) : Builtin.min_ ats ty #[.int k a, .int k b] = pure (.int k (mn a b)) := by simp only [Builtin.min_, List.foldlM_cons, List.foldlM_nil, Builtin.min2]; rfl
theorem max_ints (ats : Array TypeId) (ty : TypeId) (k : IntKind) (a b : Int) : Builtin.max_ ats ty #[.int k a, .int k b] = pure (.int k (mx a b)) := by simp only [Builtin.max_, List.foldlM_cons, List.foldlM_nil, Builtin.max2]; rfl
theorem setCell_drewN (w : World) (n : Nat) (a : Addr) (v : Value) : (w.drewN n).setCell a v = (w.setCell a v).drewN n := rfl
theorem alloc_drewN (w : World) (n : Nat) (o : Obj) : (w.drewN n).alloc o = (w.alloc o).drewN n := rfl
theorem region_tail {P : Program} {id : Nat} {Q : Exit → Act → World → Prop} {a : Act} {w : World} {l : List Oper} (n : Nat) (hm : P.follows .mixedOrders = true) (hB : Region.lexTailB .any l.toArray n = true)
    (h : wpStill P l.toArray w.drew (fun a' => wpList P l.toArray Q (l.drop n) a' w.drew) (l.take n) a) : (Code.region id l.toArray true).wp P Q a w := wp_region_still_tail n hm hB h
theorem quiet_at {P : Program} {f : FuncId} {args : Array Value} {Y : World} {v : Value} {nd q : Nat} (h : Calls P f args (Y.drewN (nd + q)) fun e w' => e = .returned v ∧ Drawn0 (Y.drewN (nd + q)) w') : Calls P f args (Y.drewN (nd + q)) fun e w'' => e = .returned v ∧ ∃ m, w'' = Y.drewN (nd + m) := by
  refine h.mono ?_
  rintro e w' ⟨he, ⟨m, rfl⟩⟩
  exact ⟨he, q + m, by rw [World.drewN_drewN, Nat.add_assoc]⟩
abbrev i64 (n : Int) : Value := .int .i64 n
abbrev ins (op a b n : Int) : Value := .agg #[i64 op, i64 a, i64 b, i64 n]
/-- A thread's registers, its PC, its state, its trap. -/
structure Cpu where
  r0 : Int
  r1 : Int
  r2 : Int
  r3 : Int
  r4 : Int
  r5 : Int
  r6 : Int
  r7 : Int
  pc : Int
  st : Int
  tr : Int
abbrev Cpu.v (c : Cpu) : Value := .agg #[i64 c.r0, i64 c.r1, i64 c.r2, i64 c.r3, i64 c.r4, i64 c.r5, i64 c.r6, i64 c.r7, i64 c.pc, i64 c.st, i64 c.tr]
/-- What is asked of memory. -/
structure Rq where
  kind : Int
  addr : Int
  val : Int
  reg : Int
abbrev Rq.v (r : Rq) : Value := .agg #[i64 r.kind, i64 r.addr, i64 r.val, i64 r.reg]
def Cpu.get (c : Cpu) (i : Int) : Int := if i = 0 then c.r0 else if i = 1 then c.r1 else if i = 2 then c.r2 else if i = 3 then c.r3 else if i = 4 then c.r4 else if i = 5 then c.r5 else if i = 6 then c.r6 else c.r7
def Cpu.set (c : Cpu) (i v : Int) : Cpu := if i = 0 then { c with r0 := v } else if i = 1 then { c with r1 := v } else if i = 2 then { c with r2 := v } else if i = 3 then { c with r3 := v } else if i = 4 then { c with r4 := v } else if i = 5 then { c with r5 := v } else if i = 6 then { c with r6 := v } else { c with r7 := v }
theorem eight (i : Nat) (h : i < 8) : i = 0 ∨ i = 1 ∨ i = 2 ∨ i = 3 ∨ i = 4 ∨ i = 5 ∨ i = 6 ∨ i = 7 := by omega
theorem eightI (i : Int) (h0 : 0 ≤ i) (h : i < 8) : i = 0 ∨ i = 1 ∨ i = 2 ∨ i = 3 ∨ i = 4 ∨ i = 5 ∨ i = 6 ∨ i = 7 := by omega
theorem at8 (r0 r1 r2 r3 r4 r5 r6 r7 pc st tr : Int) (i : Nat) (h : i < 8) : [i64 r0, i64 r1, i64 r2, i64 r3, i64 r4, i64 r5, i64 r6, i64 r7][i] = i64 ((⟨r0, r1, r2, r3, r4, r5, r6, r7, pc, st, tr⟩ : Cpu).get i) := by
  rcases eight i h with rfl | rfl | rfl | rfl | rfl | rfl | rfl | rfl <;> rfl
theorem at11 (r0 r1 r2 r3 r4 r5 r6 r7 pc pc' st tr : Int) (i : Nat) (h : i < 8) : [i64 r0, i64 r1, i64 r2, i64 r3, i64 r4, i64 r5, i64 r6, i64 r7, i64 pc', i64 st, i64 tr][i]'(by simp; omega) = i64 ((⟨r0, r1, r2, r3, r4, r5, r6, r7, pc, st, tr⟩ : Cpu).get i) := by
  rcases eight i h with rfl | rfl | rfl | rfl | rfl | rfl | rfl | rfl <;> rfl
/-- What an instruction whose fields may be makes of a running thread: the document's table (P4.1); 'bin' is what word.Bin tells. -/
def startOk (c : Cpu) (op a b n size : Int) (bin : Int × Int) : Cpu × Rq :=
  let p := wrap64 (c.pc + size)
  let d : Cpu := { c with pc := p }
  if op = 1 ∨ op = 19 then (d.set a n, ⟨0, 0, 0, 0⟩)
  else if op = 2 then (d.set a (c.get b), ⟨0, 0, 0, 0⟩)
  else if op = 17 then (d, ⟨1, wrap64 (c.get b + n), 0, a⟩)
  else if op = 18 then (d, ⟨2, wrap64 (c.get a + n), c.get b, 0⟩)
  else if op = 28 then (d, ⟨3, wrap64 (c.get a + n), c.get b, b⟩)
  else if op = 29 then (d, ⟨4, wrap64 (c.get a + n), c.get b, b⟩)
  else if op = 20 ∨ op = 25 then ({ c with pc := wrap64 (p + n) }, ⟨0, 0, 0, 0⟩)
  else if op = 21 ∨ op = 26 then (if c.get a = 0 then { c with pc := wrap64 (p + n) } else d, ⟨0, 0, 0, 0⟩)
  else if op = 22 ∨ op = 27 then (if c.get a = 0 then d else { c with pc := wrap64 (p + n) }, ⟨0, 0, 0, 0⟩)
  else if op = 23 then ({ c with r7 := wrap64 (c.r7 - 8), pc := wrap64 (p + n) }, ⟨2, wrap64 (c.r7 - 8), p, 0⟩)
  else if op = 24 then ({ d with r7 := wrap64 (c.r7 + 8) }, ⟨1, wrap64 (c.r7 + 0), 0, 8⟩)
  else if op = 30 then (d, ⟨5, 0, 0, 0⟩)
  else if op = 31 then (d, ⟨6, 0, c.get a, 0⟩)
  else if op = 32 then ({ d with st := 1 }, ⟨5, 0, 0, 0⟩)
  else if op = 33 then ({ c with st := 2, tr := n }, ⟨0, 0, 0, 0⟩)
  else if bin.2 = 0 then (d.set a bin.1, ⟨0, 0, 0, 0⟩)
  else ({ c with st := 2, tr := 1 }, ⟨0, 0, 0, 0⟩)
attribute [local go_sem] min_ints max_ints setCell_drewN alloc_drewN
theorem at_c (blk : Nat) (i : Nat) (n x : Int) (w : World) (hi : i < 8) (hc : w.cell? ⟨blk, i, none⟩ = some (i64 x)) :
    Calls Tryd.prog 15 #[.pointer (some ⟨blk, 0, none⟩), i64 i, i64 n] w fun e w' => e = .returned (i64 (wrap64 (x + n))) ∧ w' = w := by
  go_enter Tryd.func15, Tryd.ntmps15
  go_wp2
  go_ret
  exact ⟨rfl, rfl⟩
theorem at_7 (blk : Nat) (x : Int) (w : World) (hc : w.cell? ⟨blk, 7, none⟩ = some (i64 x)) :
    Calls Tryd.prog 15 #[.pointer (some ⟨blk, 0, none⟩), i64 7, i64 0] w fun e w' => e = .returned (i64 (wrap64 (x + 0))) ∧ w = w' := by
  refine (at_c blk 7 0 x w (by omega) hc).mono ?_
  rintro e w' ⟨h, rfl⟩
  exact ⟨h, rfl⟩
theorem size_go (k : Nat) (op sz : Int) (w W : World) (HG : Aside0 (Glob w)) (A : Aside0 (ins_Size.f k op = some sz)) (h : Below w.heap.size w W) :
    Calls Tryd.prog 14 #[i64 op] W fun e w' => e = .returned (i64 sz) ∧ ∃ nd, W.drewN nd = w' := by
  refine (ins_Size.calls k op _ _ (HG.out.below h rfl) A.out).mono ?_
  rintro e w' ⟨rfl, ⟨nd, rfl⟩⟩
  exact ⟨rfl, nd, rfl⟩
theorem rsize_go (k : Nat) (op sz : Int) (W : World) (A : Aside0 (cotterref03_Size.f k op = some sz)) :
    Calls Tryd.prog 19 #[i64 op] W fun e w' => e = .returned (i64 sz) ∧ ∃ nd, W.drewN nd = w' := by
  refine (cotterref03_Size.calls k op _ _ A.out).mono ?_
  rintro e w' ⟨rfl, ⟨nd, rfl⟩⟩
  exact ⟨rfl, nd, rfl⟩
set_option maxRecDepth 100000 in
theorem trap_c (r0 r1 r2 r3 r4 r5 r6 r7 pc st tr n : Int) (w : World) :
    Calls Tryd.prog 17 #[.agg #[i64 r0, i64 r1, i64 r2, i64 r3, i64 r4, i64 r5, i64 r6, i64 r7, i64 pc, i64 st, i64 tr], i64 n] w fun e w' => e = .returned (.tuple #[.agg #[i64 r0, i64 r1, i64 r2, i64 r3, i64 r4, i64 r5, i64 r6, i64 r7, i64 pc, i64 2, i64 n], .agg #[i64 0, i64 0, i64 0, i64 0]]) ∧
      ((w.alloc (.cells #[i64 r0, i64 r1, i64 r2, i64 r3, i64 r4, i64 r5, i64 r6, i64 r7, i64 pc, i64 2, i64 n] 24)).alloc (.cells #[i64 r0, i64 r1, i64 r2, i64 r3, i64 r4, i64 r5, i64 r6, i64 r7, i64 pc, i64 2, i64 n] 24)).alloc (.cells #[i64 0, i64 0, i64 0, i64 0] 28) = w' := by
  go_enter Tryd.func17, Tryd.ntmps17
  go_wp2
  exact bodyPost_ret (v := .tuple #[.agg #[i64 r0, i64 r1, i64 r2, i64 r3, i64 r4, i64 r5, i64 r6, i64 r7, i64 pc, i64 2, i64 n], .agg #[i64 0, i64 0, i64 0, i64 0]]) (by simp [results, Tryd.results17, go_sem]) rfl ⟨rfl, rfl⟩
set_option maxRecDepth 100000 in
theorem rtrap_c (r0 r1 r2 r3 r4 r5 r6 r7 pc st tr n : Int) (w : World) :
    Calls Tryd.prog 20 #[.agg #[i64 r0, i64 r1, i64 r2, i64 r3, i64 r4, i64 r5, i64 r6, i64 r7, i64 pc, i64 st, i64 tr], i64 n] w fun e w' => e = .returned (.agg #[i64 r0, i64 r1, i64 r2, i64 r3, i64 r4, i64 r5, i64 r6, i64 r7, i64 pc, i64 2, i64 n]) ∧
      ((w.alloc (.cells #[i64 r0, i64 r1, i64 r2, i64 r3, i64 r4, i64 r5, i64 r6, i64 r7, i64 pc, i64 2, i64 n] 24)).alloc (.cells #[i64 r0, i64 r1, i64 r2, i64 r3, i64 r4, i64 r5, i64 r6, i64 r7, i64 pc, i64 2, i64 n] 24)) = w' := by
  go_enter Tryd.func20, Tryd.ntmps20
  go_wp2
  exact bodyPost_ret (v := .agg #[i64 r0, i64 r1, i64 r2, i64 r3, i64 r4, i64 r5, i64 r6, i64 r7, i64 pc, i64 2, i64 n]) (by simp [results, Tryd.results20, go_sem]) rfl ⟨rfl, rfl⟩
end Go.Proofs.YtjlfjkpbooholaaDoor.M
