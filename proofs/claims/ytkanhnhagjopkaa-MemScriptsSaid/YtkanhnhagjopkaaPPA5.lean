/-
  Texts of the proofs of MemScripts, cut to what the proofs reach and packed by a program of this session (wip/packs.py). Each part begins with what it says; conditions: those told there.
-/
import Derived.Shelf.SlIterI.Nil
import Derived.Shelf.SlIterI.Sorted
import Derived.Shelf.SortM.Plain
import Derived.Shelf.SortM.SortNone
import Derived.Test.YtkanhnhagjopkaaPPA4
/-
  Layer 2: slices.Sorted(maps.Keys(m)) at int64 keys: what the library's contracts ask of the program, laid as terms (printed by wip/s02/it2.py). No condition.
-/
namespace Go.Proofs.Ytkanhnhagjopkaa.M
open Go.Proofs Go.RowKit Go.Maps Go.Sort Go.Shelf
set_option maxRecDepth 100000
set_option linter.unusedVariables false
def keys46R : Ren := { f := fun x => match x with | 7 => 46 | 10 => 51 | n => n, t := fun x => match x with | 23 => 58 | 26 => 2 | 3 => 3 | 28 => 87 | 0 => 0 | 27 => 86 | 33 => 80 | 4 => 4 | n => n, g := fun x => x }
theorem keys46L : SlLaysZI.n7 Try.prog keys46R where
  mixed := by kernel_rfl
  f7 := ⟨"maps.Keys[map[int64]int,int64,int]", by decide, Try.func46.trans (by kernel_rfl)⟩
  f10 := ⟨"maps.Keys[map[int64]int,int64,int]$1", by decide, Try.func51.trans (by kernel_rfl)⟩
  t0 := Try.underlying0
  a0 := Try.isAgg0
  z0 := Try.sizeOf0
  v0 := Try.zeroValue0
  t4 := Try.underlying4
  a4 := Try.isAgg4
  z4 := Try.sizeOf4
  v4 := Try.zeroValue4
  t23 := Try.underlying58
  a23 := Try.isAgg58
  z23 := Try.sizeOf58
  v23 := Try.zeroValue58
  t26 := Try.underlying2
  a26 := Try.isAgg2
  z26 := Try.sizeOf2
  v26 := Try.zeroValue2
  t27 := Try.underlying86
  a27 := Try.isAgg86
  z27 := Try.sizeOf86
  v27 := Try.zeroValue86
  t28 := Try.underlying87
  a28 := Try.isAgg87
  z28 := Try.sizeOf87
  v28 := Try.zeroValue87
  t33 := Try.underlying80
  a33 := Try.isAgg80
  z33 := Try.sizeOf80
  v33 := Try.zeroValue80
def sorted45R : Ren := { f := fun x => match x with | 6 => 45 | 8 => 49 | 9 => 50 | 11 => 52 | 13 => 54 | 12 => 53 | 23 => 64 | 24 => 65 | 14 => 55 | 15 => 56 | 16 => 57 | 17 => 58 | 18 => 59 | 19 => 60 | 20 => 61 | 21 => 62 | 22 => 63 | 25 => 66 | 26 => 67 | 27 => 68 | 28 => 69 | 29 => 70 | 30 => 71 | 31 => 72 | n => n, t := fun x => match x with | 26 => 2 | 28 => 87 | 24 => 25 | 0 => 0 | 3 => 3 | 37 => 95 | 48 => 106 | 50 => 108 | 4 => 4 | 40 => 98 | 39 => 97 | 45 => 103 | 5 => 5 | 9 => 9 | 51 => 109 | 55 => 113 | 57 => 115 | 58 => 116 | 33 => 80 | n => n, g := fun x => x }
theorem sorted45L : SlLaysZI.n6 Try.prog sorted45R where
  mixed := by kernel_rfl
  f6 := ⟨"slices.Sorted[int64]", by decide, Try.func45.trans (by kernel_rfl)⟩
  f8 := ⟨"slices.Collect[int64]", by decide, Try.func49.trans (by kernel_rfl)⟩
  f11 := ⟨"slices.AppendSeq[[]int64,int64]", by decide, Try.func52.trans (by kernel_rfl)⟩
  t0 := Try.underlying0
  a0 := Try.isAgg0
  z0 := Try.sizeOf0
  v0 := Try.zeroValue0
  t24 := Try.underlying25
  a24 := Try.isAgg25
  z24 := Try.sizeOf25
  v24 := Try.zeroValue25
  t26 := Try.underlying2
  a26 := Try.isAgg2
  z26 := Try.sizeOf2
  v26 := Try.zeroValue2
  t28 := Try.underlying87
  a28 := Try.isAgg87
  z28 := Try.sizeOf87
  v28 := Try.zeroValue87
  i26 := by kernel_rfl
def sort50R : Ren := { f := fun x => match x with | 5 => 50 | 8 => 54 | 7 => 53 | 19 => 64 | 20 => 65 | 10 => 55 | 11 => 56 | 12 => 57 | 13 => 58 | 14 => 59 | 15 => 60 | 16 => 61 | 17 => 62 | 18 => 63 | 30 => 66 | 31 => 67 | 32 => 68 | 33 => 69 | 34 => 70 | 35 => 71 | 40 => 72 | n => n, t := fun x => match x with | 23 => 25 | 25 => 2 | 3 => 3 | 32 => 95 | 22 => 25 | 0 => 0 | 44 => 106 | 46 => 108 | 4 => 4 | 36 => 98 | 35 => 97 | 41 => 103 | 5 => 5 | 9 => 9 | 53 => 109 | 57 => 113 | 63 => 115 | 64 => 116 | n => n, g := fun x => x }
theorem sort50L : SlLaysM.n5 Try.prog sort50R where
  mixed := by kernel_rfl
  f5 := ⟨"slices.Sort[[]int64,int64]", by decide, Try.func50.trans (by kernel_rfl)⟩
  f7 := ⟨"slices.pdqsortOrdered[int64]", by decide, Try.func53.trans (by kernel_rfl)⟩
  f8 := by kernel_rfl
  f10 := ⟨"slices.insertionSortOrdered[int64]", by decide, Try.func55.trans (by kernel_rfl)⟩
  f11 := ⟨"slices.heapSortOrdered[int64]", by decide, Try.func56.trans (by kernel_rfl)⟩
  f12 := ⟨"slices.breakPatternsOrdered[int64]", by decide, Try.func57.trans (by kernel_rfl)⟩
  f13 := ⟨"slices.choosePivotOrdered[int64]", by decide, Try.func58.trans (by kernel_rfl)⟩
  f14 := ⟨"slices.reverseRangeOrdered[int64]", by decide, Try.func59.trans (by kernel_rfl)⟩
  f15 := ⟨"slices.partialInsertionSortOrdered[int64]", by decide, Try.func60.trans (by kernel_rfl)⟩
  f16 := ⟨"cmp.Less[int64]", by decide, Try.func61.trans (by kernel_rfl)⟩
  f17 := ⟨"slices.partitionEqualOrdered[int64]", by decide, Try.func62.trans (by kernel_rfl)⟩
  f18 := ⟨"slices.partitionOrdered[int64]", by decide, Try.func63.trans (by kernel_rfl)⟩
  f19 := by kernel_rfl
  f20 := by kernel_rfl
  f30 := ⟨"slices.siftDownOrdered[int64]", by decide, Try.func66.trans (by kernel_rfl)⟩
  f31 := by kernel_rfl
  f32 := by kernel_rfl
  f33 := ⟨"slices.medianAdjacentOrdered[int64]", by decide, Try.func69.trans (by kernel_rfl)⟩
  f34 := ⟨"slices.medianOrdered[int64]", by decide, Try.func70.trans (by kernel_rfl)⟩
  f35 := ⟨"cmp.isNaN[int64]", by decide, Try.func71.trans (by kernel_rfl)⟩
  f40 := ⟨"slices.order2Ordered[int64]", by decide, Try.func72.trans (by kernel_rfl)⟩
  t0 := Try.underlying0
  a0 := Try.isAgg0
  z0 := Try.sizeOf0
  v0 := Try.zeroValue0
  t3 := Try.underlying3
  a3 := Try.isAgg3
  z3 := Try.sizeOf3
  v3 := Try.zeroValue3
  t4 := Try.underlying4
  a4 := Try.isAgg4
  z4 := Try.sizeOf4
  v4 := Try.zeroValue4
  t5 := Try.underlying5
  a5 := Try.isAgg5
  z5 := Try.sizeOf5
  v5 := Try.zeroValue5
  t9 := Try.underlying9
  a9 := Try.isAgg9
  z9 := Try.sizeOf9
  v9 := Try.zeroValue9
  t22 := Try.underlying25
  a22 := Try.isAgg25
  z22 := Try.sizeOf25
  v22 := Try.zeroValue25
  t23 := Try.underlying25
  a23 := Try.isAgg25
  z23 := Try.sizeOf25
  v23 := Try.zeroValue25
  t25 := Try.underlying2
  a25 := Try.isAgg2
  z25 := Try.sizeOf2
  v25 := Try.zeroValue2
  t32 := Try.underlying95
  a32 := Try.isAgg95
  z32 := Try.sizeOf95
  v32 := Try.zeroValue95
  t35 := Try.underlying97
  a35 := Try.isAgg97
  z35 := Try.sizeOf97
  v35 := Try.zeroValue97
  t36 := Try.underlying98
  a36 := Try.isAgg98
  z36 := Try.sizeOf98
  v36 := Try.zeroValue98
  t41 := Try.underlying103
  a41 := Try.isAgg103
  z41 := Try.sizeOf103
  v41 := Try.zeroValue103
  t44 := Try.underlying106
  a44 := Try.isAgg106
  z44 := Try.sizeOf106
  v44 := Try.zeroValue106
  t46 := Try.underlying108
  a46 := Try.isAgg108
  z46 := Try.sizeOf108
  v46 := Try.zeroValue108
  t53 := Try.underlying109
  a53 := Try.isAgg109
  z53 := Try.sizeOf109
  v53 := Try.zeroValue109
  t57 := Try.underlying113
  a57 := Try.isAgg113
  z57 := Try.sizeOf113
  v57 := Try.zeroValue113
  t63 := Try.underlying115
  a63 := Try.isAgg115
  z63 := Try.sizeOf115
  v63 := Try.zeroValue115
  t64 := Try.underlying116
  a64 := Try.isAgg116
  z64 := Try.sizeOf116
  v64 := Try.zeroValue116
end Go.Proofs.Ytkanhnhagjopkaa.M

/-
  Layer 2: slices.Sorted(maps.Keys(m)) at int64 keys: the contracts. Conditions: those told at each.
-/
namespace Go.Proofs.Ytkanhnhagjopkaa.M
open Go.Proofs Go.RowKit Go.Maps Go.Sort Go.Shelf
set_option maxRecDepth 100000
set_option linter.unusedVariables false
theorem sorts45 (m : Nat) : AnyZI.SortsIn Try.prog sorted45R Fence.wide m :=
  ⟨fun blk off cap ss W hH hblk hsz => callsIn_wide.2 (AnyM.slices_Sort_int sort50L blk off cap ss W hH hblk hsz), fun p cap W => callsIn_wide.2 (AnyM.slices_Sort_int_none sort50L p cap W)⟩
/-- maps.Keys: a function over one new block, which holds the map. -/
theorem keys_c (mb : Option Nat) (W : World) : Calls Try.prog 46 #[.map mb] W fun e w' => e = .returned (.func (.func 51) #[] #[.pointer (some ⟨W.heap.size, 0, none⟩)]) ∧ w' = W.alloc (.cells #[.map mb] 58) :=
  (callsIn_wide (n := 5)).1 (AnyZI.keys_in keys46L Fence.wide 5 trivial rfl mb W)
set_option maxHeartbeats 1000000 in
/-- slices.Sorted at what maps.Keys handed back: the map's keys, sorted, in a row of its own. -/
theorem sortedKeys_c {H : Type} {Bm b nn : Nat} {D0 : DataW H} {R : Value → Option (DataW H × List MemPlace)} {w : World} (hB : Bm < w.heap.size) (hc : w.cell? ⟨Bm, 0, none⟩ = some (.map (some b))) (hown : w.ownsMap Try.prog 2 R b nn D0) (hmax : Maps.size D0 ≤ maxLen) (hbytes : Maps.size D0 * 8 ≤ 140737488355328) :
    Calls Try.prog 45 #[.func (.func 51) #[] #[.pointer (some ⟨Bm, 0, none⟩)]] w fun e w' => ∃ (v : Value) (ss : List Int), e = .returned v ∧ ss.Perm (intKeys D0) ∧
      w'.ownsRow w.heap.size 2 1 v ss.length ((ss.mergeSort (fun x y => decide (x ≤ y))).map encZ) ∧ (v = .slice none 0 0 ↔ ss = []) ∧ Below w.heap.size w w' := by
  have hseq : SeqGives Fence.wide 2 Try.prog 51 #[.pointer (some ⟨Bm, 0, none⟩)] encZ (fun ss => ss.Perm (intKeys D0)) (Maps.size D0) w :=
    AnyZI.keys_gives (ρ := keys46R) { keys46L with } Fence.wide _ trivial rfl (by omega) Bm b nn D0 _ hB hc hown
  exact (callsIn_wide (n := 5)).1 (AnyZI.sorted_in sorted45L Fence.wide 5 trivial trivial trivial trivial rfl (by omega) (sorts45 _) (enters_of Try.func50 (by kernel_rfl) rfl) 51 #[.pointer (some ⟨Bm, 0, none⟩)] trivial (enters_of Try.func51 (by kernel_rfl) rfl) _ _ hmax hbytes _ hseq)
end Go.Proofs.Ytkanhnhagjopkaa.M

/-
  Layer 2: untouched, foot: the walks. Conditions: those told at each.
-/
namespace Go.Proofs.Ytkanhnhagjopkaa.M
open Go.RowKit Go.Proofs.YtkanhnhagjopkaaW.PrintWords Go.Proofs.YtkanhnhagjopkaaW.PrintLast Go.Proofs.Ytkanhnhagjopkaa.Num
set_option linter.unusedVariables false
set_option linter.unusedSimpArgs false
set_option maxHeartbeats 4000000 in
theorem untouched_c (W : World) : Calls Try.prog 27 #[] W fun e w' => ∃ r q : Nat, e = .returned (.agg #[.map (some r), .map (some q)]) ∧ w'.ownsMap Try.prog 2 RI r 0 (.map []) ∧ w'.ownsMap Try.prog 2 RI q 0 (.map []) ∧ W.heap.size ≤ r ∧ W.heap.size ≤ q ∧ r ≠ q ∧ Below W.heap.size W w' := by
  have hmm := @run_makeMap Try.prog
  have hu := Try.underlying58
  have eA : ∀ o, (W.alloc o).heap.size = W.heap.size + 1 := fun o => by simp
  go_enter Try.func27, Try.ntmps27
  go_wp2
  have hb := blk_alloc (blk_alloc (blk_new W (.cells #[.map (some (W.heap.size + 1)), .map (some (W.heap.size + 1 + 1))] 60)) (.map #[] 0)) (.map #[] 0)
  have h1 := (World.ownsMap_made (H := Unit) (W.alloc (.cells #[.map (some (W.heap.size + 1)), .map (some (W.heap.size + 1 + 1))] 60)) Try.prog 2 RI).alloc (.map #[] 0)
  have h2 := World.ownsMap_made (H := Unit) ((W.alloc (.cells #[.map (some (W.heap.size + 1)), .map (some (W.heap.size + 1 + 1))] 60)).alloc (.map #[] 0)) Try.prog 2 RI
  have e2 : ((W.alloc (.cells #[.map (some (W.heap.size + 1)), .map (some (W.heap.size + 1 + 1))] 60)).alloc (.map #[] 0)).heap.size = W.heap.size + 1 + 1 := by simp
  rw [eA] at h1
  rw [e2] at h2
  refine bodyPost_ret (results_cell_row rfl _ _ W.heap.size 60 #[.map (some (W.heap.size + 1)), .map (some (W.heap.size + 1 + 1))] (0, 0) _ rfl hb Try.underlying60 rfl (by kernel_rfl)) rfl ?_
  exact ⟨_, _, rfl, h1, h2, by omega, by omega, by omega, below_alloc (below_alloc (below_alloc (Below.refl _ _) _) _) _⟩
/-- .. of a map in memory. -/
theorem keys_sorted_m {W : World} {r n : Nat} {D : DU} {xs ss : List Int} (hm : W.ownsMap Try.prog 2 RI r n D) (hc : Cnt D xs) (hp : ss.Perm (intKeys D)) : ss.mergeSort (fun x y => decide (x ≤ y)) = putsF [] xs := by
  have hu : Up (putsF [] xs) := putsF_up xs [] List.Pairwise.nil
  have hn : (putsF [] xs).Nodup := hu.imp (fun h e => by omega)
  have hq : (putsF [] xs).Perm (intKeys D) := CollectedI.perm (left := fun _ => false) ⟨hn, fun x => by
    have := hc.2 x
    unfold nk at this
    rw [putsF_mem, this]
    simp⟩ hm law2 Try.underlying2 (fun _ => rfl)
  refine (mergeSort_of_perm_i (hp.trans hq.symm)).trans ?_
  exact List.mergeSort_of_pairwise (hu.imp (fun h => by simp only [leI, decide_eq_true_eq]; omega))
theorem putsF_len (xs : List Int) : ∀ l : List Int, (putsF l xs).length ≤ l.length + xs.length := by
  induction xs with
  | nil => intro l; exact Nat.le_refl _
  | cons x xs ih =>
    intro l
    have h1 : ∀ (m : List Int) (n : Int), (putF m n).length ≤ m.length + 1 := by
      intro m n
      induction m with
      | nil => simp [putF]
      | cons y m ihm =>
        unfold putF
        split
        · simp
        · split
          · simp
          · simp; omega
    have h2 := ih (putF l x)
    have h3 := h1 l x
    show (putsF (putF l x) xs).length ≤ _
    simp
    omega
/-- One list of what is touched, sorted: as foot's walk meets it. -/
theorem sortedMap_c {W : World} {Bm r n : Nat} {D : DU} {xs : List Int} (hB : Bm < W.heap.size) (hcell : W.cell? ⟨Bm, 0, none⟩ = some (.map (some r))) (hm : W.ownsMap Try.prog 2 RI r n D) (hc : Cnt D xs) (hn : n ≤ 1000000) :
    Calls Try.prog 45 #[.func (.func 51) #[] #[.pointer (some ⟨Bm, 0, none⟩)]] W fun e w' => ∃ (A : Option Addr) (c : Nat), e = .returned (.slice A (putsF [] xs).length c) ∧ Kd.R (Kd.int .i64) 2 w' W.heap.size (fun _ => True) (.slice A (putsF [] xs).length c) (putsF [] xs) ∧ Below W.heap.size W w' := by
  have hs : Maps.size D ≤ n := hm.size_le
  refine (sortedKeys_c hB hcell hm (by unfold maxLen; omega) (by omega)).mono ?_
  rintro e w' ⟨v, ss, rfl, hp, hr, -, hb⟩
  have hk := keys_sorted_m hm hc hp
  rw [hk] at hr
  have hl : ss.length = (putsF [] xs).length := by rw [← hk, List.length_mergeSort]
  rw [hl] at hr
  obtain ⟨A, c, rfl⟩ := own_slice hr
  exact ⟨A, c, rfl, Kd.R_of_own hr (fun _ _ => trivial), hb⟩
end Go.Proofs.Ytkanhnhagjopkaa.M

/-
  Layer 2: mem.Clash: the walks. Conditions: lengths that any memory can hold.
-/
namespace Go.Proofs.Ytkanhnhagjopkaa.M
open Go.RowKit Go.Proofs.YtkanhnhagjopkaaW.PrintWords Go.Proofs.YtkanhnhagjopkaaW.PrintLast Go.Proofs.Ytkanhnhagjopkaa.Num
set_option linter.unusedVariables false
set_option linter.unusedSimpArgs false
theorem below_inL {w W w1 : World} (h : Below w.heap.size w W) (k : Below W.heap.size W w1) : Below w.heap.size w w1 := below_then h h.size k
theorem drawn_below {w w' : World} (h : Drawn0 w w') : Below w.heap.size w w' := by
  obtain ⟨m, rfl⟩ := h
  exact pw_below_drewN (Below.refl _ _) m
section
variable {W : World} {A0 : Option Addr} {c0 : Nat} {fr : List Int} {A1 : Option Addr} {c1 : Nat} {fw : List Int}
end
end Go.Proofs.Ytkanhnhagjopkaa.M

/-
  Layer 2: foot: the walk. Conditions: those told at it.
-/
namespace Go.Proofs.Ytkanhnhagjopkaa.M
open Go.RowKit Go.Proofs.YtkanhnhagjopkaaW.PrintWords Go.Proofs.YtkanhnhagjopkaaW.PrintLast Go.Proofs.Ytkanhnhagjopkaa.Num
set_option linter.unusedVariables false
set_option linter.unusedSimpArgs false
theorem froz_below {W w1 : World} (hb : Below W.heap.size W w1) {g t : Nat} {cs : Array Value} (h : W.heap[g]? = some (.cells cs t (0, 0))) (i : Nat) : w1.frozen? ⟨g, i, none⟩ = false := blk_frozen (blk_below h hb) i
theorem far_put2 {wd : World} {g t B : Nat} {cs : Array Value} (h : wd.heap[g]? = some (.cells cs t (0, 0))) (hne : B ≠ g) (u0 u1 : Value) : ((wd.setCell ⟨B, 0, none⟩ u0).setCell ⟨B, 1, none⟩ u1).heap[g]? = some (.cells cs t (0, 0)) :=
  blk_far (blk_far h (p := ⟨B, 0, none⟩) (by simp; omega) u0) (p := ⟨B, 1, none⟩) (by simp; omega) u1
theorem R_put2 {α : Type} {k : Kd α} {e : Nat} {W : World} {B : Nat} {v : Value} {l : List α} (h : k.R e W (B + 1) (fun _ => True) v l) (u0 u1 : Value) : k.R e ((W.setCell ⟨B, 0, none⟩ u0).setCell ⟨B, 1, none⟩ u1) B (fun _ => True) v l := by
  have hb := Kd.R_mono (ok' := fun k => B + 1 ≤ k) (Kd.R_bound h) (fun k hk => hk.2.1)
  exact Kd.R_mono (Kd.R_lower (Kd.R_far (Kd.R_far hb (fun k hk => by have : B + 1 ≤ k := hk; simp; omega) u0) (fun k hk => by have : B + 1 ≤ k := hk; simp; omega) u1) (by omega)) (fun _ _ => trivial)
theorem blk_put2 {W : World} {B t : Nat} {c0 c1 : Value} (h : W.heap[B]? = some (.cells #[c0, c1] t (0, 0))) (u0 u1 : Value) : ((W.setCell ⟨B, 0, none⟩ u0).setCell ⟨B, 1, none⟩ u1).heap[B]? = some (.cells #[u0, u1] t (0, 0)) :=
  blk_put (cs' := #[u0, u1]) (blk_put (cs' := #[u0, c1]) h 0 u0 rfl) 1 u1 rfl
set_option maxHeartbeats 16000000 in
set_option maxRecDepth 100000 in
theorem foot_d {rest : List Value} {ty : Nat} {w W : World} {pb r q : Nat} {xs ys : List Int} (H : TchG rest ty w W pb r q xs ys) (lx : xs.length ≤ 1000000) (ly : ys.length ≤ 1000000) :
    Calls Try.prog 38 #[.pointer (some ⟨pb, 0, none⟩)] W fun e w' => ∃ (A0 : Option Addr) (c0 : Nat) (A1 : Option Addr) (c1 : Nat), e = .returned (.agg #[.slice A0 (putsF [] xs).length c0, .slice A1 (putsF [] ys).length c1]) ∧ Kd.R (Kd.int .i64) 2 w' W.heap.size (fun _ => True) (.slice A0 (putsF [] xs).length c0) (putsF [] xs) ∧ Kd.R (Kd.int .i64) 2 w' W.heap.size (fun _ => True) (.slice A1 (putsF [] ys).length c1) (putsF [] ys) ∧ NeRow (.slice A0 (putsF [] xs).length c0) (.slice A1 (putsF [] ys).length c1) ∧ Below W.heap.size W w' := by
  obtain ⟨D1, m1, k1⟩ := H.m1
  obtain ⟨D2, m2, k2⟩ := H.m2
  have B0 := Aside0.mk (blk_new W (.cells #[.slice none 0 0, .slice none 0 0] 45))
  have P0 := Aside0.mk (blk_alloc H.blk (.cells #[.slice none 0 0, .slice none 0 0] 45))
  have HB0 := Aside0.mk (below_alloc (Below.refl W.heap.size W) (.cells #[.slice none 0 0, .slice none 0 0] 45))
  have SX := Aside0.mk (fun (w1 : World) (Bm : Nat) (h : Below W.heap.size W w1) (hB : Bm < w1.heap.size) (hc : w1.cell? ⟨Bm, 0, none⟩ = some (.map (some r))) => sortedMap_c hB hc (map_belowT m1 h) k1 lx)
  have SY := Aside0.mk (fun (w1 : World) (Bm : Nat) (h : Below W.heap.size W w1) (hB : Bm < w1.heap.size) (hc : w1.cell? ⟨Bm, 0, none⟩ = some (.map (some q))) => sortedMap_c hB hc (map_belowT m2 h) k2 ly)
  have NE := Aside0.mk (show W.heap.size ≠ pb from fun e => by have := blk_lt H.blk; omega)
  generalize putsF [] xs = us at *
  generalize putsF [] ys = vs at *
  have T1 : True := trivial
  have T2 : True := trivial
  clear H m1 m2 k1 k2 lx ly
  have kp0 : (W.alloc (.cells #[.slice none 0 0, .slice none 0 0] 45)).cell? ⟨pb, 0, none⟩ = some (.map (some r)) := (blk_cell P0.out 0).trans rfl
  have kp1 : (W.alloc (.cells #[.slice none 0 0, .slice none 0 0] 45)).cell? ⟨pb, 1, none⟩ = some (.map (some q)) := (blk_cell P0.out 1).trans rfl
  have hs1 : (W.alloc (.cells #[.slice none 0 0, .slice none 0 0] 45)).heap.size = W.heap.size + 1 := by simp
  have HBa := Aside0.mk (below_drew1 (below_alloc (Below.refl (W.alloc (.cells #[.slice none 0 0, .slice none 0 0] 45)).heap.size _) (.cells #[.map (some r)] 58)))
  have LT1 := Aside0.mk (show W.heap.size + 1 < ((W.alloc (.cells #[.slice none 0 0, .slice none 0 0] 45)).alloc (.cells #[.map (some r)] 58)).drew.heap.size from hs1 ▸ blk_lt (blk_new (W.alloc (.cells #[.slice none 0 0, .slice none 0 0] 45)) (.cells #[.map (some r)] 58)))
  have CE1 := Aside0.mk (show ((W.alloc (.cells #[.slice none 0 0, .slice none 0 0] 45)).alloc (.cells #[.map (some r)] 58)).drew.cell? ⟨W.heap.size + 1, 0, none⟩ = some (.map (some r)) from hs1 ▸ (blk_cell (blk_new (W.alloc (.cells #[.slice none 0 0, .slice none 0 0] 45)) (.cells #[.map (some r)] 58)) 0).trans rfl)
  clear hs1
  go_enter Try.func38, Try.ntmps38
  go_wp2
  go_region_held3 (fun w' => w'.cell? ⟨pb, 0, none⟩ = some (.map (some r)) ∧ w'.cell? ⟨pb, 1, none⟩ = some (.map (some q)))
    (first
      | exact ⟨kp0, kp1⟩
      | exact ⟨(blk_cell (blk_below P0.out HBa.out) 0).trans rfl, (blk_cell (blk_below P0.out HBa.out) 1).trans rfl⟩
      | exact ⟨(blk_cell (blk_below P0.out HBb.out) 0).trans rfl, (blk_cell (blk_below P0.out HBb.out) 1).trans rfl⟩
      | exact ⟨(blk_cell (blk_below P0.out HBc.out) 0).trans rfl, (blk_cell (blk_below P0.out HBc.out) 1).trans rfl⟩
      | exact ⟨(blk_cell (blk_below P0.out HBd.out) 0).trans rfl, (blk_cell (blk_below P0.out HBd.out) 1).trans rfl⟩
      | exact ⟨(blk_cell (far_put2 (blk_below P0.out HBd.out) NE.out _ _) 0).trans rfl, (blk_cell (far_put2 (blk_below P0.out HBd.out) NE.out _ _) 1).trans rfl⟩
      | (go_keep; done))
    (first
      | (clear T1; go_at_call 46; (with_reducible refine (keys_c (some r) _).mono ?_); rintro e wa ⟨rfl, rfl⟩)
      | (clear T2; go_at_call 45; (with_reducible refine (SX.out _ _ ?bl1 ?lt1 ?ce1).mono ?_); (case bl1 => exact below_inL HB0.out HBa.out); (case lt1 => exact LT1.out); (case ce1 => exact CE1.out); rintro e wb ⟨A0, c0, rfl, hr, hb⟩; have HBb := Aside0.mk (below_then HBa.out HBa.out.size hb); have R1 := Aside0.mk hr; clear hr hb)
      | (go_at_call 46; (with_reducible refine (keys_c (some q) _).mono ?_); rintro e wc ⟨rfl, rfl⟩; have HBc := Aside0.mk (below_alloc HBb.out (.cells #[.map (some q)] 58)))
      | (go_at_call 45; (with_reducible refine (SY.out _ _ (below_inL HB0.out HBc.out) ?lt1 ?ce1).mono ?_); (case lt1 => exact blk_lt (blk_new _ _)); (case ce1 => exact (blk_cell (blk_new _ _) 0).trans rfl); rintro e wd ⟨A1, c1, rfl, hr, hb⟩; have HBd := Aside0.mk (below_then HBc.out HBc.out.size hb); have R2 := Aside0.mk hr; have R1d := Aside0.mk (Kd.R_below (Kd.R_alloc R1.out (.cells #[.map (some q)] 58)) hb); clear hr hb; have hz0 : wd.cell? ⟨W.heap.size, 0, none⟩ = some (.slice none 0 0) := (blk_cell (blk_below B0.out HBd.out) 0).trans rfl; have hz1 : wd.cell? ⟨W.heap.size, 1, none⟩ = some (.slice none 0 0) := (blk_cell (blk_below B0.out HBd.out) 1).trans rfl; have hf0 : wd.frozen? ⟨W.heap.size, 0, none⟩ = false := froz_below HBd.out B0.out 0; have hf1 : wd.frozen? ⟨W.heap.size, 1, none⟩ = false := froz_below HBd.out B0.out 1))
  all_goals try go_wp2
  all_goals exact bodyPost_ret (results_cell_row rfl _ _ W.heap.size 45 #[.slice A0 us.length c0, .slice A1 vs.length c1] (0, 0) _ rfl (blk_put2 (blk_below B0.out HBd.out) _ _) Try.underlying45 rfl (by kernel_rfl)) rfl ⟨A0, c0, A1, c1, rfl, R_put2 (Kd.R_lower R1d.out (by have := HBa.out.size; simp)) _ _, R_put2 (Kd.R_lower R2.out (by have := HBc.out.size; simp at this ⊢; omega)) _ _, (fun k h1 h2 => by have e1 := Kd.R_lt R1.out k h1; have e2 := Kd.R_base R2.out k h2; simp at e2; omega), below_set (below_set (below_inL HB0.out HBd.out) (Nat.le_refl _)) (Nat.le_refl _)⟩
theorem foot_c {rest : List Value} {ty : Nat} {w W : World} {pb r q : Nat} {xs ys : List Int} (H : TchG rest ty w W pb r q xs ys) (lx : xs.length ≤ 1000000) (ly : ys.length ≤ 1000000) :
    Calls Try.prog 38 #[.pointer (some ⟨pb, 0, none⟩)] W fun e w' => ∃ (A0 : Option Addr) (c0 : Nat) (A1 : Option Addr) (c1 : Nat), e = .returned (.agg #[.slice A0 (putsF [] xs).length c0, .slice A1 (putsF [] ys).length c1]) ∧ Kd.R (Kd.int .i64) 2 w' W.heap.size (fun _ => True) (.slice A0 (putsF [] xs).length c0) (putsF [] xs) ∧ Kd.R (Kd.int .i64) 2 w' W.heap.size (fun _ => True) (.slice A1 (putsF [] ys).length c1) (putsF [] ys) ∧ Below W.heap.size W w' := by
  refine (foot_d H lx ly).mono ?_
  rintro e w' ⟨A0, c0, A1, c1, h0, h1, h2, -, h3⟩
  exact ⟨A0, c0, A1, c1, h0, h1, h2, h3⟩
end Go.Proofs.Ytkanhnhagjopkaa.M

/-
  Layer 2: mem.Join: the walk. Conditions: those told at it.
-/
namespace Go.Proofs.Ytkanhnhagjopkaa.M
open Go.RowKit Go.Proofs.YtkanhnhagjopkaaW.PrintWords Go.Proofs.YtkanhnhagjopkaaW.PrintLast Go.Proofs.Ytkanhnhagjopkaa.Num
set_option linter.unusedVariables false
set_option linter.unusedSimpArgs false
def RG (x : Int) : Prop := -9223372036854775808 ≤ x ∧ x ≤ 9223372036854775807
end Go.Proofs.Ytkanhnhagjopkaa.M

-- Written by a program of this session (wip/ownprint.py) over the translation. Lean checks it.
namespace Go.Proofs.Ytkanhnhagjopkaa.M
open Go.RowKit Go.Proofs.YtkanhnhagjopkaaW.PrintWords Go.Proofs.YtkanhnhagjopkaaW.PrintLast
set_option linter.unusedVariables false
set_option linter.unusedSimpArgs false

/-! ### cotterref02_May: function 35 -/
mutual
def cotterref02_May.l0 : Nat → List (S27) → Int → Option (Bool)
  | 0, _, _ => none
  | k + 1, x0, x3 => if x3 < (x0.length : Int) then (if 0 ≤ x3 then (if ((rd_T27 x0 x3).f0) < 0 then (cotterref02_May.j1 k x0 x3 true) else (if (Int.tmod ((rd_T27 x0 x3).f0) 8) = 0 then (if ((rd_T27 x0 x3).f0) > 1099511627776 then (cotterref02_May.j1 k x0 x3 true) else (cotterref02_May.j1 k x0 x3 (decide ((((rd_T27 x0 x3).f1).length : Int) > 65536)))) else (cotterref02_May.j1 k x0 x3 true))) else (none)) else (some true)
def cotterref02_May.j1 : Nat → List (S27) → Int → Bool → Option (Bool)
  | 0, _, _, _ => none
  | k + 1, x0, x3, x47 => if x47 = true then (some false) else (cotterref02_May.l1 k x0 x3 0)
def cotterref02_May.l1 : Nat → List (S27) → Int → Int → Option (Bool)
  | 0, _, _, _ => none
  | k + 1, x0, x3, x4 => if x4 < x3 then (if 0 ≤ x3 then (if x3 < (x0.length : Int) then (if 0 ≤ x4 then (if x4 < (x0.length : Int) then (if ((rd_T27 x0 x3).f0) < (wrap64 (((rd_T27 x0 x4).f0) + (wrap64 (8 * (((rd_T27 x0 x4).f1).length : Int))))) then (if ((rd_T27 x0 x4).f0) < (wrap64 (((rd_T27 x0 x3).f0) + (wrap64 (8 * (((rd_T27 x0 x3).f1).length : Int))))) then (some false) else (cotterref02_May.l1 k x0 x3 (wrap64 (x4 + 1)))) else (cotterref02_May.l1 k x0 x3 (wrap64 (x4 + 1)))) else (none)) else (none)) else (none)) else (none)) else (cotterref02_May.l0 k x0 (wrap64 (x3 + 1)))
end
def cotterref02_May.f (k : Nat) (l0 : List (S27)) : Option (Bool) := if (l0.length : Int) > 16 then (some false) else (cotterref02_May.l0 k l0 0)
set_option maxHeartbeats 8000000 in
set_option maxRecDepth 100000 in
theorem cotterref02_May.calls (k : Nat) (A0 : Option Addr) (c0 : Nat) (l0 : List (S27)) (r : Bool) (w : World) (hr0 : Kd.C k27 w A0 l0.length l0) (hc0 : l0.length ≤ c0) (h : cotterref02_May.f k l0 = some r) :
    Calls Try.prog 35 #[.slice A0 l0.length c0] w fun e w' => e = .returned (.bool r) ∧ Drawn0 w w' := by
  have HR0 := Aside0.mk hr0
  have HC0 := Aside0.mk hc0
  clear hr0 hc0
  have H : (if (l0.length : Int) > 16 then (some false) else (cotterref02_May.l0 k l0 0)) = some r := h
  clear h
  by_cases c2 : (l0.length : Int) > 16
  · rw [if_pos c2] at H
    have c2b0 : decide (16 < (l0.length : Int)) = true := decide_eq_true c2
    have c2b1 : decide (16 < l0.length) = true := decide_eq_true (by omega)
    clear c2
    obtain rfl := Option.some.inj H
    go_enter Try.func35, Try.ntmps35
    go_wp2
    go_ret
    exact ⟨by first | rfl | (simp; done) | (simp [*]; done), by repeat (first | exact Drawn0.refl _ | apply Drawn0.step)⟩
  · rw [if_neg c2] at H
    have c2b0 : decide (16 < (l0.length : Int)) = false := decide_eq_false c2
    have c2b1 : decide (16 < l0.length) = false := decide_eq_false (by omega)
    clear c2
    have H' := Aside0.mk H
    clear H
    go_enter Try.func35, Try.ntmps35
    go_wp2
    go_loopg [3] k (fun kq v3 w' => ∃ (x3_1 : Int), v3 = .int .i64 x3_1 ∧ Aside0 (cotterref02_May.l0 kq l0 x3_1 = some r) ∧ Aside0 (kq ≤ k) ∧ Drawn0 w w')
    case atStart => exact ⟨(0), (by first | rfl | (simp; done) | (simp [*]; done)), H', ⟨Nat.le_refl _⟩, by repeat (first | exact Drawn0.refl _ | apply Drawn0.step)⟩
    case round =>
      clear H'
      try clear c2
      try clear c2b0
      try clear c2b1
      try clear p2
      obtain ⟨x3_1, rfl, HA, HK1, ⟨m1, rfl⟩⟩ := hrel
      cases gk with
      | zero => exact absurd HA.out (by simp [cotterref02_May.l0])
      | succ k1 =>
        have H := HA.out
        clear HA
        simp only [cotterref02_May.l0] at H
        by_cases c3 : x3_1 < (l0.length : Int)
        · rw [if_pos c3] at H
          have c3b0 : decide (x3_1 < (l0.length : Int)) = true := decide_eq_true c3
          clear c3
          have HC4 := Aside0.mk H
          clear H
          go_upto_region 6 with (fail)
          go_cut [47] (fun v47 wc => ∃ (kq : Nat) (x47_3 : Bool), v47 = .bool x47_3 ∧ Aside0 (cotterref02_May.j1 kq l0 x3_1 x47_3 = some r) ∧ Aside0 (kq ≤ k1) ∧ Drawn0 w wc)
          case first =>
            have H := HC4.out
            clear HC4
            by_cases c5 : 0 ≤ x3_1
            · rw [if_pos c5] at H
              have c5b0 : decide (0 ≤ x3_1) = true := decide_eq_true c5
              clear c5
              (first | rw [c5b0] | (simp only [i64_w, i32_w]; rw [c5b0]) | skip)
              by_cases c6 : ((rd_T27 l0 x3_1).f0) < 0
              · rw [if_pos c6] at H
                have c6b0 : decide (((rd_T27 l0 x3_1).f0) < 0) = true := decide_eq_true c6
                clear c6
                have H' := Aside0.mk H
                clear H
                have p149 : 0 ≤ (x3_1 : Int) := of_decide_eq_true (by first | (with_reducible assumption) | assumption)
                have q149 : x3_1 < (l0.length : Int) := of_decide_eq_true (by first | (with_reducible assumption) | assumption)
                obtain ⟨ad149, A149_1, c149_1, e149, hx149_0, hx149_1, hx149_2, hl149_1, hi149_1⟩ := at_T27 HR0.out x3_1 p149 q149
                cases e149
                have HR149_1 := Aside0.mk hi149_1
                have HC149_1 := Aside0.mk hl149_1
                clear hi149_1 hl149_1
                replace p149 := eq_true p149
                replace q149 := eq_true q149
                go_wp2
                go_meet
                case rel => exact ⟨_, (true), (by first | rfl | (simp; done) | (simp [*]; done)), H', ⟨by have := HK1.out; first | omega | exact Nat.le_refl _⟩, by repeat (first | exact Drawn0.refl _ | apply Drawn0.step)⟩
              · rw [if_neg c6] at H
                have c6b0 : decide (((rd_T27 l0 x3_1).f0) < 0) = false := decide_eq_false c6
                clear c6
                by_cases c7 : (Int.tmod ((rd_T27 l0 x3_1).f0) 8) = 0
                · rw [if_pos c7] at H
                  have c7b0 : ((Int.tmod ((rd_T27 l0 x3_1).f0) 8) == 0) = true := beq_iff_eq.mpr c7
                  have c7b1 : ((Int.tmod ((rd_T27 l0 x3_1).f0) 8) != 0) = false := bne_eq_false_iff_eq.mpr c7
                  clear c7
                  by_cases c8 : ((rd_T27 l0 x3_1).f0) > 1099511627776
                  · rw [if_pos c8] at H
                    have c8b0 : decide (1099511627776 < ((rd_T27 l0 x3_1).f0)) = true := decide_eq_true c8
                    clear c8
                    have H' := Aside0.mk H
                    clear H
                    have p149 : 0 ≤ (x3_1 : Int) := of_decide_eq_true (by first | (with_reducible assumption) | assumption)
                    have q149 : x3_1 < (l0.length : Int) := of_decide_eq_true (by first | (with_reducible assumption) | assumption)
                    obtain ⟨ad149, A149_1, c149_1, e149, hx149_0, hx149_1, hx149_2, hl149_1, hi149_1⟩ := at_T27 HR0.out x3_1 p149 q149
                    cases e149
                    have HR149_1 := Aside0.mk hi149_1
                    have HC149_1 := Aside0.mk hl149_1
                    clear hi149_1 hl149_1
                    replace p149 := eq_true p149
                    replace q149 := eq_true q149
                    have p150 : 0 ≤ (x3_1 : Int) := of_decide_eq_true (by first | (with_reducible assumption) | assumption)
                    have q150 : x3_1 < (l0.length : Int) := of_decide_eq_true (by first | (with_reducible assumption) | assumption)
                    obtain ⟨ad150, A150_1, c150_1, e150, hx150_0, hx150_1, hx150_2, hl150_1, hi150_1⟩ := at_T27 HR0.out x3_1 p150 q150
                    obtain rfl : ad149 = ad150 := (by injection e150)
                    have HR150_1 := Aside0.mk hi150_1
                    have HC150_1 := Aside0.mk hl150_1
                    clear hi150_1 hl150_1
                    replace p150 := eq_true p150
                    replace q150 := eq_true q150
                    have ea_ := Option.some.inj (hx149_1.symm.trans hx150_1)
                    injection ea_ with ea_ en_ ec_
                    subst ea_
                    subst ec_
                    clear en_
                    have p151 : 0 ≤ (x3_1 : Int) := of_decide_eq_true (by first | (with_reducible assumption) | assumption)
                    have q151 : x3_1 < (l0.length : Int) := of_decide_eq_true (by first | (with_reducible assumption) | assumption)
                    obtain ⟨ad151, A151_1, c151_1, e151, hx151_0, hx151_1, hx151_2, hl151_1, hi151_1⟩ := at_T27 HR0.out x3_1 p151 q151
                    obtain rfl : ad149 = ad151 := (by injection e151)
                    have HR151_1 := Aside0.mk hi151_1
                    have HC151_1 := Aside0.mk hl151_1
                    clear hi151_1 hl151_1
                    replace p151 := eq_true p151
                    replace q151 := eq_true q151
                    have ea_ := Option.some.inj (hx149_1.symm.trans hx151_1)
                    injection ea_ with ea_ en_ ec_
                    subst ea_
                    subst ec_
                    clear en_
                    go_wp2
                    go_meet
                    case rel => exact ⟨_, (true), (by first | rfl | (simp; done) | (simp [*]; done)), H', ⟨by have := HK1.out; first | omega | exact Nat.le_refl _⟩, by repeat (first | exact Drawn0.refl _ | apply Drawn0.step)⟩
                  · rw [if_neg c8] at H
                    have c8b0 : decide (1099511627776 < ((rd_T27 l0 x3_1).f0)) = false := decide_eq_false c8
                    clear c8
                    have H' := Aside0.mk H
                    clear H
                    have p149 : 0 ≤ (x3_1 : Int) := of_decide_eq_true (by first | (with_reducible assumption) | assumption)
                    have q149 : x3_1 < (l0.length : Int) := of_decide_eq_true (by first | (with_reducible assumption) | assumption)
                    obtain ⟨ad149, A149_1, c149_1, e149, hx149_0, hx149_1, hx149_2, hl149_1, hi149_1⟩ := at_T27 HR0.out x3_1 p149 q149
                    cases e149
                    have HR149_1 := Aside0.mk hi149_1
                    have HC149_1 := Aside0.mk hl149_1
                    clear hi149_1 hl149_1
                    replace p149 := eq_true p149
                    replace q149 := eq_true q149
                    have p150 : 0 ≤ (x3_1 : Int) := of_decide_eq_true (by first | (with_reducible assumption) | assumption)
                    have q150 : x3_1 < (l0.length : Int) := of_decide_eq_true (by first | (with_reducible assumption) | assumption)
                    obtain ⟨ad150, A150_1, c150_1, e150, hx150_0, hx150_1, hx150_2, hl150_1, hi150_1⟩ := at_T27 HR0.out x3_1 p150 q150
                    obtain rfl : ad149 = ad150 := (by injection e150)
                    have HR150_1 := Aside0.mk hi150_1
                    have HC150_1 := Aside0.mk hl150_1
                    clear hi150_1 hl150_1
                    replace p150 := eq_true p150
                    replace q150 := eq_true q150
                    have ea_ := Option.some.inj (hx149_1.symm.trans hx150_1)
                    injection ea_ with ea_ en_ ec_
                    subst ea_
                    subst ec_
                    clear en_
                    have p151 : 0 ≤ (x3_1 : Int) := of_decide_eq_true (by first | (with_reducible assumption) | assumption)
                    have q151 : x3_1 < (l0.length : Int) := of_decide_eq_true (by first | (with_reducible assumption) | assumption)
                    obtain ⟨ad151, A151_1, c151_1, e151, hx151_0, hx151_1, hx151_2, hl151_1, hi151_1⟩ := at_T27 HR0.out x3_1 p151 q151
                    obtain rfl : ad149 = ad151 := (by injection e151)
                    have HR151_1 := Aside0.mk hi151_1
                    have HC151_1 := Aside0.mk hl151_1
                    clear hi151_1 hl151_1
                    replace p151 := eq_true p151
                    replace q151 := eq_true q151
                    have ea_ := Option.some.inj (hx149_1.symm.trans hx151_1)
                    injection ea_ with ea_ en_ ec_
                    subst ea_
                    subst ec_
                    clear en_
                    have p152 : 0 ≤ (x3_1 : Int) := of_decide_eq_true (by first | (with_reducible assumption) | assumption)
                    have q152 : x3_1 < (l0.length : Int) := of_decide_eq_true (by first | (with_reducible assumption) | assumption)
                    obtain ⟨ad152, A152_1, c152_1, e152, hx152_0, hx152_1, hx152_2, hl152_1, hi152_1⟩ := at_T27 HR0.out x3_1 p152 q152
                    obtain rfl : ad149 = ad152 := (by injection e152)
                    have HR152_1 := Aside0.mk hi152_1
                    have HC152_1 := Aside0.mk hl152_1
                    clear hi152_1 hl152_1
                    replace p152 := eq_true p152
                    replace q152 := eq_true q152
                    have ea_ := Option.some.inj (hx149_1.symm.trans hx152_1)
                    injection ea_ with ea_ en_ ec_
                    subst ea_
                    subst ec_
                    clear en_
                    go_wp2
                    go_meet
                    case rel => exact ⟨_, (decide ((((rd_T27 l0 x3_1).f1).length : Int) > 65536)), (by first | rfl | (simp; done) | (simp [*]; done)), H', ⟨by have := HK1.out; first | omega | exact Nat.le_refl _⟩, by repeat (first | exact Drawn0.refl _ | apply Drawn0.step)⟩
                · rw [if_neg c7] at H
                  have c7b0 : ((Int.tmod ((rd_T27 l0 x3_1).f0) 8) == 0) = false := beq_eq_false_iff_ne.mpr c7
                  have c7b1 : ((Int.tmod ((rd_T27 l0 x3_1).f0) 8) != 0) = true := bne_iff_ne.mpr c7
                  have H' := Aside0.mk H
                  clear H
                  have p149 : 0 ≤ (x3_1 : Int) := of_decide_eq_true (by first | (with_reducible assumption) | assumption)
                  have q149 : x3_1 < (l0.length : Int) := of_decide_eq_true (by first | (with_reducible assumption) | assumption)
                  obtain ⟨ad149, A149_1, c149_1, e149, hx149_0, hx149_1, hx149_2, hl149_1, hi149_1⟩ := at_T27 HR0.out x3_1 p149 q149
                  cases e149
                  have HR149_1 := Aside0.mk hi149_1
                  have HC149_1 := Aside0.mk hl149_1
                  clear hi149_1 hl149_1
                  replace p149 := eq_true p149
                  replace q149 := eq_true q149
                  have p150 : 0 ≤ (x3_1 : Int) := of_decide_eq_true (by first | (with_reducible assumption) | assumption)
                  have q150 : x3_1 < (l0.length : Int) := of_decide_eq_true (by first | (with_reducible assumption) | assumption)
                  obtain ⟨ad150, A150_1, c150_1, e150, hx150_0, hx150_1, hx150_2, hl150_1, hi150_1⟩ := at_T27 HR0.out x3_1 p150 q150
                  obtain rfl : ad149 = ad150 := (by injection e150)
                  have HR150_1 := Aside0.mk hi150_1
                  have HC150_1 := Aside0.mk hl150_1
                  clear hi150_1 hl150_1
                  replace p150 := eq_true p150
                  replace q150 := eq_true q150
                  have ea_ := Option.some.inj (hx149_1.symm.trans hx150_1)
                  injection ea_ with ea_ en_ ec_
                  subst ea_
                  subst ec_
                  clear en_
                  go_wp2
                  go_meet
                  case rel => exact ⟨_, (true), (by first | rfl | (simp; done) | (simp [*]; done)), H', ⟨by have := HK1.out; first | omega | exact Nat.le_refl _⟩, by repeat (first | exact Drawn0.refl _ | apply Drawn0.step)⟩
            · rw [if_neg c5] at H
              exact absurd H (by simp)
          case rest =>
            clear HC4
            try clear c1
            try clear p1
            try clear q1
            try clear hx1
            try clear c2
            try clear c2b0
            try clear c2b1
            try clear p2
            try clear c3
            try clear c3b0
            try clear c5
            try clear c5b0
            try clear c6
            try clear c6b0
            try clear c7
            try clear c7b0
            try clear c7b1
            try clear c8
            try clear c8b0
            try clear hx149_0
            try clear hx149_1
            try clear hx149_2
            try clear hx150_0
            try clear hx150_1
            try clear hx150_2
            try clear hx151_0
            try clear hx151_1
            try clear hx151_2
            try clear hx152_0
            try clear hx152_1
            try clear hx152_2
            try clear p149
            try clear p150
            try clear p151
            try clear p152
            try clear p2
            try clear q149
            try clear q150
            try clear q151
            try clear q152
            obtain ⟨kq, x47_3, rfl, HA, HJ3, ⟨mc3, rfl⟩⟩ := hcut
            cases kq with
            | zero => exact absurd HA.out (by simp [cotterref02_May.j1])
            | succ kj3 =>
              have H := HA.out
              clear HA
              simp only [cotterref02_May.j1] at H
              by_cases c9 : x47_3 = true
              · subst c9
                have H1 : (some false) = some r := by rw [if_pos rfl] at H; exact H
                clear H
                have H := H1
                clear H1
                obtain rfl := Option.some.inj H
                go_wp2
                go_ret
                exact ⟨by first | rfl | (simp; done) | (simp [*]; done), by repeat (first | exact Drawn0.refl _ | apply Drawn0.step)⟩
              · replace c9 := Bool.eq_false_iff.mpr c9
                subst c9
                have H1 : (cotterref02_May.l1 kj3 l0 x3_1 0) = some r := by rw [if_neg (show ¬ (false = true) by decide)] at H; exact H
                clear H
                have H := H1
                clear H1
                have H' := Aside0.mk H
                clear H
                go_wp2
                go_loopg [4] kj3 (fun kq v4 w' => ∃ (x4_3 : Int), v4 = .int .i64 x4_3 ∧ Aside0 (cotterref02_May.l1 kq l0 x3_1 x4_3 = some r) ∧ Aside0 (kq ≤ kj3) ∧ Drawn0 w w')
                case atStart => exact ⟨(0), (by first | rfl | (simp; done) | (simp [*]; done)), H', ⟨Nat.le_refl _⟩, by repeat (first | exact Drawn0.refl _ | apply Drawn0.step)⟩
                case round =>
                  clear H'
                  try clear c1
                  try clear p1
                  try clear q1
                  try clear hx1
                  try clear c2
                  try clear c2b0
                  try clear c2b1
                  try clear p2
                  try clear c3
                  try clear c3b0
                  try clear c5
                  try clear c5b0
                  try clear c6
                  try clear c6b0
                  try clear c7
                  try clear c7b0
                  try clear c7b1
                  try clear c8
                  try clear c8b0
                  try clear c9
                  try clear hx149_0
                  try clear hx149_1
                  try clear hx149_2
                  try clear hx150_0
                  try clear hx150_1
                  try clear hx150_2
                  try clear hx151_0
                  try clear hx151_1
                  try clear hx151_2
                  try clear hx152_0
                  try clear hx152_1
                  try clear hx152_2
                  try clear p1
                  try clear p149
                  try clear p150
                  try clear p151
                  try clear p152
                  try clear p2
                  try clear q1
                  try clear q149
                  try clear q150
                  try clear q151
                  try clear q152
                  obtain ⟨x4_3, rfl, HA, HK3, ⟨m3, rfl⟩⟩ := hrel
                  cases gk with
                  | zero => exact absurd HA.out (by simp [cotterref02_May.l1])
                  | succ k3 =>
                    have H := HA.out
                    clear HA
                    simp only [cotterref02_May.l1] at H
                    by_cases c10 : x4_3 < x3_1
                    · rw [if_pos c10] at H
                      have c10b0 : decide (x4_3 < x3_1) = true := decide_eq_true c10
                      clear c10
                      by_cases c11 : 0 ≤ x3_1
                      · rw [if_pos c11] at H
                        have c11b0 : decide (0 ≤ x3_1) = true := decide_eq_true c11
                        clear c11
                        by_cases c12 : x3_1 < (l0.length : Int)
                        · rw [if_pos c12] at H
                          have c12b0 : decide (x3_1 < (l0.length : Int)) = true := decide_eq_true c12
                          clear c12
                          by_cases c13 : 0 ≤ x4_3
                          · rw [if_pos c13] at H
                            have c13b0 : decide (0 ≤ x4_3) = true := decide_eq_true c13
                            clear c13
                            by_cases c14 : x4_3 < (l0.length : Int)
                            · rw [if_pos c14] at H
                              have c14b0 : decide (x4_3 < (l0.length : Int)) = true := decide_eq_true c14
                              clear c14
                              by_cases c15 : ((rd_T27 l0 x3_1).f0) < (wrap64 (((rd_T27 l0 x4_3).f0) + (wrap64 (8 * (((rd_T27 l0 x4_3).f1).length : Int)))))
                              · rw [if_pos c15] at H
                                have c15b0 : decide (((rd_T27 l0 x3_1).f0) < (wrap64 (((rd_T27 l0 x4_3).f0) + (wrap64 (8 * (((rd_T27 l0 x4_3).f1).length : Int)))))) = true := decide_eq_true c15
                                clear c15
                                by_cases c16 : ((rd_T27 l0 x4_3).f0) < (wrap64 (((rd_T27 l0 x3_1).f0) + (wrap64 (8 * (((rd_T27 l0 x3_1).f1).length : Int)))))
                                · rw [if_pos c16] at H
                                  have c16b0 : decide (((rd_T27 l0 x4_3).f0) < (wrap64 (((rd_T27 l0 x3_1).f0) + (wrap64 (8 * (((rd_T27 l0 x3_1).f1).length : Int)))))) = true := decide_eq_true c16
                                  clear c16
                                  obtain rfl := Option.some.inj H
                                  have p153 : 0 ≤ (x3_1 : Int) := of_decide_eq_true (by first | (with_reducible assumption) | assumption)
                                  have q153 : x3_1 < (l0.length : Int) := of_decide_eq_true (by first | (with_reducible assumption) | assumption)
                                  obtain ⟨ad153, A153_1, c153_1, e153, hx153_0, hx153_1, hx153_2, hl153_1, hi153_1⟩ := at_T27 HR0.out x3_1 p153 q153
                                  cases e153
                                  have HR153_1 := Aside0.mk hi153_1
                                  have HC153_1 := Aside0.mk hl153_1
                                  clear hi153_1 hl153_1
                                  replace p153 := eq_true p153
                                  replace q153 := eq_true q153
                                  have p154 : 0 ≤ (x4_3 : Int) := of_decide_eq_true (by first | (with_reducible assumption) | assumption)
                                  have q154 : x4_3 < (l0.length : Int) := of_decide_eq_true (by first | (with_reducible assumption) | assumption)
                                  obtain ⟨ad154, A154_1, c154_1, e154, hx154_0, hx154_1, hx154_2, hl154_1, hi154_1⟩ := at_T27 HR0.out x4_3 p154 q154
                                  obtain rfl : ad153 = ad154 := (by injection e154)
                                  have HR154_1 := Aside0.mk hi154_1
                                  have HC154_1 := Aside0.mk hl154_1
                                  clear hi154_1 hl154_1
                                  replace p154 := eq_true p154
                                  replace q154 := eq_true q154
                                  have p155 : 0 ≤ (x4_3 : Int) := of_decide_eq_true (by first | (with_reducible assumption) | assumption)
                                  have q155 : x4_3 < (l0.length : Int) := of_decide_eq_true (by first | (with_reducible assumption) | assumption)
                                  obtain ⟨ad155, A155_1, c155_1, e155, hx155_0, hx155_1, hx155_2, hl155_1, hi155_1⟩ := at_T27 HR0.out x4_3 p155 q155
                                  obtain rfl : ad153 = ad155 := (by injection e155)
                                  have HR155_1 := Aside0.mk hi155_1
                                  have HC155_1 := Aside0.mk hl155_1
                                  clear hi155_1 hl155_1
                                  replace p155 := eq_true p155
                                  replace q155 := eq_true q155
                                  have ea_ := Option.some.inj (hx154_1.symm.trans hx155_1)
                                  injection ea_ with ea_ en_ ec_
                                  subst ea_
                                  subst ec_
                                  clear en_
                                  have p156 : 0 ≤ (x3_1 : Int) := of_decide_eq_true (by first | (with_reducible assumption) | assumption)
                                  have q156 : x3_1 < (l0.length : Int) := of_decide_eq_true (by first | (with_reducible assumption) | assumption)
                                  obtain ⟨ad156, A156_1, c156_1, e156, hx156_0, hx156_1, hx156_2, hl156_1, hi156_1⟩ := at_T27 HR0.out x3_1 p156 q156
                                  obtain rfl : ad153 = ad156 := (by injection e156)
                                  have HR156_1 := Aside0.mk hi156_1
                                  have HC156_1 := Aside0.mk hl156_1
                                  clear hi156_1 hl156_1
                                  replace p156 := eq_true p156
                                  replace q156 := eq_true q156
                                  have ea_ := Option.some.inj (hx153_1.symm.trans hx156_1)
                                  injection ea_ with ea_ en_ ec_
                                  subst ea_
                                  subst ec_
                                  clear en_
                                  go_wp2
                                  go_ret
                                  exact ⟨by first | rfl | (simp; done) | (simp [*]; done), by repeat (first | exact Drawn0.refl _ | apply Drawn0.step)⟩
                                · rw [if_neg c16] at H
                                  have c16b0 : decide (((rd_T27 l0 x4_3).f0) < (wrap64 (((rd_T27 l0 x3_1).f0) + (wrap64 (8 * (((rd_T27 l0 x3_1).f1).length : Int)))))) = false := decide_eq_false c16
                                  clear c16
                                  have H' := Aside0.mk H
                                  clear H
                                  have p153 : 0 ≤ (x3_1 : Int) := of_decide_eq_true (by first | (with_reducible assumption) | assumption)
                                  have q153 : x3_1 < (l0.length : Int) := of_decide_eq_true (by first | (with_reducible assumption) | assumption)
                                  obtain ⟨ad153, A153_1, c153_1, e153, hx153_0, hx153_1, hx153_2, hl153_1, hi153_1⟩ := at_T27 HR0.out x3_1 p153 q153
                                  cases e153
                                  have HR153_1 := Aside0.mk hi153_1
                                  have HC153_1 := Aside0.mk hl153_1
                                  clear hi153_1 hl153_1
                                  replace p153 := eq_true p153
                                  replace q153 := eq_true q153
                                  have p154 : 0 ≤ (x4_3 : Int) := of_decide_eq_true (by first | (with_reducible assumption) | assumption)
                                  have q154 : x4_3 < (l0.length : Int) := of_decide_eq_true (by first | (with_reducible assumption) | assumption)
                                  obtain ⟨ad154, A154_1, c154_1, e154, hx154_0, hx154_1, hx154_2, hl154_1, hi154_1⟩ := at_T27 HR0.out x4_3 p154 q154
                                  obtain rfl : ad153 = ad154 := (by injection e154)
                                  have HR154_1 := Aside0.mk hi154_1
                                  have HC154_1 := Aside0.mk hl154_1
                                  clear hi154_1 hl154_1
                                  replace p154 := eq_true p154
                                  replace q154 := eq_true q154
                                  have p155 : 0 ≤ (x4_3 : Int) := of_decide_eq_true (by first | (with_reducible assumption) | assumption)
                                  have q155 : x4_3 < (l0.length : Int) := of_decide_eq_true (by first | (with_reducible assumption) | assumption)
                                  obtain ⟨ad155, A155_1, c155_1, e155, hx155_0, hx155_1, hx155_2, hl155_1, hi155_1⟩ := at_T27 HR0.out x4_3 p155 q155
                                  obtain rfl : ad153 = ad155 := (by injection e155)
                                  have HR155_1 := Aside0.mk hi155_1
                                  have HC155_1 := Aside0.mk hl155_1
                                  clear hi155_1 hl155_1
                                  replace p155 := eq_true p155
                                  replace q155 := eq_true q155
                                  have ea_ := Option.some.inj (hx154_1.symm.trans hx155_1)
                                  injection ea_ with ea_ en_ ec_
                                  subst ea_
                                  subst ec_
                                  clear en_
                                  have p156 : 0 ≤ (x3_1 : Int) := of_decide_eq_true (by first | (with_reducible assumption) | assumption)
                                  have q156 : x3_1 < (l0.length : Int) := of_decide_eq_true (by first | (with_reducible assumption) | assumption)
                                  obtain ⟨ad156, A156_1, c156_1, e156, hx156_0, hx156_1, hx156_2, hl156_1, hi156_1⟩ := at_T27 HR0.out x3_1 p156 q156
                                  obtain rfl : ad153 = ad156 := (by injection e156)
                                  have HR156_1 := Aside0.mk hi156_1
                                  have HC156_1 := Aside0.mk hl156_1
                                  clear hi156_1 hl156_1
                                  replace p156 := eq_true p156
                                  replace q156 := eq_true q156
                                  have ea_ := Option.some.inj (hx153_1.symm.trans hx156_1)
                                  injection ea_ with ea_ en_ ec_
                                  subst ea_
                                  subst ec_
                                  clear en_
                                  go_wp2
                                  go_roundg k3
                                  case measure => have := HK1.out; have := HJ3.out; have := HK3.out; omega
                                  case rel => exact ⟨(wrap64 (x4_3 + 1)), (by first | rfl | (simp; done) | (simp [*]; done)), H', ⟨by have := HK1.out; have := HJ3.out; have := HK3.out; omega⟩, by repeat (first | exact Drawn0.refl _ | apply Drawn0.step)⟩
                              · rw [if_neg c15] at H
                                have c15b0 : decide (((rd_T27 l0 x3_1).f0) < (wrap64 (((rd_T27 l0 x4_3).f0) + (wrap64 (8 * (((rd_T27 l0 x4_3).f1).length : Int)))))) = false := decide_eq_false c15
                                clear c15
                                have H' := Aside0.mk H
                                clear H
                                have p153 : 0 ≤ (x3_1 : Int) := of_decide_eq_true (by first | (with_reducible assumption) | assumption)
                                have q153 : x3_1 < (l0.length : Int) := of_decide_eq_true (by first | (with_reducible assumption) | assumption)
                                obtain ⟨ad153, A153_1, c153_1, e153, hx153_0, hx153_1, hx153_2, hl153_1, hi153_1⟩ := at_T27 HR0.out x3_1 p153 q153
                                cases e153
                                have HR153_1 := Aside0.mk hi153_1
                                have HC153_1 := Aside0.mk hl153_1
                                clear hi153_1 hl153_1
                                replace p153 := eq_true p153
                                replace q153 := eq_true q153
                                have p154 : 0 ≤ (x4_3 : Int) := of_decide_eq_true (by first | (with_reducible assumption) | assumption)
                                have q154 : x4_3 < (l0.length : Int) := of_decide_eq_true (by first | (with_reducible assumption) | assumption)
                                obtain ⟨ad154, A154_1, c154_1, e154, hx154_0, hx154_1, hx154_2, hl154_1, hi154_1⟩ := at_T27 HR0.out x4_3 p154 q154
                                obtain rfl : ad153 = ad154 := (by injection e154)
                                have HR154_1 := Aside0.mk hi154_1
                                have HC154_1 := Aside0.mk hl154_1
                                clear hi154_1 hl154_1
                                replace p154 := eq_true p154
                                replace q154 := eq_true q154
                                have p155 : 0 ≤ (x4_3 : Int) := of_decide_eq_true (by first | (with_reducible assumption) | assumption)
                                have q155 : x4_3 < (l0.length : Int) := of_decide_eq_true (by first | (with_reducible assumption) | assumption)
                                obtain ⟨ad155, A155_1, c155_1, e155, hx155_0, hx155_1, hx155_2, hl155_1, hi155_1⟩ := at_T27 HR0.out x4_3 p155 q155
                                obtain rfl : ad153 = ad155 := (by injection e155)
                                have HR155_1 := Aside0.mk hi155_1
                                have HC155_1 := Aside0.mk hl155_1
                                clear hi155_1 hl155_1
                                replace p155 := eq_true p155
                                replace q155 := eq_true q155
                                have ea_ := Option.some.inj (hx154_1.symm.trans hx155_1)
                                injection ea_ with ea_ en_ ec_
                                subst ea_
                                subst ec_
                                clear en_
                                go_wp2
                                go_roundg k3
                                case measure => have := HK1.out; have := HJ3.out; have := HK3.out; omega
                                case rel => exact ⟨(wrap64 (x4_3 + 1)), (by first | rfl | (simp; done) | (simp [*]; done)), H', ⟨by have := HK1.out; have := HJ3.out; have := HK3.out; omega⟩, by repeat (first | exact Drawn0.refl _ | apply Drawn0.step)⟩
                            · rw [if_neg c14] at H
                              exact absurd H (by simp)
                          · rw [if_neg c13] at H
                            exact absurd H (by simp)
                        · rw [if_neg c12] at H
                          exact absurd H (by simp)
                      · rw [if_neg c11] at H
                        exact absurd H (by simp)
                    · rw [if_neg c10] at H
                      have c10b0 : decide (x4_3 < x3_1) = false := decide_eq_false c10
                      clear c10
                      have H' := Aside0.mk H
                      clear H
                      go_wp2
                      go_roundg k3
                      case measure => have := HK1.out; have := HJ3.out; have := HK3.out; omega
                      case rel => exact ⟨(wrap64 (x3_1 + 1)), (by first | rfl | (simp; done) | (simp [*]; done)), H', ⟨by have := HK1.out; have := HJ3.out; have := HK3.out; omega⟩, by repeat (first | exact Drawn0.refl _ | apply Drawn0.step)⟩
        · rw [if_neg c3] at H
          have c3b0 : decide (x3_1 < (l0.length : Int)) = false := decide_eq_false c3
          clear c3
          obtain rfl := Option.some.inj H
          go_wp2
          go_ret
          exact ⟨by first | rfl | (simp; done) | (simp [*]; done), by repeat (first | exact Drawn0.refl _ | apply Drawn0.step)⟩

end Go.Proofs.Ytkanhnhagjopkaa.M

-- Written by a program of this session (wip/ownprint.py) over the translation. Lean checks it.
namespace Go.Proofs.Ytkanhnhagjopkaa.M
open Go.RowKit Go.Proofs.YtkanhnhagjopkaaW.PrintWords Go.Proofs.YtkanhnhagjopkaaW.PrintLast
set_option linter.unusedVariables false
set_option linter.unusedSimpArgs false

/-! ### cotterlaw02_copied: function 12 -/
def cotterlaw02_copied.l0 : Nat → List (S27) → List (S27) → Int → Option ((List (S27)))
  | 0, _, _, _ => none
  | k + 1, x0, x3, x4 => if x4 < (x0.length : Int) then (if 0 ≤ x4 then (if ([] : List Int).length + ((rd_T27 x0 x4).f1).length < 17592186044416 then (if x3.length < 3518437208883 then (cotterlaw02_copied.l0 k x0 (x3 ++ [(⟨(rd_T27 x0 x4).f0, (([] : List Int) ++ ((rd_T27 x0 x4).f1)), (rd_T27 x0 x4).f2⟩ : S27)]) (wrap64 (x4 + 1))) else (none)) else (none)) else (none)) else (some x3)
def cotterlaw02_copied.f (k : Nat) (l0 : List (S27)) : Option ((List (S27))) := cotterlaw02_copied.l0 k l0 ([] : List (S27)) 0
def cotterlaw02_copied.T7 : Bool × List (List Nat × List Nat) := (true, [([], []), ([0], [0]), ([], []), ([], []), ([2, 3], [2, 3]), ([4], [4]), ([5], [5]), ([1, 6], [1, 6]), ([0, 1, 2, 3, 4, 5, 6, 7], []), ([8, 7, 7, 0, 1, 2, 3, 4, 5, 6, 7], [7, 8])])
def cotterlaw02_copied.B7 : List Nat := [0, 1, 0, 0, 12, 28, 60, 127, 255, 511]
theorem cotterlaw02_copied.tab7 : rtab .any (opsOf Try.f12 7) = cotterlaw02_copied.T7 := by kernel_rfl
theorem cotterlaw02_copied.bits7 : waitsOk cotterlaw02_copied.T7.2 cotterlaw02_copied.B7 = true := by kernel_rfl
set_option maxHeartbeats 8000000 in
set_option maxRecDepth 100000 in
theorem cotterlaw02_copied.calls (k : Nat) (A0 : Option Addr) (c0 : Nat) (l0 : List (S27)) (r : List (S27)) (w : World) (hr0 : Kd.C k27 w A0 l0.length l0) (hc0 : l0.length ≤ c0) (h : cotterlaw02_copied.f k l0 = some r) :
    Calls Try.prog 12 #[.slice A0 l0.length c0] w fun e w' => ∃ v0_ : Value, e = .returned (v0_) ∧ Kd.S k27 27 w' w.heap.size (fun _ => True) v0_ r ∧ Below w.heap.size w w' := by
  have hu27 := Try.underlying27
  have HR0 := Aside0.mk hr0
  have HC0 := Aside0.mk hc0
  clear hr0 hc0
  have HB := Aside0.mk (Below.refl w.heap.size w)
  have H : (cotterlaw02_copied.l0 k l0 ([] : List (S27)) 0) = some r := h
  clear h
  have H' := Aside0.mk H
  clear H
  go_enter Try.func12, Try.ntmps12
  go_wp2
  go_loopg [3, 4] k (fun kq v3 v4 w' => ∃ (x3_1 : List (S27)) (x4_1 : Int), v4 = .int .i64 x4_1 ∧ Aside0 (cotterlaw02_copied.l0 kq l0 x3_1 x4_1 = some r) ∧ Aside0 (kq ≤ k) ∧ Aside0 (Kd.S k27 27 w' w.heap.size (fun _ => True) v3 x3_1) ∧ Aside0 (Below w.heap.size w w'))
  case atStart => exact ⟨(([] : List (S27))), (0), (by first | rfl | (simp; done) | (simp [*]; done)), H', ⟨Nat.le_refl _⟩, ⟨by first | exact Kd.S_nil _ _ _ _ _ | exact Kd.N_nil _ _ _ _ _ | exact Kd.V_nil _ _ _ _ _ | exact Kd.Q_nil _ _ _ _ _ | exact Kd.R_nil _ _ _ _ _⟩, ⟨by repeat (first | (with_reducible first | exact HB.out | apply below_alloc | apply pw_below_drewN | apply below_drew1) | exact HB.out)⟩⟩
  case round =>
    clear H'
    try clear c1
    obtain ⟨x3_1, x4_1, rfl, HA, HK1, HO_3, HB⟩ := hrel
    cases gk with
    | zero => exact absurd HA.out (by simp [cotterlaw02_copied.l0])
    | succ k1 =>
      have H := HA.out
      clear HA
      simp only [cotterlaw02_copied.l0] at H
      by_cases c2 : x4_1 < (l0.length : Int)
      · rw [if_pos c2] at H
        have c2b0 : decide (x4_1 < (l0.length : Int)) = true := decide_eq_true c2
        clear c2
        by_cases c3 : 0 ≤ x4_1
        · rw [if_pos c3] at H
          have c3b0 : decide (0 ≤ x4_1) = true := decide_eq_true c3
          clear c3
          by_cases c4 : ([] : List Int).length + ((rd_T27 l0 x4_1).f1).length < 17592186044416
          · rw [if_pos c4] at H
            have LMc4 := Aside0.mk c4
            clear c4
            obtain ⟨y160, hy160⟩ : ∃ y_ : List Int, y_ = (([] : List Int) ++ ((rd_T27 l0 x4_1).f1)) := ⟨_, rfl⟩
            replace H : (if x3_1.length < 3518437208883 then (cotterlaw02_copied.l0 k1 l0 (x3_1 ++ [(⟨(rd_T27 l0 x4_1).f0, y160, (rd_T27 l0 x4_1).f2⟩ : S27)]) (wrap64 (x4_1 + 1))) else (none)) = some r := by first | (rw [hy160]; with_reducible exact H) | (have H2_ := (Option.bind_some _ _).symm.trans H; rw [hy160]; with_reducible exact H2_) | (have H2_ := (Option.bind_some _ _).symm.trans H; with_reducible exact H2_) | with_reducible exact H | (rw [hy160]; exact H) | exact H
            have Ny160 := Aside0.mk hy160
            clear hy160
            by_cases c5 : x3_1.length < 3518437208883
            · rw [if_pos c5] at H
              have LMc5 := Aside0.mk c5
              clear c5
              obtain ⟨y163, hy163⟩ : ∃ y_ : List (S27), y_ = (x3_1 ++ [(⟨(rd_T27 l0 x4_1).f0, y160, (rd_T27 l0 x4_1).f2⟩ : S27)]) := ⟨_, rfl⟩
              replace H : (cotterlaw02_copied.l0 k1 l0 y163 (wrap64 (x4_1 + 1))) = some r := by first | (rw [hy163]; with_reducible exact H) | (have H2_ := (Option.bind_some _ _).symm.trans H; rw [hy163]; with_reducible exact H2_) | (have H2_ := (Option.bind_some _ _).symm.trans H; with_reducible exact H2_) | with_reducible exact H | (rw [hy163]; exact H) | exact H
              have Ny163 := Aside0.mk hy163
              clear hy163
              have H' := Aside0.mk H
              clear H
              have p157 : 0 ≤ (x4_1 : Int) := of_decide_eq_true (by first | (with_reducible assumption) | assumption)
              have q157 : x4_1 < (l0.length : Int) := of_decide_eq_true (by first | (with_reducible assumption) | assumption)
              obtain ⟨ad157, A157_1, c157_1, e157, hx157_0, hx157_1, hx157_2, hl157_1, hi157_1⟩ := at_T27 HR0.out x4_1 p157 q157
              cases e157
              replace hx157_0 := (HB.out.cell (World.block_lt_of_cell? w _ hx157_0)).trans hx157_0
              replace hx157_1 := (HB.out.cell (World.block_lt_of_cell? w _ hx157_1)).trans hx157_1
              replace hx157_2 := (HB.out.cell (World.block_lt_of_cell? w _ hx157_2)).trans hx157_2
              have HR157_1 := Aside0.mk hi157_1
              have HC157_1 := Aside0.mk hl157_1
              clear hi157_1 hl157_1
              replace p157 := eq_true p157
              replace q157 := eq_true q157
              try go_wp2_with (first | ((with_reducible refine gate_dst (N := 5) rfl ?_); refine box_event ?hg (N := 5) ?hd (cs := #[.int .i64 0, .slice none 0 0, .bool false]) (t := 27) ?hr ?_; (case hd => rfl); (case hg => rfl); (case hr => first | (go_simp; done) | (go_simp; rfl)); intro gb158 hg w6 hbox hb; have n0_ := Aside0.mk (Kd.S_below (Kd.S_elderB (by (with_reducible repeat (first | apply Kd.S_alloc | apply Kd.S_drewN | apply Kd.S_drew)); exact HO_3.out) gb158 (Nat.le_of_eq hg.symm)) hb); have n1_ := Aside0.mk (below_step (by repeat (first | (with_reducible first | exact HB.out | apply below_alloc | apply pw_below_drewN | apply below_drew1) | exact HB.out)) hb); have n2_ := Aside0.mk (hbox); have n3_ := Aside0.mk ((by rw [hg]; exact (below_size (by repeat (first | (with_reducible first | exact HB.out | apply below_alloc | apply pw_below_drewN | apply below_drew1) | exact HB.out))) : w.heap.size ≤ gb158)); have n4_ := Aside0.mk ((by rw [hg]; exact (below_size (by repeat (first | (with_reducible first | exact HB.out | apply below_alloc | apply pw_below_drewN | apply below_drew1) | exact HB.out))) : w.heap.size ≤ gb158)); clear HO_3; clear HB; have HO_3 := n0_; have HB := n1_; have BK158 := n2_; have GW158 := n3_; have GE158 := n4_; clear n0_ n1_ n2_ n3_ n4_; clear hb hbox hg; have hcz7_0 : w6.cell? ⟨gb158, 0, none⟩ = some (.int .i64 0) := (blk_cell BK158.out 0).trans rfl; have hcz7_1 : w6.cell? ⟨gb158, 1, none⟩ = some (.slice none 0 0) := (blk_cell BK158.out 1).trans rfl; have hcz7_2 : w6.cell? ⟨gb158, 2, none⟩ = some (.bool false) := (blk_cell BK158.out 2).trans rfl; have hfz7_0 := blk_frozen BK158.out 0; have hfz7_1 := blk_frozen BK158.out 1; have hfz7_2 := blk_frozen BK158.out 2))
              have n0_ : Aside0 (Kd.S k27 27 ((((w6.setCell ⟨gb158, 0, none⟩ (.int .i64 ((rd_T27 l0 x4_1).f0))).setCell ⟨gb158, 1, none⟩ (.slice A157_1 ((rd_T27 l0 x4_1).f1).length c157_1)).setCell ⟨gb158, 2, none⟩ (.bool ((rd_T27 l0 x4_1).f2))).setCell ⟨gb158, 1, none⟩ (.slice none 0 0)) w.heap.size (fun k_ => k_ ≠ gb158) u3 x3_1) := ⟨by (with_reducible repeat (first | apply Kd.S_alloc | apply Kd.S_drewN | apply Kd.S_drew)); exact Kd.S_mono (Kd.S_far (p := ⟨gb158, 1, none⟩) (Kd.S_far (p := ⟨gb158, 2, none⟩) (Kd.S_far (p := ⟨gb158, 1, none⟩) (Kd.S_far (p := ⟨gb158, 0, none⟩) (Kd.S_mono HO_3.out (fun k_ hk => (⟨hk, hk.2⟩ : _ ∧ k_ ≠ gb158))) (fun _ hk => hk.2) (.int .i64 ((rd_T27 l0 x4_1).f0))) (fun _ hk => hk.2) (.slice A157_1 ((rd_T27 l0 x4_1).f1).length c157_1)) (fun _ hk => hk.2) (.bool ((rd_T27 l0 x4_1).f2))) (fun _ hk => hk.2) (.slice none 0 0)) (fun _ hk => hk.1.2)⟩
              have n1_ : Aside0 (((((w6.setCell ⟨gb158, 0, none⟩ (.int .i64 ((rd_T27 l0 x4_1).f0))).setCell ⟨gb158, 1, none⟩ (.slice A157_1 ((rd_T27 l0 x4_1).f1).length c157_1)).setCell ⟨gb158, 2, none⟩ (.bool ((rd_T27 l0 x4_1).f2))).setCell ⟨gb158, 1, none⟩ (.slice none 0 0)).heap[gb158]? = some (.cells #[.int .i64 ((rd_T27 l0 x4_1).f0), .slice none 0 0, .bool ((rd_T27 l0 x4_1).f2)] 27 (0, 0))) := ⟨by (with_reducible repeat (first | refine blk_drewN ?_ _ | refine blk_drew ?_ | refine blk_alloc ?_ _)); refine blk_put (cs := #[.int .i64 ((rd_T27 l0 x4_1).f0), .slice A157_1 ((rd_T27 l0 x4_1).f1).length c157_1, .bool ((rd_T27 l0 x4_1).f2)]) ?_ 1 _ rfl; (with_reducible repeat (first | refine blk_drewN ?_ _ | refine blk_drew ?_ | refine blk_alloc ?_ _)); refine blk_put (cs := #[.int .i64 ((rd_T27 l0 x4_1).f0), .slice A157_1 ((rd_T27 l0 x4_1).f1).length c157_1, .bool false]) ?_ 2 _ rfl; (with_reducible repeat (first | refine blk_drewN ?_ _ | refine blk_drew ?_ | refine blk_alloc ?_ _)); refine blk_put (cs := #[.int .i64 ((rd_T27 l0 x4_1).f0), .slice none 0 0, .bool false]) ?_ 1 _ rfl; (with_reducible repeat (first | refine blk_drewN ?_ _ | refine blk_drew ?_ | refine blk_alloc ?_ _)); refine blk_put (cs := #[.int .i64 0, .slice none 0 0, .bool false]) ?_ 0 _ rfl; (with_reducible repeat (first | refine blk_drewN ?_ _ | refine blk_drew ?_ | refine blk_alloc ?_ _)); exact BK158.out⟩
              have n2_ : Aside0 (Below w.heap.size w ((((w6.setCell ⟨gb158, 0, none⟩ (.int .i64 ((rd_T27 l0 x4_1).f0))).setCell ⟨gb158, 1, none⟩ (.slice A157_1 ((rd_T27 l0 x4_1).f1).length c157_1)).setCell ⟨gb158, 2, none⟩ (.bool ((rd_T27 l0 x4_1).f2))).setCell ⟨gb158, 1, none⟩ (.slice none 0 0))) := ⟨by repeat (first | (with_reducible first | exact HB.out | apply below_alloc | apply pw_below_drewN | apply below_drew1 | refine below_set ?_ GE158.out) | exact HB.out)⟩
              (try clear HO_3)
              (try clear BK158)
              (try clear HB)
              generalize ((((w6.setCell ⟨gb158, 0, none⟩ (.int .i64 ((rd_T27 l0 x4_1).f0))).setCell ⟨gb158, 1, none⟩ (.slice A157_1 ((rd_T27 l0 x4_1).f1).length c157_1)).setCell ⟨gb158, 2, none⟩ (.bool ((rd_T27 l0 x4_1).f2))).setCell ⟨gb158, 1, none⟩ (.slice none 0 0)) = w8 at n0_ n1_ n2_ ⊢
              have HO_3 := n0_
              have BK158 := n1_
              have HB := n2_
              clear n0_ n1_ n2_
              have o_HO_3 := HO_3
              have n0_ := Aside0.mk (Kd.S_drew HO_3.out)
              have o_BK158 := BK158
              have n1_ := Aside0.mk (blk_drew BK158.out)
              have o_HB := HB
              have n2_ := Aside0.mk (below_drew1 HB.out)
              clear HO_3
              clear BK158
              clear HB
              have HO_3 := n0_
              have BK158 := n1_
              have HB := n2_
              clear n0_ n1_ n2_
              have p159 : 0 ≤ (x4_1 : Int) := of_decide_eq_true (by first | (with_reducible assumption) | assumption)
              have q159 : x4_1 < (l0.length : Int) := of_decide_eq_true (by first | (with_reducible assumption) | assumption)
              obtain ⟨ad159, A159_1, c159_1, e159, hx159_0, hx159_1, hx159_2, hl159_1, hi159_1⟩ := at_T27 HR0.out x4_1 p159 q159
              have hw159_2 := hx159_2
              have hw159_1 := hx159_1
              have hw159_0 := hx159_0
              obtain rfl : ad157 = ad159 := (by injection e159)
              replace hx159_0 := (HB.out.cell (World.block_lt_of_cell? w _ hx159_0)).trans hx159_0
              replace hx159_1 := (HB.out.cell (World.block_lt_of_cell? w _ hx159_1)).trans hx159_1
              replace hx159_2 := (HB.out.cell (World.block_lt_of_cell? w _ hx159_2)).trans hx159_2
              have HR159_1 := Aside0.mk hi159_1
              have HC159_1 := Aside0.mk hl159_1
              clear hi159_1 hl159_1
              replace p159 := eq_true p159
              replace q159 := eq_true q159
              refine start_ (n := 10) (S := fun w' => w'.cell? ⟨gb158, 0, none⟩ = some (.int .i64 ((rd_T27 l0 x4_1).f0)) ∧ w'.cell? ⟨gb158, 1, none⟩ = some (.slice none 0 0) ∧ w'.cell? ⟨gb158, 2, none⟩ = some (.bool ((rd_T27 l0 x4_1).f2)) ∧ w'.cell? (ad157.add ((x4_1).toNat * 3)) = some (.int .i64 ((rd_T27 l0 x4_1).f0)) ∧ w'.cell? ⟨(ad157.add ((x4_1).toNat * 3)).block, (ad157.add ((x4_1).toNat * 3)).off + 1, none⟩ = some (.slice A159_1 ((rd_T27 l0 x4_1).f1).length c159_1) ∧ w'.cell? ⟨(ad157.add ((x4_1).toNat * 3)).block, (ad157.add ((x4_1).toNat * 3)).off + 2, none⟩ = some (.bool ((rd_T27 l0 x4_1).f2))) (ds := [9]) #[false, false, false, false, false, false, false, false, false, false] (by kernel_rfl) rfl rfl ⟨(blk_cell BK158.out 0).trans rfl, (blk_cell BK158.out 1).trans rfl, (blk_cell BK158.out 2).trans rfl, ((HB.out.cell (World.block_lt_of_cell? w _ hw159_0)).trans hw159_0), ((HB.out.cell (World.block_lt_of_cell? w _ hw159_1)).trans hw159_1), ((HB.out.cell (World.block_lt_of_cell? w _ hw159_2)).trans hw159_2)⟩ (fun hHeld => ?_); refine with_tabW cotterlaw02_copied.tab7 cotterlaw02_copied.bits7 (fun HT_ HW_ => ?_)
              generalize w8.drew = w9 at HO_3 BK158 HB HR159_1 hx159_0 hx159_1 hx159_2 hHeld ⊢
              refine pure_ (i := 0) (N := some 17) (v := ?_) (a' := ?_) #[true, false, false, false, false, false, false, false, false, false] rfl rfl (any_of HT_.out (by kernel_rfl)) (fun _ _ _ h => h) (Or.inl ⟨by rfl, ?_⟩) ?_ ?_
              rotate_left
              · intro w'
                go_simp
                with_reducible rfl
              rotate_left
              · simp only [Act.put, List.setIfInBounds_toArray, List.set_cons_zero, List.set_cons_succ, i64_w, i32_w]
                rfl
              refine pure_ (i := 2) (N := some 19) (v := ?_) (a' := ?_) #[true, false, true, false, false, false, false, false, false, false] rfl rfl (any_of HT_.out (by kernel_rfl)) (fun _ _ _ h => h) (Or.inl ⟨by rfl, ?_⟩) ?_ ?_
              rotate_left
              · intro w'
                go_simp
                with_reducible rfl
              rotate_left
              · simp only [Act.put, List.setIfInBounds_toArray, List.set_cons_zero, List.set_cons_succ, i64_w, i32_w]
                rfl
              refine pure_ (i := 3) (N := some 20) (v := ?_) (a' := ?_) #[true, false, true, true, false, false, false, false, false, false] rfl rfl (any_of HT_.out (by kernel_rfl)) (fun _ _ _ h => h) (Or.inl ⟨by rfl, ?_⟩) ?_ ?_
              rotate_left
              · intro w'
                go_simp
                with_reducible rfl
              rotate_left
              · simp only [Act.put, List.setIfInBounds_toArray, List.set_cons_zero, List.set_cons_succ, i64_w, i32_w]
                rfl
              refine pure_ (i := 4) (N := some 21) (v := ?_) (a' := ?_) #[true, false, true, true, true, false, false, false, false, false] rfl rfl (any_of HT_.out (by kernel_rfl)) (fun _ _ _ h => h) (Or.inl ⟨by rfl, ?_⟩) ?_ ?_
              rotate_left
              · intro w'
                go_simp
                with_reducible rfl
              rotate_left
              · simp only [Act.put, List.setIfInBounds_toArray, List.set_cons_zero, List.set_cons_succ, i64_w, i32_w]
                rfl
              refine pure_ (i := 5) (N := some 22) (v := ?_) (a' := ?_) #[true, false, true, true, true, true, false, false, false, false] rfl rfl (any_of HT_.out (by kernel_rfl)) (fun _ _ _ h => h) (Or.inl ⟨by rfl, ?_⟩) ?_ ?_
              rotate_left
              · intro w'
                go_simp
                with_reducible rfl
              rotate_left
              · simp only [Act.put, List.setIfInBounds_toArray, List.set_cons_zero, List.set_cons_succ, i64_w, i32_w]
                rfl
              refine take_ (i := 1) (N := some 18) (v := ?_) (a' := ?_) #[true, true, true, true, true, true, false, false, false, false] rfl rfl (take_ofW HT_.out HW_.out (by kernel_rfl)) (fun _ _ _ h => h) (Or.inl ⟨by rfl, ?_⟩) hHeld ?_ ?_
              rotate_left
              · rintro w' ⟨s0, s1, s2, s3, s4, s5⟩
                go_simp
                with_reducible rfl
              rotate_left
              · simp only [Act.put, List.setIfInBounds_toArray, List.set_cons_zero, List.set_cons_succ, i64_w, i32_w]
                rfl
              refine take_ (i := 6) (N := some 23) (v := ?_) (a' := ?_) #[true, true, true, true, true, true, true, false, false, false] rfl rfl (take_ofW HT_.out HW_.out (by kernel_rfl)) (fun _ _ _ h => h) (Or.inl ⟨by rfl, ?_⟩) hHeld ?_ ?_
              rotate_left
              · rintro w' ⟨s0, s1, s2, s3, s4, s5⟩
                go_simp
                with_reducible rfl
              rotate_left
              · simp only [Act.put, List.setIfInBounds_toArray, List.set_cons_zero, List.set_cons_succ, i64_w, i32_w]
                rfl
              refine one_ (i := 7) (N := some 24) #[true, true, true, true, true, true, true, true, false, false] rfl rfl (one_of HT_.out (by kernel_rfl)) (by decide) (fun K hK => ?_)
              refine Kd.R_append_rows_step (Kd.int .i64) (w0 := w) w.heap.size (by rfl) (.tmp 18) (.tmp 23) 25 2 (.int .i64 0) 8 rfl Try.underlying25 info2 rfl (by decide) (by omega) (.slice none 0 0) ([] : List Int) ((rd_T27 l0 x4_1).f1) _ _ _ (fun _ => True) (fun _ => False) rfl rfl ?aO ?aR (fun _ _ h => h) (fun _ h => h.elim) ?aF ?aB ?aS ?aL ?_
              (case aR => repeat (first | exact (Kd.C_below HR159_1.out HB.out) | (with_reducible refine Kd.C_alloc ?_ _) | (with_reducible refine Kd.C_drewN ?_ _) | (with_reducible refine Kd.C_drew ?_)))
              (case aB => exact (by repeat (first | (with_reducible first | exact HB.out | apply below_alloc | apply pw_below_drewN | apply below_drew1 | refine below_set ?_ GE158.out) | exact HB.out)))
              (case aF => exact (fun _ _ => trivial))
              (case aO => exact ((Kd.R_nil _ _ _ _ (fun _ => True))))
              (case aS => exact (below_size (by repeat (first | (with_reducible first | exact HB.out | apply below_alloc | apply pw_below_drewN | apply below_drew1 | refine below_set ?_ GE158.out) | exact HB.out))))
              (case aL => have := LMc4.out; omega)
              intro v161 w10 ho hb hg hat
              rw [← Ny160.out] at ho
              have n0_ := Aside0.mk (Kd.S_after (Kd.S_apart_nil (by (with_reducible repeat (first | apply Kd.S_alloc | apply Kd.S_drewN | apply Kd.S_drew)); exact HO_3.out)) hg hat)
              have n1_ := Aside0.mk (blk_grown (g := gb158) (o := .cells #[.int .i64 ((rd_T27 l0 x4_1).f0), .slice none 0 0, .bool ((rd_T27 l0 x4_1).f2)] 27 (0, 0)) (by (with_reducible repeat (first | refine blk_drewN ?_ _ | refine blk_drew ?_ | refine blk_alloc ?_ _)); exact BK158.out) hg (by simp [Value.ownBlock]))
              have n2_ := Aside0.mk (hb)
              have n3_ := Aside0.mk (ho)
              clear HO_3
              clear BK158
              clear HB
              have HO_3 := n0_
              have BK158 := n1_
              have HB := n2_
              have HO162 := n3_
              clear n0_ n1_ n2_ n3_
              clear ho hb hg hat
              obtain ⟨Ao11, co11, eo11⟩ := Kd.R_slice HO162.out
              (first | subst eo11 | (injection eo11 with f1_ f2_ f3_; have f4_ := f1_.symm; have f5_ := f3_.symm; clear f1_ f2_ f3_; subst f4_; subst f5_))
              refine hK.out _ _ ⟨(blk_cell BK158.out 0).trans rfl, (blk_cell BK158.out 1).trans rfl, (blk_cell BK158.out 2).trans rfl, ((HB.out.cell (World.block_lt_of_cell? w _ hw159_0)).trans hw159_0), ((HB.out.cell (World.block_lt_of_cell? w _ hw159_1)).trans hw159_1), ((HB.out.cell (World.block_lt_of_cell? w _ hw159_2)).trans hw159_2)⟩ (fun hHeld => ?_)
              clear hK K
              refine norm_ (a' := ?_) ?_ ?_
              rotate_left
              · show Act.put _ (some 24) _ = _
                simp only [Act.put, List.setIfInBounds_toArray, List.set_cons_zero, List.set_cons_succ, i64_w, i32_w]
                rfl
              refine pure_ (i := 8) (N := some 25) (v := ?_) (a' := ?_) #[true, true, true, true, true, true, true, true, true, false] rfl rfl (any_of HT_.out (by kernel_rfl)) (fun _ _ _ h => h) (Or.inl ⟨by rfl, ?_⟩) ?_ ?_
              rotate_left
              · intro w'
                go_simp
                with_reducible rfl
              rotate_left
              · simp only [Act.put, List.setIfInBounds_toArray, List.set_cons_zero, List.set_cons_succ, i64_w, i32_w]
                rfl
              refine last_ (i := 9) (N := none) #[true, true, true, true, true, true, true, true, true, true] rfl rfl (one_of HT_.out (by kernel_rfl)) (by decide) (fun K hK => ?_)
              have hs12 : w10.cell? ⟨gb158, 1, none⟩ = some (.slice none 0 0) := (blk_cell BK158.out 1).trans rfl
              have hfs12 := blk_frozen BK158.out 1
              refine skip_ (w1 := ?_) (by rfl) rfl ?_ ?_
              rotate_left
              · go_simp
                rfl
              refine hK.out _ _ ?_
              clear hK K
              refine done_ (done_of HT_.out (by kernel_rfl)) ?_
              have n0_ : Aside0 (Kd.S k27 27 (w10.setCell ⟨gb158, 1, none⟩ (.slice Ao11 y160.length co11)) w.heap.size (fun k_ => some k_ ≠ (.slice Ao11 y160.length co11 : Value).ownBlock ∧ k_ ≠ gb158) u3 x3_1) := ⟨by (with_reducible repeat (first | apply Kd.S_alloc | apply Kd.S_drewN | apply Kd.S_drew)); exact Kd.S_mono (Kd.S_far (p := ⟨gb158, 1, none⟩) (Kd.S_mono HO_3.out (fun k_ hk => (⟨hk, hk.1⟩ : _ ∧ k_ ≠ gb158))) (fun _ hk => hk.2) (.slice Ao11 y160.length co11)) (fun _ hk => ⟨hk.1.2, hk.1.1⟩)⟩
              have n1_ : Aside0 (Kd.R (Kd.int .i64) 2 (w10.setCell ⟨gb158, 1, none⟩ (.slice Ao11 y160.length co11)) w.heap.size (fun _ => True) (.slice Ao11 y160.length co11) y160) := ⟨by (with_reducible repeat (first | apply Kd.R_alloc | apply Kd.R_drewN | apply Kd.R_drew)); exact Kd.R_mono (Kd.R_far (p := ⟨gb158, 1, none⟩) (Kd.R_types HO162.out BK158.out (by decide)) (fun _ hk => hk.2) (.slice Ao11 y160.length co11)) (fun _ hk => trivial)⟩
              have n2_ : Aside0 ((w10.setCell ⟨gb158, 1, none⟩ (.slice Ao11 y160.length co11)).heap[gb158]? = some (.cells #[.int .i64 ((rd_T27 l0 x4_1).f0), .slice Ao11 y160.length co11, .bool ((rd_T27 l0 x4_1).f2)] 27 (0, 0))) := ⟨by (with_reducible repeat (first | refine blk_drewN ?_ _ | refine blk_drew ?_ | refine blk_alloc ?_ _)); refine blk_put (cs := #[.int .i64 ((rd_T27 l0 x4_1).f0), .slice none 0 0, .bool ((rd_T27 l0 x4_1).f2)]) ?_ 1 _ rfl; (with_reducible repeat (first | refine blk_drewN ?_ _ | refine blk_drew ?_ | refine blk_alloc ?_ _)); exact BK158.out⟩
              have n3_ : Aside0 (Below w.heap.size w (w10.setCell ⟨gb158, 1, none⟩ (.slice Ao11 y160.length co11))) := ⟨by repeat (first | (with_reducible first | exact HB.out | apply below_alloc | apply pw_below_drewN | apply below_drew1 | refine below_set ?_ GE158.out) | exact HB.out)⟩
              (try clear HO_3)
              (try clear HO162)
              (try clear BK158)
              (try clear HB)
              generalize (w10.setCell ⟨gb158, 1, none⟩ (.slice Ao11 y160.length co11)) = w13 at n0_ n1_ n2_ n3_ ⊢
              have HO_3 := n0_
              have HO162 := n1_
              have BK158 := n2_
              have HB := n3_
              clear n0_ n1_ n2_ n3_
              have hcz14_0 : w13.cell? ⟨gb158, 0, none⟩ = some (.int .i64 ((rd_T27 l0 x4_1).f0)) := (blk_cell BK158.out 0).trans rfl
              have hcz14_1 : w13.cell? ⟨gb158, 1, none⟩ = some (.slice Ao11 y160.length co11) := (blk_cell BK158.out 1).trans rfl
              have hcz14_2 : w13.cell? ⟨gb158, 2, none⟩ = some (.bool ((rd_T27 l0 x4_1).f2)) := (blk_cell BK158.out 2).trans rfl
              have hfz14_0 := blk_frozen BK158.out 0
              have hfz14_1 := blk_frozen BK158.out 1
              have hfz14_2 := blk_frozen BK158.out 2
              try go_wp2_with (first | ((with_reducible refine gate_builtin (b := .append) (xs := #[.tmp 26, .tmp 28]) rfl ?_); at_builtin; refine Kd.S_append k27 (w0 := w) w.heap.size rfl (.tmp 26) (.tmp 28) 22 27 (.agg #[(.int .i64 0), (.slice none 0 0), (.bool false)]) 40 rfl Try.underlying22 info27 rfl (by decide) (by omega) u3 x3_1 (⟨(rd_T27 l0 x4_1).f0, y160, (rd_T27 l0 x4_1).f2⟩ : S27) [.int .i64 ((rd_T27 l0 x4_1).f0), .slice Ao11 y160.length co11, .bool ((rd_T27 l0 x4_1).f2)] (fun k_ => k_ ≠ gb158) (fun k_ => some k_ = (.slice Ao11 y160.length co11 : Value).ownBlock) rfl rfl ?aP (fun k_ hk_ => ((Kd.R_mono (ok' := fun k_ => ((fun k_ => k_ ≠ gb158)) k_ ∧ some k_ ≠ (u3 : Value).ownBlock) (Kd.R_types (Kd.R_apart' (HO162.out) (Kd.S_typed HO_3.out) (by decide)) BK158.out (by decide)) (fun k_ hk => ⟨hk.2, hk.1.2⟩))).1 k_ hk_.symm) ?aF ?aO ?aB ?aS ?aL ?_; (case aP => exact k27_mkM _ _ _ (⟨(rd_T27 l0 x4_1).f0, y160, (rd_T27 l0 x4_1).f2⟩ : S27) (Kd.R_mono (Kd.R_tight rfl (Kd.R_mono (ok' := fun k_ => ((fun k_ => k_ ≠ gb158)) k_ ∧ some k_ ≠ (u3 : Value).ownBlock) (Kd.R_types (Kd.R_apart' (HO162.out) (Kd.S_typed HO_3.out) (by decide)) BK158.out (by decide)) (fun k_ hk => ⟨hk.2, hk.1.2⟩))) (fun _ h_ => h_))); (case aB => exact (by repeat (first | (with_reducible first | exact HB.out | apply below_alloc | apply pw_below_drewN | apply below_drew1 | refine below_set ?_ GE158.out) | exact HB.out))); (case aF => exact (fun k_ hk => Kd.freshB (g := gb158) (o := .cells #[.int .i64 ((rd_T27 l0 x4_1).f0), .slice Ao11 y160.length co11, .bool ((rd_T27 l0 x4_1).f2)] 27 (0, 0)) (by (with_reducible repeat (first | refine blk_drewN ?_ _ | refine blk_drew ?_ | refine blk_alloc ?_ _)); exact BK158.out) k_ hk)); (case aO => exact (by (with_reducible repeat (first | apply Kd.S_alloc | apply Kd.S_drewN | apply Kd.S_drew)); exact Kd.S_mono HO_3.out (fun k_ hk => ⟨hk.2, fun e_ => hk.1 e_⟩))); (case aS => exact (below_size (by repeat (first | (with_reducible first | exact HB.out | apply below_alloc | apply pw_below_drewN | apply below_drew1 | refine below_set ?_ GE158.out) | exact HB.out)))); (case aL => have := LMc5.out; omega); intro v164 w15 ho hb hg hat; rw [← Ny163.out] at ho; have n0_ := Aside0.mk (blk_grown (g := gb158) (o := .cells #[.int .i64 ((rd_T27 l0 x4_1).f0), .slice Ao11 y160.length co11, .bool ((rd_T27 l0 x4_1).f2)] 27 (0, 0)) (by (with_reducible repeat (first | refine blk_drewN ?_ _ | refine blk_drew ?_ | refine blk_alloc ?_ _)); exact BK158.out) hg (Kd.S_away HO_3.out (fun _ hk => hk.2))); have n1_ := Aside0.mk (hb); have n2_ := Aside0.mk (ho); clear BK158; clear HB; clear HO_3; clear HO162; have BK158 := n0_; have HB := n1_; have HO165 := n2_; clear n0_ n1_ n2_; clear ho hb hg hat))
              go_roundg k1
              case measure => have := HK1.out; omega
              case rel => exact ⟨(y163), (wrap64 (x4_1 + 1)), (by first | rfl | (simp; done) | (simp [*]; done)), H', ⟨by have := HK1.out; omega⟩, ⟨by (with_reducible repeat (first | apply Kd.S_alloc | apply Kd.S_drewN | apply Kd.S_drew)); exact Kd.S_mono HO165.out (fun _ hk => trivial)⟩, ⟨by repeat (first | (with_reducible first | exact HB.out | apply below_alloc | apply pw_below_drewN | apply below_drew1 | refine below_set ?_ GE158.out) | exact HB.out)⟩⟩
            · rw [if_neg c5] at H
              exact absurd H (by simp)
          · rw [if_neg c4] at H
            exact absurd H (by simp)
        · rw [if_neg c3] at H
          exact absurd H (by simp)
      · rw [if_neg c2] at H
        have c2b0 : decide (x4_1 < (l0.length : Int)) = false := decide_eq_false c2
        clear c2
        obtain rfl := Option.some.inj H
        go_wp2
        go_ret
        exact ⟨_, by first | rfl | (simp [errW_none, errW_some] <;> rfl) | (simp [*, errW_none, errW_some] <;> rfl), by (with_reducible repeat (first | apply Kd.S_alloc | apply Kd.S_drewN | apply Kd.S_drew)); exact HO_3.out, by repeat (first | (with_reducible first | exact HB.out | apply below_alloc | apply pw_below_drewN | apply below_drew1) | exact HB.out)⟩

end Go.Proofs.Ytkanhnhagjopkaa.M

