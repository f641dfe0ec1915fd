/-
  Texts of the proofs of MemStays, MemWords, MemJoins, cut to what the proofs reach and packed by a program of this session (wip/packs.py). Each part begins with what it says; conditions: those told there.
-/
import Derived.Shelf.SlIterI.Nil
import Derived.Shelf.SlIterI.Sorted
import Derived.Shelf.SortM.Plain
import Derived.Shelf.SortM.SortNone
import Derived.Test.YtkanhnhagjopkaaPSA4
/-
  Layer 2: slices.Sorted(maps.Keys(m)) at int64 keys: what the library's contracts ask of the program, laid as terms (printed by wip/s02/it2.py). No condition.
-/
namespace Go.Proofs.Ytkanhnhagjopkaa.M
open Go.Proofs Go.RowKit Go.Maps Go.Sort Go.Shelf
set_option maxRecDepth 100000
set_option linter.unusedVariables false
def keys46R : Ren := { f := fun x => match x with | 7 => 46 | 10 => 51 | n => n, t := fun x => match x with | 23 => 58 | 26 => 2 | 3 => 3 | 28 => 87 | 0 => 0 | 27 => 86 | 33 => 80 | 4 => 4 | n => n, g := fun x => x }
theorem keys46L : SlLaysZI.n7 Try.prog keys46R where
  mixed := by kernel_rfl
  f7 := ⟨"maps.Keys[map[int64]int,int64,int]", by decide, Try.func46.trans (by kernel_rfl)⟩
  f10 := ⟨"maps.Keys[map[int64]int,int64,int]$1", by decide, Try.func51.trans (by kernel_rfl)⟩
  t0 := Try.underlying0
  a0 := Try.isAgg0
  z0 := Try.sizeOf0
  v0 := Try.zeroValue0
  t4 := Try.underlying4
  a4 := Try.isAgg4
  z4 := Try.sizeOf4
  v4 := Try.zeroValue4
  t23 := Try.underlying58
  a23 := Try.isAgg58
  z23 := Try.sizeOf58
  v23 := Try.zeroValue58
  t26 := Try.underlying2
  a26 := Try.isAgg2
  z26 := Try.sizeOf2
  v26 := Try.zeroValue2
  t27 := Try.underlying86
  a27 := Try.isAgg86
  z27 := Try.sizeOf86
  v27 := Try.zeroValue86
  t28 := Try.underlying87
  a28 := Try.isAgg87
  z28 := Try.sizeOf87
  v28 := Try.zeroValue87
  t33 := Try.underlying80
  a33 := Try.isAgg80
  z33 := Try.sizeOf80
  v33 := Try.zeroValue80
def sorted45R : Ren := { f := fun x => match x with | 6 => 45 | 8 => 49 | 9 => 50 | 11 => 52 | 13 => 54 | 12 => 53 | 23 => 64 | 24 => 65 | 14 => 55 | 15 => 56 | 16 => 57 | 17 => 58 | 18 => 59 | 19 => 60 | 20 => 61 | 21 => 62 | 22 => 63 | 25 => 66 | 26 => 67 | 27 => 68 | 28 => 69 | 29 => 70 | 30 => 71 | 31 => 72 | n => n, t := fun x => match x with | 26 => 2 | 28 => 87 | 24 => 25 | 0 => 0 | 3 => 3 | 37 => 95 | 48 => 106 | 50 => 108 | 4 => 4 | 40 => 98 | 39 => 97 | 45 => 103 | 5 => 5 | 9 => 9 | 51 => 109 | 55 => 113 | 57 => 115 | 58 => 116 | 33 => 80 | n => n, g := fun x => x }
theorem sorted45L : SlLaysZI.n6 Try.prog sorted45R where
  mixed := by kernel_rfl
  f6 := ⟨"slices.Sorted[int64]", by decide, Try.func45.trans (by kernel_rfl)⟩
  f8 := ⟨"slices.Collect[int64]", by decide, Try.func49.trans (by kernel_rfl)⟩
  f11 := ⟨"slices.AppendSeq[[]int64,int64]", by decide, Try.func52.trans (by kernel_rfl)⟩
  t0 := Try.underlying0
  a0 := Try.isAgg0
  z0 := Try.sizeOf0
  v0 := Try.zeroValue0
  t24 := Try.underlying25
  a24 := Try.isAgg25
  z24 := Try.sizeOf25
  v24 := Try.zeroValue25
  t26 := Try.underlying2
  a26 := Try.isAgg2
  z26 := Try.sizeOf2
  v26 := Try.zeroValue2
  t28 := Try.underlying87
  a28 := Try.isAgg87
  z28 := Try.sizeOf87
  v28 := Try.zeroValue87
  i26 := by kernel_rfl
def sort50R : Ren := { f := fun x => match x with | 5 => 50 | 8 => 54 | 7 => 53 | 19 => 64 | 20 => 65 | 10 => 55 | 11 => 56 | 12 => 57 | 13 => 58 | 14 => 59 | 15 => 60 | 16 => 61 | 17 => 62 | 18 => 63 | 30 => 66 | 31 => 67 | 32 => 68 | 33 => 69 | 34 => 70 | 35 => 71 | 40 => 72 | n => n, t := fun x => match x with | 23 => 25 | 25 => 2 | 3 => 3 | 32 => 95 | 22 => 25 | 0 => 0 | 44 => 106 | 46 => 108 | 4 => 4 | 36 => 98 | 35 => 97 | 41 => 103 | 5 => 5 | 9 => 9 | 53 => 109 | 57 => 113 | 63 => 115 | 64 => 116 | n => n, g := fun x => x }
theorem sort50L : SlLaysM.n5 Try.prog sort50R where
  mixed := by kernel_rfl
  f5 := ⟨"slices.Sort[[]int64,int64]", by decide, Try.func50.trans (by kernel_rfl)⟩
  f7 := ⟨"slices.pdqsortOrdered[int64]", by decide, Try.func53.trans (by kernel_rfl)⟩
  f8 := by kernel_rfl
  f10 := ⟨"slices.insertionSortOrdered[int64]", by decide, Try.func55.trans (by kernel_rfl)⟩
  f11 := ⟨"slices.heapSortOrdered[int64]", by decide, Try.func56.trans (by kernel_rfl)⟩
  f12 := ⟨"slices.breakPatternsOrdered[int64]", by decide, Try.func57.trans (by kernel_rfl)⟩
  f13 := ⟨"slices.choosePivotOrdered[int64]", by decide, Try.func58.trans (by kernel_rfl)⟩
  f14 := ⟨"slices.reverseRangeOrdered[int64]", by decide, Try.func59.trans (by kernel_rfl)⟩
  f15 := ⟨"slices.partialInsertionSortOrdered[int64]", by decide, Try.func60.trans (by kernel_rfl)⟩
  f16 := ⟨"cmp.Less[int64]", by decide, Try.func61.trans (by kernel_rfl)⟩
  f17 := ⟨"slices.partitionEqualOrdered[int64]", by decide, Try.func62.trans (by kernel_rfl)⟩
  f18 := ⟨"slices.partitionOrdered[int64]", by decide, Try.func63.trans (by kernel_rfl)⟩
  f19 := by kernel_rfl
  f20 := by kernel_rfl
  f30 := ⟨"slices.siftDownOrdered[int64]", by decide, Try.func66.trans (by kernel_rfl)⟩
  f31 := by kernel_rfl
  f32 := by kernel_rfl
  f33 := ⟨"slices.medianAdjacentOrdered[int64]", by decide, Try.func69.trans (by kernel_rfl)⟩
  f34 := ⟨"slices.medianOrdered[int64]", by decide, Try.func70.trans (by kernel_rfl)⟩
  f35 := ⟨"cmp.isNaN[int64]", by decide, Try.func71.trans (by kernel_rfl)⟩
  f40 := ⟨"slices.order2Ordered[int64]", by decide, Try.func72.trans (by kernel_rfl)⟩
  t0 := Try.underlying0
  a0 := Try.isAgg0
  z0 := Try.sizeOf0
  v0 := Try.zeroValue0
  t3 := Try.underlying3
  a3 := Try.isAgg3
  z3 := Try.sizeOf3
  v3 := Try.zeroValue3
  t4 := Try.underlying4
  a4 := Try.isAgg4
  z4 := Try.sizeOf4
  v4 := Try.zeroValue4
  t5 := Try.underlying5
  a5 := Try.isAgg5
  z5 := Try.sizeOf5
  v5 := Try.zeroValue5
  t9 := Try.underlying9
  a9 := Try.isAgg9
  z9 := Try.sizeOf9
  v9 := Try.zeroValue9
  t22 := Try.underlying25
  a22 := Try.isAgg25
  z22 := Try.sizeOf25
  v22 := Try.zeroValue25
  t23 := Try.underlying25
  a23 := Try.isAgg25
  z23 := Try.sizeOf25
  v23 := Try.zeroValue25
  t25 := Try.underlying2
  a25 := Try.isAgg2
  z25 := Try.sizeOf2
  v25 := Try.zeroValue2
  t32 := Try.underlying95
  a32 := Try.isAgg95
  z32 := Try.sizeOf95
  v32 := Try.zeroValue95
  t35 := Try.underlying97
  a35 := Try.isAgg97
  z35 := Try.sizeOf97
  v35 := Try.zeroValue97
  t36 := Try.underlying98
  a36 := Try.isAgg98
  z36 := Try.sizeOf98
  v36 := Try.zeroValue98
  t41 := Try.underlying103
  a41 := Try.isAgg103
  z41 := Try.sizeOf103
  v41 := Try.zeroValue103
  t44 := Try.underlying106
  a44 := Try.isAgg106
  z44 := Try.sizeOf106
  v44 := Try.zeroValue106
  t46 := Try.underlying108
  a46 := Try.isAgg108
  z46 := Try.sizeOf108
  v46 := Try.zeroValue108
  t53 := Try.underlying109
  a53 := Try.isAgg109
  z53 := Try.sizeOf109
  v53 := Try.zeroValue109
  t57 := Try.underlying113
  a57 := Try.isAgg113
  z57 := Try.sizeOf113
  v57 := Try.zeroValue113
  t63 := Try.underlying115
  a63 := Try.isAgg115
  z63 := Try.sizeOf115
  v63 := Try.zeroValue115
  t64 := Try.underlying116
  a64 := Try.isAgg116
  z64 := Try.sizeOf116
  v64 := Try.zeroValue116
end Go.Proofs.Ytkanhnhagjopkaa.M

/-
  Layer 2: slices.Sorted(maps.Keys(m)) at int64 keys: the contracts. Conditions: those told at each.
-/
namespace Go.Proofs.Ytkanhnhagjopkaa.M
open Go.Proofs Go.RowKit Go.Maps Go.Sort Go.Shelf
set_option maxRecDepth 100000
set_option linter.unusedVariables false
theorem sorts45 (m : Nat) : AnyZI.SortsIn Try.prog sorted45R Fence.wide m :=
  ⟨fun blk off cap ss W hH hblk hsz => callsIn_wide.2 (AnyM.slices_Sort_int sort50L blk off cap ss W hH hblk hsz), fun p cap W => callsIn_wide.2 (AnyM.slices_Sort_int_none sort50L p cap W)⟩
/-- maps.Keys: a function over one new block, which holds the map. -/
theorem keys_c (mb : Option Nat) (W : World) : Calls Try.prog 46 #[.map mb] W fun e w' => e = .returned (.func (.func 51) #[] #[.pointer (some ⟨W.heap.size, 0, none⟩)]) ∧ w' = W.alloc (.cells #[.map mb] 58) :=
  (callsIn_wide (n := 5)).1 (AnyZI.keys_in keys46L Fence.wide 5 trivial rfl mb W)
set_option maxHeartbeats 1000000 in
/-- slices.Sorted at what maps.Keys handed back: the map's keys, sorted, in a row of its own. -/
theorem sortedKeys_c {H : Type} {Bm b nn : Nat} {D0 : DataW H} {R : Value → Option (DataW H × List MemPlace)} {w : World} (hB : Bm < w.heap.size) (hc : w.cell? ⟨Bm, 0, none⟩ = some (.map (some b))) (hown : w.ownsMap Try.prog 2 R b nn D0) (hmax : Maps.size D0 ≤ maxLen) (hbytes : Maps.size D0 * 8 ≤ 140737488355328) :
    Calls Try.prog 45 #[.func (.func 51) #[] #[.pointer (some ⟨Bm, 0, none⟩)]] w fun e w' => ∃ (v : Value) (ss : List Int), e = .returned v ∧ ss.Perm (intKeys D0) ∧
      w'.ownsRow w.heap.size 2 1 v ss.length ((ss.mergeSort (fun x y => decide (x ≤ y))).map encZ) ∧ (v = .slice none 0 0 ↔ ss = []) ∧ Below w.heap.size w w' := by
  have hseq : SeqGives Fence.wide 2 Try.prog 51 #[.pointer (some ⟨Bm, 0, none⟩)] encZ (fun ss => ss.Perm (intKeys D0)) (Maps.size D0) w :=
    AnyZI.keys_gives (ρ := keys46R) { keys46L with } Fence.wide _ trivial rfl (by omega) Bm b nn D0 _ hB hc hown
  exact (callsIn_wide (n := 5)).1 (AnyZI.sorted_in sorted45L Fence.wide 5 trivial trivial trivial trivial rfl (by omega) (sorts45 _) (enters_of Try.func50 (by kernel_rfl) rfl) 51 #[.pointer (some ⟨Bm, 0, none⟩)] trivial (enters_of Try.func51 (by kernel_rfl) rfl) _ _ hmax hbytes _ hseq)
end Go.Proofs.Ytkanhnhagjopkaa.M

/-
  Layer 2: untouched, foot: the walks. Conditions: those told at each.
-/
namespace Go.Proofs.Ytkanhnhagjopkaa.M
open Go.RowKit Go.Proofs.YtkanhnhagjopkaaW.PrintWords Go.Proofs.YtkanhnhagjopkaaW.PrintLast Go.Proofs.Ytkanhnhagjopkaa.Num
set_option linter.unusedVariables false
set_option linter.unusedSimpArgs false
set_option maxHeartbeats 4000000 in
theorem untouched_c (W : World) : Calls Try.prog 27 #[] W fun e w' => ∃ r q : Nat, e = .returned (.agg #[.map (some r), .map (some q)]) ∧ w'.ownsMap Try.prog 2 RI r 0 (.map []) ∧ w'.ownsMap Try.prog 2 RI q 0 (.map []) ∧ W.heap.size ≤ r ∧ W.heap.size ≤ q ∧ r ≠ q ∧ Below W.heap.size W w' := by
  have hmm := @run_makeMap Try.prog
  have hu := Try.underlying58
  have eA : ∀ o, (W.alloc o).heap.size = W.heap.size + 1 := fun o => by simp
  go_enter Try.func27, Try.ntmps27
  go_wp2
  have hb := blk_alloc (blk_alloc (blk_new W (.cells #[.map (some (W.heap.size + 1)), .map (some (W.heap.size + 1 + 1))] 60)) (.map #[] 0)) (.map #[] 0)
  have h1 := (World.ownsMap_made (H := Unit) (W.alloc (.cells #[.map (some (W.heap.size + 1)), .map (some (W.heap.size + 1 + 1))] 60)) Try.prog 2 RI).alloc (.map #[] 0)
  have h2 := World.ownsMap_made (H := Unit) ((W.alloc (.cells #[.map (some (W.heap.size + 1)), .map (some (W.heap.size + 1 + 1))] 60)).alloc (.map #[] 0)) Try.prog 2 RI
  have e2 : ((W.alloc (.cells #[.map (some (W.heap.size + 1)), .map (some (W.heap.size + 1 + 1))] 60)).alloc (.map #[] 0)).heap.size = W.heap.size + 1 + 1 := by simp
  rw [eA] at h1
  rw [e2] at h2
  refine bodyPost_ret (results_cell_row rfl _ _ W.heap.size 60 #[.map (some (W.heap.size + 1)), .map (some (W.heap.size + 1 + 1))] (0, 0) _ rfl hb Try.underlying60 rfl (by kernel_rfl)) rfl ?_
  exact ⟨_, _, rfl, h1, h2, by omega, by omega, by omega, below_alloc (below_alloc (below_alloc (Below.refl _ _) _) _) _⟩
/-- .. of a map in memory. -/
theorem keys_sorted_m {W : World} {r n : Nat} {D : DU} {xs ss : List Int} (hm : W.ownsMap Try.prog 2 RI r n D) (hc : Cnt D xs) (hp : ss.Perm (intKeys D)) : ss.mergeSort (fun x y => decide (x ≤ y)) = putsF [] xs := by
  have hu : Up (putsF [] xs) := putsF_up xs [] List.Pairwise.nil
  have hn : (putsF [] xs).Nodup := hu.imp (fun h e => by omega)
  have hq : (putsF [] xs).Perm (intKeys D) := CollectedI.perm (left := fun _ => false) ⟨hn, fun x => by
    have := hc.2 x
    unfold nk at this
    rw [putsF_mem, this]
    simp⟩ hm law2 Try.underlying2 (fun _ => rfl)
  refine (mergeSort_of_perm_i (hp.trans hq.symm)).trans ?_
  exact List.mergeSort_of_pairwise (hu.imp (fun h => by simp only [leI, decide_eq_true_eq]; omega))
/-- One list of what is touched, sorted: as foot's walk meets it. -/
theorem sortedMap_c {W : World} {Bm r n : Nat} {D : DU} {xs : List Int} (hB : Bm < W.heap.size) (hcell : W.cell? ⟨Bm, 0, none⟩ = some (.map (some r))) (hm : W.ownsMap Try.prog 2 RI r n D) (hc : Cnt D xs) (hn : n ≤ 1000000) :
    Calls Try.prog 45 #[.func (.func 51) #[] #[.pointer (some ⟨Bm, 0, none⟩)]] W fun e w' => ∃ (A : Option Addr) (c : Nat), e = .returned (.slice A (putsF [] xs).length c) ∧ Kd.R (Kd.int .i64) 2 w' W.heap.size (fun _ => True) (.slice A (putsF [] xs).length c) (putsF [] xs) ∧ Below W.heap.size W w' := by
  have hs : Maps.size D ≤ n := hm.size_le
  refine (sortedKeys_c hB hcell hm (by unfold maxLen; omega) (by omega)).mono ?_
  rintro e w' ⟨v, ss, rfl, hp, hr, -, hb⟩
  have hk := keys_sorted_m hm hc hp
  rw [hk] at hr
  have hl : ss.length = (putsF [] xs).length := by rw [← hk, List.length_mergeSort]
  rw [hl] at hr
  obtain ⟨A, c, rfl⟩ := own_slice hr
  exact ⟨A, c, rfl, Kd.R_of_own hr (fun _ _ => trivial), hb⟩
end Go.Proofs.Ytkanhnhagjopkaa.M

/-
  Layer 2: mem.Clash: the walks. Conditions: lengths that any memory can hold.
-/
namespace Go.Proofs.Ytkanhnhagjopkaa.M
open Go.RowKit Go.Proofs.YtkanhnhagjopkaaW.PrintWords Go.Proofs.YtkanhnhagjopkaaW.PrintLast Go.Proofs.Ytkanhnhagjopkaa.Num
set_option linter.unusedVariables false
set_option linter.unusedSimpArgs false
theorem below_inL {w W w1 : World} (h : Below w.heap.size w W) (k : Below W.heap.size W w1) : Below w.heap.size w w1 := below_then h h.size k
section
variable {W : World} {A0 : Option Addr} {c0 : Nat} {fr : List Int} {A1 : Option Addr} {c1 : Nat} {fw : List Int}
end
end Go.Proofs.Ytkanhnhagjopkaa.M

/-
  Layer 2: foot: the walk. Conditions: those told at it.
-/
namespace Go.Proofs.Ytkanhnhagjopkaa.M
open Go.RowKit Go.Proofs.YtkanhnhagjopkaaW.PrintWords Go.Proofs.YtkanhnhagjopkaaW.PrintLast Go.Proofs.Ytkanhnhagjopkaa.Num
set_option linter.unusedVariables false
set_option linter.unusedSimpArgs false
theorem froz_below {W w1 : World} (hb : Below W.heap.size W w1) {g t : Nat} {cs : Array Value} (h : W.heap[g]? = some (.cells cs t (0, 0))) (i : Nat) : w1.frozen? ⟨g, i, none⟩ = false := blk_frozen (blk_below h hb) i
theorem far_put2 {wd : World} {g t B : Nat} {cs : Array Value} (h : wd.heap[g]? = some (.cells cs t (0, 0))) (hne : B ≠ g) (u0 u1 : Value) : ((wd.setCell ⟨B, 0, none⟩ u0).setCell ⟨B, 1, none⟩ u1).heap[g]? = some (.cells cs t (0, 0)) :=
  blk_far (blk_far h (p := ⟨B, 0, none⟩) (by simp; omega) u0) (p := ⟨B, 1, none⟩) (by simp; omega) u1
theorem R_put2 {α : Type} {k : Kd α} {e : Nat} {W : World} {B : Nat} {v : Value} {l : List α} (h : k.R e W (B + 1) (fun _ => True) v l) (u0 u1 : Value) : k.R e ((W.setCell ⟨B, 0, none⟩ u0).setCell ⟨B, 1, none⟩ u1) B (fun _ => True) v l := by
  have hb := Kd.R_mono (ok' := fun k => B + 1 ≤ k) (Kd.R_bound h) (fun k hk => hk.2.1)
  exact Kd.R_mono (Kd.R_lower (Kd.R_far (Kd.R_far hb (fun k hk => by have : B + 1 ≤ k := hk; simp; omega) u0) (fun k hk => by have : B + 1 ≤ k := hk; simp; omega) u1) (by omega)) (fun _ _ => trivial)
theorem blk_put2 {W : World} {B t : Nat} {c0 c1 : Value} (h : W.heap[B]? = some (.cells #[c0, c1] t (0, 0))) (u0 u1 : Value) : ((W.setCell ⟨B, 0, none⟩ u0).setCell ⟨B, 1, none⟩ u1).heap[B]? = some (.cells #[u0, u1] t (0, 0)) :=
  blk_put (cs' := #[u0, u1]) (blk_put (cs' := #[u0, c1]) h 0 u0 rfl) 1 u1 rfl
set_option maxHeartbeats 16000000 in
set_option maxRecDepth 100000 in
theorem foot_d {rest : List Value} {ty : Nat} {w W : World} {pb r q : Nat} {xs ys : List Int} (H : TchG rest ty w W pb r q xs ys) (lx : xs.length ≤ 1000000) (ly : ys.length ≤ 1000000) :
    Calls Try.prog 38 #[.pointer (some ⟨pb, 0, none⟩)] W fun e w' => ∃ (A0 : Option Addr) (c0 : Nat) (A1 : Option Addr) (c1 : Nat), e = .returned (.agg #[.slice A0 (putsF [] xs).length c0, .slice A1 (putsF [] ys).length c1]) ∧ Kd.R (Kd.int .i64) 2 w' W.heap.size (fun _ => True) (.slice A0 (putsF [] xs).length c0) (putsF [] xs) ∧ Kd.R (Kd.int .i64) 2 w' W.heap.size (fun _ => True) (.slice A1 (putsF [] ys).length c1) (putsF [] ys) ∧ NeRow (.slice A0 (putsF [] xs).length c0) (.slice A1 (putsF [] ys).length c1) ∧ Below W.heap.size W w' := by
  obtain ⟨D1, m1, k1⟩ := H.m1
  obtain ⟨D2, m2, k2⟩ := H.m2
  have B0 := Aside0.mk (blk_new W (.cells #[.slice none 0 0, .slice none 0 0] 45))
  have P0 := Aside0.mk (blk_alloc H.blk (.cells #[.slice none 0 0, .slice none 0 0] 45))
  have HB0 := Aside0.mk (below_alloc (Below.refl W.heap.size W) (.cells #[.slice none 0 0, .slice none 0 0] 45))
  have SX := Aside0.mk (fun (w1 : World) (Bm : Nat) (h : Below W.heap.size W w1) (hB : Bm < w1.heap.size) (hc : w1.cell? ⟨Bm, 0, none⟩ = some (.map (some r))) => sortedMap_c hB hc (map_belowT m1 h) k1 lx)
  have SY := Aside0.mk (fun (w1 : World) (Bm : Nat) (h : Below W.heap.size W w1) (hB : Bm < w1.heap.size) (hc : w1.cell? ⟨Bm, 0, none⟩ = some (.map (some q))) => sortedMap_c hB hc (map_belowT m2 h) k2 ly)
  have NE := Aside0.mk (show W.heap.size ≠ pb from fun e => by have := blk_lt H.blk; omega)
  generalize putsF [] xs = us at *
  generalize putsF [] ys = vs at *
  have T1 : True := trivial
  have T2 : True := trivial
  clear H m1 m2 k1 k2 lx ly
  have kp0 : (W.alloc (.cells #[.slice none 0 0, .slice none 0 0] 45)).cell? ⟨pb, 0, none⟩ = some (.map (some r)) := (blk_cell P0.out 0).trans rfl
  have kp1 : (W.alloc (.cells #[.slice none 0 0, .slice none 0 0] 45)).cell? ⟨pb, 1, none⟩ = some (.map (some q)) := (blk_cell P0.out 1).trans rfl
  have hs1 : (W.alloc (.cells #[.slice none 0 0, .slice none 0 0] 45)).heap.size = W.heap.size + 1 := by simp
  have HBa := Aside0.mk (below_drew1 (below_alloc (Below.refl (W.alloc (.cells #[.slice none 0 0, .slice none 0 0] 45)).heap.size _) (.cells #[.map (some r)] 58)))
  have LT1 := Aside0.mk (show W.heap.size + 1 < ((W.alloc (.cells #[.slice none 0 0, .slice none 0 0] 45)).alloc (.cells #[.map (some r)] 58)).drew.heap.size from hs1 ▸ blk_lt (blk_new (W.alloc (.cells #[.slice none 0 0, .slice none 0 0] 45)) (.cells #[.map (some r)] 58)))
  have CE1 := Aside0.mk (show ((W.alloc (.cells #[.slice none 0 0, .slice none 0 0] 45)).alloc (.cells #[.map (some r)] 58)).drew.cell? ⟨W.heap.size + 1, 0, none⟩ = some (.map (some r)) from hs1 ▸ (blk_cell (blk_new (W.alloc (.cells #[.slice none 0 0, .slice none 0 0] 45)) (.cells #[.map (some r)] 58)) 0).trans rfl)
  clear hs1
  go_enter Try.func38, Try.ntmps38
  go_wp2
  go_region_held3 (fun w' => w'.cell? ⟨pb, 0, none⟩ = some (.map (some r)) ∧ w'.cell? ⟨pb, 1, none⟩ = some (.map (some q)))
    (first
      | exact ⟨kp0, kp1⟩
      | exact ⟨(blk_cell (blk_below P0.out HBa.out) 0).trans rfl, (blk_cell (blk_below P0.out HBa.out) 1).trans rfl⟩
      | exact ⟨(blk_cell (blk_below P0.out HBb.out) 0).trans rfl, (blk_cell (blk_below P0.out HBb.out) 1).trans rfl⟩
      | exact ⟨(blk_cell (blk_below P0.out HBc.out) 0).trans rfl, (blk_cell (blk_below P0.out HBc.out) 1).trans rfl⟩
      | exact ⟨(blk_cell (blk_below P0.out HBd.out) 0).trans rfl, (blk_cell (blk_below P0.out HBd.out) 1).trans rfl⟩
      | exact ⟨(blk_cell (far_put2 (blk_below P0.out HBd.out) NE.out _ _) 0).trans rfl, (blk_cell (far_put2 (blk_below P0.out HBd.out) NE.out _ _) 1).trans rfl⟩
      | (go_keep; done))
    (first
      | (clear T1; go_at_call 46; (with_reducible refine (keys_c (some r) _).mono ?_); rintro e wa ⟨rfl, rfl⟩)
      | (clear T2; go_at_call 45; (with_reducible refine (SX.out _ _ ?bl1 ?lt1 ?ce1).mono ?_); (case bl1 => exact below_inL HB0.out HBa.out); (case lt1 => exact LT1.out); (case ce1 => exact CE1.out); rintro e wb ⟨A0, c0, rfl, hr, hb⟩; have HBb := Aside0.mk (below_then HBa.out HBa.out.size hb); have R1 := Aside0.mk hr; clear hr hb)
      | (go_at_call 46; (with_reducible refine (keys_c (some q) _).mono ?_); rintro e wc ⟨rfl, rfl⟩; have HBc := Aside0.mk (below_alloc HBb.out (.cells #[.map (some q)] 58)))
      | (go_at_call 45; (with_reducible refine (SY.out _ _ (below_inL HB0.out HBc.out) ?lt1 ?ce1).mono ?_); (case lt1 => exact blk_lt (blk_new _ _)); (case ce1 => exact (blk_cell (blk_new _ _) 0).trans rfl); rintro e wd ⟨A1, c1, rfl, hr, hb⟩; have HBd := Aside0.mk (below_then HBc.out HBc.out.size hb); have R2 := Aside0.mk hr; have R1d := Aside0.mk (Kd.R_below (Kd.R_alloc R1.out (.cells #[.map (some q)] 58)) hb); clear hr hb; have hz0 : wd.cell? ⟨W.heap.size, 0, none⟩ = some (.slice none 0 0) := (blk_cell (blk_below B0.out HBd.out) 0).trans rfl; have hz1 : wd.cell? ⟨W.heap.size, 1, none⟩ = some (.slice none 0 0) := (blk_cell (blk_below B0.out HBd.out) 1).trans rfl; have hf0 : wd.frozen? ⟨W.heap.size, 0, none⟩ = false := froz_below HBd.out B0.out 0; have hf1 : wd.frozen? ⟨W.heap.size, 1, none⟩ = false := froz_below HBd.out B0.out 1))
  all_goals try go_wp2
  all_goals exact bodyPost_ret (results_cell_row rfl _ _ W.heap.size 45 #[.slice A0 us.length c0, .slice A1 vs.length c1] (0, 0) _ rfl (blk_put2 (blk_below B0.out HBd.out) _ _) Try.underlying45 rfl (by kernel_rfl)) rfl ⟨A0, c0, A1, c1, rfl, R_put2 (Kd.R_lower R1d.out (by have := HBa.out.size; simp)) _ _, R_put2 (Kd.R_lower R2.out (by have := HBc.out.size; simp at this ⊢; omega)) _ _, (fun k h1 h2 => by have e1 := Kd.R_lt R1.out k h1; have e2 := Kd.R_base R2.out k h2; simp at e2; omega), below_set (below_set (below_inL HB0.out HBd.out) (Nat.le_refl _)) (Nat.le_refl _)⟩
theorem foot_c {rest : List Value} {ty : Nat} {w W : World} {pb r q : Nat} {xs ys : List Int} (H : TchG rest ty w W pb r q xs ys) (lx : xs.length ≤ 1000000) (ly : ys.length ≤ 1000000) :
    Calls Try.prog 38 #[.pointer (some ⟨pb, 0, none⟩)] W fun e w' => ∃ (A0 : Option Addr) (c0 : Nat) (A1 : Option Addr) (c1 : Nat), e = .returned (.agg #[.slice A0 (putsF [] xs).length c0, .slice A1 (putsF [] ys).length c1]) ∧ Kd.R (Kd.int .i64) 2 w' W.heap.size (fun _ => True) (.slice A0 (putsF [] xs).length c0) (putsF [] xs) ∧ Kd.R (Kd.int .i64) 2 w' W.heap.size (fun _ => True) (.slice A1 (putsF [] ys).length c1) (putsF [] ys) ∧ Below W.heap.size W w' := by
  refine (foot_d H lx ly).mono ?_
  rintro e w' ⟨A0, c0, A1, c1, h0, h1, h2, -, h3⟩
  exact ⟨A0, c0, A1, c1, h0, h1, h2, h3⟩
end Go.Proofs.Ytkanhnhagjopkaa.M

/-
  Layer 2: mem.Join: the walk. Conditions: those told at it.
-/
namespace Go.Proofs.Ytkanhnhagjopkaa.M
open Go.RowKit Go.Proofs.YtkanhnhagjopkaaW.PrintWords Go.Proofs.YtkanhnhagjopkaaW.PrintLast Go.Proofs.Ytkanhnhagjopkaa.Num
set_option linter.unusedVariables false
set_option linter.unusedSimpArgs false
def RG (x : Int) : Prop := -9223372036854775808 ≤ x ∧ x ≤ 9223372036854775807
end Go.Proofs.Ytkanhnhagjopkaa.M

namespace Go.Proofs.Ytkanhnhagjopkaa.M
end Go.Proofs.Ytkanhnhagjopkaa.M
namespace Go.Proofs.Ytkanhnhagjopkaa.M
end Go.Proofs.Ytkanhnhagjopkaa.M
