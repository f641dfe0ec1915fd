/-
  Texts of the proofs of ObjfApart, cut to what the proofs reach and packed by a program of this session (wip/packs.py). Each part begins with what it says; conditions: those told there.
-/
import Derived.Test.YtilmndkbloodbaaPO6B1n1
import Derived.Test.YtilmndkbloodbaaPO6B4n1
/-
  Layer 6: the contracts over objects, case by case, for the laws' walks; and the plain facts of forms (their size, that unlike objects have unlike ones, that a beginning of one is none's). No condition but those told at each.
-/
namespace Go.Proofs.Ytilmndkbloodbaa.M
open Go.RowKit Go.Proofs.YtilmndkbloodbaaW.PrintWords Go.Proofs.Ytilmndkbloodbaa.Num Go.Proofs.Ytilmndkbloodbaa.Seven Go.Proofs.Ytilmndkbloodbaa.Word1 Go.Proofs.Ytilmndkbloodbaa.Obj
set_option linter.unusedVariables false
set_option linter.unusedSimpArgs false
theorem blk_new1 (w : World) (a b : _root_.Go.Obj) : ((w.alloc a).alloc b).heap[w.heap.size + 1]? = some b := by
  have := blk_new (w.alloc a) b
  have e : (w.alloc a).heap.size = w.heap.size + 1 := by simp
  rw [e] at this
  exact this
/-! ### Plain -/
theorem form_inj {a b : Obj6} (ha : mayO a = true) (wa : wordsOk a.2.1) (hb : mayO b = true) (wb : wordsOk b.2.1) (h : formO a = formO b) : a = b := by
  have h1 := rd_formO ha wa
  rw [h, rd_formO hb wb] at h1
  exact ((Prod.mk.inj h1).1).symm
/-! ### Case by case -/
theorem same_no {w : World} {v v' : Value} {o p : Obj6} (h : Ob w v o) (h' : Ob w v' p) (z1 : o.2.1.length ≤ 9223372036854775806) (z2 : o.2.2.1.length ≤ 9223372036854775806) (z3 : o.2.2.2.length ≤ 9223372036854775806) (e : o ≠ p) : Calls Try.prog 15 #[v, v'] w fun e w' => e = .returned (.bool false) ∧ Below w.heap.size w w' :=
  (same_c h h' z1 z2 z3).mono fun x w' ⟨b, hi, h1, h2⟩ => ⟨by
    cases b with
    | true => exact absurd (hi.1 rfl) e
    | false => exact h1, h2⟩
end Go.Proofs.Ytilmndkbloodbaa.M

/-
  Layer 6: ObjfApart: the walk. Conditions: the words of data are of 64 bits; the texts are of at most 2^47 bytes.
-/
namespace Go.Proofs.Ytilmndkbloodbaa.M
open Go.RowKit Go.Proofs.YtilmndkbloodbaaW.PrintWords Go.Proofs.Ytilmndkbloodbaa.Num Go.Proofs.Ytilmndkbloodbaa.Seven Go.Proofs.Ytilmndkbloodbaa.Word1 Go.Proofs.Ytilmndkbloodbaa.Obj
set_option linter.unusedVariables false
set_option linter.unusedSimpArgs false
set_option maxHeartbeats 4000000 in
set_option maxRecDepth 100000 in
theorem apart1 {w : World} {v v' : Value} {a b : Obj6} (ha : Ob w v a) (hb : Ob w v' b) (wa : wordsOk a.2.1) (wb : wordsOk b.2.1) (sa : decide (a.2.2.1.length ≤ 200) = false) : Calls Try.prog 7 #[v, v'] w fun e w' => e = .returned (.bool true) ∧ Below w.heap.size w w' := by
  obtain ⟨Aa1, ca1, Aa2, ca2, Aa3, ca3, rfl, ha0⟩ := ha.parts
  have Ha := Aside0.mk ha0
  clear ha ha0
  obtain ⟨Ab1, cb1, Ab2, cb2, Ab3, cb3, rfl, hb0⟩ := hb.parts
  have Hb := Aside0.mk hb0
  clear hb hb0
  have SA := Aside0.mk sa
  clear sa
  have T1 : True := trivial
  have T2 : True := trivial
  go_enter Try.func7, Try.ntmps7
  go_wp2_with (first
    | (clear T1; go_at_call 8; (with_reducible refine (small_c (Ob.more (Ob.more Ha.out _) _) false SA.out).mono ?_); rintro e w1 ⟨rfl, hb⟩
       have HB1 := Aside0.mk (below_in (below_alloc (below_alloc (Below.refl w.heap.size w) _) _) hb)
       have HOa1 := Aside0.mk (Ob.below (Ob.more (Ob.more Ha.out _) _) hb)
       have HOb1 := Aside0.mk (Ob.below (Ob.more (Ob.more Hb.out _) _) hb)
       have BKa1 : Aside0 (w1.heap[w.heap.size]? = some (.cells #[(.string a.1), (.slice Aa1 a.2.1.length ca1), (.slice Aa2 a.2.2.1.length ca2), (.slice Aa3 a.2.2.2.length ca3)] 26 (0, 0))) := Aside0.mk (blk_below (blk_alloc (blk_new w _) _) hb)
       have ka1_0 : w1.cell? ⟨w.heap.size, 0, none⟩ = some (.string a.1) := (blk_cell BKa1.out 0).trans rfl
       have ka1_1 : w1.cell? ⟨w.heap.size, 1, none⟩ = some (.slice Aa1 a.2.1.length ca1) := (blk_cell BKa1.out 1).trans rfl
       have ka1_2 : w1.cell? ⟨w.heap.size, 2, none⟩ = some (.slice Aa2 a.2.2.1.length ca2) := (blk_cell BKa1.out 2).trans rfl
       have ka1_3 : w1.cell? ⟨w.heap.size, 3, none⟩ = some (.slice Aa3 a.2.2.2.length ca3) := (blk_cell BKa1.out 3).trans rfl
       have lta1 := blk_lt BKa1.out
       have BKb1 : Aside0 (w1.heap[w.heap.size + 1]? = some (.cells #[(.string b.1), (.slice Ab1 b.2.1.length cb1), (.slice Ab2 b.2.2.1.length cb2), (.slice Ab3 b.2.2.2.length cb3)] 26 (0, 0))) := Aside0.mk (blk_below (blk_new1 w _ _) hb)
       have kb1_0 : w1.cell? ⟨w.heap.size + 1, 0, none⟩ = some (.string b.1) := (blk_cell BKb1.out 0).trans rfl
       have kb1_1 : w1.cell? ⟨w.heap.size + 1, 1, none⟩ = some (.slice Ab1 b.2.1.length cb1) := (blk_cell BKb1.out 1).trans rfl
       have kb1_2 : w1.cell? ⟨w.heap.size + 1, 2, none⟩ = some (.slice Ab2 b.2.2.1.length cb2) := (blk_cell BKb1.out 2).trans rfl
       have kb1_3 : w1.cell? ⟨w.heap.size + 1, 3, none⟩ = some (.slice Ab3 b.2.2.2.length cb3) := (blk_cell BKb1.out 3).trans rfl
       have ltb1 := blk_lt BKb1.out
       clear hb)
    | (clear T2; go_at_call 9; (with_reducible refine (live_c _).mono ?_); rintro e w2 ⟨rfl, hb⟩
       have HB2 := Aside0.mk (below_in HB1.out hb)
       have HOa2 := Aside0.mk (Ob.below HOa1.out hb)
       have HOb2 := Aside0.mk (Ob.below HOb1.out hb)
       have BKa2 : Aside0 (w2.heap[w.heap.size]? = some (.cells #[(.string a.1), (.slice Aa1 a.2.1.length ca1), (.slice Aa2 a.2.2.1.length ca2), (.slice Aa3 a.2.2.2.length ca3)] 26 (0, 0))) := Aside0.mk (blk_below BKa1.out hb)
       have ka2_0 : w2.cell? ⟨w.heap.size, 0, none⟩ = some (.string a.1) := (blk_cell BKa2.out 0).trans rfl
       have ka2_1 : w2.cell? ⟨w.heap.size, 1, none⟩ = some (.slice Aa1 a.2.1.length ca1) := (blk_cell BKa2.out 1).trans rfl
       have ka2_2 : w2.cell? ⟨w.heap.size, 2, none⟩ = some (.slice Aa2 a.2.2.1.length ca2) := (blk_cell BKa2.out 2).trans rfl
       have ka2_3 : w2.cell? ⟨w.heap.size, 3, none⟩ = some (.slice Aa3 a.2.2.2.length ca3) := (blk_cell BKa2.out 3).trans rfl
       have lta2 := blk_lt BKa2.out
       have BKb2 : Aside0 (w2.heap[w.heap.size + 1]? = some (.cells #[(.string b.1), (.slice Ab1 b.2.1.length cb1), (.slice Ab2 b.2.2.1.length cb2), (.slice Ab3 b.2.2.2.length cb3)] 26 (0, 0))) := Aside0.mk (blk_below BKb1.out hb)
       have kb2_0 : w2.cell? ⟨w.heap.size + 1, 0, none⟩ = some (.string b.1) := (blk_cell BKb2.out 0).trans rfl
       have kb2_1 : w2.cell? ⟨w.heap.size + 1, 1, none⟩ = some (.slice Ab1 b.2.1.length cb1) := (blk_cell BKb2.out 1).trans rfl
       have kb2_2 : w2.cell? ⟨w.heap.size + 1, 2, none⟩ = some (.slice Ab2 b.2.2.1.length cb2) := (blk_cell BKb2.out 2).trans rfl
       have kb2_3 : w2.cell? ⟨w.heap.size + 1, 3, none⟩ = some (.slice Ab3 b.2.2.2.length cb3) := (blk_cell BKb2.out 3).trans rfl
       have ltb2 := blk_lt BKb2.out
       clear hb HB1 HOa1 HOb1 ka1_0 ka1_1 ka1_2 ka1_3 lta1 BKa1 kb1_0 kb1_1 kb1_2 kb1_3 ltb1 BKb1))
  go_ret
  exact ⟨rfl, HB2.out⟩
set_option maxHeartbeats 4000000 in
set_option maxRecDepth 100000 in
theorem apart2 {w : World} {v v' : Value} {a b : Obj6} (ha : Ob w v a) (hb : Ob w v' b) (wa : wordsOk a.2.1) (wb : wordsOk b.2.1) (sa : decide (a.2.2.1.length ≤ 200) = true) (sb : decide (b.2.2.1.length ≤ 200) = false) : Calls Try.prog 7 #[v, v'] w fun e w' => e = .returned (.bool true) ∧ Below w.heap.size w w' := by
  obtain ⟨Aa1, ca1, Aa2, ca2, Aa3, ca3, rfl, ha0⟩ := ha.parts
  have Ha := Aside0.mk ha0
  clear ha ha0
  obtain ⟨Ab1, cb1, Ab2, cb2, Ab3, cb3, rfl, hb0⟩ := hb.parts
  have Hb := Aside0.mk hb0
  clear hb hb0
  have SA := Aside0.mk sa
  have SB := Aside0.mk sb
  clear sa sb
  have T1 : True := trivial
  have T2 : True := trivial
  have T3 : True := trivial
  go_enter Try.func7, Try.ntmps7
  go_wp2_with (first
    | (clear T1; go_at_call 8; (with_reducible refine (small_c (Ob.more (Ob.more Ha.out _) _) true SA.out).mono ?_); rintro e w1 ⟨rfl, hb⟩
       have HB1 := Aside0.mk (below_in (below_alloc (below_alloc (Below.refl w.heap.size w) _) _) hb)
       have HOa1 := Aside0.mk (Ob.below (Ob.more (Ob.more Ha.out _) _) hb)
       have HOb1 := Aside0.mk (Ob.below (Ob.more (Ob.more Hb.out _) _) hb)
       have BKa1 : Aside0 (w1.heap[w.heap.size]? = some (.cells #[(.string a.1), (.slice Aa1 a.2.1.length ca1), (.slice Aa2 a.2.2.1.length ca2), (.slice Aa3 a.2.2.2.length ca3)] 26 (0, 0))) := Aside0.mk (blk_below (blk_alloc (blk_new w _) _) hb)
       have ka1_0 : w1.cell? ⟨w.heap.size, 0, none⟩ = some (.string a.1) := (blk_cell BKa1.out 0).trans rfl
       have ka1_1 : w1.cell? ⟨w.heap.size, 1, none⟩ = some (.slice Aa1 a.2.1.length ca1) := (blk_cell BKa1.out 1).trans rfl
       have ka1_2 : w1.cell? ⟨w.heap.size, 2, none⟩ = some (.slice Aa2 a.2.2.1.length ca2) := (blk_cell BKa1.out 2).trans rfl
       have ka1_3 : w1.cell? ⟨w.heap.size, 3, none⟩ = some (.slice Aa3 a.2.2.2.length ca3) := (blk_cell BKa1.out 3).trans rfl
       have lta1 := blk_lt BKa1.out
       have BKb1 : Aside0 (w1.heap[w.heap.size + 1]? = some (.cells #[(.string b.1), (.slice Ab1 b.2.1.length cb1), (.slice Ab2 b.2.2.1.length cb2), (.slice Ab3 b.2.2.2.length cb3)] 26 (0, 0))) := Aside0.mk (blk_below (blk_new1 w _ _) hb)
       have kb1_0 : w1.cell? ⟨w.heap.size + 1, 0, none⟩ = some (.string b.1) := (blk_cell BKb1.out 0).trans rfl
       have kb1_1 : w1.cell? ⟨w.heap.size + 1, 1, none⟩ = some (.slice Ab1 b.2.1.length cb1) := (blk_cell BKb1.out 1).trans rfl
       have kb1_2 : w1.cell? ⟨w.heap.size + 1, 2, none⟩ = some (.slice Ab2 b.2.2.1.length cb2) := (blk_cell BKb1.out 2).trans rfl
       have kb1_3 : w1.cell? ⟨w.heap.size + 1, 3, none⟩ = some (.slice Ab3 b.2.2.2.length cb3) := (blk_cell BKb1.out 3).trans rfl
       have ltb1 := blk_lt BKb1.out
       clear hb)
    | (clear T2; go_at_call 8; (with_reducible refine (small_c HOb1.out false SB.out).mono ?_); rintro e w2 ⟨rfl, hb⟩
       have HB2 := Aside0.mk (below_in HB1.out hb)
       have HOa2 := Aside0.mk (Ob.below HOa1.out hb)
       have HOb2 := Aside0.mk (Ob.below HOb1.out hb)
       have BKa2 : Aside0 (w2.heap[w.heap.size]? = some (.cells #[(.string a.1), (.slice Aa1 a.2.1.length ca1), (.slice Aa2 a.2.2.1.length ca2), (.slice Aa3 a.2.2.2.length ca3)] 26 (0, 0))) := Aside0.mk (blk_below BKa1.out hb)
       have ka2_0 : w2.cell? ⟨w.heap.size, 0, none⟩ = some (.string a.1) := (blk_cell BKa2.out 0).trans rfl
       have ka2_1 : w2.cell? ⟨w.heap.size, 1, none⟩ = some (.slice Aa1 a.2.1.length ca1) := (blk_cell BKa2.out 1).trans rfl
       have ka2_2 : w2.cell? ⟨w.heap.size, 2, none⟩ = some (.slice Aa2 a.2.2.1.length ca2) := (blk_cell BKa2.out 2).trans rfl
       have ka2_3 : w2.cell? ⟨w.heap.size, 3, none⟩ = some (.slice Aa3 a.2.2.2.length ca3) := (blk_cell BKa2.out 3).trans rfl
       have lta2 := blk_lt BKa2.out
       have BKb2 : Aside0 (w2.heap[w.heap.size + 1]? = some (.cells #[(.string b.1), (.slice Ab1 b.2.1.length cb1), (.slice Ab2 b.2.2.1.length cb2), (.slice Ab3 b.2.2.2.length cb3)] 26 (0, 0))) := Aside0.mk (blk_below BKb1.out hb)
       have kb2_0 : w2.cell? ⟨w.heap.size + 1, 0, none⟩ = some (.string b.1) := (blk_cell BKb2.out 0).trans rfl
       have kb2_1 : w2.cell? ⟨w.heap.size + 1, 1, none⟩ = some (.slice Ab1 b.2.1.length cb1) := (blk_cell BKb2.out 1).trans rfl
       have kb2_2 : w2.cell? ⟨w.heap.size + 1, 2, none⟩ = some (.slice Ab2 b.2.2.1.length cb2) := (blk_cell BKb2.out 2).trans rfl
       have kb2_3 : w2.cell? ⟨w.heap.size + 1, 3, none⟩ = some (.slice Ab3 b.2.2.2.length cb3) := (blk_cell BKb2.out 3).trans rfl
       have ltb2 := blk_lt BKb2.out
       clear hb HB1 HOa1 HOb1 ka1_0 ka1_1 ka1_2 ka1_3 lta1 BKa1 kb1_0 kb1_1 kb1_2 kb1_3 ltb1 BKb1)
    | (clear T3; go_at_call 9; (with_reducible refine (live_c _).mono ?_); rintro e w3 ⟨rfl, hb⟩
       have HB3 := Aside0.mk (below_in HB2.out hb)
       have HOa3 := Aside0.mk (Ob.below HOa2.out hb)
       have HOb3 := Aside0.mk (Ob.below HOb2.out hb)
       have BKa3 : Aside0 (w3.heap[w.heap.size]? = some (.cells #[(.string a.1), (.slice Aa1 a.2.1.length ca1), (.slice Aa2 a.2.2.1.length ca2), (.slice Aa3 a.2.2.2.length ca3)] 26 (0, 0))) := Aside0.mk (blk_below BKa2.out hb)
       have ka3_0 : w3.cell? ⟨w.heap.size, 0, none⟩ = some (.string a.1) := (blk_cell BKa3.out 0).trans rfl
       have ka3_1 : w3.cell? ⟨w.heap.size, 1, none⟩ = some (.slice Aa1 a.2.1.length ca1) := (blk_cell BKa3.out 1).trans rfl
       have ka3_2 : w3.cell? ⟨w.heap.size, 2, none⟩ = some (.slice Aa2 a.2.2.1.length ca2) := (blk_cell BKa3.out 2).trans rfl
       have ka3_3 : w3.cell? ⟨w.heap.size, 3, none⟩ = some (.slice Aa3 a.2.2.2.length ca3) := (blk_cell BKa3.out 3).trans rfl
       have lta3 := blk_lt BKa3.out
       have BKb3 : Aside0 (w3.heap[w.heap.size + 1]? = some (.cells #[(.string b.1), (.slice Ab1 b.2.1.length cb1), (.slice Ab2 b.2.2.1.length cb2), (.slice Ab3 b.2.2.2.length cb3)] 26 (0, 0))) := Aside0.mk (blk_below BKb2.out hb)
       have kb3_0 : w3.cell? ⟨w.heap.size + 1, 0, none⟩ = some (.string b.1) := (blk_cell BKb3.out 0).trans rfl
       have kb3_1 : w3.cell? ⟨w.heap.size + 1, 1, none⟩ = some (.slice Ab1 b.2.1.length cb1) := (blk_cell BKb3.out 1).trans rfl
       have kb3_2 : w3.cell? ⟨w.heap.size + 1, 2, none⟩ = some (.slice Ab2 b.2.2.1.length cb2) := (blk_cell BKb3.out 2).trans rfl
       have kb3_3 : w3.cell? ⟨w.heap.size + 1, 3, none⟩ = some (.slice Ab3 b.2.2.2.length cb3) := (blk_cell BKb3.out 3).trans rfl
       have ltb3 := blk_lt BKb3.out
       clear hb HB2 HOa2 HOb2 ka2_0 ka2_1 ka2_2 ka2_3 lta2 BKa2 kb2_0 kb2_1 kb2_2 kb2_3 ltb2 BKb2))
  go_ret
  exact ⟨rfl, HB3.out⟩
set_option maxHeartbeats 4000000 in
set_option maxRecDepth 100000 in
theorem apart3 {w : World} {v v' : Value} {a b : Obj6} (ha : Ob w v a) (hb : Ob w v' b) (wa : wordsOk a.2.1) (wb : wordsOk b.2.1) (sa : decide (a.2.2.1.length ≤ 200) = true) (sb : decide (b.2.2.1.length ≤ 200) = true) (ma : mayO a = false) (mb : mayO b = false) : Calls Try.prog 7 #[v, v'] w fun e w' => e = .returned (.bool true) ∧ Below w.heap.size w w' := by
  obtain ⟨Aa1, ca1, Aa2, ca2, Aa3, ca3, rfl, ha0⟩ := ha.parts
  have Ha := Aside0.mk ha0
  clear ha ha0
  obtain ⟨Ab1, cb1, Ab2, cb2, Ab3, cb3, rfl, hb0⟩ := hb.parts
  have Hb := Aside0.mk hb0
  clear hb hb0
  have SA := Aside0.mk sa
  have SB := Aside0.mk sb
  have WA := Aside0.mk wa
  have WB := Aside0.mk wb
  have MA := Aside0.mk ma
  have MB := Aside0.mk mb
  clear sa sb wa wb ma mb
  have T1 : True := trivial
  have T2 : True := trivial
  have T3 : True := trivial
  have T4 : True := trivial
  have T5 : True := trivial
  go_enter Try.func7, Try.ntmps7
  go_wp2_with (first
    | (clear T1; go_at_call 8; (with_reducible refine (small_c (Ob.more (Ob.more Ha.out _) _) true SA.out).mono ?_); rintro e w1 ⟨rfl, hb⟩
       have HB1 := Aside0.mk (below_in (below_alloc (below_alloc (Below.refl w.heap.size w) _) _) hb)
       have HOa1 := Aside0.mk (Ob.below (Ob.more (Ob.more Ha.out _) _) hb)
       have HOb1 := Aside0.mk (Ob.below (Ob.more (Ob.more Hb.out _) _) hb)
       have BKa1 : Aside0 (w1.heap[w.heap.size]? = some (.cells #[(.string a.1), (.slice Aa1 a.2.1.length ca1), (.slice Aa2 a.2.2.1.length ca2), (.slice Aa3 a.2.2.2.length ca3)] 26 (0, 0))) := Aside0.mk (blk_below (blk_alloc (blk_new w _) _) hb)
       have ka1_0 : w1.cell? ⟨w.heap.size, 0, none⟩ = some (.string a.1) := (blk_cell BKa1.out 0).trans rfl
       have ka1_1 : w1.cell? ⟨w.heap.size, 1, none⟩ = some (.slice Aa1 a.2.1.length ca1) := (blk_cell BKa1.out 1).trans rfl
       have ka1_2 : w1.cell? ⟨w.heap.size, 2, none⟩ = some (.slice Aa2 a.2.2.1.length ca2) := (blk_cell BKa1.out 2).trans rfl
       have ka1_3 : w1.cell? ⟨w.heap.size, 3, none⟩ = some (.slice Aa3 a.2.2.2.length ca3) := (blk_cell BKa1.out 3).trans rfl
       have lta1 := blk_lt BKa1.out
       have BKb1 : Aside0 (w1.heap[w.heap.size + 1]? = some (.cells #[(.string b.1), (.slice Ab1 b.2.1.length cb1), (.slice Ab2 b.2.2.1.length cb2), (.slice Ab3 b.2.2.2.length cb3)] 26 (0, 0))) := Aside0.mk (blk_below (blk_new1 w _ _) hb)
       have kb1_0 : w1.cell? ⟨w.heap.size + 1, 0, none⟩ = some (.string b.1) := (blk_cell BKb1.out 0).trans rfl
       have kb1_1 : w1.cell? ⟨w.heap.size + 1, 1, none⟩ = some (.slice Ab1 b.2.1.length cb1) := (blk_cell BKb1.out 1).trans rfl
       have kb1_2 : w1.cell? ⟨w.heap.size + 1, 2, none⟩ = some (.slice Ab2 b.2.2.1.length cb2) := (blk_cell BKb1.out 2).trans rfl
       have kb1_3 : w1.cell? ⟨w.heap.size + 1, 3, none⟩ = some (.slice Ab3 b.2.2.2.length cb3) := (blk_cell BKb1.out 3).trans rfl
       have ltb1 := blk_lt BKb1.out
       clear hb)
    | (clear T2; go_at_call 8; (with_reducible refine (small_c HOb1.out true SB.out).mono ?_); rintro e w2 ⟨rfl, hb⟩
       have HB2 := Aside0.mk (below_in HB1.out hb)
       have HOa2 := Aside0.mk (Ob.below HOa1.out hb)
       have HOb2 := Aside0.mk (Ob.below HOb1.out hb)
       have BKa2 : Aside0 (w2.heap[w.heap.size]? = some (.cells #[(.string a.1), (.slice Aa1 a.2.1.length ca1), (.slice Aa2 a.2.2.1.length ca2), (.slice Aa3 a.2.2.2.length ca3)] 26 (0, 0))) := Aside0.mk (blk_below BKa1.out hb)
       have ka2_0 : w2.cell? ⟨w.heap.size, 0, none⟩ = some (.string a.1) := (blk_cell BKa2.out 0).trans rfl
       have ka2_1 : w2.cell? ⟨w.heap.size, 1, none⟩ = some (.slice Aa1 a.2.1.length ca1) := (blk_cell BKa2.out 1).trans rfl
       have ka2_2 : w2.cell? ⟨w.heap.size, 2, none⟩ = some (.slice Aa2 a.2.2.1.length ca2) := (blk_cell BKa2.out 2).trans rfl
       have ka2_3 : w2.cell? ⟨w.heap.size, 3, none⟩ = some (.slice Aa3 a.2.2.2.length ca3) := (blk_cell BKa2.out 3).trans rfl
       have lta2 := blk_lt BKa2.out
       have BKb2 : Aside0 (w2.heap[w.heap.size + 1]? = some (.cells #[(.string b.1), (.slice Ab1 b.2.1.length cb1), (.slice Ab2 b.2.2.1.length cb2), (.slice Ab3 b.2.2.2.length cb3)] 26 (0, 0))) := Aside0.mk (blk_below BKb1.out hb)
       have kb2_0 : w2.cell? ⟨w.heap.size + 1, 0, none⟩ = some (.string b.1) := (blk_cell BKb2.out 0).trans rfl
       have kb2_1 : w2.cell? ⟨w.heap.size + 1, 1, none⟩ = some (.slice Ab1 b.2.1.length cb1) := (blk_cell BKb2.out 1).trans rfl
       have kb2_2 : w2.cell? ⟨w.heap.size + 1, 2, none⟩ = some (.slice Ab2 b.2.2.1.length cb2) := (blk_cell BKb2.out 2).trans rfl
       have kb2_3 : w2.cell? ⟨w.heap.size + 1, 3, none⟩ = some (.slice Ab3 b.2.2.2.length cb3) := (blk_cell BKb2.out 3).trans rfl
       have ltb2 := blk_lt BKb2.out
       clear hb HB1 HOa1 HOb1 ka1_0 ka1_1 ka1_2 ka1_3 lta1 BKa1 kb1_0 kb1_1 kb1_2 kb1_3 ltb1 BKb1)
    | (clear T3; go_at_call 11; (with_reducible refine (write_no HOa2.out WA.out MA.out).mono ?_); rintro e w3 ⟨rfl, hb⟩
       have HB3 := Aside0.mk (below_in HB2.out hb)
       have HOa3 := Aside0.mk (Ob.below HOa2.out hb)
       have HOb3 := Aside0.mk (Ob.below HOb2.out hb)
       have BKa3 : Aside0 (w3.heap[w.heap.size]? = some (.cells #[(.string a.1), (.slice Aa1 a.2.1.length ca1), (.slice Aa2 a.2.2.1.length ca2), (.slice Aa3 a.2.2.2.length ca3)] 26 (0, 0))) := Aside0.mk (blk_below BKa2.out hb)
       have ka3_0 : w3.cell? ⟨w.heap.size, 0, none⟩ = some (.string a.1) := (blk_cell BKa3.out 0).trans rfl
       have ka3_1 : w3.cell? ⟨w.heap.size, 1, none⟩ = some (.slice Aa1 a.2.1.length ca1) := (blk_cell BKa3.out 1).trans rfl
       have ka3_2 : w3.cell? ⟨w.heap.size, 2, none⟩ = some (.slice Aa2 a.2.2.1.length ca2) := (blk_cell BKa3.out 2).trans rfl
       have ka3_3 : w3.cell? ⟨w.heap.size, 3, none⟩ = some (.slice Aa3 a.2.2.2.length ca3) := (blk_cell BKa3.out 3).trans rfl
       have lta3 := blk_lt BKa3.out
       have BKb3 : Aside0 (w3.heap[w.heap.size + 1]? = some (.cells #[(.string b.1), (.slice Ab1 b.2.1.length cb1), (.slice Ab2 b.2.2.1.length cb2), (.slice Ab3 b.2.2.2.length cb3)] 26 (0, 0))) := Aside0.mk (blk_below BKb2.out hb)
       have kb3_0 : w3.cell? ⟨w.heap.size + 1, 0, none⟩ = some (.string b.1) := (blk_cell BKb3.out 0).trans rfl
       have kb3_1 : w3.cell? ⟨w.heap.size + 1, 1, none⟩ = some (.slice Ab1 b.2.1.length cb1) := (blk_cell BKb3.out 1).trans rfl
       have kb3_2 : w3.cell? ⟨w.heap.size + 1, 2, none⟩ = some (.slice Ab2 b.2.2.1.length cb2) := (blk_cell BKb3.out 2).trans rfl
       have kb3_3 : w3.cell? ⟨w.heap.size + 1, 3, none⟩ = some (.slice Ab3 b.2.2.2.length cb3) := (blk_cell BKb3.out 3).trans rfl
       have ltb3 := blk_lt BKb3.out
       clear hb HB2 HOa2 HOb2 ka2_0 ka2_1 ka2_2 ka2_3 lta2 BKa2 kb2_0 kb2_1 kb2_2 kb2_3 ltb2 BKb2)
    | (clear T4; go_at_call 11; (with_reducible refine (write_no HOb3.out WB.out MB.out).mono ?_); rintro e w4 ⟨rfl, hb⟩
       have HB4 := Aside0.mk (below_in HB3.out hb)
       have HOa4 := Aside0.mk (Ob.below HOa3.out hb)
       have HOb4 := Aside0.mk (Ob.below HOb3.out hb)
       have BKa4 : Aside0 (w4.heap[w.heap.size]? = some (.cells #[(.string a.1), (.slice Aa1 a.2.1.length ca1), (.slice Aa2 a.2.2.1.length ca2), (.slice Aa3 a.2.2.2.length ca3)] 26 (0, 0))) := Aside0.mk (blk_below BKa3.out hb)
       have ka4_0 : w4.cell? ⟨w.heap.size, 0, none⟩ = some (.string a.1) := (blk_cell BKa4.out 0).trans rfl
       have ka4_1 : w4.cell? ⟨w.heap.size, 1, none⟩ = some (.slice Aa1 a.2.1.length ca1) := (blk_cell BKa4.out 1).trans rfl
       have ka4_2 : w4.cell? ⟨w.heap.size, 2, none⟩ = some (.slice Aa2 a.2.2.1.length ca2) := (blk_cell BKa4.out 2).trans rfl
       have ka4_3 : w4.cell? ⟨w.heap.size, 3, none⟩ = some (.slice Aa3 a.2.2.2.length ca3) := (blk_cell BKa4.out 3).trans rfl
       have lta4 := blk_lt BKa4.out
       have BKb4 : Aside0 (w4.heap[w.heap.size + 1]? = some (.cells #[(.string b.1), (.slice Ab1 b.2.1.length cb1), (.slice Ab2 b.2.2.1.length cb2), (.slice Ab3 b.2.2.2.length cb3)] 26 (0, 0))) := Aside0.mk (blk_below BKb3.out hb)
       have kb4_0 : w4.cell? ⟨w.heap.size + 1, 0, none⟩ = some (.string b.1) := (blk_cell BKb4.out 0).trans rfl
       have kb4_1 : w4.cell? ⟨w.heap.size + 1, 1, none⟩ = some (.slice Ab1 b.2.1.length cb1) := (blk_cell BKb4.out 1).trans rfl
       have kb4_2 : w4.cell? ⟨w.heap.size + 1, 2, none⟩ = some (.slice Ab2 b.2.2.1.length cb2) := (blk_cell BKb4.out 2).trans rfl
       have kb4_3 : w4.cell? ⟨w.heap.size + 1, 3, none⟩ = some (.slice Ab3 b.2.2.2.length cb3) := (blk_cell BKb4.out 3).trans rfl
       have ltb4 := blk_lt BKb4.out
       clear hb HB3 HOa3 HOb3 ka3_0 ka3_1 ka3_2 ka3_3 lta3 BKa3 kb3_0 kb3_1 kb3_2 kb3_3 ltb3 BKb3)
    | (clear T5; go_at_call 9; (with_reducible refine (live_c _).mono ?_); rintro e w5 ⟨rfl, hb⟩
       have HB5 := Aside0.mk (below_in HB4.out hb)
       have HOa5 := Aside0.mk (Ob.below HOa4.out hb)
       have HOb5 := Aside0.mk (Ob.below HOb4.out hb)
       have BKa5 : Aside0 (w5.heap[w.heap.size]? = some (.cells #[(.string a.1), (.slice Aa1 a.2.1.length ca1), (.slice Aa2 a.2.2.1.length ca2), (.slice Aa3 a.2.2.2.length ca3)] 26 (0, 0))) := Aside0.mk (blk_below BKa4.out hb)
       have ka5_0 : w5.cell? ⟨w.heap.size, 0, none⟩ = some (.string a.1) := (blk_cell BKa5.out 0).trans rfl
       have ka5_1 : w5.cell? ⟨w.heap.size, 1, none⟩ = some (.slice Aa1 a.2.1.length ca1) := (blk_cell BKa5.out 1).trans rfl
       have ka5_2 : w5.cell? ⟨w.heap.size, 2, none⟩ = some (.slice Aa2 a.2.2.1.length ca2) := (blk_cell BKa5.out 2).trans rfl
       have ka5_3 : w5.cell? ⟨w.heap.size, 3, none⟩ = some (.slice Aa3 a.2.2.2.length ca3) := (blk_cell BKa5.out 3).trans rfl
       have lta5 := blk_lt BKa5.out
       have BKb5 : Aside0 (w5.heap[w.heap.size + 1]? = some (.cells #[(.string b.1), (.slice Ab1 b.2.1.length cb1), (.slice Ab2 b.2.2.1.length cb2), (.slice Ab3 b.2.2.2.length cb3)] 26 (0, 0))) := Aside0.mk (blk_below BKb4.out hb)
       have kb5_0 : w5.cell? ⟨w.heap.size + 1, 0, none⟩ = some (.string b.1) := (blk_cell BKb5.out 0).trans rfl
       have kb5_1 : w5.cell? ⟨w.heap.size + 1, 1, none⟩ = some (.slice Ab1 b.2.1.length cb1) := (blk_cell BKb5.out 1).trans rfl
       have kb5_2 : w5.cell? ⟨w.heap.size + 1, 2, none⟩ = some (.slice Ab2 b.2.2.1.length cb2) := (blk_cell BKb5.out 2).trans rfl
       have kb5_3 : w5.cell? ⟨w.heap.size + 1, 3, none⟩ = some (.slice Ab3 b.2.2.2.length cb3) := (blk_cell BKb5.out 3).trans rfl
       have ltb5 := blk_lt BKb5.out
       clear hb HB4 HOa4 HOb4 ka4_0 ka4_1 ka4_2 ka4_3 lta4 BKa4 kb4_0 kb4_1 kb4_2 kb4_3 ltb4 BKb4))
  go_ret
  exact ⟨rfl, HB5.out⟩
set_option maxHeartbeats 4000000 in
set_option maxRecDepth 100000 in
theorem apart4 {w : World} {v v' : Value} {a b : Obj6} (ha : Ob w v a) (hb : Ob w v' b) (wa : wordsOk a.2.1) (wb : wordsOk b.2.1) (sa : decide (a.2.2.1.length ≤ 200) = true) (sb : decide (b.2.2.1.length ≤ 200) = true) (ma : mayO a = false) (mb : mayO b = true) : Calls Try.prog 7 #[v, v'] w fun e w' => e = .returned (.bool true) ∧ Below w.heap.size w w' := by
  obtain ⟨Aa1, ca1, Aa2, ca2, Aa3, ca3, rfl, ha0⟩ := ha.parts
  have Ha := Aside0.mk ha0
  clear ha ha0
  obtain ⟨Ab1, cb1, Ab2, cb2, Ab3, cb3, rfl, hb0⟩ := hb.parts
  have Hb := Aside0.mk hb0
  clear hb hb0
  have SA := Aside0.mk sa
  have SB := Aside0.mk sb
  have WA := Aside0.mk wa
  have WB := Aside0.mk wb
  have MA := Aside0.mk ma
  have MB := Aside0.mk mb
  clear sa sb wa wb ma mb
  have T1 : True := trivial
  have T2 : True := trivial
  have T3 : True := trivial
  have T4 : True := trivial
  have T5 : True := trivial
  go_enter Try.func7, Try.ntmps7
  go_wp2_with (first
    | (clear T1; go_at_call 8; (with_reducible refine (small_c (Ob.more (Ob.more Ha.out _) _) true SA.out).mono ?_); rintro e w1 ⟨rfl, hb⟩
       have HB1 := Aside0.mk (below_in (below_alloc (below_alloc (Below.refl w.heap.size w) _) _) hb)
       have HOa1 := Aside0.mk (Ob.below (Ob.more (Ob.more Ha.out _) _) hb)
       have HOb1 := Aside0.mk (Ob.below (Ob.more (Ob.more Hb.out _) _) hb)
       have BKa1 : Aside0 (w1.heap[w.heap.size]? = some (.cells #[(.string a.1), (.slice Aa1 a.2.1.length ca1), (.slice Aa2 a.2.2.1.length ca2), (.slice Aa3 a.2.2.2.length ca3)] 26 (0, 0))) := Aside0.mk (blk_below (blk_alloc (blk_new w _) _) hb)
       have ka1_0 : w1.cell? ⟨w.heap.size, 0, none⟩ = some (.string a.1) := (blk_cell BKa1.out 0).trans rfl
       have ka1_1 : w1.cell? ⟨w.heap.size, 1, none⟩ = some (.slice Aa1 a.2.1.length ca1) := (blk_cell BKa1.out 1).trans rfl
       have ka1_2 : w1.cell? ⟨w.heap.size, 2, none⟩ = some (.slice Aa2 a.2.2.1.length ca2) := (blk_cell BKa1.out 2).trans rfl
       have ka1_3 : w1.cell? ⟨w.heap.size, 3, none⟩ = some (.slice Aa3 a.2.2.2.length ca3) := (blk_cell BKa1.out 3).trans rfl
       have lta1 := blk_lt BKa1.out
       have BKb1 : Aside0 (w1.heap[w.heap.size + 1]? = some (.cells #[(.string b.1), (.slice Ab1 b.2.1.length cb1), (.slice Ab2 b.2.2.1.length cb2), (.slice Ab3 b.2.2.2.length cb3)] 26 (0, 0))) := Aside0.mk (blk_below (blk_new1 w _ _) hb)
       have kb1_0 : w1.cell? ⟨w.heap.size + 1, 0, none⟩ = some (.string b.1) := (blk_cell BKb1.out 0).trans rfl
       have kb1_1 : w1.cell? ⟨w.heap.size + 1, 1, none⟩ = some (.slice Ab1 b.2.1.length cb1) := (blk_cell BKb1.out 1).trans rfl
       have kb1_2 : w1.cell? ⟨w.heap.size + 1, 2, none⟩ = some (.slice Ab2 b.2.2.1.length cb2) := (blk_cell BKb1.out 2).trans rfl
       have kb1_3 : w1.cell? ⟨w.heap.size + 1, 3, none⟩ = some (.slice Ab3 b.2.2.2.length cb3) := (blk_cell BKb1.out 3).trans rfl
       have ltb1 := blk_lt BKb1.out
       clear hb)
    | (clear T2; go_at_call 8; (with_reducible refine (small_c HOb1.out true SB.out).mono ?_); rintro e w2 ⟨rfl, hb⟩
       have HB2 := Aside0.mk (below_in HB1.out hb)
       have HOa2 := Aside0.mk (Ob.below HOa1.out hb)
       have HOb2 := Aside0.mk (Ob.below HOb1.out hb)
       have BKa2 : Aside0 (w2.heap[w.heap.size]? = some (.cells #[(.string a.1), (.slice Aa1 a.2.1.length ca1), (.slice Aa2 a.2.2.1.length ca2), (.slice Aa3 a.2.2.2.length ca3)] 26 (0, 0))) := Aside0.mk (blk_below BKa1.out hb)
       have ka2_0 : w2.cell? ⟨w.heap.size, 0, none⟩ = some (.string a.1) := (blk_cell BKa2.out 0).trans rfl
       have ka2_1 : w2.cell? ⟨w.heap.size, 1, none⟩ = some (.slice Aa1 a.2.1.length ca1) := (blk_cell BKa2.out 1).trans rfl
       have ka2_2 : w2.cell? ⟨w.heap.size, 2, none⟩ = some (.slice Aa2 a.2.2.1.length ca2) := (blk_cell BKa2.out 2).trans rfl
       have ka2_3 : w2.cell? ⟨w.heap.size, 3, none⟩ = some (.slice Aa3 a.2.2.2.length ca3) := (blk_cell BKa2.out 3).trans rfl
       have lta2 := blk_lt BKa2.out
       have BKb2 : Aside0 (w2.heap[w.heap.size + 1]? = some (.cells #[(.string b.1), (.slice Ab1 b.2.1.length cb1), (.slice Ab2 b.2.2.1.length cb2), (.slice Ab3 b.2.2.2.length cb3)] 26 (0, 0))) := Aside0.mk (blk_below BKb1.out hb)
       have kb2_0 : w2.cell? ⟨w.heap.size + 1, 0, none⟩ = some (.string b.1) := (blk_cell BKb2.out 0).trans rfl
       have kb2_1 : w2.cell? ⟨w.heap.size + 1, 1, none⟩ = some (.slice Ab1 b.2.1.length cb1) := (blk_cell BKb2.out 1).trans rfl
       have kb2_2 : w2.cell? ⟨w.heap.size + 1, 2, none⟩ = some (.slice Ab2 b.2.2.1.length cb2) := (blk_cell BKb2.out 2).trans rfl
       have kb2_3 : w2.cell? ⟨w.heap.size + 1, 3, none⟩ = some (.slice Ab3 b.2.2.2.length cb3) := (blk_cell BKb2.out 3).trans rfl
       have ltb2 := blk_lt BKb2.out
       clear hb HB1 HOa1 HOb1 ka1_0 ka1_1 ka1_2 ka1_3 lta1 BKa1 kb1_0 kb1_1 kb1_2 kb1_3 ltb1 BKb1)
    | (clear T3; go_at_call 11; (with_reducible refine (write_no HOa2.out WA.out MA.out).mono ?_); rintro e w3 ⟨rfl, hb⟩
       have HB3 := Aside0.mk (below_in HB2.out hb)
       have HOa3 := Aside0.mk (Ob.below HOa2.out hb)
       have HOb3 := Aside0.mk (Ob.below HOb2.out hb)
       have BKa3 : Aside0 (w3.heap[w.heap.size]? = some (.cells #[(.string a.1), (.slice Aa1 a.2.1.length ca1), (.slice Aa2 a.2.2.1.length ca2), (.slice Aa3 a.2.2.2.length ca3)] 26 (0, 0))) := Aside0.mk (blk_below BKa2.out hb)
       have ka3_0 : w3.cell? ⟨w.heap.size, 0, none⟩ = some (.string a.1) := (blk_cell BKa3.out 0).trans rfl
       have ka3_1 : w3.cell? ⟨w.heap.size, 1, none⟩ = some (.slice Aa1 a.2.1.length ca1) := (blk_cell BKa3.out 1).trans rfl
       have ka3_2 : w3.cell? ⟨w.heap.size, 2, none⟩ = some (.slice Aa2 a.2.2.1.length ca2) := (blk_cell BKa3.out 2).trans rfl
       have ka3_3 : w3.cell? ⟨w.heap.size, 3, none⟩ = some (.slice Aa3 a.2.2.2.length ca3) := (blk_cell BKa3.out 3).trans rfl
       have lta3 := blk_lt BKa3.out
       have BKb3 : Aside0 (w3.heap[w.heap.size + 1]? = some (.cells #[(.string b.1), (.slice Ab1 b.2.1.length cb1), (.slice Ab2 b.2.2.1.length cb2), (.slice Ab3 b.2.2.2.length cb3)] 26 (0, 0))) := Aside0.mk (blk_below BKb2.out hb)
       have kb3_0 : w3.cell? ⟨w.heap.size + 1, 0, none⟩ = some (.string b.1) := (blk_cell BKb3.out 0).trans rfl
       have kb3_1 : w3.cell? ⟨w.heap.size + 1, 1, none⟩ = some (.slice Ab1 b.2.1.length cb1) := (blk_cell BKb3.out 1).trans rfl
       have kb3_2 : w3.cell? ⟨w.heap.size + 1, 2, none⟩ = some (.slice Ab2 b.2.2.1.length cb2) := (blk_cell BKb3.out 2).trans rfl
       have kb3_3 : w3.cell? ⟨w.heap.size + 1, 3, none⟩ = some (.slice Ab3 b.2.2.2.length cb3) := (blk_cell BKb3.out 3).trans rfl
       have ltb3 := blk_lt BKb3.out
       clear hb HB2 HOa2 HOb2 ka2_0 ka2_1 ka2_2 ka2_3 lta2 BKa2 kb2_0 kb2_1 kb2_2 kb2_3 ltb2 BKb2)
    | (clear T4; go_at_call 11; (with_reducible refine (write_yes HOb3.out WB.out MB.out).mono ?_); rintro e w4 ⟨rfl, hb⟩
       have HB4 := Aside0.mk (below_in HB3.out hb)
       have HOa4 := Aside0.mk (Ob.below HOa3.out hb)
       have HOb4 := Aside0.mk (Ob.below HOb3.out hb)
       have BKa4 : Aside0 (w4.heap[w.heap.size]? = some (.cells #[(.string a.1), (.slice Aa1 a.2.1.length ca1), (.slice Aa2 a.2.2.1.length ca2), (.slice Aa3 a.2.2.2.length ca3)] 26 (0, 0))) := Aside0.mk (blk_below BKa3.out hb)
       have ka4_0 : w4.cell? ⟨w.heap.size, 0, none⟩ = some (.string a.1) := (blk_cell BKa4.out 0).trans rfl
       have ka4_1 : w4.cell? ⟨w.heap.size, 1, none⟩ = some (.slice Aa1 a.2.1.length ca1) := (blk_cell BKa4.out 1).trans rfl
       have ka4_2 : w4.cell? ⟨w.heap.size, 2, none⟩ = some (.slice Aa2 a.2.2.1.length ca2) := (blk_cell BKa4.out 2).trans rfl
       have ka4_3 : w4.cell? ⟨w.heap.size, 3, none⟩ = some (.slice Aa3 a.2.2.2.length ca3) := (blk_cell BKa4.out 3).trans rfl
       have lta4 := blk_lt BKa4.out
       have BKb4 : Aside0 (w4.heap[w.heap.size + 1]? = some (.cells #[(.string b.1), (.slice Ab1 b.2.1.length cb1), (.slice Ab2 b.2.2.1.length cb2), (.slice Ab3 b.2.2.2.length cb3)] 26 (0, 0))) := Aside0.mk (blk_below BKb3.out hb)
       have kb4_0 : w4.cell? ⟨w.heap.size + 1, 0, none⟩ = some (.string b.1) := (blk_cell BKb4.out 0).trans rfl
       have kb4_1 : w4.cell? ⟨w.heap.size + 1, 1, none⟩ = some (.slice Ab1 b.2.1.length cb1) := (blk_cell BKb4.out 1).trans rfl
       have kb4_2 : w4.cell? ⟨w.heap.size + 1, 2, none⟩ = some (.slice Ab2 b.2.2.1.length cb2) := (blk_cell BKb4.out 2).trans rfl
       have kb4_3 : w4.cell? ⟨w.heap.size + 1, 3, none⟩ = some (.slice Ab3 b.2.2.2.length cb3) := (blk_cell BKb4.out 3).trans rfl
       have ltb4 := blk_lt BKb4.out
       clear hb HB3 HOa3 HOb3 ka3_0 ka3_1 ka3_2 ka3_3 lta3 BKa3 kb3_0 kb3_1 kb3_2 kb3_3 ltb3 BKb3)
    | (clear T5; go_at_call 9; (with_reducible refine (live_c _).mono ?_); rintro e w5 ⟨rfl, hb⟩
       have HB5 := Aside0.mk (below_in HB4.out hb)
       have HOa5 := Aside0.mk (Ob.below HOa4.out hb)
       have HOb5 := Aside0.mk (Ob.below HOb4.out hb)
       have BKa5 : Aside0 (w5.heap[w.heap.size]? = some (.cells #[(.string a.1), (.slice Aa1 a.2.1.length ca1), (.slice Aa2 a.2.2.1.length ca2), (.slice Aa3 a.2.2.2.length ca3)] 26 (0, 0))) := Aside0.mk (blk_below BKa4.out hb)
       have ka5_0 : w5.cell? ⟨w.heap.size, 0, none⟩ = some (.string a.1) := (blk_cell BKa5.out 0).trans rfl
       have ka5_1 : w5.cell? ⟨w.heap.size, 1, none⟩ = some (.slice Aa1 a.2.1.length ca1) := (blk_cell BKa5.out 1).trans rfl
       have ka5_2 : w5.cell? ⟨w.heap.size, 2, none⟩ = some (.slice Aa2 a.2.2.1.length ca2) := (blk_cell BKa5.out 2).trans rfl
       have ka5_3 : w5.cell? ⟨w.heap.size, 3, none⟩ = some (.slice Aa3 a.2.2.2.length ca3) := (blk_cell BKa5.out 3).trans rfl
       have lta5 := blk_lt BKa5.out
       have BKb5 : Aside0 (w5.heap[w.heap.size + 1]? = some (.cells #[(.string b.1), (.slice Ab1 b.2.1.length cb1), (.slice Ab2 b.2.2.1.length cb2), (.slice Ab3 b.2.2.2.length cb3)] 26 (0, 0))) := Aside0.mk (blk_below BKb4.out hb)
       have kb5_0 : w5.cell? ⟨w.heap.size + 1, 0, none⟩ = some (.string b.1) := (blk_cell BKb5.out 0).trans rfl
       have kb5_1 : w5.cell? ⟨w.heap.size + 1, 1, none⟩ = some (.slice Ab1 b.2.1.length cb1) := (blk_cell BKb5.out 1).trans rfl
       have kb5_2 : w5.cell? ⟨w.heap.size + 1, 2, none⟩ = some (.slice Ab2 b.2.2.1.length cb2) := (blk_cell BKb5.out 2).trans rfl
       have kb5_3 : w5.cell? ⟨w.heap.size + 1, 3, none⟩ = some (.slice Ab3 b.2.2.2.length cb3) := (blk_cell BKb5.out 3).trans rfl
       have ltb5 := blk_lt BKb5.out
       clear hb HB4 HOa4 HOb4 ka4_0 ka4_1 ka4_2 ka4_3 lta4 BKa4 kb4_0 kb4_1 kb4_2 kb4_3 ltb4 BKb4))
  go_ret
  exact ⟨rfl, HB5.out⟩
set_option maxHeartbeats 4000000 in
set_option maxRecDepth 100000 in
theorem apart5 {w : World} {v v' : Value} {a b : Obj6} (ha : Ob w v a) (hb : Ob w v' b) (wa : wordsOk a.2.1) (wb : wordsOk b.2.1) (sa : decide (a.2.2.1.length ≤ 200) = true) (sb : decide (b.2.2.1.length ≤ 200) = true) (ma : mayO a = true) (mb : mayO b = false) : Calls Try.prog 7 #[v, v'] w fun e w' => e = .returned (.bool true) ∧ Below w.heap.size w w' := by
  obtain ⟨Aa1, ca1, Aa2, ca2, Aa3, ca3, rfl, ha0⟩ := ha.parts
  have Ha := Aside0.mk ha0
  clear ha ha0
  obtain ⟨Ab1, cb1, Ab2, cb2, Ab3, cb3, rfl, hb0⟩ := hb.parts
  have Hb := Aside0.mk hb0
  clear hb hb0
  have SA := Aside0.mk sa
  have SB := Aside0.mk sb
  have WA := Aside0.mk wa
  have WB := Aside0.mk wb
  have MA := Aside0.mk ma
  have MB := Aside0.mk mb
  clear sa sb wa wb ma mb
  have T1 : True := trivial
  have T2 : True := trivial
  have T3 : True := trivial
  have T4 : True := trivial
  have T5 : True := trivial
  go_enter Try.func7, Try.ntmps7
  go_wp2_with (first
    | (clear T1; go_at_call 8; (with_reducible refine (small_c (Ob.more (Ob.more Ha.out _) _) true SA.out).mono ?_); rintro e w1 ⟨rfl, hb⟩
       have HB1 := Aside0.mk (below_in (below_alloc (below_alloc (Below.refl w.heap.size w) _) _) hb)
       have HOa1 := Aside0.mk (Ob.below (Ob.more (Ob.more Ha.out _) _) hb)
       have HOb1 := Aside0.mk (Ob.below (Ob.more (Ob.more Hb.out _) _) hb)
       have BKa1 : Aside0 (w1.heap[w.heap.size]? = some (.cells #[(.string a.1), (.slice Aa1 a.2.1.length ca1), (.slice Aa2 a.2.2.1.length ca2), (.slice Aa3 a.2.2.2.length ca3)] 26 (0, 0))) := Aside0.mk (blk_below (blk_alloc (blk_new w _) _) hb)
       have ka1_0 : w1.cell? ⟨w.heap.size, 0, none⟩ = some (.string a.1) := (blk_cell BKa1.out 0).trans rfl
       have ka1_1 : w1.cell? ⟨w.heap.size, 1, none⟩ = some (.slice Aa1 a.2.1.length ca1) := (blk_cell BKa1.out 1).trans rfl
       have ka1_2 : w1.cell? ⟨w.heap.size, 2, none⟩ = some (.slice Aa2 a.2.2.1.length ca2) := (blk_cell BKa1.out 2).trans rfl
       have ka1_3 : w1.cell? ⟨w.heap.size, 3, none⟩ = some (.slice Aa3 a.2.2.2.length ca3) := (blk_cell BKa1.out 3).trans rfl
       have lta1 := blk_lt BKa1.out
       have BKb1 : Aside0 (w1.heap[w.heap.size + 1]? = some (.cells #[(.string b.1), (.slice Ab1 b.2.1.length cb1), (.slice Ab2 b.2.2.1.length cb2), (.slice Ab3 b.2.2.2.length cb3)] 26 (0, 0))) := Aside0.mk (blk_below (blk_new1 w _ _) hb)
       have kb1_0 : w1.cell? ⟨w.heap.size + 1, 0, none⟩ = some (.string b.1) := (blk_cell BKb1.out 0).trans rfl
       have kb1_1 : w1.cell? ⟨w.heap.size + 1, 1, none⟩ = some (.slice Ab1 b.2.1.length cb1) := (blk_cell BKb1.out 1).trans rfl
       have kb1_2 : w1.cell? ⟨w.heap.size + 1, 2, none⟩ = some (.slice Ab2 b.2.2.1.length cb2) := (blk_cell BKb1.out 2).trans rfl
       have kb1_3 : w1.cell? ⟨w.heap.size + 1, 3, none⟩ = some (.slice Ab3 b.2.2.2.length cb3) := (blk_cell BKb1.out 3).trans rfl
       have ltb1 := blk_lt BKb1.out
       clear hb)
    | (clear T2; go_at_call 8; (with_reducible refine (small_c HOb1.out true SB.out).mono ?_); rintro e w2 ⟨rfl, hb⟩
       have HB2 := Aside0.mk (below_in HB1.out hb)
       have HOa2 := Aside0.mk (Ob.below HOa1.out hb)
       have HOb2 := Aside0.mk (Ob.below HOb1.out hb)
       have BKa2 : Aside0 (w2.heap[w.heap.size]? = some (.cells #[(.string a.1), (.slice Aa1 a.2.1.length ca1), (.slice Aa2 a.2.2.1.length ca2), (.slice Aa3 a.2.2.2.length ca3)] 26 (0, 0))) := Aside0.mk (blk_below BKa1.out hb)
       have ka2_0 : w2.cell? ⟨w.heap.size, 0, none⟩ = some (.string a.1) := (blk_cell BKa2.out 0).trans rfl
       have ka2_1 : w2.cell? ⟨w.heap.size, 1, none⟩ = some (.slice Aa1 a.2.1.length ca1) := (blk_cell BKa2.out 1).trans rfl
       have ka2_2 : w2.cell? ⟨w.heap.size, 2, none⟩ = some (.slice Aa2 a.2.2.1.length ca2) := (blk_cell BKa2.out 2).trans rfl
       have ka2_3 : w2.cell? ⟨w.heap.size, 3, none⟩ = some (.slice Aa3 a.2.2.2.length ca3) := (blk_cell BKa2.out 3).trans rfl
       have lta2 := blk_lt BKa2.out
       have BKb2 : Aside0 (w2.heap[w.heap.size + 1]? = some (.cells #[(.string b.1), (.slice Ab1 b.2.1.length cb1), (.slice Ab2 b.2.2.1.length cb2), (.slice Ab3 b.2.2.2.length cb3)] 26 (0, 0))) := Aside0.mk (blk_below BKb1.out hb)
       have kb2_0 : w2.cell? ⟨w.heap.size + 1, 0, none⟩ = some (.string b.1) := (blk_cell BKb2.out 0).trans rfl
       have kb2_1 : w2.cell? ⟨w.heap.size + 1, 1, none⟩ = some (.slice Ab1 b.2.1.length cb1) := (blk_cell BKb2.out 1).trans rfl
       have kb2_2 : w2.cell? ⟨w.heap.size + 1, 2, none⟩ = some (.slice Ab2 b.2.2.1.length cb2) := (blk_cell BKb2.out 2).trans rfl
       have kb2_3 : w2.cell? ⟨w.heap.size + 1, 3, none⟩ = some (.slice Ab3 b.2.2.2.length cb3) := (blk_cell BKb2.out 3).trans rfl
       have ltb2 := blk_lt BKb2.out
       clear hb HB1 HOa1 HOb1 ka1_0 ka1_1 ka1_2 ka1_3 lta1 BKa1 kb1_0 kb1_1 kb1_2 kb1_3 ltb1 BKb1)
    | (clear T3; go_at_call 11; (with_reducible refine (write_yes HOa2.out WA.out MA.out).mono ?_); rintro e w3 ⟨rfl, hb⟩
       have HB3 := Aside0.mk (below_in HB2.out hb)
       have HOa3 := Aside0.mk (Ob.below HOa2.out hb)
       have HOb3 := Aside0.mk (Ob.below HOb2.out hb)
       have BKa3 : Aside0 (w3.heap[w.heap.size]? = some (.cells #[(.string a.1), (.slice Aa1 a.2.1.length ca1), (.slice Aa2 a.2.2.1.length ca2), (.slice Aa3 a.2.2.2.length ca3)] 26 (0, 0))) := Aside0.mk (blk_below BKa2.out hb)
       have ka3_0 : w3.cell? ⟨w.heap.size, 0, none⟩ = some (.string a.1) := (blk_cell BKa3.out 0).trans rfl
       have ka3_1 : w3.cell? ⟨w.heap.size, 1, none⟩ = some (.slice Aa1 a.2.1.length ca1) := (blk_cell BKa3.out 1).trans rfl
       have ka3_2 : w3.cell? ⟨w.heap.size, 2, none⟩ = some (.slice Aa2 a.2.2.1.length ca2) := (blk_cell BKa3.out 2).trans rfl
       have ka3_3 : w3.cell? ⟨w.heap.size, 3, none⟩ = some (.slice Aa3 a.2.2.2.length ca3) := (blk_cell BKa3.out 3).trans rfl
       have lta3 := blk_lt BKa3.out
       have BKb3 : Aside0 (w3.heap[w.heap.size + 1]? = some (.cells #[(.string b.1), (.slice Ab1 b.2.1.length cb1), (.slice Ab2 b.2.2.1.length cb2), (.slice Ab3 b.2.2.2.length cb3)] 26 (0, 0))) := Aside0.mk (blk_below BKb2.out hb)
       have kb3_0 : w3.cell? ⟨w.heap.size + 1, 0, none⟩ = some (.string b.1) := (blk_cell BKb3.out 0).trans rfl
       have kb3_1 : w3.cell? ⟨w.heap.size + 1, 1, none⟩ = some (.slice Ab1 b.2.1.length cb1) := (blk_cell BKb3.out 1).trans rfl
       have kb3_2 : w3.cell? ⟨w.heap.size + 1, 2, none⟩ = some (.slice Ab2 b.2.2.1.length cb2) := (blk_cell BKb3.out 2).trans rfl
       have kb3_3 : w3.cell? ⟨w.heap.size + 1, 3, none⟩ = some (.slice Ab3 b.2.2.2.length cb3) := (blk_cell BKb3.out 3).trans rfl
       have ltb3 := blk_lt BKb3.out
       clear hb HB2 HOa2 HOb2 ka2_0 ka2_1 ka2_2 ka2_3 lta2 BKa2 kb2_0 kb2_1 kb2_2 kb2_3 ltb2 BKb2)
    | (clear T4; go_at_call 11; (with_reducible refine (write_no HOb3.out WB.out MB.out).mono ?_); rintro e w4 ⟨rfl, hb⟩
       have HB4 := Aside0.mk (below_in HB3.out hb)
       have HOa4 := Aside0.mk (Ob.below HOa3.out hb)
       have HOb4 := Aside0.mk (Ob.below HOb3.out hb)
       have BKa4 : Aside0 (w4.heap[w.heap.size]? = some (.cells #[(.string a.1), (.slice Aa1 a.2.1.length ca1), (.slice Aa2 a.2.2.1.length ca2), (.slice Aa3 a.2.2.2.length ca3)] 26 (0, 0))) := Aside0.mk (blk_below BKa3.out hb)
       have ka4_0 : w4.cell? ⟨w.heap.size, 0, none⟩ = some (.string a.1) := (blk_cell BKa4.out 0).trans rfl
       have ka4_1 : w4.cell? ⟨w.heap.size, 1, none⟩ = some (.slice Aa1 a.2.1.length ca1) := (blk_cell BKa4.out 1).trans rfl
       have ka4_2 : w4.cell? ⟨w.heap.size, 2, none⟩ = some (.slice Aa2 a.2.2.1.length ca2) := (blk_cell BKa4.out 2).trans rfl
       have ka4_3 : w4.cell? ⟨w.heap.size, 3, none⟩ = some (.slice Aa3 a.2.2.2.length ca3) := (blk_cell BKa4.out 3).trans rfl
       have lta4 := blk_lt BKa4.out
       have BKb4 : Aside0 (w4.heap[w.heap.size + 1]? = some (.cells #[(.string b.1), (.slice Ab1 b.2.1.length cb1), (.slice Ab2 b.2.2.1.length cb2), (.slice Ab3 b.2.2.2.length cb3)] 26 (0, 0))) := Aside0.mk (blk_below BKb3.out hb)
       have kb4_0 : w4.cell? ⟨w.heap.size + 1, 0, none⟩ = some (.string b.1) := (blk_cell BKb4.out 0).trans rfl
       have kb4_1 : w4.cell? ⟨w.heap.size + 1, 1, none⟩ = some (.slice Ab1 b.2.1.length cb1) := (blk_cell BKb4.out 1).trans rfl
       have kb4_2 : w4.cell? ⟨w.heap.size + 1, 2, none⟩ = some (.slice Ab2 b.2.2.1.length cb2) := (blk_cell BKb4.out 2).trans rfl
       have kb4_3 : w4.cell? ⟨w.heap.size + 1, 3, none⟩ = some (.slice Ab3 b.2.2.2.length cb3) := (blk_cell BKb4.out 3).trans rfl
       have ltb4 := blk_lt BKb4.out
       clear hb HB3 HOa3 HOb3 ka3_0 ka3_1 ka3_2 ka3_3 lta3 BKa3 kb3_0 kb3_1 kb3_2 kb3_3 ltb3 BKb3)
    | (clear T5; go_at_call 9; (with_reducible refine (live_c _).mono ?_); rintro e w5 ⟨rfl, hb⟩
       have HB5 := Aside0.mk (below_in HB4.out hb)
       have HOa5 := Aside0.mk (Ob.below HOa4.out hb)
       have HOb5 := Aside0.mk (Ob.below HOb4.out hb)
       have BKa5 : Aside0 (w5.heap[w.heap.size]? = some (.cells #[(.string a.1), (.slice Aa1 a.2.1.length ca1), (.slice Aa2 a.2.2.1.length ca2), (.slice Aa3 a.2.2.2.length ca3)] 26 (0, 0))) := Aside0.mk (blk_below BKa4.out hb)
       have ka5_0 : w5.cell? ⟨w.heap.size, 0, none⟩ = some (.string a.1) := (blk_cell BKa5.out 0).trans rfl
       have ka5_1 : w5.cell? ⟨w.heap.size, 1, none⟩ = some (.slice Aa1 a.2.1.length ca1) := (blk_cell BKa5.out 1).trans rfl
       have ka5_2 : w5.cell? ⟨w.heap.size, 2, none⟩ = some (.slice Aa2 a.2.2.1.length ca2) := (blk_cell BKa5.out 2).trans rfl
       have ka5_3 : w5.cell? ⟨w.heap.size, 3, none⟩ = some (.slice Aa3 a.2.2.2.length ca3) := (blk_cell BKa5.out 3).trans rfl
       have lta5 := blk_lt BKa5.out
       have BKb5 : Aside0 (w5.heap[w.heap.size + 1]? = some (.cells #[(.string b.1), (.slice Ab1 b.2.1.length cb1), (.slice Ab2 b.2.2.1.length cb2), (.slice Ab3 b.2.2.2.length cb3)] 26 (0, 0))) := Aside0.mk (blk_below BKb4.out hb)
       have kb5_0 : w5.cell? ⟨w.heap.size + 1, 0, none⟩ = some (.string b.1) := (blk_cell BKb5.out 0).trans rfl
       have kb5_1 : w5.cell? ⟨w.heap.size + 1, 1, none⟩ = some (.slice Ab1 b.2.1.length cb1) := (blk_cell BKb5.out 1).trans rfl
       have kb5_2 : w5.cell? ⟨w.heap.size + 1, 2, none⟩ = some (.slice Ab2 b.2.2.1.length cb2) := (blk_cell BKb5.out 2).trans rfl
       have kb5_3 : w5.cell? ⟨w.heap.size + 1, 3, none⟩ = some (.slice Ab3 b.2.2.2.length cb3) := (blk_cell BKb5.out 3).trans rfl
       have ltb5 := blk_lt BKb5.out
       clear hb HB4 HOa4 HOb4 ka4_0 ka4_1 ka4_2 ka4_3 lta4 BKa4 kb4_0 kb4_1 kb4_2 kb4_3 ltb4 BKb4))
  go_ret
  exact ⟨rfl, HB5.out⟩
set_option maxHeartbeats 4000000 in
set_option maxRecDepth 100000 in
theorem apart6 {w : World} {v v' : Value} {a b : Obj6} (ha : Ob w v a) (hb : Ob w v' b) (wa : wordsOk a.2.1) (wb : wordsOk b.2.1) (sa : decide (a.2.2.1.length ≤ 200) = true) (sb : decide (b.2.2.1.length ≤ 200) = true) (ma : mayO a = true) (mb : mayO b = true) (zz : a.2.1.length ≤ 9223372036854775806 ∧ a.2.2.1.length ≤ 9223372036854775806 ∧ a.2.2.2.length ≤ 9223372036854775806) (e : a = b) (fe : formO a = formO b) : Calls Try.prog 7 #[v, v'] w fun e w' => e = .returned (.bool true) ∧ Below w.heap.size w w' := by
  obtain ⟨Aa1, ca1, Aa2, ca2, Aa3, ca3, rfl, ha0⟩ := ha.parts
  have Ha := Aside0.mk ha0
  clear ha ha0
  obtain ⟨Ab1, cb1, Ab2, cb2, Ab3, cb3, rfl, hb0⟩ := hb.parts
  have Hb := Aside0.mk hb0
  clear hb hb0
  have SA := Aside0.mk sa
  have SB := Aside0.mk sb
  have WA := Aside0.mk wa
  have WB := Aside0.mk wb
  have MA := Aside0.mk ma
  have MB := Aside0.mk mb
  clear sa sb wa wb ma mb
  have ZZ := Aside0.mk zz
  have E := Aside0.mk e
  clear zz e
  have T1 : True := trivial
  have T2 : True := trivial
  have T3 : True := trivial
  have T4 : True := trivial
  have T5 : True := trivial
  have T6 : True := trivial
  go_enter Try.func7, Try.ntmps7
  go_wp2_with (first
    | (clear T1; go_at_call 8; (with_reducible refine (small_c (Ob.more (Ob.more Ha.out _) _) true SA.out).mono ?_); rintro e w1 ⟨rfl, hb⟩
       have HB1 := Aside0.mk (below_in (below_alloc (below_alloc (Below.refl w.heap.size w) _) _) hb)
       have HOa1 := Aside0.mk (Ob.below (Ob.more (Ob.more Ha.out _) _) hb)
       have HOb1 := Aside0.mk (Ob.below (Ob.more (Ob.more Hb.out _) _) hb)
       have BKa1 : Aside0 (w1.heap[w.heap.size]? = some (.cells #[(.string a.1), (.slice Aa1 a.2.1.length ca1), (.slice Aa2 a.2.2.1.length ca2), (.slice Aa3 a.2.2.2.length ca3)] 26 (0, 0))) := Aside0.mk (blk_below (blk_alloc (blk_new w _) _) hb)
       have ka1_0 : w1.cell? ⟨w.heap.size, 0, none⟩ = some (.string a.1) := (blk_cell BKa1.out 0).trans rfl
       have ka1_1 : w1.cell? ⟨w.heap.size, 1, none⟩ = some (.slice Aa1 a.2.1.length ca1) := (blk_cell BKa1.out 1).trans rfl
       have ka1_2 : w1.cell? ⟨w.heap.size, 2, none⟩ = some (.slice Aa2 a.2.2.1.length ca2) := (blk_cell BKa1.out 2).trans rfl
       have ka1_3 : w1.cell? ⟨w.heap.size, 3, none⟩ = some (.slice Aa3 a.2.2.2.length ca3) := (blk_cell BKa1.out 3).trans rfl
       have lta1 := blk_lt BKa1.out
       have BKb1 : Aside0 (w1.heap[w.heap.size + 1]? = some (.cells #[(.string b.1), (.slice Ab1 b.2.1.length cb1), (.slice Ab2 b.2.2.1.length cb2), (.slice Ab3 b.2.2.2.length cb3)] 26 (0, 0))) := Aside0.mk (blk_below (blk_new1 w _ _) hb)
       have kb1_0 : w1.cell? ⟨w.heap.size + 1, 0, none⟩ = some (.string b.1) := (blk_cell BKb1.out 0).trans rfl
       have kb1_1 : w1.cell? ⟨w.heap.size + 1, 1, none⟩ = some (.slice Ab1 b.2.1.length cb1) := (blk_cell BKb1.out 1).trans rfl
       have kb1_2 : w1.cell? ⟨w.heap.size + 1, 2, none⟩ = some (.slice Ab2 b.2.2.1.length cb2) := (blk_cell BKb1.out 2).trans rfl
       have kb1_3 : w1.cell? ⟨w.heap.size + 1, 3, none⟩ = some (.slice Ab3 b.2.2.2.length cb3) := (blk_cell BKb1.out 3).trans rfl
       have ltb1 := blk_lt BKb1.out
       clear hb)
    | (clear T2; go_at_call 8; (with_reducible refine (small_c HOb1.out true SB.out).mono ?_); rintro e w2 ⟨rfl, hb⟩
       have HB2 := Aside0.mk (below_in HB1.out hb)
       have HOa2 := Aside0.mk (Ob.below HOa1.out hb)
       have HOb2 := Aside0.mk (Ob.below HOb1.out hb)
       have BKa2 : Aside0 (w2.heap[w.heap.size]? = some (.cells #[(.string a.1), (.slice Aa1 a.2.1.length ca1), (.slice Aa2 a.2.2.1.length ca2), (.slice Aa3 a.2.2.2.length ca3)] 26 (0, 0))) := Aside0.mk (blk_below BKa1.out hb)
       have ka2_0 : w2.cell? ⟨w.heap.size, 0, none⟩ = some (.string a.1) := (blk_cell BKa2.out 0).trans rfl
       have ka2_1 : w2.cell? ⟨w.heap.size, 1, none⟩ = some (.slice Aa1 a.2.1.length ca1) := (blk_cell BKa2.out 1).trans rfl
       have ka2_2 : w2.cell? ⟨w.heap.size, 2, none⟩ = some (.slice Aa2 a.2.2.1.length ca2) := (blk_cell BKa2.out 2).trans rfl
       have ka2_3 : w2.cell? ⟨w.heap.size, 3, none⟩ = some (.slice Aa3 a.2.2.2.length ca3) := (blk_cell BKa2.out 3).trans rfl
       have lta2 := blk_lt BKa2.out
       have BKb2 : Aside0 (w2.heap[w.heap.size + 1]? = some (.cells #[(.string b.1), (.slice Ab1 b.2.1.length cb1), (.slice Ab2 b.2.2.1.length cb2), (.slice Ab3 b.2.2.2.length cb3)] 26 (0, 0))) := Aside0.mk (blk_below BKb1.out hb)
       have kb2_0 : w2.cell? ⟨w.heap.size + 1, 0, none⟩ = some (.string b.1) := (blk_cell BKb2.out 0).trans rfl
       have kb2_1 : w2.cell? ⟨w.heap.size + 1, 1, none⟩ = some (.slice Ab1 b.2.1.length cb1) := (blk_cell BKb2.out 1).trans rfl
       have kb2_2 : w2.cell? ⟨w.heap.size + 1, 2, none⟩ = some (.slice Ab2 b.2.2.1.length cb2) := (blk_cell BKb2.out 2).trans rfl
       have kb2_3 : w2.cell? ⟨w.heap.size + 1, 3, none⟩ = some (.slice Ab3 b.2.2.2.length cb3) := (blk_cell BKb2.out 3).trans rfl
       have ltb2 := blk_lt BKb2.out
       clear hb HB1 HOa1 HOb1 ka1_0 ka1_1 ka1_2 ka1_3 lta1 BKa1 kb1_0 kb1_1 kb1_2 kb1_3 ltb1 BKb1)
    | (clear T3; go_at_call 11; (with_reducible refine (write_yes HOa2.out WA.out MA.out).mono ?_); rintro e w3 ⟨rfl, hb⟩
       have HB3 := Aside0.mk (below_in HB2.out hb)
       have HOa3 := Aside0.mk (Ob.below HOa2.out hb)
       have HOb3 := Aside0.mk (Ob.below HOb2.out hb)
       have BKa3 : Aside0 (w3.heap[w.heap.size]? = some (.cells #[(.string a.1), (.slice Aa1 a.2.1.length ca1), (.slice Aa2 a.2.2.1.length ca2), (.slice Aa3 a.2.2.2.length ca3)] 26 (0, 0))) := Aside0.mk (blk_below BKa2.out hb)
       have ka3_0 : w3.cell? ⟨w.heap.size, 0, none⟩ = some (.string a.1) := (blk_cell BKa3.out 0).trans rfl
       have ka3_1 : w3.cell? ⟨w.heap.size, 1, none⟩ = some (.slice Aa1 a.2.1.length ca1) := (blk_cell BKa3.out 1).trans rfl
       have ka3_2 : w3.cell? ⟨w.heap.size, 2, none⟩ = some (.slice Aa2 a.2.2.1.length ca2) := (blk_cell BKa3.out 2).trans rfl
       have ka3_3 : w3.cell? ⟨w.heap.size, 3, none⟩ = some (.slice Aa3 a.2.2.2.length ca3) := (blk_cell BKa3.out 3).trans rfl
       have lta3 := blk_lt BKa3.out
       have BKb3 : Aside0 (w3.heap[w.heap.size + 1]? = some (.cells #[(.string b.1), (.slice Ab1 b.2.1.length cb1), (.slice Ab2 b.2.2.1.length cb2), (.slice Ab3 b.2.2.2.length cb3)] 26 (0, 0))) := Aside0.mk (blk_below BKb2.out hb)
       have kb3_0 : w3.cell? ⟨w.heap.size + 1, 0, none⟩ = some (.string b.1) := (blk_cell BKb3.out 0).trans rfl
       have kb3_1 : w3.cell? ⟨w.heap.size + 1, 1, none⟩ = some (.slice Ab1 b.2.1.length cb1) := (blk_cell BKb3.out 1).trans rfl
       have kb3_2 : w3.cell? ⟨w.heap.size + 1, 2, none⟩ = some (.slice Ab2 b.2.2.1.length cb2) := (blk_cell BKb3.out 2).trans rfl
       have kb3_3 : w3.cell? ⟨w.heap.size + 1, 3, none⟩ = some (.slice Ab3 b.2.2.2.length cb3) := (blk_cell BKb3.out 3).trans rfl
       have ltb3 := blk_lt BKb3.out
       clear hb HB2 HOa2 HOb2 ka2_0 ka2_1 ka2_2 ka2_3 lta2 BKa2 kb2_0 kb2_1 kb2_2 kb2_3 ltb2 BKb2)
    | (clear T4; go_at_call 11; (with_reducible refine (write_yes HOb3.out WB.out MB.out).mono ?_); rintro e w4 ⟨rfl, hb⟩
       have HB4 := Aside0.mk (below_in HB3.out hb)
       have HOa4 := Aside0.mk (Ob.below HOa3.out hb)
       have HOb4 := Aside0.mk (Ob.below HOb3.out hb)
       have BKa4 : Aside0 (w4.heap[w.heap.size]? = some (.cells #[(.string a.1), (.slice Aa1 a.2.1.length ca1), (.slice Aa2 a.2.2.1.length ca2), (.slice Aa3 a.2.2.2.length ca3)] 26 (0, 0))) := Aside0.mk (blk_below BKa3.out hb)
       have ka4_0 : w4.cell? ⟨w.heap.size, 0, none⟩ = some (.string a.1) := (blk_cell BKa4.out 0).trans rfl
       have ka4_1 : w4.cell? ⟨w.heap.size, 1, none⟩ = some (.slice Aa1 a.2.1.length ca1) := (blk_cell BKa4.out 1).trans rfl
       have ka4_2 : w4.cell? ⟨w.heap.size, 2, none⟩ = some (.slice Aa2 a.2.2.1.length ca2) := (blk_cell BKa4.out 2).trans rfl
       have ka4_3 : w4.cell? ⟨w.heap.size, 3, none⟩ = some (.slice Aa3 a.2.2.2.length ca3) := (blk_cell BKa4.out 3).trans rfl
       have lta4 := blk_lt BKa4.out
       have BKb4 : Aside0 (w4.heap[w.heap.size + 1]? = some (.cells #[(.string b.1), (.slice Ab1 b.2.1.length cb1), (.slice Ab2 b.2.2.1.length cb2), (.slice Ab3 b.2.2.2.length cb3)] 26 (0, 0))) := Aside0.mk (blk_below BKb3.out hb)
       have kb4_0 : w4.cell? ⟨w.heap.size + 1, 0, none⟩ = some (.string b.1) := (blk_cell BKb4.out 0).trans rfl
       have kb4_1 : w4.cell? ⟨w.heap.size + 1, 1, none⟩ = some (.slice Ab1 b.2.1.length cb1) := (blk_cell BKb4.out 1).trans rfl
       have kb4_2 : w4.cell? ⟨w.heap.size + 1, 2, none⟩ = some (.slice Ab2 b.2.2.1.length cb2) := (blk_cell BKb4.out 2).trans rfl
       have kb4_3 : w4.cell? ⟨w.heap.size + 1, 3, none⟩ = some (.slice Ab3 b.2.2.2.length cb3) := (blk_cell BKb4.out 3).trans rfl
       have ltb4 := blk_lt BKb4.out
       clear hb HB3 HOa3 HOb3 ka3_0 ka3_1 ka3_2 ka3_3 lta3 BKa3 kb3_0 kb3_1 kb3_2 kb3_3 ltb3 BKb3)
    | (clear T5; go_at_call 15; (with_reducible refine (same_yes HOa4.out HOb4.out (by have := ZZ.out; omega) (by have := ZZ.out; omega) (by have := ZZ.out; omega) E.out).mono ?_); rintro e w5 ⟨rfl, hb⟩
       have HB5 := Aside0.mk (below_in HB4.out hb)
       have HOa5 := Aside0.mk (Ob.below HOa4.out hb)
       have HOb5 := Aside0.mk (Ob.below HOb4.out hb)
       have BKa5 : Aside0 (w5.heap[w.heap.size]? = some (.cells #[(.string a.1), (.slice Aa1 a.2.1.length ca1), (.slice Aa2 a.2.2.1.length ca2), (.slice Aa3 a.2.2.2.length ca3)] 26 (0, 0))) := Aside0.mk (blk_below BKa4.out hb)
       have ka5_0 : w5.cell? ⟨w.heap.size, 0, none⟩ = some (.string a.1) := (blk_cell BKa5.out 0).trans rfl
       have ka5_1 : w5.cell? ⟨w.heap.size, 1, none⟩ = some (.slice Aa1 a.2.1.length ca1) := (blk_cell BKa5.out 1).trans rfl
       have ka5_2 : w5.cell? ⟨w.heap.size, 2, none⟩ = some (.slice Aa2 a.2.2.1.length ca2) := (blk_cell BKa5.out 2).trans rfl
       have ka5_3 : w5.cell? ⟨w.heap.size, 3, none⟩ = some (.slice Aa3 a.2.2.2.length ca3) := (blk_cell BKa5.out 3).trans rfl
       have lta5 := blk_lt BKa5.out
       have BKb5 : Aside0 (w5.heap[w.heap.size + 1]? = some (.cells #[(.string b.1), (.slice Ab1 b.2.1.length cb1), (.slice Ab2 b.2.2.1.length cb2), (.slice Ab3 b.2.2.2.length cb3)] 26 (0, 0))) := Aside0.mk (blk_below BKb4.out hb)
       have kb5_0 : w5.cell? ⟨w.heap.size + 1, 0, none⟩ = some (.string b.1) := (blk_cell BKb5.out 0).trans rfl
       have kb5_1 : w5.cell? ⟨w.heap.size + 1, 1, none⟩ = some (.slice Ab1 b.2.1.length cb1) := (blk_cell BKb5.out 1).trans rfl
       have kb5_2 : w5.cell? ⟨w.heap.size + 1, 2, none⟩ = some (.slice Ab2 b.2.2.1.length cb2) := (blk_cell BKb5.out 2).trans rfl
       have kb5_3 : w5.cell? ⟨w.heap.size + 1, 3, none⟩ = some (.slice Ab3 b.2.2.2.length cb3) := (blk_cell BKb5.out 3).trans rfl
       have ltb5 := blk_lt BKb5.out
       clear hb HB4 HOa4 HOb4 ka4_0 ka4_1 ka4_2 ka4_3 lta4 BKa4 kb4_0 kb4_1 kb4_2 kb4_3 ltb4 BKb4)
    | (clear T6; go_at_call 9; (with_reducible refine (live_c _).mono ?_); rintro e w6 ⟨rfl, hb⟩
       have HB6 := Aside0.mk (below_in HB5.out hb)
       have HOa6 := Aside0.mk (Ob.below HOa5.out hb)
       have HOb6 := Aside0.mk (Ob.below HOb5.out hb)
       have BKa6 : Aside0 (w6.heap[w.heap.size]? = some (.cells #[(.string a.1), (.slice Aa1 a.2.1.length ca1), (.slice Aa2 a.2.2.1.length ca2), (.slice Aa3 a.2.2.2.length ca3)] 26 (0, 0))) := Aside0.mk (blk_below BKa5.out hb)
       have ka6_0 : w6.cell? ⟨w.heap.size, 0, none⟩ = some (.string a.1) := (blk_cell BKa6.out 0).trans rfl
       have ka6_1 : w6.cell? ⟨w.heap.size, 1, none⟩ = some (.slice Aa1 a.2.1.length ca1) := (blk_cell BKa6.out 1).trans rfl
       have ka6_2 : w6.cell? ⟨w.heap.size, 2, none⟩ = some (.slice Aa2 a.2.2.1.length ca2) := (blk_cell BKa6.out 2).trans rfl
       have ka6_3 : w6.cell? ⟨w.heap.size, 3, none⟩ = some (.slice Aa3 a.2.2.2.length ca3) := (blk_cell BKa6.out 3).trans rfl
       have lta6 := blk_lt BKa6.out
       have BKb6 : Aside0 (w6.heap[w.heap.size + 1]? = some (.cells #[(.string b.1), (.slice Ab1 b.2.1.length cb1), (.slice Ab2 b.2.2.1.length cb2), (.slice Ab3 b.2.2.2.length cb3)] 26 (0, 0))) := Aside0.mk (blk_below BKb5.out hb)
       have kb6_0 : w6.cell? ⟨w.heap.size + 1, 0, none⟩ = some (.string b.1) := (blk_cell BKb6.out 0).trans rfl
       have kb6_1 : w6.cell? ⟨w.heap.size + 1, 1, none⟩ = some (.slice Ab1 b.2.1.length cb1) := (blk_cell BKb6.out 1).trans rfl
       have kb6_2 : w6.cell? ⟨w.heap.size + 1, 2, none⟩ = some (.slice Ab2 b.2.2.1.length cb2) := (blk_cell BKb6.out 2).trans rfl
       have kb6_3 : w6.cell? ⟨w.heap.size + 1, 3, none⟩ = some (.slice Ab3 b.2.2.2.length cb3) := (blk_cell BKb6.out 3).trans rfl
       have ltb6 := blk_lt BKb6.out
       clear hb HB5 HOa5 HOb5 ka5_0 ka5_1 ka5_2 ka5_3 lta5 BKa5 kb5_0 kb5_1 kb5_2 kb5_3 ltb5 BKb5))
  go_ret
  exact ⟨rfl, HB6.out⟩
set_option maxHeartbeats 4000000 in
set_option maxRecDepth 100000 in
theorem apart7 {w : World} {v v' : Value} {a b : Obj6} (ha : Ob w v a) (hb : Ob w v' b) (wa : wordsOk a.2.1) (wb : wordsOk b.2.1) (sa : decide (a.2.2.1.length ≤ 200) = true) (sb : decide (b.2.2.1.length ≤ 200) = true) (ma : mayO a = true) (mb : mayO b = true) (zz : a.2.1.length ≤ 9223372036854775806 ∧ a.2.2.1.length ≤ 9223372036854775806 ∧ a.2.2.2.length ≤ 9223372036854775806) (e : a ≠ b) (fe : formO a ≠ formO b) : Calls Try.prog 7 #[v, v'] w fun e w' => e = .returned (.bool true) ∧ Below w.heap.size w w' := by
  obtain ⟨Aa1, ca1, Aa2, ca2, Aa3, ca3, rfl, ha0⟩ := ha.parts
  have Ha := Aside0.mk ha0
  clear ha ha0
  obtain ⟨Ab1, cb1, Ab2, cb2, Ab3, cb3, rfl, hb0⟩ := hb.parts
  have Hb := Aside0.mk hb0
  clear hb hb0
  have SA := Aside0.mk sa
  have SB := Aside0.mk sb
  have WA := Aside0.mk wa
  have WB := Aside0.mk wb
  have MA := Aside0.mk ma
  have MB := Aside0.mk mb
  clear sa sb wa wb ma mb
  have ZZ := Aside0.mk zz
  have E := Aside0.mk e
  clear zz e
  have fl : ((formO a).toList == (formO b).toList) = false := by rw [Bool.eq_false_iff]; exact fun h => fe ((text_beq _ _).1 h)
  have fl2 : ¬ (formO a).toList = (formO b).toList := fun h => fe (toList_inj h)
  clear fe
  have T1 : True := trivial
  have T2 : True := trivial
  have T3 : True := trivial
  have T4 : True := trivial
  have T5 : True := trivial
  have T6 : True := trivial
  go_enter Try.func7, Try.ntmps7
  go_wp2_with (first
    | (clear T1; go_at_call 8; (with_reducible refine (small_c (Ob.more (Ob.more Ha.out _) _) true SA.out).mono ?_); rintro e w1 ⟨rfl, hb⟩
       have HB1 := Aside0.mk (below_in (below_alloc (below_alloc (Below.refl w.heap.size w) _) _) hb)
       have HOa1 := Aside0.mk (Ob.below (Ob.more (Ob.more Ha.out _) _) hb)
       have HOb1 := Aside0.mk (Ob.below (Ob.more (Ob.more Hb.out _) _) hb)
       have BKa1 : Aside0 (w1.heap[w.heap.size]? = some (.cells #[(.string a.1), (.slice Aa1 a.2.1.length ca1), (.slice Aa2 a.2.2.1.length ca2), (.slice Aa3 a.2.2.2.length ca3)] 26 (0, 0))) := Aside0.mk (blk_below (blk_alloc (blk_new w _) _) hb)
       have ka1_0 : w1.cell? ⟨w.heap.size, 0, none⟩ = some (.string a.1) := (blk_cell BKa1.out 0).trans rfl
       have ka1_1 : w1.cell? ⟨w.heap.size, 1, none⟩ = some (.slice Aa1 a.2.1.length ca1) := (blk_cell BKa1.out 1).trans rfl
       have ka1_2 : w1.cell? ⟨w.heap.size, 2, none⟩ = some (.slice Aa2 a.2.2.1.length ca2) := (blk_cell BKa1.out 2).trans rfl
       have ka1_3 : w1.cell? ⟨w.heap.size, 3, none⟩ = some (.slice Aa3 a.2.2.2.length ca3) := (blk_cell BKa1.out 3).trans rfl
       have lta1 := blk_lt BKa1.out
       have BKb1 : Aside0 (w1.heap[w.heap.size + 1]? = some (.cells #[(.string b.1), (.slice Ab1 b.2.1.length cb1), (.slice Ab2 b.2.2.1.length cb2), (.slice Ab3 b.2.2.2.length cb3)] 26 (0, 0))) := Aside0.mk (blk_below (blk_new1 w _ _) hb)
       have kb1_0 : w1.cell? ⟨w.heap.size + 1, 0, none⟩ = some (.string b.1) := (blk_cell BKb1.out 0).trans rfl
       have kb1_1 : w1.cell? ⟨w.heap.size + 1, 1, none⟩ = some (.slice Ab1 b.2.1.length cb1) := (blk_cell BKb1.out 1).trans rfl
       have kb1_2 : w1.cell? ⟨w.heap.size + 1, 2, none⟩ = some (.slice Ab2 b.2.2.1.length cb2) := (blk_cell BKb1.out 2).trans rfl
       have kb1_3 : w1.cell? ⟨w.heap.size + 1, 3, none⟩ = some (.slice Ab3 b.2.2.2.length cb3) := (blk_cell BKb1.out 3).trans rfl
       have ltb1 := blk_lt BKb1.out
       clear hb)
    | (clear T2; go_at_call 8; (with_reducible refine (small_c HOb1.out true SB.out).mono ?_); rintro e w2 ⟨rfl, hb⟩
       have HB2 := Aside0.mk (below_in HB1.out hb)
       have HOa2 := Aside0.mk (Ob.below HOa1.out hb)
       have HOb2 := Aside0.mk (Ob.below HOb1.out hb)
       have BKa2 : Aside0 (w2.heap[w.heap.size]? = some (.cells #[(.string a.1), (.slice Aa1 a.2.1.length ca1), (.slice Aa2 a.2.2.1.length ca2), (.slice Aa3 a.2.2.2.length ca3)] 26 (0, 0))) := Aside0.mk (blk_below BKa1.out hb)
       have ka2_0 : w2.cell? ⟨w.heap.size, 0, none⟩ = some (.string a.1) := (blk_cell BKa2.out 0).trans rfl
       have ka2_1 : w2.cell? ⟨w.heap.size, 1, none⟩ = some (.slice Aa1 a.2.1.length ca1) := (blk_cell BKa2.out 1).trans rfl
       have ka2_2 : w2.cell? ⟨w.heap.size, 2, none⟩ = some (.slice Aa2 a.2.2.1.length ca2) := (blk_cell BKa2.out 2).trans rfl
       have ka2_3 : w2.cell? ⟨w.heap.size, 3, none⟩ = some (.slice Aa3 a.2.2.2.length ca3) := (blk_cell BKa2.out 3).trans rfl
       have lta2 := blk_lt BKa2.out
       have BKb2 : Aside0 (w2.heap[w.heap.size + 1]? = some (.cells #[(.string b.1), (.slice Ab1 b.2.1.length cb1), (.slice Ab2 b.2.2.1.length cb2), (.slice Ab3 b.2.2.2.length cb3)] 26 (0, 0))) := Aside0.mk (blk_below BKb1.out hb)
       have kb2_0 : w2.cell? ⟨w.heap.size + 1, 0, none⟩ = some (.string b.1) := (blk_cell BKb2.out 0).trans rfl
       have kb2_1 : w2.cell? ⟨w.heap.size + 1, 1, none⟩ = some (.slice Ab1 b.2.1.length cb1) := (blk_cell BKb2.out 1).trans rfl
       have kb2_2 : w2.cell? ⟨w.heap.size + 1, 2, none⟩ = some (.slice Ab2 b.2.2.1.length cb2) := (blk_cell BKb2.out 2).trans rfl
       have kb2_3 : w2.cell? ⟨w.heap.size + 1, 3, none⟩ = some (.slice Ab3 b.2.2.2.length cb3) := (blk_cell BKb2.out 3).trans rfl
       have ltb2 := blk_lt BKb2.out
       clear hb HB1 HOa1 HOb1 ka1_0 ka1_1 ka1_2 ka1_3 lta1 BKa1 kb1_0 kb1_1 kb1_2 kb1_3 ltb1 BKb1)
    | (clear T3; go_at_call 11; (with_reducible refine (write_yes HOa2.out WA.out MA.out).mono ?_); rintro e w3 ⟨rfl, hb⟩
       have HB3 := Aside0.mk (below_in HB2.out hb)
       have HOa3 := Aside0.mk (Ob.below HOa2.out hb)
       have HOb3 := Aside0.mk (Ob.below HOb2.out hb)
       have BKa3 : Aside0 (w3.heap[w.heap.size]? = some (.cells #[(.string a.1), (.slice Aa1 a.2.1.length ca1), (.slice Aa2 a.2.2.1.length ca2), (.slice Aa3 a.2.2.2.length ca3)] 26 (0, 0))) := Aside0.mk (blk_below BKa2.out hb)
       have ka3_0 : w3.cell? ⟨w.heap.size, 0, none⟩ = some (.string a.1) := (blk_cell BKa3.out 0).trans rfl
       have ka3_1 : w3.cell? ⟨w.heap.size, 1, none⟩ = some (.slice Aa1 a.2.1.length ca1) := (blk_cell BKa3.out 1).trans rfl
       have ka3_2 : w3.cell? ⟨w.heap.size, 2, none⟩ = some (.slice Aa2 a.2.2.1.length ca2) := (blk_cell BKa3.out 2).trans rfl
       have ka3_3 : w3.cell? ⟨w.heap.size, 3, none⟩ = some (.slice Aa3 a.2.2.2.length ca3) := (blk_cell BKa3.out 3).trans rfl
       have lta3 := blk_lt BKa3.out
       have BKb3 : Aside0 (w3.heap[w.heap.size + 1]? = some (.cells #[(.string b.1), (.slice Ab1 b.2.1.length cb1), (.slice Ab2 b.2.2.1.length cb2), (.slice Ab3 b.2.2.2.length cb3)] 26 (0, 0))) := Aside0.mk (blk_below BKb2.out hb)
       have kb3_0 : w3.cell? ⟨w.heap.size + 1, 0, none⟩ = some (.string b.1) := (blk_cell BKb3.out 0).trans rfl
       have kb3_1 : w3.cell? ⟨w.heap.size + 1, 1, none⟩ = some (.slice Ab1 b.2.1.length cb1) := (blk_cell BKb3.out 1).trans rfl
       have kb3_2 : w3.cell? ⟨w.heap.size + 1, 2, none⟩ = some (.slice Ab2 b.2.2.1.length cb2) := (blk_cell BKb3.out 2).trans rfl
       have kb3_3 : w3.cell? ⟨w.heap.size + 1, 3, none⟩ = some (.slice Ab3 b.2.2.2.length cb3) := (blk_cell BKb3.out 3).trans rfl
       have ltb3 := blk_lt BKb3.out
       clear hb HB2 HOa2 HOb2 ka2_0 ka2_1 ka2_2 ka2_3 lta2 BKa2 kb2_0 kb2_1 kb2_2 kb2_3 ltb2 BKb2)
    | (clear T4; go_at_call 11; (with_reducible refine (write_yes HOb3.out WB.out MB.out).mono ?_); rintro e w4 ⟨rfl, hb⟩
       have HB4 := Aside0.mk (below_in HB3.out hb)
       have HOa4 := Aside0.mk (Ob.below HOa3.out hb)
       have HOb4 := Aside0.mk (Ob.below HOb3.out hb)
       have BKa4 : Aside0 (w4.heap[w.heap.size]? = some (.cells #[(.string a.1), (.slice Aa1 a.2.1.length ca1), (.slice Aa2 a.2.2.1.length ca2), (.slice Aa3 a.2.2.2.length ca3)] 26 (0, 0))) := Aside0.mk (blk_below BKa3.out hb)
       have ka4_0 : w4.cell? ⟨w.heap.size, 0, none⟩ = some (.string a.1) := (blk_cell BKa4.out 0).trans rfl
       have ka4_1 : w4.cell? ⟨w.heap.size, 1, none⟩ = some (.slice Aa1 a.2.1.length ca1) := (blk_cell BKa4.out 1).trans rfl
       have ka4_2 : w4.cell? ⟨w.heap.size, 2, none⟩ = some (.slice Aa2 a.2.2.1.length ca2) := (blk_cell BKa4.out 2).trans rfl
       have ka4_3 : w4.cell? ⟨w.heap.size, 3, none⟩ = some (.slice Aa3 a.2.2.2.length ca3) := (blk_cell BKa4.out 3).trans rfl
       have lta4 := blk_lt BKa4.out
       have BKb4 : Aside0 (w4.heap[w.heap.size + 1]? = some (.cells #[(.string b.1), (.slice Ab1 b.2.1.length cb1), (.slice Ab2 b.2.2.1.length cb2), (.slice Ab3 b.2.2.2.length cb3)] 26 (0, 0))) := Aside0.mk (blk_below BKb3.out hb)
       have kb4_0 : w4.cell? ⟨w.heap.size + 1, 0, none⟩ = some (.string b.1) := (blk_cell BKb4.out 0).trans rfl
       have kb4_1 : w4.cell? ⟨w.heap.size + 1, 1, none⟩ = some (.slice Ab1 b.2.1.length cb1) := (blk_cell BKb4.out 1).trans rfl
       have kb4_2 : w4.cell? ⟨w.heap.size + 1, 2, none⟩ = some (.slice Ab2 b.2.2.1.length cb2) := (blk_cell BKb4.out 2).trans rfl
       have kb4_3 : w4.cell? ⟨w.heap.size + 1, 3, none⟩ = some (.slice Ab3 b.2.2.2.length cb3) := (blk_cell BKb4.out 3).trans rfl
       have ltb4 := blk_lt BKb4.out
       clear hb HB3 HOa3 HOb3 ka3_0 ka3_1 ka3_2 ka3_3 lta3 BKa3 kb3_0 kb3_1 kb3_2 kb3_3 ltb3 BKb3)
    | (clear T5; go_at_call 15; (with_reducible refine (same_no HOa4.out HOb4.out (by have := ZZ.out; omega) (by have := ZZ.out; omega) (by have := ZZ.out; omega) E.out).mono ?_); rintro e w5 ⟨rfl, hb⟩
       have HB5 := Aside0.mk (below_in HB4.out hb)
       have HOa5 := Aside0.mk (Ob.below HOa4.out hb)
       have HOb5 := Aside0.mk (Ob.below HOb4.out hb)
       have BKa5 : Aside0 (w5.heap[w.heap.size]? = some (.cells #[(.string a.1), (.slice Aa1 a.2.1.length ca1), (.slice Aa2 a.2.2.1.length ca2), (.slice Aa3 a.2.2.2.length ca3)] 26 (0, 0))) := Aside0.mk (blk_below BKa4.out hb)
       have ka5_0 : w5.cell? ⟨w.heap.size, 0, none⟩ = some (.string a.1) := (blk_cell BKa5.out 0).trans rfl
       have ka5_1 : w5.cell? ⟨w.heap.size, 1, none⟩ = some (.slice Aa1 a.2.1.length ca1) := (blk_cell BKa5.out 1).trans rfl
       have ka5_2 : w5.cell? ⟨w.heap.size, 2, none⟩ = some (.slice Aa2 a.2.2.1.length ca2) := (blk_cell BKa5.out 2).trans rfl
       have ka5_3 : w5.cell? ⟨w.heap.size, 3, none⟩ = some (.slice Aa3 a.2.2.2.length ca3) := (blk_cell BKa5.out 3).trans rfl
       have lta5 := blk_lt BKa5.out
       have BKb5 : Aside0 (w5.heap[w.heap.size + 1]? = some (.cells #[(.string b.1), (.slice Ab1 b.2.1.length cb1), (.slice Ab2 b.2.2.1.length cb2), (.slice Ab3 b.2.2.2.length cb3)] 26 (0, 0))) := Aside0.mk (blk_below BKb4.out hb)
       have kb5_0 : w5.cell? ⟨w.heap.size + 1, 0, none⟩ = some (.string b.1) := (blk_cell BKb5.out 0).trans rfl
       have kb5_1 : w5.cell? ⟨w.heap.size + 1, 1, none⟩ = some (.slice Ab1 b.2.1.length cb1) := (blk_cell BKb5.out 1).trans rfl
       have kb5_2 : w5.cell? ⟨w.heap.size + 1, 2, none⟩ = some (.slice Ab2 b.2.2.1.length cb2) := (blk_cell BKb5.out 2).trans rfl
       have kb5_3 : w5.cell? ⟨w.heap.size + 1, 3, none⟩ = some (.slice Ab3 b.2.2.2.length cb3) := (blk_cell BKb5.out 3).trans rfl
       have ltb5 := blk_lt BKb5.out
       clear hb HB4 HOa4 HOb4 ka4_0 ka4_1 ka4_2 ka4_3 lta4 BKa4 kb4_0 kb4_1 kb4_2 kb4_3 ltb4 BKb4)
    | (clear T6; go_at_call 9; (with_reducible refine (live_c _).mono ?_); rintro e w6 ⟨rfl, hb⟩
       have HB6 := Aside0.mk (below_in HB5.out hb)
       have HOa6 := Aside0.mk (Ob.below HOa5.out hb)
       have HOb6 := Aside0.mk (Ob.below HOb5.out hb)
       have BKa6 : Aside0 (w6.heap[w.heap.size]? = some (.cells #[(.string a.1), (.slice Aa1 a.2.1.length ca1), (.slice Aa2 a.2.2.1.length ca2), (.slice Aa3 a.2.2.2.length ca3)] 26 (0, 0))) := Aside0.mk (blk_below BKa5.out hb)
       have ka6_0 : w6.cell? ⟨w.heap.size, 0, none⟩ = some (.string a.1) := (blk_cell BKa6.out 0).trans rfl
       have ka6_1 : w6.cell? ⟨w.heap.size, 1, none⟩ = some (.slice Aa1 a.2.1.length ca1) := (blk_cell BKa6.out 1).trans rfl
       have ka6_2 : w6.cell? ⟨w.heap.size, 2, none⟩ = some (.slice Aa2 a.2.2.1.length ca2) := (blk_cell BKa6.out 2).trans rfl
       have ka6_3 : w6.cell? ⟨w.heap.size, 3, none⟩ = some (.slice Aa3 a.2.2.2.length ca3) := (blk_cell BKa6.out 3).trans rfl
       have lta6 := blk_lt BKa6.out
       have BKb6 : Aside0 (w6.heap[w.heap.size + 1]? = some (.cells #[(.string b.1), (.slice Ab1 b.2.1.length cb1), (.slice Ab2 b.2.2.1.length cb2), (.slice Ab3 b.2.2.2.length cb3)] 26 (0, 0))) := Aside0.mk (blk_below BKb5.out hb)
       have kb6_0 : w6.cell? ⟨w.heap.size + 1, 0, none⟩ = some (.string b.1) := (blk_cell BKb6.out 0).trans rfl
       have kb6_1 : w6.cell? ⟨w.heap.size + 1, 1, none⟩ = some (.slice Ab1 b.2.1.length cb1) := (blk_cell BKb6.out 1).trans rfl
       have kb6_2 : w6.cell? ⟨w.heap.size + 1, 2, none⟩ = some (.slice Ab2 b.2.2.1.length cb2) := (blk_cell BKb6.out 2).trans rfl
       have kb6_3 : w6.cell? ⟨w.heap.size + 1, 3, none⟩ = some (.slice Ab3 b.2.2.2.length cb3) := (blk_cell BKb6.out 3).trans rfl
       have ltb6 := blk_lt BKb6.out
       clear hb HB5 HOa5 HOb5 ka5_0 ka5_1 ka5_2 ka5_3 lta5 BKa5 kb5_0 kb5_1 kb5_2 kb5_3 ltb5 BKb5))
  go_ret
  exact ⟨rfl, HB6.out⟩
theorem apart_c {w : World} {v v' : Value} {a b : Obj6} (ha : Ob w v a) (hb : Ob w v' b) (wa : wordsOk a.2.1) (wb : wordsOk b.2.1) (zz : a.2.1.length ≤ 9223372036854775806 ∧ a.2.2.1.length ≤ 9223372036854775806 ∧ a.2.2.2.length ≤ 9223372036854775806) : Calls Try.prog 7 #[v, v'] w fun e w' => e = .returned (.bool true) ∧ Below w.heap.size w w' := by
  cases sa : decide (a.2.2.1.length ≤ 200) with
  | false => exact apart1 ha hb wa wb sa
  | true =>
    cases sb : decide (b.2.2.1.length ≤ 200) with
    | false => exact apart2 ha hb wa wb sa sb
    | true =>
      cases ma : mayO a with
      | false =>
        cases mb : mayO b with
        | false => exact apart3 ha hb wa wb sa sb ma mb
        | true => exact apart4 ha hb wa wb sa sb ma mb
      | true =>
        cases mb : mayO b with
        | false => exact apart5 ha hb wa wb sa sb ma mb
        | true =>
          by_cases e : a = b
          · exact apart6 ha hb wa wb sa sb ma mb zz e (by rw [e])
          · exact apart7 ha hb wa wb sa sb ma mb zz e (fun h => e (form_inj ma wa mb wb h))
end Go.Proofs.Ytilmndkbloodbaa.M

