/-
  Texts of the proofs of ObjfReads, cut to what the proofs reach and packed by a program of this session (wip/packs.py). Each part begins with what it says; conditions: those told there.
-/
import Derived.Test.YtilmndkbloodbaaPO6A12
import Derived.Test.YtilmndkbloodbaaPO6B1n1
import Derived.Test.YtilmndkbloodbaaPO6B3n1
/-
  Layer 6: ObjfReads: the walk. Condition: a text of at most 2^47 bytes.
-/
namespace Go.Proofs.Ytilmndkbloodbaa.M
open Go.RowKit Go.Proofs.YtilmndkbloodbaaW.PrintWords Go.Proofs.Ytilmndkbloodbaa.Num Go.Proofs.Ytilmndkbloodbaa.Seven Go.Proofs.Ytilmndkbloodbaa.Word1 Go.Proofs.Ytilmndkbloodbaa.Obj
set_option linter.unusedVariables false
set_option linter.unusedSimpArgs false
theorem rd_lens (s : ByteArray) : (rdO s).1.2.1.length ≤ 8000 ∧ (rdO s).1.2.2.1.length ≤ 8000 ∧ (rdO s).1.2.2.2.length ≤ 8000 := by
  rcases rd_two s with h | h
  · obtain ⟨_, h2, _⟩ := rd_back h
    obtain ⟨_, m2, m3, m4, _⟩ := may_parts h2
    omega
  · rw [rd_none h]
    decide
theorem read_own {s : ByteArray} {q : Obj6} {n : Int} (h : rdO s = (q, n)) (hs : s.size ≤ 281474976710656) (w : World) : Calls Try.prog 16 #[.string s] w fun e w' => ∃ v1 v2 v3, e = .returned (.tuple #[.agg #[.string q.1, v1, v2, v3], .int .i64 n]) ∧ Kd.R (Kd.int .i64) 2 w' w.heap.size (fun _ => True) v1 q.2.1 ∧ Kd.R k41 41 w' w.heap.size (fun _ => True) v2 q.2.2.1 ∧ Kd.R k43 43 w' w.heap.size (fun _ => True) v3 q.2.2.2 ∧ Below w.heap.size w w' := by
  refine (objf_Read.calls_ s hs w).mono fun e w' h' => ?_
  obtain ⟨v1, v2, v3, rfl, h1, h2, h3, hb⟩ := h'
  rw [readF_rd, h] at h1 h2 h3 ⊢
  exact ⟨v1, v2, v3, rfl, h1, h2, h3, hb⟩
theorem rread_own {s : ByteArray} {q : Obj6} {n : Int} (h : rdO s = (q, n)) (hs : s.size ≤ 281474976710656) (w : World) : Calls Try.prog 17 #[.string s] w fun e w' => ∃ v1 v2 v3, e = .returned (.tuple #[.agg #[.string q.1, v1, v2, v3], .int .i64 n]) ∧ Kd.R (Kd.int .i64) 2 w' w.heap.size (fun _ => True) v1 q.2.1 ∧ Kd.R k41 41 w' w.heap.size (fun _ => True) v2 q.2.2.1 ∧ Kd.R k43 43 w' w.heap.size (fun _ => True) v3 q.2.2.2 ∧ Below w.heap.size w w' := by
  refine (cotterref06_Read.calls_ s hs w).mono fun e w' h' => ?_
  obtain ⟨v1, v2, v3, rfl, h1, h2, h3, hb⟩ := h'
  rw [readF_rd, h] at h1 h2 h3 ⊢
  exact ⟨v1, v2, v3, rfl, h1, h2, h3, hb⟩
theorem R_up {α : Type} {k : Kd α} {e base : Nat} {w : World} {ok : Nat → Prop} {v : Value} {l : List α} (h : k.R e w base ok v l) : k.R e w base (fun x => base ≤ x) v l := Kd.R_mono (Kd.R_bound h) (fun _ h => h.2.1)
theorem R_shape {base n cap : Nat} {w : World} {ok : Nat → Prop} {A : Option Addr} {xs : List Int} (h : (Kd.int .i64).R 2 w base ok (.slice A n cap) xs) (hn : 0 < n) : ∃ g, A = some ⟨g, 0, none⟩ ∧ base ≤ g ∧ xs.length = n := by
  obtain ⟨A', c', e, _, _⟩ := Kd.R_reads h
  injection e with e1 e2 e3
  have ho := Kd.own_of_R h
  rcases ho.2 with ⟨h1, _⟩ | ⟨g, cap', cur, h1, hg, _⟩
  · injection h1 with h1 h2 h3
    omega
  · injection h1 with h1 h2 h3
    exact ⟨g, h1, hg, e2.symm⟩
section
variable {w W W' : World} {B ga gb : Nat} {q : Obj6} {xs : List Int} {A1 A2 A3 B1 B2 B3 : Option Addr} {c1 c2 c3 d1 d2 d3 : Nat}
theorem Two.next (H : Two w W B ga gb q xs A1 c1 A2 c2 A3 c3 B1 d1 B2 d2 B3 d3) (hb : Below W.heap.size W W') : Two w W' B ga gb q xs A1 c1 A2 c2 A3 c3 B1 d1 B2 d2 B3 d3 where
  below := below_then H.below H.below.size hb
  boxa := blk_below H.boxa hb
  boxb := blk_below H.boxb hb
  ra := Kd.R_below H.ra hb
  len := H.len
  r1 := Kd.R_below H.r1 hb
  r2 := Kd.R_below H.r2 hb
  r3 := Kd.R_below H.r3 hb
  lo := H.lo
  hi := H.hi
theorem Two.ob (H : Two w W B ga gb q xs A1 c1 A2 c2 A3 c3 B1 d1 B2 d2 B3 d3) : Ob W (.agg #[.string q.1, .slice B1 q.2.1.length d1, .slice B2 q.2.2.1.length d2, .slice B3 q.2.2.2.length d3]) q := Ob.of_R H.r1 H.r2 H.r3
end
set_option maxHeartbeats 8000000 in
set_option maxRecDepth 100000 in
theorem reads2 {w : World} {s : ByteArray} (hs : s.size ≤ 5000) : Calls Try.prog 4 #[.string s] w fun e w' => e = .returned (.bool true) ∧ Below w.heap.size w w' := by
  have zz := rd_lens s
  obtain ⟨q, n, hq⟩ : ∃ q n, rdO s = (q, n) := ⟨_, _, rfl⟩
  rw [hq] at zz
  dsimp only at zz
  have ZZ := Aside0.mk zz
  have RA := Aside0.mk (fun W => read_own hq (by omega) W)
  have RB := Aside0.mk (fun W => rread_own hq (by omega) W)
  have hs2 : (s.size : Int) ≤ 5000 := by omega
  have hs3 : ¬ ((5000 : Int) < (s.size : Int)) := by omega
  clear zz hq hs
  have T1 : True := trivial
  have T2 : True := trivial
  have T3 : True := trivial
  go_enter Try.func4, Try.ntmps4
  go_wp2_with (first
    | (clear T1; go_at_call 16; (with_reducible refine (RA.out _).mono ?_); rintro e w1 ⟨v1, v2, v3, rfl, r1, r2, r3, hb⟩
       obtain ⟨A1, c1, rfl, l1, -⟩ := Kd.R_reads r1
       obtain ⟨A2, c2, rfl, l2, -⟩ := Kd.R_reads r2
       obtain ⟨A3, c3, rfl, l3, -⟩ := Kd.R_reads r3
       have RA1 := Aside0.mk r1
       have HOA := Aside0.mk (Ob.of_R (o := q) r1 r2 r3)
       have HB1 := Aside0.mk hb
       clear hb r1 r2 r3 l1 l2 l3)
    | (clear T2; go_at_call 17; (with_reducible refine (RB.out _).mono ?_); rintro e w2 ⟨v1, v2, v3, rfl, r1, r2, r3, hb⟩
       obtain ⟨B1, d1, rfl, l1, -⟩ := Kd.R_reads r1
       obtain ⟨B2, d2, rfl, l2, -⟩ := Kd.R_reads r2
       obtain ⟨B3, d3, rfl, l3, -⟩ := Kd.R_reads r3
       have HT2 := Aside0.mk (show Two w (w2.alloc (.cells #[.string q.1, .slice B1 q.2.1.length d1, .slice B2 q.2.2.1.length d2, .slice B3 q.2.2.2.length d3] 26)) (w1.heap.size + 1) w1.heap.size w2.heap.size q q.2.1 A1 c1 A2 c2 A3 c3 B1 d1 B2 d2 B3 d3 from
         ⟨below_alloc (below_in (below_alloc HB1.out _) hb) _, blk_alloc (blk_below (blk_new w1 _) hb) _, blk_new w2 _, Kd.R_below (Kd.R_below (Kd.R_below RA1.out (below_alloc (Below.refl w1.heap.size w1) _)) hb) (below_alloc (Below.refl w2.heap.size w2) _), rfl,
           by have := R_up (Kd.R_below r1 (below_alloc (Below.refl w2.heap.size w2) (.cells #[.string q.1, .slice B1 q.2.1.length d1, .slice B2 q.2.2.1.length d2, .slice B3 q.2.2.2.length d3] 26))); rwa [show (w1.alloc (.cells #[.string q.1, .slice A1 q.2.1.length c1, .slice A2 q.2.2.1.length c2, .slice A3 q.2.2.2.length c3] 26)).heap.size = w1.heap.size + 1 by simp] at this,
           by have := R_up (Kd.R_below r2 (below_alloc (Below.refl w2.heap.size w2) (.cells #[.string q.1, .slice B1 q.2.1.length d1, .slice B2 q.2.2.1.length d2, .slice B3 q.2.2.2.length d3] 26))); rwa [show (w1.alloc (.cells #[.string q.1, .slice A1 q.2.1.length c1, .slice A2 q.2.2.1.length c2, .slice A3 q.2.2.2.length c3] 26)).heap.size = w1.heap.size + 1 by simp] at this,
           by have := R_up (Kd.R_below r3 (below_alloc (Below.refl w2.heap.size w2) (.cells #[.string q.1, .slice B1 q.2.1.length d1, .slice B2 q.2.2.1.length d2, .slice B3 q.2.2.2.length d3] 26))); rwa [show (w1.alloc (.cells #[.string q.1, .slice A1 q.2.1.length c1, .slice A2 q.2.2.1.length c2, .slice A3 q.2.2.2.length c3] 26)).heap.size = w1.heap.size + 1 by simp] at this,
           fun g hg => own_lt (Kd.own_of_R RA1.out) g (by rw [hg]; rfl), by have h1 := hb.size; have h2 := HB1.out.size; rw [show (w1.alloc (.cells #[.string q.1, .slice A1 q.2.1.length c1, .slice A2 q.2.2.1.length c2, .slice A3 q.2.2.2.length c3] 26)).heap.size = w1.heap.size + 1 by simp] at h1; omega⟩)
       have HOA2 := Aside0.mk (Ob.more (Ob.below (Ob.more HOA.out _) hb) (.cells #[.string q.1, .slice B1 q.2.1.length d1, .slice B2 q.2.2.1.length d2, .slice B3 q.2.2.2.length d3] 26))
       have ka0 : w2.cell? ⟨w1.heap.size, 0, none⟩ = some (.string q.1) := (blk_cell (blk_below (blk_new w1 _) hb) 0).trans rfl
       have ka1 : w2.cell? ⟨w1.heap.size, 1, none⟩ = some (.slice A1 q.2.1.length c1) := (blk_cell (blk_below (blk_new w1 _) hb) 1).trans rfl
       have ka2 : w2.cell? ⟨w1.heap.size, 2, none⟩ = some (.slice A2 q.2.2.1.length c2) := (blk_cell (blk_below (blk_new w1 _) hb) 2).trans rfl
       have ka3 : w2.cell? ⟨w1.heap.size, 3, none⟩ = some (.slice A3 q.2.2.2.length c3) := (blk_cell (blk_below (blk_new w1 _) hb) 3).trans rfl
       have lta := World.block_lt_of_cell? w2 _ ka0
       clear hb r1 r2 r3 l1 l2 l3)
    | (clear T3; go_at_call 15; (with_reducible refine (same_yes HOA2.out HT2.out.ob (by have := ZZ.out; omega) (by have := ZZ.out; omega) (by have := ZZ.out; omega) rfl).mono ?_); rintro e w3 ⟨rfl, hb⟩
       have HT3 := Aside0.mk (HT2.out.next hb)
       clear hb HT2 HOA2 HOA RA1 HB1 ka0 ka1 ka2 ka3 lta))
  go_loopw [7] (fun v7 wr => ∃ (k : Nat) (xs : List Int), k ≤ q.2.1.length ∧ v7 = .int .i64 k ∧ Aside0 (Two w wr (w1.heap.size + 1) w1.heap.size w2.heap.size q xs A1 c1 A2 c2 A3 c3 B1 d1 B2 d2 B3 d3)) (fun v7 _ => q.2.1.length - (intOf v7).toNat)
  case atStart => exact ⟨0, q.2.1, Nat.zero_le _, rfl, HT3⟩
  case round =>
    clear HT3
    obtain ⟨k, xs, hk, rfl, HT⟩ := hrel
    have ka0 : wr.cell? ⟨w1.heap.size, 0, none⟩ = some (.string q.1) := (blk_cell HT.out.boxa 0).trans rfl
    have ka1 : wr.cell? ⟨w1.heap.size, 1, none⟩ = some (.slice A1 q.2.1.length c1) := (blk_cell HT.out.boxa 1).trans rfl
    have lta := blk_lt HT.out.boxa
    by_cases hlt : k < q.2.1.length
    case pos =>
      obtain ⟨g, rfl, hg0, hxl⟩ := R_shape HT.out.ra (by omega)
      have HP := Aside0.mk (HT.out.put rfl (k : Int) (-7))
      obtain ⟨hc, hf⟩ := Kd.R_cell (enc := Value.int .i64) (h1 := fun _ => rfl) (0 : Int) (by have := HT.out.ra; rw [← HT.out.len] at this; exact this) (k : Int) (by omega) (by omega)
      simp only [Int.toNat_natCast] at hc hf
      have hlk : (k : Int) < (q.2.1.length : Int) := by omega
      go_wp2
      have e1 : wrap64 ((k : Int) + 1) = ((k + 1 : Nat) : Int) := by have := ZZ.out; rw [wrap64_id (by omega) (by omega)]; omega
      simp only [Int.toNat_natCast] at HP
      refine ⟨⟨k + 1, xs.set k (-7), by omega, by rw [e1], HP⟩, ?_⟩
      rw [e1]
      simp [intOf]
      omega
    case neg =>
      have hlk : ¬ (k : Int) < (q.2.1.length : Int) := by omega
      have U1 : True := trivial
      have U2 : True := trivial
      have U3 : True := trivial
      go_wp2_with (first
        | (clear U1; go_at_call 16; (with_reducible refine (RA.out _).mono ?_); rintro e w4 ⟨v1, v2, v3, rfl, r1, r2, r3, hb⟩
           obtain ⟨E1, e1, rfl, l1, -⟩ := Kd.R_reads r1
           obtain ⟨E2, e2, rfl, l2, -⟩ := Kd.R_reads r2
           obtain ⟨E3, e3, rfl, l3, -⟩ := Kd.R_reads r3
           have HOC := Aside0.mk (Ob.of_R (o := q) r1 r2 r3)
           have HT4 := Aside0.mk (HT.out.next hb)
           have kb0 : w4.cell? ⟨w2.heap.size, 0, none⟩ = some (.string q.1) := (blk_cell HT4.out.boxb 0).trans rfl
           have kb1 : w4.cell? ⟨w2.heap.size, 1, none⟩ = some (.slice B1 q.2.1.length d1) := (blk_cell HT4.out.boxb 1).trans rfl
           have kb2 : w4.cell? ⟨w2.heap.size, 2, none⟩ = some (.slice B2 q.2.2.1.length d2) := (blk_cell HT4.out.boxb 2).trans rfl
           have kb3 : w4.cell? ⟨w2.heap.size, 3, none⟩ = some (.slice B3 q.2.2.2.length d3) := (blk_cell HT4.out.boxb 3).trans rfl
           have ltb := blk_lt HT4.out.boxb
           clear hb HT r1 r2 r3 l1 l2 l3 ka0 ka1 lta)
        | (clear U2; go_at_call 15; (with_reducible refine (same_yes (Ob.more HOC.out _) (Ob.more HT4.out.ob _) (by have := ZZ.out; omega) (by have := ZZ.out; omega) (by have := ZZ.out; omega) rfl).mono ?_); rintro e w5 ⟨rfl, hb⟩
           have HB5 := Aside0.mk (below_in (below_alloc HT4.out.below _) hb)
           clear hb HT4 kb0 kb1 kb2 kb3 ltb)
        | (clear U3; go_at_call 9; (with_reducible refine (live_c _).mono ?_); rintro e w6 ⟨rfl, hb⟩
           have HB6 := Aside0.mk (below_in HB5.out hb)
           clear hb))
      go_ret
      exact ⟨rfl, HB6.out⟩
theorem reads1 {w : World} {s : ByteArray} (hs : 5000 < s.size) : Calls Try.prog 4 #[.string s] w fun e w' => e = .returned (.bool true) ∧ Below w.heap.size w w' := by
  have hs2 : (5000 : Int) < (s.size : Int) := by omega
  go_enter Try.func4, Try.ntmps4
  go_wp2_with (first | (go_at_call 9; (with_reducible refine (live_c _).mono ?_); rintro e w1 ⟨rfl, hb⟩; have HB1 := Aside0.mk hb; clear hb))
  go_ret
  exact ⟨rfl, HB1.out⟩
theorem reads_c (w : World) (s : ByteArray) : Calls Try.prog 4 #[.string s] w fun e w' => e = .returned (.bool true) ∧ Below w.heap.size w w' := by
  by_cases hs : 5000 < s.size
  · exact reads1 hs
  · exact reads2 (by omega)
end Go.Proofs.Ytilmndkbloodbaa.M

