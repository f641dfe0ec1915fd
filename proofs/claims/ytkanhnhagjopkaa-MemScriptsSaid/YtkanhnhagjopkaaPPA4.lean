/-
  Texts of the proofs of MemScripts, cut to what the proofs reach and packed by a program of this session (wip/packs.py). Each part begins with what it says; conditions: those told there.
-/
import Derived.Maps.RangeWalk
import Derived.Test.YtkanhnhagjopkaaPPA3
/-
  Layer 2: what is touched: the maps, read and wrote, untouched: the walks. Conditions: those told at each.
-/
namespace Go.Proofs.Ytkanhnhagjopkaa.M
open Go.RowKit Go.Proofs.YtkanhnhagjopkaaW.PrintWords Go.Proofs.YtkanhnhagjopkaaW.PrintLast Go.Proofs.Ytkanhnhagjopkaa.Num
set_option linter.unusedVariables false
set_option linter.unusedSimpArgs false
abbrev DU := DataW Unit
noncomputable abbrev RI : Value → Option (DU × List MemPlace) := plainElem Try.prog 3
def nk (n : Int) : Lit := .int .i64 n
theorem nk_lit (n : Int) : WideAt.IsKeyLit (nk n) := by simp [nk, WideAt.IsKeyLit]
theorem nk_inj {a b : Int} (h : nk a = nk b) : a = b := by unfold nk at h; injection h
theorem law2 : Maps.Keyed Try.prog 2 := Maps.int_keyed Try.underlying2
/-- A map of counts whose keys are these numbers. -/
def Cnt (D : DU) (xs : List Int) : Prop := Maps.Tidy D ∧ ∀ n, Maps.has D (nk n) = decide (n ∈ xs)
theorem cnt_nil : Cnt (.map []) [] := ⟨Maps.tidy_empty, fun n => by simp [Maps.has]⟩
theorem cnt_put {D : DU} {xs : List Int} (h : Cnt D xs) (a : Int) (d : DU) : Cnt (D.put (nk a) d) (xs ++ [a]) := by
  refine ⟨h.1.put (nk_lit _) _, fun n => ?_⟩
  by_cases e : n = a
  · subst e
    rw [Maps.has_put_same h.1.isMap (nk_lit _)]
    simp
  · rw [Maps.has_put_other (fun he => e (nk_inj he)), h.2]
    simp [e]
theorem wf64 {a : Int} (h0 : -9223372036854775808 ≤ a) (h1 : a ≤ 9223372036854775807) : (Lit.int .i64 a).wf = true := by
  simp [Lit.wf, IntKind.min, IntKind.max, IntKind.signed, IntKind.bits]
  omega
theorem nkey {n : Int} (h0 : -9223372036854775808 ≤ n) (h1 : n ≤ 9223372036854775807) : keyOf Try.prog 2 (.int .i64 n) = some (nk n) := by
  rw [keyOf_int Try.underlying2]
  simp [mapKey, Try.underlying2, nk, Lit.wf, IntKind.min, IntKind.max, IntKind.signed, IntKind.bits]
  omega
/-- What is touched: the struct's block, its two maps. -/
structure TchG (rest : List Value) (ty : Nat) (w W : World) (pb r q : Nat) (xs ys : List Int) : Prop where
  below : Below w.heap.size w W
  blk : W.heap[pb]? = some (.cells ⟨.map (some r) :: .map (some q) :: rest⟩ ty (0, 0))
  m1 : ∃ D, W.ownsMap Try.prog 2 RI r xs.length D ∧ Cnt D xs
  m2 : ∃ D, W.ownsMap Try.prog 2 RI q ys.length D ∧ Cnt D ys
  ge : w.heap.size ≤ pb ∧ w.heap.size ≤ r ∧ w.heap.size ≤ q
  ne : r ≠ q
theorem map_belowT {W W1 : World} {q : TypeId} {R : Value → Option (DU × List MemPlace)} {b n : Nat} {D : DU} (h : W.ownsMap Try.prog q R b n D) (hb : Below W.heap.size W W1) : W1.ownsMap Try.prog q R b n D := by
  have hlt := h.lt
  obtain ⟨es, clock, hb', F, hs, hD⟩ := h
  exact ⟨es, clock, (hb.block _ hlt).trans hb', F, hs, hD⟩
theorem TchG.next {rest : List Value} {ty : Nat} {w W W1 : World} {pb r q : Nat} {xs ys : List Int} (H : TchG rest ty w W pb r q xs ys) (hb : Below W.heap.size W W1) : TchG rest ty w W1 pb r q xs ys where
  below := below_then H.below H.below.size hb
  blk := blk_below H.blk hb
  m1 := by obtain ⟨D, h, k⟩ := H.m1; exact ⟨D, map_belowT h hb, k⟩
  m2 := by obtain ⟨D, h, k⟩ := H.m2; exact ⟨D, map_belowT h hb, k⟩
  ge := H.ge
  ne := H.ne
theorem TchG.nb {rest : List Value} {ty : Nat} {w W : World} {pb r q : Nat} {xs ys : List Int} (H : TchG rest ty w W pb r q xs ys) : pb ≠ r ∧ pb ≠ q := by
  obtain ⟨D, ⟨es, clock, h, _⟩, _⟩ := H.m1
  obtain ⟨D2, ⟨es2, clock2, h2, _⟩, _⟩ := H.m2
  constructor
  · rintro rfl
    rw [H.blk] at h
    cases h
  · rintro rfl
    rw [H.blk] at h2
    cases h2
theorem TchG.put1 {rest : List Value} {ty : Nat} {w W W1 : World} {pb r q : Nat} {xs ys xs' : List Int} {D : DU} (H : TchG rest ty w W pb r q xs ys) (hm : W1.ownsMap Try.prog 2 RI r (xs.length + 1) D) (hc : Cnt D xs') (hl : xs'.length = xs.length + 1) (hg : W.grownBy W1 (some r)) : TchG rest ty w W1 pb r q xs' ys where
  below := H.below.grown hg H.below.size (fun j hj => by cases hj; exact H.ge.2.1)
  blk := blk_grown H.blk hg (fun e => by injection e with e; exact H.nb.1 e)
  m1 := ⟨D, by rw [hl]; exact hm, hc⟩
  m2 := by obtain ⟨D2, h, k⟩ := H.m2; exact ⟨D2, h.kept hg (fun e => by injection e with e; exact H.ne e.symm), k⟩
  ge := H.ge
  ne := H.ne
theorem TchG.put2 {rest : List Value} {ty : Nat} {w W W1 : World} {pb r q : Nat} {xs ys ys' : List Int} {D : DU} (H : TchG rest ty w W pb r q xs ys) (hm : W1.ownsMap Try.prog 2 RI q (ys.length + 1) D) (hc : Cnt D ys') (hl : ys'.length = ys.length + 1) (hg : W.grownBy W1 (some q)) : TchG rest ty w W1 pb r q xs ys' where
  below := H.below.grown hg H.below.size (fun j hj => by cases hj; exact H.ge.2.2)
  blk := blk_grown H.blk hg (fun e => by injection e with e; exact H.nb.2 e)
  m1 := by obtain ⟨D1, h, k⟩ := H.m1; exact ⟨D1, h.kept hg (fun e => by injection e with e; exact H.ne e), k⟩
  m2 := ⟨D, by rw [hl]; exact hm, hc⟩
  ge := H.ge
  ne := H.ne
set_option maxHeartbeats 4000000 in
theorem read_c {rest : List Value} {ty : Nat} {w W : World} {pb r q : Nat} {xs ys : List Int} (H : TchG rest ty w W pb r q xs ys) (a : Int) (h0 : -9223372036854775808 ≤ a) (h1 : a ≤ 9223372036854775807) (hl : xs.length ≤ 1000000) :
    Calls Try.prog 33 #[.pointer (some ⟨pb, 0, none⟩), .int .i64 a] W fun e w' => e = .returned (.tuple #[]) ∧ TchG rest ty w w' pb r q (xs ++ [a]) ys ∧ W.grownBy w' (some r) := by
  obtain ⟨D, hm, hc⟩ := H.m1
  have HH := Aside0.mk H
  have HM := Aside0.mk hm
  have HC := Aside0.mk hc
  have HL := Aside0.mk hl
  have hwf := wf64 h0 h1
  have hk0 : W.cell? ⟨pb, 0, none⟩ = some (.map (some r)) := (blk_cell H.blk 0).trans rfl
  have hkey : keyOf Try.prog 2 (.int .i64 a) = some (nk a) := nkey h0 h1
  obtain ⟨v, hlk⟩ : ∃ v : Int, (Instr.lookup 58 (.map (some r)) (.int .i64 a) false).run Try.prog W = .ok (.int .i64 v) W := by
    obtain ⟨v, hr, _, _⟩ := hm.lookup_int law2 Try.underlying58 Try.underlying3 (by kernel_rfl) hkey
    exact ⟨v, hr⟩
  have hwv : (Lit.int .i64 (wrap64 (v + 1))).wf = true := by
    have := wrap64_range (v + 1)
    exact wf64 this.1 (by omega)
  clear H hm hc hl
  go_enter Try.func33, Try.ntmps33
  go_wp2_with (first
    | (at_mapUpdate; refine wpList_mapUpdate_own _ rfl _ _ _ 58 rfl 2 3 law2 Try.underlying58 _ r xs.length _ rfl HM.out (by have := HL.out; unfold maxLen; omega) _ _ _ rfl rfl hkey _ [] (plainElem_int Try.underlying3 hwv) ?_; intro w2 hown2 hgrow2))
  go_end0
  exact ⟨rfl, HH.out.put1 hown2 (cnt_put HC.out a _) (by simp) hgrow2, hgrow2⟩
set_option maxHeartbeats 4000000 in
theorem wrote_c {rest : List Value} {ty : Nat} {w W : World} {pb r q : Nat} {xs ys : List Int} (H : TchG rest ty w W pb r q xs ys) (a : Int) (h0 : -9223372036854775808 ≤ a) (h1 : a ≤ 9223372036854775807) (hl : ys.length ≤ 1000000) :
    Calls Try.prog 34 #[.pointer (some ⟨pb, 0, none⟩), .int .i64 a] W fun e w' => e = .returned (.tuple #[]) ∧ TchG rest ty w w' pb r q xs (ys ++ [a]) ∧ W.grownBy w' (some q) := by
  obtain ⟨D, hm, hc⟩ := H.m2
  have HH := Aside0.mk H
  have HM := Aside0.mk hm
  have HC := Aside0.mk hc
  have HL := Aside0.mk hl
  have hwf := wf64 h0 h1
  have hk0 : W.cell? ⟨pb, 1, none⟩ = some (.map (some q)) := (blk_cell H.blk 1).trans rfl
  have hkey : keyOf Try.prog 2 (.int .i64 a) = some (nk a) := nkey h0 h1
  obtain ⟨v, hlk⟩ : ∃ v : Int, (Instr.lookup 58 (.map (some q)) (.int .i64 a) false).run Try.prog W = .ok (.int .i64 v) W := by
    obtain ⟨v, hr, _, _⟩ := hm.lookup_int law2 Try.underlying58 Try.underlying3 (by kernel_rfl) hkey
    exact ⟨v, hr⟩
  have hwv : (Lit.int .i64 (wrap64 (v + 1))).wf = true := by
    have := wrap64_range (v + 1)
    exact wf64 this.1 (by omega)
  clear H hm hc hl
  go_enter Try.func34, Try.ntmps34
  go_wp2_with (first
    | (at_mapUpdate; refine wpList_mapUpdate_own _ rfl _ _ _ 58 rfl 2 3 law2 Try.underlying58 _ q ys.length _ rfl HM.out (by have := HL.out; unfold maxLen; omega) _ _ _ rfl rfl hkey _ [] (plainElem_int Try.underlying3 hwv) ?_; intro w2 hown2 hgrow2))
  go_end0
  exact ⟨rfl, HH.out.put2 hown2 (cnt_put HC.out a _) (by simp) hgrow2, hgrow2⟩
end Go.Proofs.Ytkanhnhagjopkaa.M

