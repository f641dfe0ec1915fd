/-
  Texts of the proofs of ImageWrites, cut to what the proofs reach and packed by a program of this session (wip/packs.py). Each part begins with what it says; conditions: those told there.
-/
import Derived.Lib.SmallJoins
import Derived.Deep.Slices
import Derived.SizedLaws
import Derived.Test.YtimhcpmfhebbhaaDoorPWA6
import Derived.Test.YtimhcpmfhebbhaaDoorPWA15
namespace Go.Proofs.YtimhcpmfhebbhaaDoor.M
set_option maxRecDepth 100000
open Go.RowKit Go.Proofs.YtimhcpmfhebbhaaDoorW.PrintWords Go.Proofs.YtimhcpmfhebbhaaDoor.Num Go.Proofs.YtimhcpmfhebbhaaDoor.Flat
open Go.ChangeMaps (open_string shut_string)
open Go.ChangeShapes Go.WideShapes Go.Deep
set_option linter.unusedVariables false
set_option linter.unusedSimpArgs false
section
variable {H : Type} {enc : TypeId × Value → H} {P : Program} {W : World} {spare : Nat → Bool} {held : Bool}
/-- A slice whose elements are flat: what it reads as, and that its weight bounds it. -/
theorem open_row {α : Type} {k : Kd α} {Q : α → Prop} {t e : TypeId} {m n : Nat} {ls : List Leaf} {v : Value} {y : DataW H × List MemPlace} (ht : P.underlying t = some (.slice e)) (hL : leaves P m e = some ls) (hc : P.cellsOf e = k.sz)
 (mk : ∀ cs, AllOk ls cs → ∃ x, (∀ w, k.K w x cs) ∧ Q x) (h : DataW.trod enc P W 0 spare held n t [v] = some y) :
 ∃ A c l, v = .slice A l.length c ∧ k.C W A l.length l ∧ l.length ≤ c ∧ (∀ x ∈ l, Q x) ∧ ((∀ z ∈ y.1.weights P t, z ≤ reachBytes) → l.length * P.bytesOf e ≤ 140737488351232) := by
 rcases open_slice ht h with ⟨hcs, rfl⟩ | ⟨a, len, cap, mm, n', D, Pl, hcs, _, hl, hm, hmm, rfl, hx⟩
 ·obtain rfl : v = .slice none 0 0 := by simpa using hcs
  refine ⟨none, 0, [], rfl, ⟨rfl, by simp, fun h => absurd h (by simp)⟩, Nat.le_refl _, by simp, by simp⟩
 ·obtain rfl : v = .slice (some a) len cap := by simpa using hcs
  have hlm : len ≤ mm := by rw [hmm]; split <;> omega
  have key : ∀ i, i < len → ∃ x : α, ∃ cs, (∀ w, k.K w x cs) ∧ Q x ∧ W.cells? 0 (a.add (i * P.cellsOf e)) (P.cellsOf e) = some cs := by
   intro i hi
   obtain ⟨cs, h1, h2⟩ := hx i (by omega)
   obtain ⟨x, hK, hQ⟩ := mk cs (leaves_ok m e ls hL n' cs _ h2)
   exact ⟨x, cs, hK, hQ, h1⟩
  have key2 : ∃ l : List α, l.length = len ∧ ∀ i x, l[i]? = some x → ∃ cs, (∀ w, k.K w x cs) ∧ Q x ∧ W.cells? 0 (a.add (i * P.cellsOf e)) (P.cellsOf e) = some cs := by
   clear h hcs hmm hlm hx hl
   induction len with
   | zero => exact ⟨[], rfl, by simp⟩
   | succ j ih =>
    obtain ⟨l, hl, hr⟩ := ih (fun i hi => key i (by omega))
    obtain ⟨x, hx⟩ := key j (by omega)
    refine ⟨l ++ [x], by simp [hl], fun i z hz => ?_⟩
    by_cases hi : i < l.length
    ·rw [List.getElem?_append_left hi] at hz
     exact hr i z hz
    ·have hij : i = j := by
      have := (List.getElem?_eq_some_iff.1 hz).1
      simp at this
      omega
     subst hij
     rw [List.getElem?_append_right (by omega), hl] at hz
     simp at hz
     subst hz
     exact hx
  obtain ⟨l, hll, hr⟩ := key2
  refine ⟨some a, cap, l, by rw [hll], ⟨rfl, by unfold maxLen at hm; omega, fun _ => ⟨a, rfl, fun j p hj => ?_⟩⟩, by omega, ?_, ?_⟩
  ·obtain ⟨cs, hK, _, hcell⟩ := hr j p hj
   obtain ⟨_, hlen, hget⟩ := World.cells?_some hcell
   refine ⟨cs, by rw [hlen, hc], hK W, fun i u hu => ?_⟩
   have hi := (List.getElem?_eq_some_iff.1 hu).1
   have := hget i (by omega)
   rw [Go.Deep.add_add, hu, hc] at this
   exact this
  ·intro x hxm
   obtain ⟨i, hi, rfl⟩ := List.mem_iff_getElem.1 hxm
   obtain ⟨_, _, hQ, _⟩ := hr i _ (List.getElem?_eq_getElem hi)
   exact hQ
  ·intro hz
   have := hz ((((List.range len).map D).length + ((List.range (mm - len)).map fun j => D (len + j)).length) * P.bytesOf e) (by simp [DataW.weights, ht])
   simp only [List.length_map, List.length_range] at this
   rw [hll]
   exact Nat.le_trans (Nat.mul_le_mul_right _ (Nat.le_add_right _ _)) this
end
/-- An argument that is an image. -/
theorem open_img {H : Type} {enc : TypeId × Value → H} {W : World} {spare : Nat → Bool} {held : Bool} {r : Reach} {b0 : Nat} {v : Value} {d : DataW H} {p : List MemPlace} (hv : Value.okWide Tryd.prog W r b0 25 v) (h : DataW.Trod enc Tryd.prog W 0 spare held 25 v d p)
 (hz : ∀ z ∈ d.weights Tryd.prog 25, z ≤ reachBytes) : ∃ (s : ByteArray) (A1 : Option Addr) (c1 : Nat) (l1 : List Int) (A2 : Option Addr) (c2 : Nat) (l2 : List S68), v = .agg #[.string s, .slice A1 l1.length c1, .slice A2 l2.length c2] ∧ Kd.C (Kd.int .i64) W A1 l1.length l1 ∧ l1.length ≤ c1 ∧ Kd.C k68 W A2 l2.length l2 ∧ l2.length ≤ c2 ∧ wordsOk l1 ∧ l1.length * 8 ≤ 140737488351232 ∧ l2.length * 32 ≤ 140737488351232 := by
 obtain ⟨v0, v1, v2, y0, y1, y2, n, rfl, rfl, _, h0, h1, h2⟩ := Go.Joins.open_agg3 Tryd.underlying25 (by kernel_rfl) (by kernel_rfl) hv h
 obtain ⟨s, hs, _, _⟩ := DataW.trod_string Tryd.underlying9 h0
 obtain rfl : v0 = .string s := by simpa using hs
 have hw : ∀ z, z ∈ y1.1.weights Tryd.prog 22 ∨ z ∈ y2.1.weights Tryd.prog 23 → z ≤ reachBytes := by
  intro z hzz
  apply hz
  simp only [DataW.weights, Tryd.underlying25, DataW.weightsEach, List.map, List.mem_append]
  rcases hzz with h | h
  ·exact .inr (.inl h)
  ·exact .inr (.inr (.inl h))
 obtain ⟨A1, c1, l1, rfl, k1, m1, q1, b1⟩ := open_row (k := Kd.int .i64) (Q := fun x => -9223372036854775808 ≤ x ∧ x < 9223372036854775808) (m := 1) Tryd.underlying22 (e := 2) (ls := [.int .i64]) (by kernel_rfl) (by kernel_rfl) (fun cs hcs => by
  obtain ⟨v, vs, rfl, ⟨x, rfl, hx⟩, hr⟩ := hcs.cons
  obtain rfl := hr.nil
  exact ⟨x, fun _ => rfl, wf_i64 hx⟩) h1
 obtain ⟨A2, c2, l2, rfl, k2, m2, _, b2⟩ := open_row (k := k68) (Q := fun _ => True) (m := 2) Tryd.underlying23 (e := 68) (ls := [.str, .int .i64, .int .i64]) (by kernel_rfl) (by kernel_rfl) (fun cs hcs => by
  obtain ⟨u0, vs0, rfl, ⟨x0, rfl, _⟩, hr0⟩ := hcs.cons
  obtain ⟨u1, vs1, rfl, ⟨x1, rfl, _⟩, hr1⟩ := hr0.cons
  obtain ⟨u2, vs2, rfl, ⟨x2, rfl, _⟩, hr2⟩ := hr1.cons
  obtain rfl := hr2.nil
  exact ⟨⟨x0, x1, x2⟩, fun _ => ⟨_, _, rfl, rfl, ⟨_, _, rfl, rfl, rfl⟩⟩, trivial⟩) h2
 exact ⟨s, A1, c1, l1, A2, c2, l2, rfl, k1, m1, k2, m2, q1, b1 (fun z hzz => hw z (.inl hzz)), b2 (fun z hzz => hw z (.inr hzz))⟩
end Go.Proofs.YtimhcpmfhebbhaaDoor.M
