/-
  Texts of the proofs of MemEven, cut to what the proofs reach and packed by a program of this session (wip/packs.py). Each part begins with what it says; conditions: those told there.
-/
import Derived.Lib.SmallJoins
import Derived.Deep.Slices
import Derived.SizedLaws
import Derived.Test.YtkanhnhagjopkaaPEA5
import Derived.Test.YtkanhnhagjopkaaPEA8
/-
  Layer 2: arguments: footprints, regions, a case, calls, as the reader reads them. No condition.
-/
namespace Go.Proofs.Ytkanhnhagjopkaa.M
open Go.RowKit Go.Proofs.YtkanhnhagjopkaaW.PrintWords Go.Proofs.Ytkanhnhagjopkaa.Num Go.Proofs.Ytkanhnhagjopkaa.Flat
open Go.ChangeShapes Go.WideShapes Go.Deep
open Go.ChangeMaps (open_string shut_string)
set_option linter.unusedVariables false
set_option maxRecDepth 100000
set_option linter.unusedSimpArgs false
section
variable {H : Type} {enc : TypeId × Value → H} {P : Program} {W : World} {spare : Nat → Bool} {held : Bool}
theorem weights_all {e : TypeId} {d : DataW H} : ∀ {l : List (DataW H)}, d ∈ l → ∀ z ∈ d.weights P e, z ∈ DataW.weightsAll P e l
  | x :: l, h, z, hz => by
    simp only [DataW.weightsAll, List.mem_append]
    rcases List.mem_cons.1 h with rfl | h
    · exact .inl hz
    · exact .inr (weights_all h z hz)
/-- A slice: what its elements read as, and that its weight bounds it. -/
theorem open_rowG {α : Type} {k : Kd α} {Q : α → DataW H → Prop} {t e : TypeId} {n : Nat} {v : Value} {y : DataW H × List MemPlace} (ht : P.underlying t = some (.slice e)) (hc : P.cellsOf e = k.sz)
    (mk : ∀ n' cs z, cs.length = P.cellsOf e → DataW.trod enc P W 0 spare held n' e cs = some z → ∃ x, k.K W x cs ∧ Q x z.1) (h : DataW.trod enc P W 0 spare held n t [v] = some y) :
    ∃ A c l, v = .slice A l.length c ∧ k.C W A l.length l ∧ l.length ≤ c ∧ (∀ x ∈ l, ∃ d, Q x d ∧ ∀ z ∈ d.weights P e, z ∈ y.1.weights P t) ∧ ((∀ z ∈ y.1.weights P t, z ≤ reachBytes) → l.length * P.bytesOf e ≤ 140737488351232) := by
  rcases open_slice ht h with ⟨hcs, rfl⟩ | ⟨a, len, cap, mm, n', D, Pl, hcs, _, hl, hm, hmm, rfl, hx⟩
  · obtain rfl : v = .slice none 0 0 := by simpa using hcs
    refine ⟨none, 0, [], rfl, ⟨rfl, by simp, fun h => absurd h (by simp)⟩, Nat.le_refl _, by simp, by simp⟩
  · obtain rfl : v = .slice (some a) len cap := by simpa using hcs
    have hlm : len ≤ mm := by rw [hmm]; split <;> omega
    have key : ∀ i, i < len → ∃ x : α, ∃ cs, k.K W x cs ∧ Q x (D i) ∧ W.cells? 0 (a.add (i * P.cellsOf e)) (P.cellsOf e) = some cs := by
      intro i hi
      obtain ⟨cs, h1, h2⟩ := hx i (by omega)
      obtain ⟨_, hlen, _⟩ := World.cells?_some h1
      obtain ⟨x, hK, hQ⟩ := mk n' cs _ hlen h2
      exact ⟨x, cs, hK, hQ, h1⟩
    have key2 : ∃ l : List α, l.length = len ∧ ∀ i x, l[i]? = some x → ∃ cs, k.K W x cs ∧ Q x (D i) ∧ W.cells? 0 (a.add (i * P.cellsOf e)) (P.cellsOf e) = some cs := by
      clear h hcs hmm hlm hx hl
      induction len with
      | zero => exact ⟨[], rfl, by simp⟩
      | succ j ih =>
        obtain ⟨l, hl, hr⟩ := ih (fun i hi => key i (by omega))
        obtain ⟨x, hx⟩ := key j (by omega)
        refine ⟨l ++ [x], by simp [hl], fun i z hz => ?_⟩
        by_cases hi : i < l.length
        · rw [List.getElem?_append_left hi] at hz
          exact hr i z hz
        · have hij : i = j := by
            have := (List.getElem?_eq_some_iff.1 hz).1
            simp at this
            omega
          subst hij
          rw [List.getElem?_append_right (by omega), hl] at hz
          simp at hz
          subst hz
          exact hx
    obtain ⟨l, hll, hr⟩ := key2
    refine ⟨some a, cap, l, by rw [hll], ⟨rfl, by unfold maxLen at hm; omega, fun _ => ⟨a, rfl, fun j p hj => ?_⟩⟩, by omega, ?_, ?_⟩
    · obtain ⟨cs, hK, _, hcell⟩ := hr j p hj
      obtain ⟨_, hlen, hget⟩ := World.cells?_some hcell
      refine ⟨cs, by rw [hlen, hc], hK, fun i u hu => ?_⟩
      have hi := (List.getElem?_eq_some_iff.1 hu).1
      have := hget i (by omega)
      rw [Go.Deep.add_add, hu, hc] at this
      exact this
    · intro x hxm
      obtain ⟨i, hi, rfl⟩ := List.mem_iff_getElem.1 hxm
      obtain ⟨_, _, hQ, _⟩ := hr i _ (List.getElem?_eq_getElem hi)
      refine ⟨D i, hQ, fun z hz => ?_⟩
      simp only [DataW.weights, ht, List.mem_cons, List.mem_append]
      exact .inr (.inl (weights_all (List.mem_map.2 ⟨i, List.mem_range.2 (by omega), rfl⟩) z hz))
    · intro hz
      have := hz ((((List.range len).map D).length + ((List.range (mm - len)).map fun j => D (len + j)).length) * P.bytesOf e) (by simp [DataW.weights, ht])
      simp only [List.length_map, List.length_range] at this
      rw [hll]
      exact Nat.le_trans (Nat.mul_le_mul_right _ (Nat.le_add_right _ _)) this
end
section
variable {H : Type} {enc : TypeId × Value → H} {P : Program} {W : World} {spare : Nat → Bool} {held : Bool}
/-- A slice of numbers of 64 bits. -/
theorem open_ints {n : Nat} {v : Value} {y : DataW H × List MemPlace} (h : DataW.trod enc Try.prog W 0 spare held n 25 [v] = some y) :
    ∃ A c l, v = .slice A l.length c ∧ Kd.C (Kd.int .i64) W A l.length l ∧ l.length ≤ c ∧ (∀ x ∈ l, RG x) ∧ ((∀ z ∈ y.1.weights Try.prog 25, z ≤ reachBytes) → l.length * 8 ≤ 140737488351232) := by
  obtain ⟨A, c, l, hv, hC, hl, hq, hb⟩ := open_rowG (k := Kd.int .i64) (Q := fun x _ => RG x) Try.underlying25 (e := 2) (by kernel_rfl) (fun n' cs z _ hz => by
      obtain ⟨v, vs, rfl, ⟨x, rfl, hx⟩, hr⟩ := (leaves_ok 1 2 [.int .i64] (by kernel_rfl) n' cs _ hz).cons
      obtain rfl := hr.nil
      exact ⟨x, rfl, by have := wf_i64 hx; exact ⟨this.1, by omega⟩⟩) h
  exact ⟨A, c, l, hv, hC, hl, fun x hx => by obtain ⟨_, hq, _⟩ := hq x hx; exact hq, hb⟩
end
/-- A footprint. -/
def FootOk (x : S45) : Prop := (∀ n ∈ x.f0, RG n) ∧ (∀ n ∈ x.f1, RG n) ∧ x.f0.length * 8 ≤ 140737488351232 ∧ x.f1.length * 8 ≤ 140737488351232
theorem open_foot {H : Type} {enc : TypeId × Value → H} {W : World} {spare : Nat → Bool} {held : Bool} {r : Reach} {b0 : Nat} {v : Value} {d : DataW H} {p : List MemPlace} (hv : Value.okWide Try.prog W r b0 45 v) (h : DataW.Trod enc Try.prog W 0 spare held 45 v d p)
    (hz : ∀ z ∈ d.weights Try.prog 45, z ≤ reachBytes) : ∃ (A0 : Option Addr) (c0 : Nat) (l0 : List Int) (A1 : Option Addr) (c1 : Nat) (l1 : List Int), v = .agg #[.slice A0 l0.length c0, .slice A1 l1.length c1] ∧ Kd.C (Kd.int .i64) W A0 l0.length l0 ∧ l0.length ≤ c0 ∧ Kd.C (Kd.int .i64) W A1 l1.length l1 ∧ l1.length ≤ c1 ∧ FootOk ⟨l0, l1⟩ := by
  obtain ⟨v0, v1, y0, y1, n, rfl, rfl, _, h0, h1⟩ := Go.Joins.open_agg2 Try.underlying45 (by kernel_rfl) (by kernel_rfl) hv h
  obtain ⟨A0, c0, l0, rfl, k0, m0, q0, b0⟩ := open_ints h0
  obtain ⟨A1, c1, l1, rfl, k1, m1, q1, b1⟩ := open_ints h1
  have hw : ∀ q, q ∈ y0.1.weights Try.prog 25 ∨ q ∈ y1.1.weights Try.prog 25 → q ≤ reachBytes := by
    intro q hq
    apply hz
    simp only [DataW.weights, Try.underlying45, DataW.weightsEach, List.map, List.mem_append]
    rcases hq with h | h
    · exact .inl h
    · exact .inr (.inl h)
  exact ⟨A0, c0, l0, A1, c1, l1, rfl, k0, m0, k1, m1, q0, q1, b0 (fun q hq => hw q (.inl hq)), b1 (fun q hq => hw q (.inr hq))⟩
end Go.Proofs.Ytkanhnhagjopkaa.M

