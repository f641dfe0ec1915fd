/-
  Texts of the proofs of MemStays, MemWords, MemJoins, cut to what the proofs reach and packed by a program of this session (wip/packs.py). Each part begins with what it says; conditions: those told there.
-/
import Derived.Lib.SmallJoins
import Derived.Deep.Slices
import Derived.SizedLaws
import Derived.Test.YtkanhnhagjopkaaPSA6
import Derived.Test.YtkanhnhagjopkaaPSA7
/-
  Layer 2: arguments: footprints, regions, a case, calls, as the reader reads them. No condition.
-/
namespace Go.Proofs.Ytkanhnhagjopkaa.M
open Go.RowKit Go.Proofs.YtkanhnhagjopkaaW.PrintWords Go.Proofs.Ytkanhnhagjopkaa.Num Go.Proofs.Ytkanhnhagjopkaa.Flat
open Go.ChangeShapes Go.WideShapes Go.Deep
open Go.ChangeMaps (open_string shut_string)
set_option linter.unusedVariables false
set_option maxRecDepth 100000
set_option linter.unusedSimpArgs false
section
variable {H : Type} {enc : TypeId × Value → H} {P : Program} {W : World} {spare : Nat → Bool} {held : Bool}
theorem weights_all {e : TypeId} {d : DataW H} : ∀ {l : List (DataW H)}, d ∈ l → ∀ z ∈ d.weights P e, z ∈ DataW.weightsAll P e l
  | x :: l, h, z, hz => by
    simp only [DataW.weightsAll, List.mem_append]
    rcases List.mem_cons.1 h with rfl | h
    · exact .inl hz
    · exact .inr (weights_all h z hz)
/-- A slice: what its elements read as, and that its weight bounds it. -/
theorem open_rowG {α : Type} {k : Kd α} {Q : α → DataW H → Prop} {t e : TypeId} {n : Nat} {v : Value} {y : DataW H × List MemPlace} (ht : P.underlying t = some (.slice e)) (hc : P.cellsOf e = k.sz)
    (mk : ∀ n' cs z, cs.length = P.cellsOf e → DataW.trod enc P W 0 spare held n' e cs = some z → ∃ x, k.K W x cs ∧ Q x z.1) (h : DataW.trod enc P W 0 spare held n t [v] = some y) :
    ∃ A c l, v = .slice A l.length c ∧ k.C W A l.length l ∧ l.length ≤ c ∧ (∀ x ∈ l, ∃ d, Q x d ∧ ∀ z ∈ d.weights P e, z ∈ y.1.weights P t) ∧ ((∀ z ∈ y.1.weights P t, z ≤ reachBytes) → l.length * P.bytesOf e ≤ 140737488351232) := by
  rcases open_slice ht h with ⟨hcs, rfl⟩ | ⟨a, len, cap, mm, n', D, Pl, hcs, _, hl, hm, hmm, rfl, hx⟩
  · obtain rfl : v = .slice none 0 0 := by simpa using hcs
    refine ⟨none, 0, [], rfl, ⟨rfl, by simp, fun h => absurd h (by simp)⟩, Nat.le_refl _, by simp, by simp⟩
  · obtain rfl : v = .slice (some a) len cap := by simpa using hcs
    have hlm : len ≤ mm := by rw [hmm]; split <;> omega
    have key : ∀ i, i < len → ∃ x : α, ∃ cs, k.K W x cs ∧ Q x (D i) ∧ W.cells? 0 (a.add (i * P.cellsOf e)) (P.cellsOf e) = some cs := by
      intro i hi
      obtain ⟨cs, h1, h2⟩ := hx i (by omega)
      obtain ⟨_, hlen, _⟩ := World.cells?_some h1
      obtain ⟨x, hK, hQ⟩ := mk n' cs _ hlen h2
      exact ⟨x, cs, hK, hQ, h1⟩
    have key2 : ∃ l : List α, l.length = len ∧ ∀ i x, l[i]? = some x → ∃ cs, k.K W x cs ∧ Q x (D i) ∧ W.cells? 0 (a.add (i * P.cellsOf e)) (P.cellsOf e) = some cs := by
      clear h hcs hmm hlm hx hl
      induction len with
      | zero => exact ⟨[], rfl, by simp⟩
      | succ j ih =>
        obtain ⟨l, hl, hr⟩ := ih (fun i hi => key i (by omega))
        obtain ⟨x, hx⟩ := key j (by omega)
        refine ⟨l ++ [x], by simp [hl], fun i z hz => ?_⟩
        by_cases hi : i < l.length
        · rw [List.getElem?_append_left hi] at hz
          exact hr i z hz
        · have hij : i = j := by
            have := (List.getElem?_eq_some_iff.1 hz).1
            simp at this
            omega
          subst hij
          rw [List.getElem?_append_right (by omega), hl] at hz
          simp at hz
          subst hz
          exact hx
    obtain ⟨l, hll, hr⟩ := key2
    refine ⟨some a, cap, l, by rw [hll], ⟨rfl, by unfold maxLen at hm; omega, fun _ => ⟨a, rfl, fun j p hj => ?_⟩⟩, by omega, ?_, ?_⟩
    · obtain ⟨cs, hK, _, hcell⟩ := hr j p hj
      obtain ⟨_, hlen, hget⟩ := World.cells?_some hcell
      refine ⟨cs, by rw [hlen, hc], hK, fun i u hu => ?_⟩
      have hi := (List.getElem?_eq_some_iff.1 hu).1
      have := hget i (by omega)
      rw [Go.Deep.add_add, hu, hc] at this
      exact this
    · intro x hxm
      obtain ⟨i, hi, rfl⟩ := List.mem_iff_getElem.1 hxm
      obtain ⟨_, _, hQ, _⟩ := hr i _ (List.getElem?_eq_getElem hi)
      refine ⟨D i, hQ, fun z hz => ?_⟩
      simp only [DataW.weights, ht, List.mem_cons, List.mem_append]
      exact .inr (.inl (weights_all (List.mem_map.2 ⟨i, List.mem_range.2 (by omega), rfl⟩) z hz))
    · intro hz
      have := hz ((((List.range len).map D).length + ((List.range (mm - len)).map fun j => D (len + j)).length) * P.bytesOf e) (by simp [DataW.weights, ht])
      simp only [List.length_map, List.length_range] at this
      rw [hll]
      exact Nat.le_trans (Nat.mul_le_mul_right _ (Nat.le_add_right _ _)) this
end
section
variable {H : Type} {enc : TypeId × Value → H} {P : Program} {W : World} {spare : Nat → Bool} {held : Bool}
/-- A slice of numbers of 64 bits. -/
theorem open_ints {n : Nat} {v : Value} {y : DataW H × List MemPlace} (h : DataW.trod enc Try.prog W 0 spare held n 25 [v] = some y) :
    ∃ A c l, v = .slice A l.length c ∧ Kd.C (Kd.int .i64) W A l.length l ∧ l.length ≤ c ∧ (∀ x ∈ l, RG x) ∧ ((∀ z ∈ y.1.weights Try.prog 25, z ≤ reachBytes) → l.length * 8 ≤ 140737488351232) := by
  obtain ⟨A, c, l, hv, hC, hl, hq, hb⟩ := open_rowG (k := Kd.int .i64) (Q := fun x _ => RG x) Try.underlying25 (e := 2) (by kernel_rfl) (fun n' cs z _ hz => by
      obtain ⟨v, vs, rfl, ⟨x, rfl, hx⟩, hr⟩ := (leaves_ok 1 2 [.int .i64] (by kernel_rfl) n' cs _ hz).cons
      obtain rfl := hr.nil
      exact ⟨x, rfl, by have := wf_i64 hx; exact ⟨this.1, by omega⟩⟩) h
  exact ⟨A, c, l, hv, hC, hl, fun x hx => by obtain ⟨_, hq, _⟩ := hq x hx; exact hq, hb⟩
end
end Go.Proofs.Ytkanhnhagjopkaa.M

namespace Go.Proofs.Ytkanhnhagjopkaa.M
end Go.Proofs.Ytkanhnhagjopkaa.M
/-
  Layer 2: the contracts that MemJoins' printed walk asks for, and what the document's Join and Clash compute. Conditions: those told at each.
-/
set_option linter.unusedVariables false
namespace Go.Proofs.YtkanhnhagjopkaaW.PrintWords
open Go.RowKit
end Go.Proofs.YtkanhnhagjopkaaW.PrintWords
namespace Go.Proofs.Ytkanhnhagjopkaa.M
open Go.RowKit Go.Proofs.YtkanhnhagjopkaaW.PrintWords Go.Proofs.YtkanhnhagjopkaaW.PrintLast Go.Proofs.Ytkanhnhagjopkaa.Num
set_option linter.unusedVariables false
set_option linter.unusedSimpArgs false
instance (x : Int) : Decidable (RG x) := inferInstanceAs (Decidable (_ ∧ _))
end Go.Proofs.Ytkanhnhagjopkaa.M

namespace Go.Proofs.Ytkanhnhagjopkaa.M
end Go.Proofs.Ytkanhnhagjopkaa.M
namespace Go.Proofs.Ytkanhnhagjopkaa.M
end Go.Proofs.Ytkanhnhagjopkaa.M
namespace Go.Proofs.Ytkanhnhagjopkaa.M
end Go.Proofs.Ytkanhnhagjopkaa.M
