/-
  Texts of the proofs of LinkLinks, cut to what the proofs reach and packed by a program of this session (wip/packs.py). Each part begins with what it says; conditions: those told there.
-/
import Derived.Lib.SmallJoins
import Derived.Deep.Slices
import Derived.SizedLaws
import Derived.Test.YteaealmnmmcbpaaPJA4
import Derived.Test.YteaealmnmmcbpaaPJA12
/-
  Layer 7: an argument that is a list of objects, as the reader reads it. No condition.
-/
namespace Go.Proofs.Yteaealmnmmcbpaa.M
open Go.RowKit Go.Proofs.YteaealmnmmcbpaaW.PrintWords Go.Proofs.Yteaealmnmmcbpaa.Num Go.Proofs.Yteaealmnmmcbpaa.Flat
open Go.ChangeShapes Go.WideShapes Go.Deep
open Go.ChangeMaps (open_string shut_string)
set_option linter.unusedVariables false
set_option linter.unusedSimpArgs false
section
variable {H : Type} {enc : TypeId × Value → H} {P : Program} {W : World} {spare : Nat → Bool} {held : Bool}
theorem weights_all {e : TypeId} {d : DataW H} : ∀ {l : List (DataW H)}, d ∈ l → ∀ z ∈ d.weights P e, z ∈ DataW.weightsAll P e l
  | x :: l, h, z, hz => by
    simp only [DataW.weightsAll, List.mem_append]
    rcases List.mem_cons.1 h with rfl | h
    · exact .inl hz
    · exact .inr (weights_all h z hz)
/-- A slice: what its elements read as, and that its weight bounds it. -/
theorem open_rowG {α : Type} {k : Kd α} {Q : α → DataW H → Prop} {t e : TypeId} {n : Nat} {v : Value} {y : DataW H × List MemPlace} (ht : P.underlying t = some (.slice e)) (hc : P.cellsOf e = k.sz)
    (mk : ∀ n' cs z, cs.length = P.cellsOf e → DataW.trod enc P W 0 spare held n' e cs = some z → ∃ x, k.K W x cs ∧ Q x z.1) (h : DataW.trod enc P W 0 spare held n t [v] = some y) :
    ∃ A c l, v = .slice A l.length c ∧ k.C W A l.length l ∧ l.length ≤ c ∧ (∀ x ∈ l, ∃ d, Q x d ∧ ∀ z ∈ d.weights P e, z ∈ y.1.weights P t) ∧ ((∀ z ∈ y.1.weights P t, z ≤ reachBytes) → l.length * P.bytesOf e ≤ 140737488351232) := by
  rcases open_slice ht h with ⟨hcs, rfl⟩ | ⟨a, len, cap, mm, n', D, Pl, hcs, _, hl, hm, hmm, rfl, hx⟩
  · obtain rfl : v = .slice none 0 0 := by simpa using hcs
    refine ⟨none, 0, [], rfl, ⟨rfl, by simp, fun h => absurd h (by simp)⟩, Nat.le_refl _, by simp, by simp⟩
  · obtain rfl : v = .slice (some a) len cap := by simpa using hcs
    have hlm : len ≤ mm := by rw [hmm]; split <;> omega
    have key : ∀ i, i < len → ∃ x : α, ∃ cs, k.K W x cs ∧ Q x (D i) ∧ W.cells? 0 (a.add (i * P.cellsOf e)) (P.cellsOf e) = some cs := by
      intro i hi
      obtain ⟨cs, h1, h2⟩ := hx i (by omega)
      obtain ⟨_, hlen, _⟩ := World.cells?_some h1
      obtain ⟨x, hK, hQ⟩ := mk n' cs _ hlen h2
      exact ⟨x, cs, hK, hQ, h1⟩
    have key2 : ∃ l : List α, l.length = len ∧ ∀ i x, l[i]? = some x → ∃ cs, k.K W x cs ∧ Q x (D i) ∧ W.cells? 0 (a.add (i * P.cellsOf e)) (P.cellsOf e) = some cs := by
      clear h hcs hmm hlm hx hl
      induction len with
      | zero => exact ⟨[], rfl, by simp⟩
      | succ j ih =>
        obtain ⟨l, hl, hr⟩ := ih (fun i hi => key i (by omega))
        obtain ⟨x, hx⟩ := key j (by omega)
        refine ⟨l ++ [x], by simp [hl], fun i z hz => ?_⟩
        by_cases hi : i < l.length
        · rw [List.getElem?_append_left hi] at hz
          exact hr i z hz
        · have hij : i = j := by
            have := (List.getElem?_eq_some_iff.1 hz).1
            simp at this
            omega
          subst hij
          rw [List.getElem?_append_right (by omega), hl] at hz
          simp at hz
          subst hz
          exact hx
    obtain ⟨l, hll, hr⟩ := key2
    refine ⟨some a, cap, l, by rw [hll], ⟨rfl, by unfold maxLen at hm; omega, fun _ => ⟨a, rfl, fun j p hj => ?_⟩⟩, by omega, ?_, ?_⟩
    · obtain ⟨cs, hK, _, hcell⟩ := hr j p hj
      obtain ⟨_, hlen, hget⟩ := World.cells?_some hcell
      refine ⟨cs, by rw [hlen, hc], hK, fun i u hu => ?_⟩
      have hi := (List.getElem?_eq_some_iff.1 hu).1
      have := hget i (by omega)
      rw [Go.Deep.add_add, hu, hc] at this
      exact this
    · intro x hxm
      obtain ⟨i, hi, rfl⟩ := List.mem_iff_getElem.1 hxm
      obtain ⟨_, _, hQ, _⟩ := hr i _ (List.getElem?_eq_getElem hi)
      refine ⟨D i, hQ, fun z hz => ?_⟩
      simp only [DataW.weights, ht, List.mem_cons, List.mem_append]
      exact .inr (.inl (weights_all (List.mem_map.2 ⟨i, List.mem_range.2 (by omega), rfl⟩) z hz))
    · intro hz
      have := hz ((((List.range len).map D).length + ((List.range (mm - len)).map fun j => D (len + j)).length) * P.bytesOf e) (by simp [DataW.weights, ht])
      simp only [List.length_map, List.length_range] at this
      rw [hll]
      exact Nat.le_trans (Nat.mul_le_mul_right _ (Nat.le_add_right _ _)) this
end
/-- An object among the elements of a list. -/
theorem open_objK {H : Type} {enc : TypeId × Value → H} {W : World} {spare : Nat → Bool} {held : Bool} (n : Nat) (cs : List Value) (z : DataW H × List MemPlace) (hlen : cs.length = Try.prog.cellsOf 40) (h : DataW.trod enc Try.prog W 0 spare held n 40 cs = some z) :
    ∃ x : S40, (k40).K W x cs ∧ ((∀ q ∈ z.1.weights Try.prog 40, q ≤ reachBytes) → (∀ n ∈ x.f1, -9223372036854775808 ≤ n ∧ n < 9223372036854775808) ∧ x.f1.length * 8 ≤ 140737488351232 ∧ x.f2.length * 32 ≤ 140737488351232 ∧ x.f3.length * 40 ≤ 140737488351232) := by
  obtain ⟨y0, y1, y2, y3, n', hx, _, h0, h1, h2, h3⟩ := Go.Joins.trod_struct4 Try.underlying40 h
  have hl4 : cs.length = 4 := hlen.trans (by kernel_rfl)
  match cs, hl4 with
  | [v0, v1, v2, v3], _ =>
    have c9 : Try.prog.cellsOf 9 = 1 := by kernel_rfl
    have c26 : Try.prog.cellsOf 26 = 1 := by kernel_rfl
    have c27 : Try.prog.cellsOf 27 = 1 := by kernel_rfl
    have c38 : Try.prog.cellsOf 38 = 1 := by kernel_rfl
    simp only [c9, c26, c27, c38, List.drop_zero, List.drop_succ_cons, List.take_succ_cons, List.take_zero] at h0 h1 h2 h3
    obtain ⟨s, hs, _, _⟩ := DataW.trod_string Try.underlying9 h0
    obtain rfl : v0 = .string s := by simpa using hs
    obtain ⟨A1, c1, l1, rfl, k1, m1, q1, b1⟩ := open_rowG (k := Kd.int .i64) (Q := fun x _ => -9223372036854775808 ≤ x ∧ x < 9223372036854775808) Try.underlying26 (e := 2) (by kernel_rfl) (fun n' cs z _ hz => by
      obtain ⟨v, vs, rfl, ⟨x, rfl, hx⟩, hr⟩ := (leaves_ok 1 2 [.int .i64] (by kernel_rfl) n' cs _ hz).cons
      obtain rfl := hr.nil
      exact ⟨x, rfl, wf_i64 hx⟩) h1
    obtain ⟨A2, c2, l2, rfl, k2, m2, _, b2⟩ := open_rowG (k := k36) (Q := fun _ _ => True) Try.underlying27 (e := 36) (by kernel_rfl) (fun n' cs z _ hz => by
      obtain ⟨u0, vs0, rfl, ⟨x0, rfl, _⟩, hr0⟩ := (leaves_ok 2 36 [.str, .int .i64, .int .i64] (by kernel_rfl) n' cs _ hz).cons
      obtain ⟨u1, vs1, rfl, ⟨x1, rfl, _⟩, hr1⟩ := hr0.cons
      obtain ⟨u2, vs2, rfl, ⟨x2, rfl, _⟩, hr2⟩ := hr1.cons
      obtain rfl := hr2.nil
      exact ⟨⟨x0, x1, x2⟩, ⟨_, _, rfl, rfl, ⟨_, _, rfl, rfl, rfl⟩⟩, trivial⟩) h2
    obtain ⟨A3, c3, l3, rfl, k3, m3, _, b3⟩ := open_rowG (k := k45) (Q := fun _ _ => True) Try.underlying38 (e := 45) (by kernel_rfl) (fun n' cs z _ hz => by
      obtain ⟨u0, vs0, rfl, ⟨x0, rfl, _⟩, hr0⟩ := (leaves_ok 2 45 [.int .i64, .int .i64, .str, .int .i64] (by kernel_rfl) n' cs _ hz).cons
      obtain ⟨u1, vs1, rfl, ⟨x1, rfl, _⟩, hr1⟩ := hr0.cons
      obtain ⟨u2, vs2, rfl, ⟨x2, rfl, _⟩, hr2⟩ := hr1.cons
      obtain ⟨u3, vs3, rfl, ⟨x3, rfl, _⟩, hr3⟩ := hr2.cons
      obtain rfl := hr3.nil
      exact ⟨⟨x0, x1, x2, x3⟩, ⟨_, _, rfl, rfl, ⟨_, _, rfl, rfl, ⟨_, _, rfl, rfl, rfl⟩⟩⟩, trivial⟩) h3
    refine ⟨⟨s, l1, l2, l3⟩, ⟨[_], [_, _, _], rfl, rfl, ⟨[_], [_, _], rfl, ⟨A1, c1, rfl, m1, k1⟩, ⟨[_], [_], rfl, ⟨A2, c2, rfl, m2, k2⟩, ⟨A3, c3, rfl, m3, k3⟩⟩⟩⟩, fun hz => ?_⟩
    have hw : ∀ q, q ∈ y1.1.weights Try.prog 26 ∨ q ∈ y2.1.weights Try.prog 27 ∨ q ∈ y3.1.weights Try.prog 38 → q ≤ reachBytes := by
      intro q hq
      apply hz
      rw [hx]
      simp only [DataW.weights, Try.underlying40, DataW.weightsEach, List.map, List.mem_append]
      rcases hq with h | h | h
      · exact .inr (.inl h)
      · exact .inr (.inr (.inl h))
      · exact .inr (.inr (.inr (.inl h)))
    exact ⟨fun n hn => by obtain ⟨_, hq, _⟩ := q1 n hn; exact hq, b1 (fun q hq => hw q (.inl hq)), b2 (fun q hq => hw q (.inr (.inl hq))), b3 (fun q hq => hw q (.inr (.inr hq)))⟩
/-- An argument that is a list of objects. -/
theorem open_objs {H : Type} {enc : TypeId × Value → H} {W : World} {spare : Nat → Bool} {held : Bool} {r : Reach} {b0 : Nat} {v : Value} {d : DataW H} {p : List MemPlace} (hv : Value.okWide Try.prog W r b0 22 v) (h : DataW.Trod enc Try.prog W 0 spare held 22 v d p)
    (hz : ∀ z ∈ d.weights Try.prog 22, z ≤ reachBytes) : ∃ A c l0, v = .slice A l0.length c ∧ Kd.C k40 W A l0.length l0 ∧ l0.length ≤ c ∧ l0.length * 88 ≤ 140737488351232 ∧
      ∀ x ∈ l0, (∀ n ∈ x.f1, -9223372036854775808 ≤ n ∧ n < 9223372036854775808) ∧ x.f1.length * 8 ≤ 140737488351232 ∧ x.f2.length * 32 ≤ 140737488351232 ∧ x.f3.length * 40 ≤ 140737488351232 := by
  obtain ⟨a, len, cap, rfl⟩ := okWide_slice Try.underlying22 hv
  obtain ⟨fuel, hf⟩ := h
  have hf' : DataW.trod enc Try.prog W 0 spare held fuel 22 [.slice a len cap] = some (d, p) := by simpa [Value.cells] using hf
  obtain ⟨A, c, l0, hv, hC, hl, hq, hb⟩ := open_rowG (k := k40) (Q := fun (x : S40) d => (∀ q ∈ d.weights Try.prog 40, q ≤ reachBytes) → (∀ n ∈ x.f1, -9223372036854775808 ≤ n ∧ n < 9223372036854775808) ∧ x.f1.length * 8 ≤ 140737488351232 ∧ x.f2.length * 32 ≤ 140737488351232 ∧ x.f3.length * 40 ≤ 140737488351232) Try.underlying22 (e := 40) (by kernel_rfl) open_objK hf'
  refine ⟨A, c, l0, hv, hC, hl, hb hz, fun x hx => ?_⟩
  obtain ⟨d', hQ, hw⟩ := hq x hx
  exact hQ (fun q hq => hz q (hw q hq))
end Go.Proofs.Yteaealmnmmcbpaa.M

