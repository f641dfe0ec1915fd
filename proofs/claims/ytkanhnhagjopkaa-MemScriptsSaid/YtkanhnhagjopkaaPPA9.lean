/-
  Texts of the proofs of MemScripts, cut to what the proofs reach and packed by a program of this session (wip/packs.py). Each part begins with what it says; conditions: those told there.
-/
import Derived.Lib.SmallJoins
import Derived.Deep.Slices
import Derived.SizedLaws
import Derived.Test.YtkanhnhagjopkaaPPA7
import Derived.Test.YtkanhnhagjopkaaPPA8
/-
  Layer 2: arguments: footprints, regions, a case, calls, as the reader reads them. No condition.
-/
namespace Go.Proofs.Ytkanhnhagjopkaa.M
open Go.RowKit Go.Proofs.YtkanhnhagjopkaaW.PrintWords Go.Proofs.Ytkanhnhagjopkaa.Num Go.Proofs.Ytkanhnhagjopkaa.Flat
open Go.ChangeShapes Go.WideShapes Go.Deep
open Go.ChangeMaps (open_string shut_string)
set_option linter.unusedVariables false
set_option maxRecDepth 100000
set_option linter.unusedSimpArgs false
section
variable {H : Type} {enc : TypeId × Value → H} {P : Program} {W : World} {spare : Nat → Bool} {held : Bool}
theorem weights_all {e : TypeId} {d : DataW H} : ∀ {l : List (DataW H)}, d ∈ l → ∀ z ∈ d.weights P e, z ∈ DataW.weightsAll P e l
  | x :: l, h, z, hz => by
    simp only [DataW.weightsAll, List.mem_append]
    rcases List.mem_cons.1 h with rfl | h
    · exact .inl hz
    · exact .inr (weights_all h z hz)
/-- A slice: what its elements read as, and that its weight bounds it. -/
theorem open_rowG {α : Type} {k : Kd α} {Q : α → DataW H → Prop} {t e : TypeId} {n : Nat} {v : Value} {y : DataW H × List MemPlace} (ht : P.underlying t = some (.slice e)) (hc : P.cellsOf e = k.sz)
    (mk : ∀ n' cs z, cs.length = P.cellsOf e → DataW.trod enc P W 0 spare held n' e cs = some z → ∃ x, k.K W x cs ∧ Q x z.1) (h : DataW.trod enc P W 0 spare held n t [v] = some y) :
    ∃ A c l, v = .slice A l.length c ∧ k.C W A l.length l ∧ l.length ≤ c ∧ (∀ x ∈ l, ∃ d, Q x d ∧ ∀ z ∈ d.weights P e, z ∈ y.1.weights P t) ∧ ((∀ z ∈ y.1.weights P t, z ≤ reachBytes) → l.length * P.bytesOf e ≤ 140737488351232) := by
  rcases open_slice ht h with ⟨hcs, rfl⟩ | ⟨a, len, cap, mm, n', D, Pl, hcs, _, hl, hm, hmm, rfl, hx⟩
  · obtain rfl : v = .slice none 0 0 := by simpa using hcs
    refine ⟨none, 0, [], rfl, ⟨rfl, by simp, fun h => absurd h (by simp)⟩, Nat.le_refl _, by simp, by simp⟩
  · obtain rfl : v = .slice (some a) len cap := by simpa using hcs
    have hlm : len ≤ mm := by rw [hmm]; split <;> omega
    have key : ∀ i, i < len → ∃ x : α, ∃ cs, k.K W x cs ∧ Q x (D i) ∧ W.cells? 0 (a.add (i * P.cellsOf e)) (P.cellsOf e) = some cs := by
      intro i hi
      obtain ⟨cs, h1, h2⟩ := hx i (by omega)
      obtain ⟨_, hlen, _⟩ := World.cells?_some h1
      obtain ⟨x, hK, hQ⟩ := mk n' cs _ hlen h2
      exact ⟨x, cs, hK, hQ, h1⟩
    have key2 : ∃ l : List α, l.length = len ∧ ∀ i x, l[i]? = some x → ∃ cs, k.K W x cs ∧ Q x (D i) ∧ W.cells? 0 (a.add (i * P.cellsOf e)) (P.cellsOf e) = some cs := by
      clear h hcs hmm hlm hx hl
      induction len with
      | zero => exact ⟨[], rfl, by simp⟩
      | succ j ih =>
        obtain ⟨l, hl, hr⟩ := ih (fun i hi => key i (by omega))
        obtain ⟨x, hx⟩ := key j (by omega)
        refine ⟨l ++ [x], by simp [hl], fun i z hz => ?_⟩
        by_cases hi : i < l.length
        · rw [List.getElem?_append_left hi] at hz
          exact hr i z hz
        · have hij : i = j := by
            have := (List.getElem?_eq_some_iff.1 hz).1
            simp at this
            omega
          subst hij
          rw [List.getElem?_append_right (by omega), hl] at hz
          simp at hz
          subst hz
          exact hx
    obtain ⟨l, hll, hr⟩ := key2
    refine ⟨some a, cap, l, by rw [hll], ⟨rfl, by unfold maxLen at hm; omega, fun _ => ⟨a, rfl, fun j p hj => ?_⟩⟩, by omega, ?_, ?_⟩
    · obtain ⟨cs, hK, _, hcell⟩ := hr j p hj
      obtain ⟨_, hlen, hget⟩ := World.cells?_some hcell
      refine ⟨cs, by rw [hlen, hc], hK, fun i u hu => ?_⟩
      have hi := (List.getElem?_eq_some_iff.1 hu).1
      have := hget i (by omega)
      rw [Go.Deep.add_add, hu, hc] at this
      exact this
    · intro x hxm
      obtain ⟨i, hi, rfl⟩ := List.mem_iff_getElem.1 hxm
      obtain ⟨_, _, hQ, _⟩ := hr i _ (List.getElem?_eq_getElem hi)
      refine ⟨D i, hQ, fun z hz => ?_⟩
      simp only [DataW.weights, ht, List.mem_cons, List.mem_append]
      exact .inr (.inl (weights_all (List.mem_map.2 ⟨i, List.mem_range.2 (by omega), rfl⟩) z hz))
    · intro hz
      have := hz ((((List.range len).map D).length + ((List.range (mm - len)).map fun j => D (len + j)).length) * P.bytesOf e) (by simp [DataW.weights, ht])
      simp only [List.length_map, List.length_range] at this
      rw [hll]
      exact Nat.le_trans (Nat.mul_le_mul_right _ (Nat.le_add_right _ _)) this
end
section
variable {H : Type} {enc : TypeId × Value → H} {P : Program} {W : World} {spare : Nat → Bool} {held : Bool}
theorem ts3 {t : TypeId} {f0 f1 f2 : Field} {fuel : Nat} {cs : List Value} {x : DataW H × List MemPlace} (ht : P.underlying t = some (.struct #[f0, f1, f2])) (h : DataW.trod enc P W 0 spare held fuel t cs = some x) :
    ∃ y0 y1 y2 n, x = (.agg [y0.1, y1.1, y2.1], y0.2 ++ (y1.2 ++ y2.2)) ∧ DataW.trod enc P W 0 spare held n f0.type ((cs.drop f0.offset).take (P.cellsOf f0.type)) = some y0 ∧ DataW.trod enc P W 0 spare held n f1.type ((cs.drop f1.offset).take (P.cellsOf f1.type)) = some y1 ∧ DataW.trod enc P W 0 spare held n f2.type ((cs.drop f2.offset).take (P.cellsOf f2.type)) = some y2 := by
  obtain ⟨xs, n, _, rfl, hl, hlen, hf⟩ := DataW.trod_struct ht h
  match xs, hlen with
  | [y0, y1, y2], _ => exact ⟨y0, y1, y2, n, by simp, by simpa using hf 0 f0 rfl, by simpa using hf 1 f1 rfl, by simpa using hf 2 f2 rfl⟩
/-- A slice of numbers of 64 bits. -/
theorem open_ints {n : Nat} {v : Value} {y : DataW H × List MemPlace} (h : DataW.trod enc Try.prog W 0 spare held n 25 [v] = some y) :
    ∃ A c l, v = .slice A l.length c ∧ Kd.C (Kd.int .i64) W A l.length l ∧ l.length ≤ c ∧ (∀ x ∈ l, RG x) ∧ ((∀ z ∈ y.1.weights Try.prog 25, z ≤ reachBytes) → l.length * 8 ≤ 140737488351232) := by
  obtain ⟨A, c, l, hv, hC, hl, hq, hb⟩ := open_rowG (k := Kd.int .i64) (Q := fun x _ => RG x) Try.underlying25 (e := 2) (by kernel_rfl) (fun n' cs z _ hz => by
      obtain ⟨v, vs, rfl, ⟨x, rfl, hx⟩, hr⟩ := (leaves_ok 1 2 [.int .i64] (by kernel_rfl) n' cs _ hz).cons
      obtain rfl := hr.nil
      exact ⟨x, rfl, by have := wf_i64 hx; exact ⟨this.1, by omega⟩⟩) h
  exact ⟨A, c, l, hv, hC, hl, fun x hx => by obtain ⟨_, hq, _⟩ := hq x hx; exact hq, hb⟩
end
/-- A region. -/
def RegOk (x : S27) : Prop := RG x.f0 ∧ (∀ n ∈ x.f1, RG n) ∧ x.f1.length * 8 ≤ 140737488351232
theorem open_regK {H : Type} {enc : TypeId × Value → H} {W : World} {spare : Nat → Bool} {held : Bool} (n : Nat) (cs : List Value) (z : DataW H × List MemPlace) (hlen : cs.length = Try.prog.cellsOf 27) (h : DataW.trod enc Try.prog W 0 spare held n 27 cs = some z) :
    ∃ x : S27, k27.K W x cs ∧ ((∀ q ∈ z.1.weights Try.prog 27, q ≤ reachBytes) → RegOk x) := by
  obtain ⟨y0, y1, y2, n', hx, h0, h1, h2⟩ := ts3 Try.underlying27 h
  have hl3 : cs.length = 3 := hlen.trans (by kernel_rfl)
  match cs, hl3 with
  | [v0, v1, v2], _ =>
    have c2 : Try.prog.cellsOf 2 = 1 := by kernel_rfl
    have c4 : Try.prog.cellsOf 4 = 1 := by kernel_rfl
    have c25 : Try.prog.cellsOf 25 = 1 := by kernel_rfl
    simp only [c2, c4, c25, List.drop_zero, List.drop_succ_cons, List.take_succ_cons, List.take_zero] at h0 h1 h2
    obtain ⟨_, _, e0, ⟨x0, rfl, hx0⟩, hr0⟩ := (leaves_ok 1 2 [.int .i64] (by kernel_rfl) n' _ _ h0).cons
    obtain ⟨A1, c1, l1, rfl, k1, m1, q1, b1⟩ := open_ints h1
    obtain ⟨_, _, e2, ⟨x2, rfl⟩, hr2⟩ := (leaves_ok 1 4 [.bool] (by kernel_rfl) n' _ _ h2).cons
    simp only [List.cons.injEq] at e0 e2
    obtain ⟨rfl, _⟩ := e0
    obtain ⟨rfl, _⟩ := e2
    refine ⟨⟨x0, l1, x2⟩, k27_mk W ⟨x0, l1, x2⟩ m1 k1, fun hz => ?_⟩
    refine ⟨by have := wf_i64 hx0; exact ⟨this.1, by dsimp only; omega⟩, q1, b1 (fun q hq => ?_)⟩
    apply hz
    rw [hx]
    simp only [DataW.weights, Try.underlying27, DataW.weightsEach, List.map, List.mem_append]
    exact .inr (.inl hq)
theorem open_regs {H : Type} {enc : TypeId × Value → H} {W : World} {spare : Nat → Bool} {held : Bool} {n : Nat} {v : Value} {y : DataW H × List MemPlace} (h : DataW.trod enc Try.prog W 0 spare held n 22 [v] = some y)
    (hz : ∀ z ∈ y.1.weights Try.prog 22, z ≤ reachBytes) : ∃ A c l0, v = .slice A l0.length c ∧ Kd.C k27 W A l0.length l0 ∧ l0.length ≤ c ∧ l0.length * 40 ≤ 140737488351232 ∧ ∀ x ∈ l0, RegOk x := by
  obtain ⟨A, c, l0, hv, hC, hl, hq, hb⟩ := open_rowG (k := k27) (Q := fun (x : S27) d => (∀ q ∈ d.weights Try.prog 27, q ≤ reachBytes) → RegOk x) Try.underlying22 (e := 27) (by kernel_rfl) open_regK h
  refine ⟨A, c, l0, hv, hC, hl, hb hz, fun x hx => ?_⟩
  obtain ⟨d', hQ, hw⟩ := hq x hx
  exact hQ (fun q hq => hz q (hw q hq))
theorem open_regions {H : Type} {enc : TypeId × Value → H} {W : World} {spare : Nat → Bool} {held : Bool} {r : Reach} {b0 : Nat} {v : Value} {d : DataW H} {p : List MemPlace} (hv : Value.okWide Try.prog W r b0 22 v) (h : DataW.Trod enc Try.prog W 0 spare held 22 v d p)
    (hz : ∀ z ∈ d.weights Try.prog 22, z ≤ reachBytes) : ∃ A c l0, v = .slice A l0.length c ∧ Kd.C k27 W A l0.length l0 ∧ l0.length ≤ c ∧ l0.length * 40 ≤ 140737488351232 ∧ ∀ x ∈ l0, RegOk x := by
  obtain ⟨a, len, cap, rfl⟩ := okWide_slice Try.underlying22 hv
  obtain ⟨fuel, hf⟩ := h
  have hf' : DataW.trod enc Try.prog W 0 spare held fuel 22 [.slice a len cap] = some (d, p) := by simpa [Value.cells] using hf
  exact open_regs hf' hz
end Go.Proofs.Ytkanhnhagjopkaa.M

/-
  Layer 2: an argument that is a list of calls, as the reader reads it. No condition.
-/
namespace Go.Proofs.Ytkanhnhagjopkaa.M
open Go.RowKit Go.Proofs.YtkanhnhagjopkaaW.PrintWords Go.Proofs.Ytkanhnhagjopkaa.Num Go.Proofs.Ytkanhnhagjopkaa.Flat
open Go.ChangeShapes Go.WideShapes Go.Deep
set_option linter.unusedVariables false
set_option maxRecDepth 100000
theorem open_ops {H : Type} {enc : TypeId × Value → H} {W : World} {spare : Nat → Bool} {held : Bool} {r : Reach} {b0 : Nat} {v : Value} {d : DataW H} {p : List MemPlace} (hv : Value.okWide Try.prog W r b0 37 v) (h : DataW.Trod enc Try.prog W 0 spare held 37 v d p)
    (hz : ∀ z ∈ d.weights Try.prog 37, z ≤ reachBytes) : ∃ A c l0, v = .slice A l0.length c ∧ Kd.C k43 W A l0.length l0 ∧ l0.length ≤ c ∧ l0.length * 24 ≤ 140737488351232 ∧ ∀ x ∈ l0, RG x.f0 ∧ RG x.f1 ∧ RG x.f2 := by
  obtain ⟨a, len, cap, rfl⟩ := okWide_slice Try.underlying37 hv
  obtain ⟨fuel, hf⟩ := h
  have hf' : DataW.trod enc Try.prog W 0 spare held fuel 37 [.slice a len cap] = some (d, p) := by simpa [Value.cells] using hf
  have g : ∀ {x : Int}, (Lit.int .i64 x).wf = true → RG x := fun hx => by have := wf_i64 hx; exact ⟨this.1, by omega⟩
  obtain ⟨A, c, l0, hv, hC, hl, hq, hb⟩ := open_rowG (k := k43) (Q := fun (x : S43) d => RG x.f0 ∧ RG x.f1 ∧ RG x.f2) Try.underlying37 (e := 43) (by kernel_rfl) (fun n' cs z _ hz => by
      obtain ⟨u0, vs0, rfl, ⟨x0, rfl, h0⟩, hr0⟩ := (leaves_ok 2 43 [.int .i64, .int .i64, .int .i64] (by kernel_rfl) n' cs _ hz).cons
      obtain ⟨u1, vs1, rfl, ⟨x1, rfl, h1⟩, hr1⟩ := hr0.cons
      obtain ⟨u2, vs2, rfl, ⟨x2, rfl, h2⟩, hr2⟩ := hr1.cons
      obtain rfl := hr2.nil
      exact ⟨⟨x0, x1, x2⟩, k43_mk W ⟨x0, x1, x2⟩, g h0, g h1, g h2⟩) hf'
  exact ⟨A, c, l0, hv, hC, hl, hb hz, fun x hx => by obtain ⟨_, hq, _⟩ := hq x hx; exact hq⟩
end Go.Proofs.Ytkanhnhagjopkaa.M

