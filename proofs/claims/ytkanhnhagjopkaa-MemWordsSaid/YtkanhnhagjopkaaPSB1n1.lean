/-
  Texts of the proofs of MemStays, MemWords, cut to what the proofs reach and packed by a program of this session (wip/packs.py). Each part begins with what it says; conditions: those told there.
-/
import Derived.Test.YtkanhnhagjopkaaPSA8
/-
  Layer 2: MemStays: plain, and the walk. Conditions: lengths that any memory can hold, numbers of 64 bits.
-/
namespace Go.Proofs.Ytkanhnhagjopkaa.M
open Go.RowKit Go.Proofs.YtkanhnhagjopkaaW.PrintWords Go.Proofs.YtkanhnhagjopkaaW.PrintLast Go.Proofs.Ytkanhnhagjopkaa.Num
set_option linter.unusedVariables false
set_option linter.unusedSimpArgs false
theorem newOk_good {l : List S27} (h : newOk l = true) : (∀ o ∈ l, goodR o) ∧ l.length ≤ 16 := by
  unfold newOk at h
  simp only [Bool.and_eq_true, decide_eq_true_eq] at h
  exact ⟨mayF_good l [] h.2, h.1⟩
end Go.Proofs.Ytkanhnhagjopkaa.M

/-
  Layer 2: arguments: footprints, regions, a case, calls, as the reader reads them. No condition.
-/
namespace Go.Proofs.Ytkanhnhagjopkaa.M
open Go.RowKit Go.Proofs.YtkanhnhagjopkaaW.PrintWords Go.Proofs.Ytkanhnhagjopkaa.Num Go.Proofs.Ytkanhnhagjopkaa.Flat
open Go.ChangeShapes Go.WideShapes Go.Deep
open Go.ChangeMaps (open_string shut_string)
set_option linter.unusedVariables false
set_option maxRecDepth 100000
set_option linter.unusedSimpArgs false
section
variable {H : Type} {enc : TypeId × Value → H} {P : Program} {W : World} {spare : Nat → Bool} {held : Bool}
end
section
variable {H : Type} {enc : TypeId × Value → H} {P : Program} {W : World} {spare : Nat → Bool} {held : Bool}
theorem ts3 {t : TypeId} {f0 f1 f2 : Field} {fuel : Nat} {cs : List Value} {x : DataW H × List MemPlace} (ht : P.underlying t = some (.struct #[f0, f1, f2])) (h : DataW.trod enc P W 0 spare held fuel t cs = some x) :
    ∃ y0 y1 y2 n, x = (.agg [y0.1, y1.1, y2.1], y0.2 ++ (y1.2 ++ y2.2)) ∧ DataW.trod enc P W 0 spare held n f0.type ((cs.drop f0.offset).take (P.cellsOf f0.type)) = some y0 ∧ DataW.trod enc P W 0 spare held n f1.type ((cs.drop f1.offset).take (P.cellsOf f1.type)) = some y1 ∧ DataW.trod enc P W 0 spare held n f2.type ((cs.drop f2.offset).take (P.cellsOf f2.type)) = some y2 := by
  obtain ⟨xs, n, _, rfl, hl, hlen, hf⟩ := DataW.trod_struct ht h
  match xs, hlen with
  | [y0, y1, y2], _ => exact ⟨y0, y1, y2, n, by simp, by simpa using hf 0 f0 rfl, by simpa using hf 1 f1 rfl, by simpa using hf 2 f2 rfl⟩
end
/-- A region. -/
def RegOk (x : S27) : Prop := RG x.f0 ∧ (∀ n ∈ x.f1, RG n) ∧ x.f1.length * 8 ≤ 140737488351232
theorem open_regK {H : Type} {enc : TypeId × Value → H} {W : World} {spare : Nat → Bool} {held : Bool} (n : Nat) (cs : List Value) (z : DataW H × List MemPlace) (hlen : cs.length = Try.prog.cellsOf 27) (h : DataW.trod enc Try.prog W 0 spare held n 27 cs = some z) :
    ∃ x : S27, k27.K W x cs ∧ ((∀ q ∈ z.1.weights Try.prog 27, q ≤ reachBytes) → RegOk x) := by
  obtain ⟨y0, y1, y2, n', hx, h0, h1, h2⟩ := ts3 Try.underlying27 h
  have hl3 : cs.length = 3 := hlen.trans (by kernel_rfl)
  match cs, hl3 with
  | [v0, v1, v2], _ =>
    have c2 : Try.prog.cellsOf 2 = 1 := by kernel_rfl
    have c4 : Try.prog.cellsOf 4 = 1 := by kernel_rfl
    have c25 : Try.prog.cellsOf 25 = 1 := by kernel_rfl
    simp only [c2, c4, c25, List.drop_zero, List.drop_succ_cons, List.take_succ_cons, List.take_zero] at h0 h1 h2
    obtain ⟨_, _, e0, ⟨x0, rfl, hx0⟩, hr0⟩ := (leaves_ok 1 2 [.int .i64] (by kernel_rfl) n' _ _ h0).cons
    obtain ⟨A1, c1, l1, rfl, k1, m1, q1, b1⟩ := open_ints h1
    obtain ⟨_, _, e2, ⟨x2, rfl⟩, hr2⟩ := (leaves_ok 1 4 [.bool] (by kernel_rfl) n' _ _ h2).cons
    simp only [List.cons.injEq] at e0 e2
    obtain ⟨rfl, _⟩ := e0
    obtain ⟨rfl, _⟩ := e2
    refine ⟨⟨x0, l1, x2⟩, k27_mk W ⟨x0, l1, x2⟩ m1 k1, fun hz => ?_⟩
    refine ⟨by have := wf_i64 hx0; exact ⟨this.1, by dsimp only; omega⟩, q1, b1 (fun q hq => ?_)⟩
    apply hz
    rw [hx]
    simp only [DataW.weights, Try.underlying27, DataW.weightsEach, List.map, List.mem_append]
    exact .inr (.inl hq)
theorem open_regs {H : Type} {enc : TypeId × Value → H} {W : World} {spare : Nat → Bool} {held : Bool} {n : Nat} {v : Value} {y : DataW H × List MemPlace} (h : DataW.trod enc Try.prog W 0 spare held n 22 [v] = some y)
    (hz : ∀ z ∈ y.1.weights Try.prog 22, z ≤ reachBytes) : ∃ A c l0, v = .slice A l0.length c ∧ Kd.C k27 W A l0.length l0 ∧ l0.length ≤ c ∧ l0.length * 40 ≤ 140737488351232 ∧ ∀ x ∈ l0, RegOk x := by
  obtain ⟨A, c, l0, hv, hC, hl, hq, hb⟩ := open_rowG (k := k27) (Q := fun (x : S27) d => (∀ q ∈ d.weights Try.prog 27, q ≤ reachBytes) → RegOk x) Try.underlying22 (e := 27) (by kernel_rfl) open_regK h
  refine ⟨A, c, l0, hv, hC, hl, hb hz, fun x hx => ?_⟩
  obtain ⟨d', hQ, hw⟩ := hq x hx
  exact hQ (fun q hq => hz q (hw q hq))
end Go.Proofs.Ytkanhnhagjopkaa.M

