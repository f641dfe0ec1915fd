/-
  Layer 4: StepShifted, the walk: the law answers true. Conditions: the registers are of 64 bits, by how much the PC is moved is of 32.
-/
import Derived.Test.YtjlfjkpbooholaaDoorLd1
import Derived.Test.YtjlfjkpbooholaaDoorLd2
import Derived.Test.YtjlfjkpbooholaaDoorLd3
import Derived.Test.YtjlfjkpbooholaaDoorLd4
import Derived.Test.YtjlfjkpbooholaaDoorLd5
import Derived.Test.YtjlfjkpbooholaaDoorLd6
import Derived.Test.YtjlfjkpbooholaaDoorLd7
import Derived.Test.YtjlfjkpbooholaaDoorPl4
import Derived.Deep.RegionWith
import Derived.Deep.QuietTactic
import Derived.BigQuiet
import Derived.StillTailTactics
namespace Go.Proofs.YtjlfjkpbooholaaDoor.M
open Go.RowKit Go.Proofs.YtjlfjkpbooholaaDoorW.PrintWords Go.Proofs.YtjlfjkpbooholaaDoorW.PrintLast
set_option linter.unusedSimpArgs false
set_option linter.unusedVariables false
set_option maxRecDepth 100000 in
theorem stepShifted_c (c : Cpu) (ok : c.Ok) (op a b n size y : Int) (hy : -2147483648 ≤ y ∧ y < 2147483648) (w : World) (hG : Glob w) : Calls Tryd.prog 6 #[.agg #[i64 c.r0, i64 c.r1, i64 c.r2, i64 c.r3, i64 c.r4, i64 c.r5, i64 c.r6, i64 c.r7, i64 c.pc, i64 c.st, i64 c.tr, i64 op, i64 a, i64 b, i64 n, i64 size, .int .i32 y]] w fun e w' => e = .returned (.bool true) ∧ Below w.heap.size w w' := by
  have s1 := fun W h => start_c c ok op a b n size W h
  have s2 := fun W h => start_c { c with pc := wrap64 (c.pc + y) } ok op a b n size W h
  obtain ⟨f1, f2, f3⟩ := shifted_law c op a b n size y hy
  generalize startF c op a b n size = p at s1 f1 f2 f3
  generalize startF { c with pc := wrap64 (c.pc + y) } op a b n size = p' at s2 f1 f2 f3
  obtain ⟨⟨d0, d1, d2, d3, d4, d5, d6, d7, dp, ds, dt⟩, ⟨q0, q1, q2, q3⟩⟩ := p
  obtain ⟨⟨e0, e1, e2, e3, e4, e5, e6, e7, ep, es, et⟩, ⟨z0, z1, z2, z3⟩⟩ := p'
  obtain ⟨r0, r1, r2, r3, r4, r5, r6, r7, pc, st, tr⟩ := c
  simp only [Cpu.mk.injEq, Rq.mk.injEq, true_and] at f1 f2 f3
  obtain ⟨rfl, rfl, rfl, rfl, rfl, rfl, rfl, rfl, rfl, rfl⟩ := f2
  have hyw : wrap64 y = y := Num.wrap64_id (by omega) (by omega)
  dsimp only
  dsimp only at s1 s2
  by_cases g1 : pc < 0
  · exact shf_e1 (hyw := hyw) (h0 := decide_eq_true g1) (w := w) (hG := hG)
  have h1 : decide (pc < 0) = false := decide_eq_false g1
  by_cases g2 : pc > 1099511627776
  · exact shf_e2 (hyw := hyw) (h0 := h1) (h1 := decide_eq_true g2) (w := w) (hG := hG)
  have h2 : decide (pc > 1099511627776) = false := decide_eq_false g2
  by_cases g3 : ds = 0
  case neg =>
    have h3 : (ds == 0) = false := beq_eq_false_iff_ne.mpr g3
    rcases f3 with ⟨u1, u2, u3, u4, u5⟩ | ⟨u1, u2⟩
    · obtain ⟨u5, rfl, rfl⟩ := u5
      subst u2 u3 u1
      exact shf_nl (hyw := hyw) (h0 := h1) (h1 := h2) (h2 := h3) (h3 := u4) (s1 := s1) (s2 := s2) (w := w) (hG := hG)
    · obtain ⟨rfl, rfl, rfl, rfl⟩ := u2
      by_cases v1 : op = 23
      · have j2 : (q0 == 2) = false := beq_eq_false_iff_ne.mpr (u1.resolve_left (fun h => h v1))
        subst v1
        exact shf_n23 (hyw := hyw) (h0 := h1) (h1 := h2) (h2 := h3) (h3 := j2) (s1 := s1) (s2 := s2) (w := w) (hG := hG)
      · have j1 : (op == 23) = false := beq_eq_false_iff_ne.mpr v1
        exact shf_nn (hyw := hyw) (h0 := h1) (h1 := h2) (h2 := h3) (h3 := j1) (s1 := s1) (s2 := s2) (w := w) (hG := hG)
  case pos =>
    by_cases g4 : op = 24
    · subst g4
      obtain ⟨rfl, rfl, rfl, rfl⟩ := (f3.resolve_left (fun h => by have := h.1; omega)).2
      subst g3
      exact shf_24 (hyw := hyw) (h0 := h1) (h1 := h2) (s1 := s1) (s2 := s2) (w := w) (hG := hG)
    · have h4 : (op != 24) = true := bne_iff_ne.mpr g4
      have hd := f1 g3 g4
      subst g3
      rcases f3 with ⟨u1, u2, u3, u4, u5⟩ | ⟨u1, u2⟩
      · obtain ⟨u5, rfl, rfl⟩ := u5
        subst u2 u3 u1
        exact shf_pl (hyw := hyw) (h0 := h1) (h1 := h2) (h2 := hd) (h3 := u4) (s1 := s1) (s2 := s2) (w := w) (hG := hG)
      · obtain ⟨rfl, rfl, rfl, rfl⟩ := u2
        by_cases v1 : op = 23
        · have j2 : (q0 == 2) = false := beq_eq_false_iff_ne.mpr (u1.resolve_left (fun h => h v1))
          subst v1
          exact shf_p23 (hyw := hyw) (h0 := h1) (h1 := h2) (h2 := hd) (h3 := j2) (s1 := s1) (s2 := s2) (w := w) (hG := hG)
        · have j1 : (op == 23) = false := beq_eq_false_iff_ne.mpr v1
          exact shf_pn (hyw := hyw) (h0 := h1) (h1 := h2) (h2 := h4) (h3 := hd) (h4 := j1) (s1 := s1) (s2 := s2) (w := w) (hG := hG)
end Go.Proofs.YtjlfjkpbooholaaDoor.M
