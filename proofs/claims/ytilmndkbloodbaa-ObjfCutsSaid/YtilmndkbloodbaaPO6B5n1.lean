/-
  Texts of the proofs of ObjfBack, ObjfCuts, cut to what the proofs reach and packed by a program of this session (wip/packs.py). Each part begins with what it says; conditions: those told there.
-/
import Derived.Test.YtilmndkbloodbaaPO6B3n1
import Derived.Test.YtilmndkbloodbaaPO6B4n1
/-
  Layer 6: the contracts over objects, case by case, for the laws' walks; and the plain facts of forms (their size, that unlike objects have unlike ones, that a beginning of one is none's). No condition but those told at each.
-/
namespace Go.Proofs.Ytilmndkbloodbaa.M
open Go.RowKit Go.Proofs.YtilmndkbloodbaaW.PrintWords Go.Proofs.Ytilmndkbloodbaa.Num Go.Proofs.Ytilmndkbloodbaa.Seven Go.Proofs.Ytilmndkbloodbaa.Word1 Go.Proofs.Ytilmndkbloodbaa.Obj
set_option linter.unusedVariables false
set_option linter.unusedSimpArgs false
/-! ### Plain -/
theorem flat_len {α : Type} (f : α → List Int) (k : Nat) : ∀ (l : List α), (∀ x ∈ l, (f x).length ≤ k) → (l.flatMap f).length ≤ l.length * k
  | [], _ => by simp
  | x :: l, h => by
    have h1 := h x (by simp)
    have h2 := flat_len f k l (fun y hy => h y (by simp [hy]))
    rw [List.flatMap_cons, List.length_append, List.length_cons, Nat.succ_mul]
    omega
theorem form_small {o : Obj6} (h : mayO o = true) : (formO o).size ≤ 10000000 := by
  obtain ⟨h1, h2, h3, h4, h5, h6⟩ := may_parts h
  rw [size_form]
  unfold form front front1 front0 textL dataL symsL relsL
  simp only [List.length_append, bytesOf_length, show COT1.length = 4 from rfl]
  have a1 := putL_ten (u := o.1.size) (by omega)
  have a2 := putL_ten (u := o.2.1.length) (by omega)
  have a3 := putL_ten (u := o.2.2.1.length) (by omega)
  have a4 := putL_ten (u := o.2.2.2.length) (by omega)
  have b1 := flat_len (fun n => leL n 8) 8 o.2.1 (fun n _ => by rw [leL_len]; exact Nat.le_refl _)
  have b2 := flat_len symL 49 o.2.2.1 (fun s hs => by
    have := h5 s hs
    have c1 := this.1.2
    have a1 := putL_ten (u := s.f0.size) (by omega)
    have a2 := putL_ten (u := s.f2.toNat) (by omega)
    unfold symL textL
    simp only [List.length_append, bytesOf_length, List.length_singleton]
    omega)
  have b3 := flat_len relL 57 o.2.2.2 (fun r hr => by
    have := h6 r hr
    have c1 := this.1.2
    have a1 := putL_ten (u := r.f2.size) (by omega)
    have a2 := putL_ten (u := r.f0.toNat) (by omega)
    unfold relL textL
    simp only [List.length_append, bytesOf_length, List.length_singleton, leL_len]
    omega)
  omega
/-! ### Case by case -/
theorem read_yes {s : ByteArray} {o : Obj6} (hs : s.size ≤ 281474976710656) (h : rdO s = (o, 0)) (w : World) : Calls Try.prog 16 #[.string s] w fun e w' => ∃ v, e = .returned (.tuple #[v, .int .i64 0]) ∧ Ob w' v o ∧ Below w.heap.size w w' := by
  have := read_c s hs w
  rw [h] at this
  exact this
theorem read_no {s : ByteArray} (hs : s.size ≤ 281474976710656) (h : rdO s = (emptyO, 9)) (w : World) : Calls Try.prog 16 #[.string s] w fun e w' => ∃ v, e = .returned (.tuple #[v, .int .i64 9]) ∧ Ob w' v emptyO ∧ Below w.heap.size w w' := by
  have := read_c s hs w
  rw [h] at this
  exact this
end Go.Proofs.Ytilmndkbloodbaa.M

