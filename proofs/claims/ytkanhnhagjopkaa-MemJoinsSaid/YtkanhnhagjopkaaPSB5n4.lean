/-
  Texts of the proofs of MemJoins, cut to what the proofs reach and packed by a program of this session (wip/packs.py). Each part begins with what it says; conditions: those told there.
-/
import Derived.Test.YtkanhnhagjopkaaPSB5n3
/-
  Layer 2: MemEven: the walk. Conditions: lengths that any memory can hold, numbers of 64 bits.
-/
namespace Go.Proofs.Ytkanhnhagjopkaa.M
open Go.RowKit Go.Proofs.YtkanhnhagjopkaaW.PrintWords Go.Proofs.YtkanhnhagjopkaaW.PrintLast Go.Proofs.Ytkanhnhagjopkaa.Num
set_option linter.unusedVariables false
set_option linter.unusedSimpArgs false
def fewF (a b : List Int) : Bool := decide (a.length ≤ 40) && decide (b.length ≤ 40)
theorem few_f (a b : List Int) : cotterlaw02_few.f a b = some (fewF a b) := by
  unfold cotterlaw02_few.f fewF
  by_cases h : a.length ≤ 40
  · rw [if_pos (by omega)]
    have e : decide ((b.length : Int) ≤ 40) = decide (b.length ≤ 40) := by
      rw [decide_eq_decide]
      omega
    rw [e]
    simp [h]
  · rw [if_neg (by omega)]
    simp [h]
section
variable {W : World} {A0 : Option Addr} {c0 : Nat} {ar : List Int} {A1 : Option Addr} {c1 : Nat} {aw : List Int} {A2 : Option Addr} {c2 : Nat} {br : List Int} {A3 : Option Addr} {c3 : Nat} {bw : List Int} {A4 : Option Addr} {c4 : Nat} {cr : List Int} {A5 : Option Addr} {c5 : Nat} {cw : List Int}
end
end Go.Proofs.Ytkanhnhagjopkaa.M

/-
  Layer 2: MemJoins, plain: what the printed walk computes is true. Conditions: those told at it.
-/
namespace Go.Proofs.Ytkanhnhagjopkaa.M
open Go.RowKit Go.Proofs.YtkanhnhagjopkaaW.PrintWords Go.Proofs.YtkanhnhagjopkaaW.PrintLast Go.Proofs.Ytkanhnhagjopkaa.Num
set_option linter.unusedVariables false
set_option linter.unusedSimpArgs false
theorem joins_l1 (l : List S45) (hl : l.length ≤ 8) (hf : ∀ f ∈ l, f.f0.length ≤ 40 ∧ f.f1.length ≤ 40) : ∀ (d k i : Nat), l.length - i = d → i ≤ l.length → d + 100 ≤ k → cotterlaw02_MemJoins.l1 k l l (i : Int) = some true
  | d, 0, i, hd, hi, hk => by omega
  | 0, k + 1, i, hd, hi, hk => by
    simp only [cotterlaw02_MemJoins.l1]
    rw [if_neg (by omega)]
    rfl
  | d + 1, k + 1, i, hd, hi, hk => by
    have h : i < l.length := by omega
    obtain ⟨h0, h1⟩ := hf l[i] (List.getElem_mem h)
    simp only [cotterlaw02_MemJoins.l1]
    rw [if_pos (by omega), if_pos (by omega), if_pos (by omega), rdT_at l i h, sameFoot_f _ _ _ _ (by omega) (by omega) k (by omega) (by omega)]
    simp only [and_self, decide_true, Option.bind_some, if_true]
    rw [up1 i (by omega)]
    exact joins_l1 l hl hf d k (i + 1) (by omega) (by omega) (by omega)
theorem joins_l0 (l : List S45) (hl : l.length ≤ 8) (hr : ∀ f ∈ l, (∀ x ∈ f.f0, RG x) ∧ (∀ x ∈ f.f1, RG x)) (ar aw br bw : List Int) (h0 : ar.length ≤ 40) (h1 : aw.length ≤ 40) (h2 : br.length ≤ 40) (h3 : bw.length ≤ 40) :
    ∀ (d k i : Nat), l.length - i = d → i ≤ l.length → (∀ f ∈ l.take i, f.f0.length ≤ 40 ∧ f.f1.length ≤ 40) → d + 5000 ≤ k → cotterlaw02_MemJoins.l0 k l (l.take i) (i : Int) ar aw br bw = some true
  | d, 0, i, hd, hi, hf, hk => by omega
  | 0, k + 1, i, hd, hi, hf, hk => by
    simp only [cotterlaw02_MemJoins.l0]
    rw [if_neg (by omega)]
    have e : l.take i = l := List.take_of_length_le (by omega)
    rw [e] at hf ⊢
    have hj : mem_Join.f l = some (putsF [] (rds l), putsF [] (wrs l)) := by
      unfold mem_Join.f
      rw [if_pos]
      unfold fitJ
      simp only [Bool.and_eq_true, decide_eq_true_eq, List.all_eq_true]
      exact ⟨hl, fun f hh => ⟨⟨⟨(hf f hh).1, (hf f hh).2⟩, (hr f hh).1⟩, (hr f hh).2⟩⟩
    have p0 := putsF_len (rds l) []
    have p1 := putsF_len (wrs l) []
    have f0 := flat_le (·.f0) l (fun f hh => (hf f hh).1)
    have f1 := flat_le (·.f1) l (fun f hh => (hf f hh).2)
    have f0' : (rds l).length ≤ 40 * l.length := f0
    have f1' : (wrs l).length ≤ 40 * l.length := f1
    simp only [List.length_nil] at p0 p1
    rw [hj, joinR_f l hl hf k (by omega)]
    simp only [Option.bind_some]
    rw [sameFoot_f _ _ _ _ (by omega) (by omega) k (by omega) (by omega)]
    simp only [and_self, decide_true, Option.bind_some, if_true]
    have hc : mem_Clash.f ar aw br bw = some (clashF ar aw br bw) := by
      unfold mem_Clash.f
      rw [if_pos ⟨h0, h1, h2, h3⟩]
    rw [hc, clashR_f ar aw br bw h0 h1 h2 h3 k (by omega)]
    simp only [Option.bind_some, bne_self_eq_false]
    match k, hk with
    | k + 1, hk =>
      simp only [cotterlaw02_MemJoins.j2]
      rw [if_neg (by simp)]
      exact joins_l1 l hl hf l.length k 0 (by omega) (by omega) (by omega)
  | d + 1, k + 1, i, hd, hi, hf, hk => by
    have h : i < l.length := by omega
    simp only [cotterlaw02_MemJoins.l0]
    rw [if_pos (by omega), if_pos (by omega), rdT_at l i h, few_f]
    simp only [Option.bind_some]
    cases hw : fewF l[i].f0 l[i].f1 with
    | false =>
      rw [if_neg (by simp)]
      rfl
    | true =>
      obtain ⟨m0, m1⟩ : l[i].f0.length ≤ 40 ∧ l[i].f1.length ≤ 40 := by unfold fewF at hw; simpa using hw
      have hlt : (l.take i).length ≤ 8 := by rw [List.length_take]; omega
      rw [if_pos rfl, if_pos (by simp; omega), if_pos (by simp; omega), if_pos (by omega), up1 i (by omega)]
      have e : l.take i ++ [(⟨([] : List Int) ++ l[i].f0, ([] : List Int) ++ l[i].f1⟩ : S45)] = l.take (i + 1) := by
        rw [← List.take_append_getElem h]
        rfl
      rw [e]
      refine joins_l0 l hl hr ar aw br bw h0 h1 h2 h3 d k (i + 1) (by omega) (by omega) (fun f hh => ?_) (by omega)
      rw [← List.take_append_getElem h] at hh
      rcases List.mem_append.1 hh with hh | hh
      · exact hf f hh
      · rw [List.mem_singleton] at hh
        subst hh
        exact ⟨m0, m1⟩
theorem joins_f (l : List S45) (hr : ∀ f ∈ l, (∀ x ∈ f.f0, RG x) ∧ (∀ x ∈ f.f1, RG x)) (ar aw br bw : List Int) : cotterlaw02_MemJoins.f 6000 l ar aw br bw = some true := by
  unfold cotterlaw02_MemJoins.f
  by_cases hl : (l.length : Int) > 8
  · rw [if_pos hl]
    rfl
  · rw [if_neg hl, few_f, few_f]
    simp only [Option.bind_some]
    cases h0 : fewF ar aw with
    | false => rfl
    | true =>
      cases h1 : fewF br bw with
      | false => rfl
      | true =>
        obtain ⟨m0, m1⟩ : ar.length ≤ 40 ∧ aw.length ≤ 40 := by unfold fewF at h0; simpa using h0
        obtain ⟨m2, m3⟩ : br.length ≤ 40 ∧ bw.length ≤ 40 := by unfold fewF at h1; simpa using h1
        have := joins_l0 l (by omega) hr ar aw br bw m0 m1 m2 m3 l.length 5999 0 (by omega) (by omega) (fun f hh => by simp at hh) (by omega)
        simpa [cotterlaw02_MemJoins.j0] using this
end Go.Proofs.Ytkanhnhagjopkaa.M

