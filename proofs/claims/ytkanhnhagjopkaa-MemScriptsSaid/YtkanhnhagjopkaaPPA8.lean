/-
  Texts of the proofs of MemScripts, cut to what the proofs reach and packed by a program of this session (wip/packs.py). Each part begins with what it says; conditions: those told there.
-/
import Derived.ChangeArms
import Derived.WideShapes
import Derived.ShutString
/-
  A value whose type holds nothing but whole numbers, bools and texts, however its structs and arrays are nested, as the reader reads it: its cells one by one. No condition.
-/
namespace Go.Proofs.Ytkanhnhagjopkaa.Flat
open Go.ChangeShapes Go.WideShapes

inductive Leaf
  | int (k : IntKind)
  | bool
  | str
def Leaf.Ok : Leaf → Value → Prop
  | .int k, v => ∃ n, v = .int k n ∧ (Lit.int k n).wf = true
  | .bool, v => ∃ b, v = .bool b
  | .str, v => ∃ s : ByteArray, v = .string s ∧ s.size ≤ maxLen
def AllOk : List Leaf → List Value → Prop
  | [], [] => True
  | l :: ls, v :: vs => l.Ok v ∧ AllOk ls vs
  | _, _ => False
theorem AllOk.append : ∀ {l1 : List Leaf} {c1 : List Value} {l2 : List Leaf} {c2 : List Value}, AllOk l1 c1 → AllOk l2 c2 → AllOk (l1 ++ l2) (c1 ++ c2)
  | [], [], _, _, _, h => h
  | [], _ :: _, _, _, h, _ => h.elim
  | _ :: _, [], _, _, h, _ => h.elim
  | _ :: _, _ :: _, _, _, h, k => ⟨h.1, AllOk.append h.2 k⟩
theorem AllOk.length : ∀ {l : List Leaf} {c : List Value}, AllOk l c → c.length = l.length
  | [], [], _ => rfl
  | [], _ :: _, h => h.elim
  | _ :: _, [], h => h.elim
  | _ :: _, _ :: _, h => by simp [AllOk.length h.2]
theorem AllOk.cons {l : Leaf} {ls : List Leaf} : ∀ {cs : List Value}, AllOk (l :: ls) cs → ∃ v vs, cs = v :: vs ∧ l.Ok v ∧ AllOk ls vs
  | [], h => h.elim
  | v :: vs, h => ⟨v, vs, rfl, h.1, h.2⟩
theorem AllOk.nil : ∀ {cs : List Value}, AllOk [] cs → cs = []
  | [], _ => rfl
  | _ :: _, h => h.elim

def fieldsL (P : Program) (g : TypeId → Option (List Leaf)) : List Field → Nat → Option (List Leaf)
  | [], _ => some []
  | f :: fs, off => if f.offset = off then match g f.type with
    | some l => if l.length = P.cellsOf f.type then (fieldsL P g fs (off + l.length)).map (l ++ ·) else none
    | none => none
    else none
def leaves (P : Program) : Nat → TypeId → Option (List Leaf)
  | 0, _ => none
  | n + 1, t => match P.underlying t with
    | some (.int k) => some [.int k]
    | some .bool => some [.bool]
    | some .string => some [.str]
    | some (.struct fs) => match fieldsL P (leaves P n) fs.toList 0 with
      | some l => if l.length = P.cellsOf t then some l else none
      | none => none
    | some (.array m e) => match leaves P n e with
      | some l => if l.length = P.cellsOf e ∧ P.cellsOf t = m * l.length then some (List.replicate m l).flatten else none
      | none => none
    | _ => none

section
variable {H : Type} {enc : TypeId × Value → H} {P : Program} {w : World} {base : Nat} {spare : Nat → Bool} {held : Bool}

theorem fields_ok (g : TypeId → Option (List Leaf)) (cs : List Value) (n : Nat) (hg : ∀ t ls (c : List Value) x, g t = some ls → DataW.trod enc P w base spare held n t c = some x → AllOk ls c) :
    ∀ (fs : List Field) (off : Nat) (l : List Leaf), fieldsL P g fs off = some l →
      (∀ f ∈ fs, ∃ x, DataW.trod enc P w base spare held n f.type ((cs.drop f.offset).take (P.cellsOf f.type)) = some x) → AllOk l ((cs.drop off).take l.length)
  | [], off, l, h, _ => by
    simp only [fieldsL, Option.some.injEq] at h
    subst h
    simp [AllOk]
  | f :: fs, off, l, h, hf => by
    unfold fieldsL at h
    by_cases ho : f.offset = off
    case neg => rw [if_neg ho] at h; cases h
    rw [if_pos ho] at h
    cases hgf : g f.type with
    | none => rw [hgf] at h; cases h
    | some lf =>
      rw [hgf] at h
      simp only at h
      by_cases hl : lf.length = P.cellsOf f.type
      case neg => rw [if_neg hl] at h; cases h
      rw [if_pos hl] at h
      cases hr : fieldsL P g fs (off + lf.length) with
      | none => rw [hr] at h; cases h
      | some lr =>
        rw [hr] at h
        simp only [Option.map_some, Option.some.injEq] at h
        subst h
        obtain ⟨x, hx⟩ := hf f (by simp)
        have h1 := hg _ _ _ _ hgf hx
        have h2 := fields_ok g cs n hg fs (off + lf.length) lr hr (fun f' hf' => hf f' (by simp [hf']))
        rw [ho, ← hl] at h1
        have := h1.append h2
        rw [List.length_append]
        have e : (cs.drop off).take (lf.length + lr.length) = (cs.drop off).take lf.length ++ (cs.drop (off + lf.length)).take lr.length := by
          rw [List.take_add, List.drop_drop]
        rw [e]
        exact this

theorem rounds_ok (l : List Leaf) (cs : List Value) (n : Nat) (e : TypeId) (hl : l.length = P.cellsOf e) (hg : ∀ (c : List Value) x, DataW.trod enc P w base spare held n e c = some x → AllOk l c) :
    ∀ m, (∀ i, i < m → ∃ x, DataW.trod enc P w base spare held n e ((cs.drop (i * P.cellsOf e)).take (P.cellsOf e)) = some x) → AllOk (List.replicate m l).flatten (cs.take (m * l.length))
  | 0, _ => by simp [AllOk]
  | m + 1, h => by
    have h1 := rounds_ok l cs n e hl hg m (fun i hi => h i (by omega))
    obtain ⟨x, hx⟩ := h m (by omega)
    have h2 := hg _ _ hx
    rw [← hl] at h2
    have h3 := h1.append h2
    rw [List.replicate_succ', List.flatten_append, Nat.succ_mul, List.take_add]
    simpa using h3

theorem mapM_mem {α β : Type} {f : α → Option β} : ∀ {l : List α} {xs : List β}, l.mapM f = some xs → ∀ a ∈ l, ∃ x, f a = some x
  | [], _, _, a, ha => by cases ha
  | b :: l, xs, h, a, ha => by
    rw [List.mapM_cons] at h
    cases hb : f b with
    | none => simp [hb] at h
    | some y =>
      cases hl : l.mapM f with
      | none => simp [hb, hl] at h
      | some ys =>
        rcases List.mem_cons.1 ha with rfl | ha
        · exact ⟨y, hb⟩
        · exact mapM_mem hl a ha

theorem leaves_ok : ∀ (m : Nat) (t : TypeId) (ls : List Leaf), leaves P m t = some ls → ∀ (fuel : Nat) (cs : List Value) x, DataW.trod enc P w base spare held fuel t cs = some x → AllOk ls cs
  | 0, _, _, h => by cases h
  | m + 1, t, ls, h => by
    intro fuel cs x hx
    unfold leaves at h
    split at h
    · rename_i k ht
      obtain rfl := Option.some.inj h
      obtain ⟨n, rfl, _, hw⟩ := DataW.trod_int ht hx
      exact ⟨⟨n, rfl, hw⟩, trivial⟩
    · rename_i ht
      obtain rfl := Option.some.inj h
      obtain ⟨b, rfl, _⟩ := DataW.trod_bool ht hx
      exact ⟨⟨b, rfl⟩, trivial⟩
    · rename_i ht
      obtain rfl := Option.some.inj h
      obtain ⟨s, rfl, _, hs⟩ := DataW.trod_string ht hx
      exact ⟨⟨s, rfl, hs⟩, trivial⟩
    · rename_i fs ht
      split at h
      · rename_i l hl
        by_cases hc : l.length = P.cellsOf t
        case neg => rw [if_neg hc] at h; cases h
        rw [if_pos hc] at h
        obtain rfl := Option.some.inj h
        obtain ⟨xs, n, rfl, _, hlen, hxs, hf⟩ := DataW.trod_struct ht hx
        have := fields_ok (leaves P m) cs n (fun t ls c x h hx => leaves_ok m t ls h n c x hx) fs.toList 0 l hl (fun f hf' => by
          obtain ⟨i, hi, rfl⟩ := List.mem_iff_getElem.1 hf'
          have hi' : i < fs.size := by simpa using hi
          have h1 := hf i fs[i] (by simp [hi'])
          have h2 : i < xs.length := by rw [hxs]; exact hi'
          rw [List.getElem?_eq_getElem h2] at h1
          exact ⟨_, by simpa using h1⟩)
        rw [List.drop_zero, hc, ← hlen, List.take_length] at this
        exact this
      · cases h
    · rename_i k e ht
      split at h
      · rename_i l hl
        by_cases hc : l.length = P.cellsOf e ∧ P.cellsOf t = k * l.length
        case neg => rw [if_neg hc] at h; cases h
        rw [if_pos hc] at h
        obtain rfl := Option.some.inj h
        cases fuel with
        | zero => simp [DataW.trod] at hx
        | succ n =>
          unfold DataW.trod at hx
          rw [ht] at hx
          simp only at hx
          by_cases hlen : cs.length = P.cellsOf t
          case neg => rw [if_neg hlen] at hx; cases hx
          rw [if_pos hlen] at hx
          obtain ⟨ys, hys, _⟩ := Option.map_eq_some_iff.1 hx
          have := rounds_ok l cs n e hc.1 (fun c x hx => leaves_ok m e l hl n c x hx) k (fun i hi => mapM_mem hys i (List.mem_range.2 hi))
          rw [← hc.2, ← hlen, List.take_length] at this
          exact this
      · cases h
    · cases h
end
end Go.Proofs.Ytkanhnhagjopkaa.Flat

