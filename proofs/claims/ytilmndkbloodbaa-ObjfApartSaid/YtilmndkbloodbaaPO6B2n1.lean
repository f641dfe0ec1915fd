/-
  Texts of the proofs of ObjfWrites, ObjfBack, ObjfCuts, ObjfApart, cut to what the proofs reach and packed by a program of this session (wip/packs.py). Each part begins with what it says; conditions: those told there.
-/
import Derived.Test.YtilmndkbloodbaaPO6A12
-- lines of print.sh's words, cut to what these proofs reach by a program of this session
-- PRINTED WORDS (module Derived/Print/Words.lean): go-wishes' parts 1 to 38 and go-gate-2's additions: AI agents of Go's test side, Mon Nov 16 2026; no person has read them. Plain theorems and definitions: no macro, no elab, no axiom.
set_option linter.unusedVariables false
set_option linter.unusedSimpArgs false
namespace Go.Proofs.YtilmndkbloodbaaW.PrintWords
open Go.RowKit

/-! ### 1. Values and lists -/
/-! ### 2. The world -/
/-! ### 3. A slice of whole numbers that is read; nil, empty and other slices alike -/
/-! ### 4. A row of the call's own -/
/-! ### 5. append(v, x): behind 'at_builtin'; the goal's world is 'W.alloc' of the variadic's box -/
section
variable {P : Program} {ops : Array Oper} {rest : List Oper} {o : Oper} {a : Act} {Q : Exit → Act → World → Prop}

end

/-! ### 6. make([]T, n), n an Int; a literal -/
section
variable {P : Program}
end
/-! ### 7. v[i] read and v[i] = x, v a row of the call's own: 'obtain ⟨g, cap, rfl, hgb, hgl⟩ := HO.out.form (by omega)' first -/
/-! ### 8. append(v, ys...): ys a slice that is read, nil let in; behind 'at_builtin' -/
section
variable {P : Program} {ops : Array Oper} {rest : List Oper} {o : Oper} {a : Act} {Q : Exit → Act → World → Prop}
end

/-! ### 9. []byte(s): a slice that is read (its row bears a conversion's mark: no row of one's own); cuts of a slice that is read -/
/-! ### 10. Rounds: more rounds give the same answer; what ends gives a number of rounds -/
/-! ### 11. Rows of elements of several cells (structs): read, made. R: what an element's cells say ('RepItem w': printed for each type) -/
section
variable {P : Program} {ops : Array Oper} {rest : List Oper} {o : Oper} {a : Act} {Q : Exit → Act → World → Prop}
end

/-! ### 12. A block of one's own that is a state: its cells, what a store leaves -/
/-! ### 13. Two states at once: what a call on the state at block g (its row before: 'row') has turned -/
/-! ### 10b. From some number of rounds on -/
/-! ### 14. append as_ one step of a region that draws its order: for 'go_region_law' (and a region walked by hand) -/
section
variable {P : Program} {ops : Array Oper} {o : Oper} {a : Act} {Q : Exit → Act → World → Prop} {K : Act → World → Prop}
end
/-! ### 15. A row's base may be lowered -/
/-! ### 16. Parts 3 to 9 for ANY element of one cell: 'enc' (Value.int k, Value.string, Value.bool), a default 'd' -/
section
variable {α : Type} {enc : α → Value} {d : α}
end
section
variable {α : Type} {P : Program} {ops : Array Oper} {rest : List Oper} {o : Oper} {a : Act} {Q : Exit → Act → World → Prop}
end

/-! ### 17. Rows of one element type held at once: no two share a block -/
/-! ### 18. A block behind a new one; behind a draw -/
/-! ### 19. Results that lie in memory beside others -/
section
variable {P : Program}
end
/-! ### 20. Rows of elements of any kind: R is what an element's cells say -/
section
variable {α : Type} {R R' : α → List Value → Prop} {e : TypeId} {size : Nat} {w w1 : World} {base : Nat} {v : Value} {ps : List α}
end
section
variable {P : Program} {ops : Array Oper} {rest : List Oper} {o : Oper} {a : Act} {Q : Exit → Act → World → Prop} {α : Type} {R : α → List Value → Prop}
end
section
variable {P : Program} {ops : Array Oper} {o : Oper} {a : Act} {Q : Exit → Act → World → Prop} {K : Act → World → Prop} {α : Type} {R : α → List Value → Prop}
end
/-! ### 21. Cuts of a slice that came in, lengths spelled as_ the lists' -/
section
variable {α : Type} {P : Program}
end

/-! ### 22. append([]byte, s...), s a string; behind 'at_builtin'. (No word on where the new row lies: two rows of bytes at once don't go by it.) -/
section
variable {P : Program} {ops : Array Oper} {rest : List Oper} {o : Oper} {a : Act} {Q : Exit → Act → World → Prop}
end
/-! ### 23. KINDS: what a value's cells say, read (K) and made (M), kind by kind; every mover proved once -/
namespace Kd
section
variable {α : Type} {d : Kd α} {e : Nat} {w w1 : World} {base : Nat} {ok ok' : Nat → Prop} {v : Value} {xs : List α}
end

/-! #### the kinds -/
/-! #### an element of a row that is read; an element appended -/
section
variable {P : Program} {ops : Array Oper} {rest : List Oper} {o : Oper} {a : Act} {Q : Exit → Act → World → Prop} {α : Type}
end
section
variable {P : Program} {ops : Array Oper} {o : Oper} {a : Act} {Q : Exit → Act → World → Prop} {Kc : Act → World → Prop} {α : Type}
end
end Kd
/-! ### 24. Kinds nested in themselves -/
namespace Kd
section
variable {α : Type} {F : Kd α → Kd α} {sz : Nat} {E : List Nat} {hs : ∀ n, (upto F sz E n).sz = sz} {hE : ∀ n q, q ∈ (upto F sz E n).E → q ∈ E}
end
end Kd
/-! ### 25. What is held while another row is written: 'ok' says that its rows are none of that row's block -/
namespace Kd
end Kd
/-! ### 26. Words for a printer that takes every slice by its kind -/
namespace Kd
section
variable {α β : Type} {d : Kd α} {d' : Kd β} {e e' : Nat} {w w1 W : World} {base b b' : Nat} {ok ok' okv oku : Nat → Prop} {v u : Value} {xs : List α} {ys : List β}
end
/-! #### scalars -/
section
variable {w W : World} {A : Option Addr} {n : Nat}
variable {α : Type} {enc : α → Value} {h1 : ∀ x, (enc x).oneCell' = true} {e base g cap : Nat} {ok : Nat → Prop} {xs : List α}
end

/-! #### events: a letter for what make and a literal leave -/
section
variable {P : Program} {ops : Array Oper} {rest : List Oper} {o : Oper} {a : Act} {Q : Exit → Act → World → Prop}
variable {α : Type}
end
end Kd
/-! ### 27. Cuts of a row of one's own: 'xs = xs[:n]' stays a row (R_take); 'xs = xs[k:]' is a row that begins inside its block (Kd.Q), append goes on it too -/
section
variable {P : Program}
end
section
variable {w w1 : World} {base n size : Nat} {e : TypeId} {v : Value} {xs : List Value}
end
section
variable {P : Program}
end
/-! ### 28. The kinds' words for cuts: R_take; Q (a row that may begin inside its block) with all of R's movers -/
namespace Kd
section
variable {α : Type} {d : Kd α} {e : Nat} {w w1 W : World} {base : Nat} {ok ok' : Nat → Prop} {v : Value} {xs : List α}
end
section
variable {P : Program} {ops : Array Oper} {rest : List Oper} {o : Oper} {a : Act} {Q' : Exit → Act → World → Prop} {Kc : Act → World → Prop} {α : Type}
end
end Kd
/-! ### 29. Movers that ask of another row no more than they need: for R and for Q -/
namespace Kd
section
variable {α : Type} {d : Kd α} {e e' : Nat} {w w1 W : World} {base : Nat} {ok : Nat → Prop} {u v : Value} {xs : List α}
end
end Kd
/-! ### 30. Elements written: x[i] = T{..}, x[i].f = v, swaps, in a row of elements of any kind -/
namespace Kd
section
variable {α : Type} {d : Kd α} {e base g n cap : Nat} {ok okp : Nat → Prop} {W : World} {xs : List α}
end
end Kd
/-! ### 31. What came in, put into what is made: 'fixed d w0' (read in w0, whatever happens since), 'or_ a b', 'mix' (a slice that came in, or one that is made) -/
namespace Kd
section
variable {α : Type} {F : Kd α → Kd α} {sz : Nat} {E : List Nat} {hs : ∀ n, (upto F sz E n).sz = sz} {hE : ∀ n q, q ∈ (upto F sz E n).E → q ∈ E}
end
end Kd
/-! ### 32. A whole row appended, of elements of any kind; copy onto a row of scalars of one's own -/
namespace Kd
section
variable {P : Program} {ops : Array Oper} {rest : List Oper} {o : Oper} {a : Act} {Q : Exit → Act → World → Prop} {α : Type}
end
end Kd
/-! ### 33. A store into a row of one's own, as_ an event: no go_simp -/
namespace Kd
section
variable {P : Program} {ops : Array Oper} {rest : List Oper} {o : Oper} {a : Act} {Q : Exit → Act → World → Prop} {α : Type}
end
end Kd
/-! ### 34. Cuts that are only read, of any row -/
theorem add_add (a : Addr) (i j : Nat) : (a.add i).add j = a.add (i + j) := by
  unfold Addr.add
  by_cases h1 : i = 0 <;> by_cases h2 : j = 0 <;> simp [h1, h2, Nat.add_assoc]
namespace Kd
section
variable {α : Type} {k : Kd α} {w : World} {A : Option Addr} {xs : List α} {m c : Nat}
end
end Kd
section
variable {P : Program}
end
/-! ### 35. string(b), b read (a cut too) -/
/-! ### 6. What the printer adds -/
namespace Kd
section
variable {α β : Type} {d : Kd α} {d' : Kd β} {e e' base base' n : Nat} {ok ok' : Nat → Prop} {w W w1 W1 : World} {v u : Value} {xs : List α} {ys : List β} {A : Option Addr} {c : Nat}
end
section
variable {α : Type} {enc : α → Value} {h1 : ∀ x, (enc x).oneCell' = true} {w W : World} {A : Option Addr} {n g : Nat} {xs : List α}
end
end Kd
namespace Kd
section
variable {α : Type} {d : Kd α} {e base g : Nat} {ok : Nat → Prop} {w w1 : World} {v : Value} {xs : List α} {o : Obj}
end
end Kd
section
variable {P : Program} {ops : Array Oper} {rest : List Oper} {o : Oper} {a : Act} {Q : Exit → Act → World → Prop}
end
namespace Kd
section
variable {α : Type} {enc : α → Value} {h1 : ∀ x, (enc x).oneCell' = true} {e base g n cap : Nat} {ok : Nat → Prop} {W : World} {xs : List α}
end
end Kd
section
variable {P : Program} {ops : Array Oper} {rest : List Oper} {o : Oper} {a : Act} {Q : Exit → Act → World → Prop}
end
namespace Kd
section
variable {α : Type} {enc : α → Value} {h1 : ∀ x, (enc x).oneCell' = true} {e base g n cap : Nat} {ok : Nat → Prop} {W : World} {xs : List α}
end
end Kd
section
variable {P : Program} {ops : Array Oper} {rest : List Oper} {o : Oper} {a : Act} {Q : Exit → Act → World → Prop} {W : World}
end
/-! ### 36. Events as_ one step of a region that draws (for one_, two_, three_) -/
section
variable {P : Program} {ops : Array Oper} {o : Oper} {a : Act} {Q : Exit → Act → World → Prop} {Kc : Act → World → Prop}
namespace Kd
variable {α : Type}
end Kd
end
/-! ### 37. Results of any shape -/
section
variable {P : Program} {tmps : Array Value} {w : World}
end
/-! ### 38. 'out = append(out[:k], out[k+1:]...)': an element taken out of a row of one's own, in place -/
namespace Kd
section
variable {P : Program} {α : Type}
end
section
variable {P : Program} {ops : Array Oper} {rest : List Oper} {o : Oper} {a : Act} {Q : Exit → Act → World → Prop} {Kc : Act → World → Prop} {α : Type}
end
end Kd

end Go.Proofs.YtilmndkbloodbaaW.PrintWords

/-
  Plain lemmas on Go's whole numbers (wraps, bit operations, shifts), without any program. No condition.
-/
namespace Go.Proofs.Ytilmndkbloodbaa.Num
open Go.RowKit Go.Proofs.YtilmndkbloodbaaW.PrintWords

theorem wf_i64 {a : Int} (h : (Lit.int .i64 a).wf = true) : -9223372036854775808 ≤ a ∧ a < 9223372036854775808 := by
  simp [Lit.wf, IntKind.min, IntKind.max, IntKind.signed, IntKind.bits] at h; omega
end Go.Proofs.Ytilmndkbloodbaa.Num

/-
  Layer 6: the contracts over objects, case by case, for the laws' walks; and the plain facts of forms (their size, that unlike objects have unlike ones, that a beginning of one is none's). No condition but those told at each.
-/
namespace Go.Proofs.Ytilmndkbloodbaa.M
open Go.RowKit Go.Proofs.YtilmndkbloodbaaW.PrintWords Go.Proofs.Ytilmndkbloodbaa.Num Go.Proofs.Ytilmndkbloodbaa.Seven Go.Proofs.Ytilmndkbloodbaa.Word1 Go.Proofs.Ytilmndkbloodbaa.Obj
set_option linter.unusedVariables false
set_option linter.unusedSimpArgs false
theorem Ob.parts {w : World} {v : Value} {o : Obj6} (h : Ob w v o) : ∃ A1 c1 A2 c2 A3 c3, v = .agg #[.string o.1, .slice A1 o.2.1.length c1, .slice A2 o.2.2.1.length c2, .slice A3 o.2.2.2.length c3] ∧ Ob w (.agg #[.string o.1, .slice A1 o.2.1.length c1, .slice A2 o.2.2.1.length c2, .slice A3 o.2.2.2.length c3]) o := by
  obtain ⟨A1, c1, A2, c2, A3, c3, rfl, h⟩ := h
  exact ⟨A1, c1, A2, c2, A3, c3, rfl, A1, c1, A2, c2, A3, c3, rfl, h⟩
/-! ### Plain -/
/-! ### Case by case -/
theorem small_c {w : World} {v : Value} {o : Obj6} (h : Ob w v o) (b : Bool) (hb : decide (o.2.2.1.length ≤ 200) = b) : Calls Try.prog 8 #[v] w fun e w' => e = .returned (.bool b) ∧ Below w.heap.size w w' := by
  obtain ⟨A1, c1, A2, c2, A3, c3, rfl, h1, l1, h2, l2, h3, l3⟩ := h
  have hd : decide ((o.2.2.1.length : Int) ≤ 200) = b := by rw [← hb]; exact decide_eq_decide.2 (by omega)
  clear hb h1 l1 h2 l2 h3 l3
  generalize o.1 = s0
  generalize o.2.1.length = n1
  generalize o.2.2.1.length = n2 at hd ⊢
  generalize o.2.2.2.length = n3
  go_enter Try.func8, Try.ntmps8
  go_wp2
  go_ret
  exact ⟨rfl, below_alloc (Below.refl w.heap.size w) _⟩
end Go.Proofs.Ytilmndkbloodbaa.M

/-
  A value whose type holds nothing but whole numbers, bools and texts, however its structs and arrays are nested, as the reader reads it: its cells one by one. No condition.
-/
namespace Go.Proofs.Ytilmndkbloodbaa.Flat
open Go.ChangeShapes Go.WideShapes

section
variable {H : Type} {enc : TypeId × Value → H} {P : Program} {w : World} {base : Nat} {spare : Nat → Bool} {held : Bool}

theorem fields_ok (g : TypeId → Option (List Leaf)) (cs : List Value) (n : Nat) (hg : ∀ t ls (c : List Value) x, g t = some ls → DataW.trod enc P w base spare held n t c = some x → AllOk ls c) :
    ∀ (fs : List Field) (off : Nat) (l : List Leaf), fieldsL P g fs off = some l →
      (∀ f ∈ fs, ∃ x, DataW.trod enc P w base spare held n f.type ((cs.drop f.offset).take (P.cellsOf f.type)) = some x) → AllOk l ((cs.drop off).take l.length)
  | [], off, l, h, _ => by
    simp only [fieldsL, Option.some.injEq] at h
    subst h
    simp [AllOk]
  | f :: fs, off, l, h, hf => by
    unfold fieldsL at h
    by_cases ho : f.offset = off
    case neg => rw [if_neg ho] at h; cases h
    rw [if_pos ho] at h
    cases hgf : g f.type with
    | none => rw [hgf] at h; cases h
    | some lf =>
      rw [hgf] at h
      simp only at h
      by_cases hl : lf.length = P.cellsOf f.type
      case neg => rw [if_neg hl] at h; cases h
      rw [if_pos hl] at h
      cases hr : fieldsL P g fs (off + lf.length) with
      | none => rw [hr] at h; cases h
      | some lr =>
        rw [hr] at h
        simp only [Option.map_some, Option.some.injEq] at h
        subst h
        obtain ⟨x, hx⟩ := hf f (by simp)
        have h1 := hg _ _ _ _ hgf hx
        have h2 := fields_ok g cs n hg fs (off + lf.length) lr hr (fun f' hf' => hf f' (by simp [hf']))
        rw [ho, ← hl] at h1
        have := h1.append h2
        rw [List.length_append]
        have e : (cs.drop off).take (lf.length + lr.length) = (cs.drop off).take lf.length ++ (cs.drop (off + lf.length)).take lr.length := by
          rw [List.take_add, List.drop_drop]
        rw [e]
        exact this

theorem rounds_ok (l : List Leaf) (cs : List Value) (n : Nat) (e : TypeId) (hl : l.length = P.cellsOf e) (hg : ∀ (c : List Value) x, DataW.trod enc P w base spare held n e c = some x → AllOk l c) :
    ∀ m, (∀ i, i < m → ∃ x, DataW.trod enc P w base spare held n e ((cs.drop (i * P.cellsOf e)).take (P.cellsOf e)) = some x) → AllOk (List.replicate m l).flatten (cs.take (m * l.length))
  | 0, _ => by simp [AllOk]
  | m + 1, h => by
    have h1 := rounds_ok l cs n e hl hg m (fun i hi => h i (by omega))
    obtain ⟨x, hx⟩ := h m (by omega)
    have h2 := hg _ _ hx
    rw [← hl] at h2
    have h3 := h1.append h2
    rw [List.replicate_succ', List.flatten_append, Nat.succ_mul, List.take_add]
    simpa using h3

theorem mapM_mem {α β : Type} {f : α → Option β} : ∀ {l : List α} {xs : List β}, l.mapM f = some xs → ∀ a ∈ l, ∃ x, f a = some x
  | [], _, _, a, ha => by cases ha
  | b :: l, xs, h, a, ha => by
    rw [List.mapM_cons] at h
    cases hb : f b with
    | none => simp [hb] at h
    | some y =>
      cases hl : l.mapM f with
      | none => simp [hb, hl] at h
      | some ys =>
        rcases List.mem_cons.1 ha with rfl | ha
        · exact ⟨y, hb⟩
        · exact mapM_mem hl a ha

theorem leaves_ok : ∀ (m : Nat) (t : TypeId) (ls : List Leaf), leaves P m t = some ls → ∀ (fuel : Nat) (cs : List Value) x, DataW.trod enc P w base spare held fuel t cs = some x → AllOk ls cs
  | 0, _, _, h => by cases h
  | m + 1, t, ls, h => by
    intro fuel cs x hx
    unfold leaves at h
    split at h
    · rename_i k ht
      obtain rfl := Option.some.inj h
      obtain ⟨n, rfl, _, hw⟩ := DataW.trod_int ht hx
      exact ⟨⟨n, rfl, hw⟩, trivial⟩
    · rename_i ht
      obtain rfl := Option.some.inj h
      obtain ⟨b, rfl, _⟩ := DataW.trod_bool ht hx
      exact ⟨⟨b, rfl⟩, trivial⟩
    · rename_i ht
      obtain rfl := Option.some.inj h
      obtain ⟨s, rfl, _, hs⟩ := DataW.trod_string ht hx
      exact ⟨⟨s, rfl, hs⟩, trivial⟩
    · rename_i fs ht
      split at h
      · rename_i l hl
        by_cases hc : l.length = P.cellsOf t
        case neg => rw [if_neg hc] at h; cases h
        rw [if_pos hc] at h
        obtain rfl := Option.some.inj h
        obtain ⟨xs, n, rfl, _, hlen, hxs, hf⟩ := DataW.trod_struct ht hx
        have := fields_ok (leaves P m) cs n (fun t ls c x h hx => leaves_ok m t ls h n c x hx) fs.toList 0 l hl (fun f hf' => by
          obtain ⟨i, hi, rfl⟩ := List.mem_iff_getElem.1 hf'
          have hi' : i < fs.size := by simpa using hi
          have h1 := hf i fs[i] (by simp [hi'])
          have h2 : i < xs.length := by rw [hxs]; exact hi'
          rw [List.getElem?_eq_getElem h2] at h1
          exact ⟨_, by simpa using h1⟩)
        rw [List.drop_zero, hc, ← hlen, List.take_length] at this
        exact this
      · cases h
    · rename_i k e ht
      split at h
      · rename_i l hl
        by_cases hc : l.length = P.cellsOf e ∧ P.cellsOf t = k * l.length
        case neg => rw [if_neg hc] at h; cases h
        rw [if_pos hc] at h
        obtain rfl := Option.some.inj h
        cases fuel with
        | zero => simp [DataW.trod] at hx
        | succ n =>
          unfold DataW.trod at hx
          rw [ht] at hx
          simp only at hx
          by_cases hlen : cs.length = P.cellsOf t
          case neg => rw [if_neg hlen] at hx; cases hx
          rw [if_pos hlen] at hx
          obtain ⟨ys, hys, _⟩ := Option.map_eq_some_iff.1 hx
          have := rounds_ok l cs n e hc.1 (fun c x hx => leaves_ok m e l hl n c x hx) k (fun i hi => mapM_mem hys i (List.mem_range.2 hi))
          rw [← hc.2, ← hlen, List.take_length] at this
          exact this
      · cases h
    · cases h
end
end Go.Proofs.Ytilmndkbloodbaa.Flat

/-
  Layer 6: an argument that is an object, as the reader reads it: its texts, and its rows' elements. No condition.
-/
namespace Go.Proofs.Ytilmndkbloodbaa.M
open Go.RowKit Go.Proofs.YtilmndkbloodbaaW.PrintWords Go.Proofs.Ytilmndkbloodbaa.Num Go.Proofs.Ytilmndkbloodbaa.Flat
open Go.ChangeMaps (open_string shut_string)
open Go.ChangeShapes Go.WideShapes Go.Deep
set_option linter.unusedVariables false
set_option linter.unusedSimpArgs false
section
variable {H : Type} {enc : TypeId × Value → H} {P : Program} {W : World} {spare : Nat → Bool} {held : Bool}
/-- A slice whose elements are flat: what it reads as, and that its weight bounds it. -/
theorem open_row {α : Type} {k : Kd α} {Q : α → Prop} {t e : TypeId} {m n : Nat} {ls : List Leaf} {v : Value} {y : DataW H × List MemPlace} (ht : P.underlying t = some (.slice e)) (hL : leaves P m e = some ls) (hc : P.cellsOf e = k.sz)
    (mk : ∀ cs, AllOk ls cs → ∃ x, (∀ w, k.K w x cs) ∧ Q x) (h : DataW.trod enc P W 0 spare held n t [v] = some y) :
    ∃ A c l, v = .slice A l.length c ∧ k.C W A l.length l ∧ l.length ≤ c ∧ (∀ x ∈ l, Q x) ∧ ((∀ z ∈ y.1.weights P t, z ≤ reachBytes) → l.length * P.bytesOf e ≤ 140737488351232) := by
  rcases open_slice ht h with ⟨hcs, rfl⟩ | ⟨a, len, cap, mm, n', D, Pl, hcs, _, hl, hm, hmm, rfl, hx⟩
  · obtain rfl : v = .slice none 0 0 := by simpa using hcs
    refine ⟨none, 0, [], rfl, ⟨rfl, by simp, fun h => absurd h (by simp)⟩, Nat.le_refl _, by simp, by simp⟩
  · obtain rfl : v = .slice (some a) len cap := by simpa using hcs
    have hlm : len ≤ mm := by rw [hmm]; split <;> omega
    have key : ∀ i, i < len → ∃ x : α, ∃ cs, (∀ w, k.K w x cs) ∧ Q x ∧ W.cells? 0 (a.add (i * P.cellsOf e)) (P.cellsOf e) = some cs := by
      intro i hi
      obtain ⟨cs, h1, h2⟩ := hx i (by omega)
      obtain ⟨x, hK, hQ⟩ := mk cs (leaves_ok m e ls hL n' cs _ h2)
      exact ⟨x, cs, hK, hQ, h1⟩
    have key2 : ∃ l : List α, l.length = len ∧ ∀ i x, l[i]? = some x → ∃ cs, (∀ w, k.K w x cs) ∧ Q x ∧ W.cells? 0 (a.add (i * P.cellsOf e)) (P.cellsOf e) = some cs := by
      clear h hcs hmm hlm hx hl
      induction len with
      | zero => exact ⟨[], rfl, by simp⟩
      | succ j ih =>
        obtain ⟨l, hl, hr⟩ := ih (fun i hi => key i (by omega))
        obtain ⟨x, hx⟩ := key j (by omega)
        refine ⟨l ++ [x], by simp [hl], fun i z hz => ?_⟩
        by_cases hi : i < l.length
        · rw [List.getElem?_append_left hi] at hz
          exact hr i z hz
        · have hij : i = j := by
            have := (List.getElem?_eq_some_iff.1 hz).1
            simp at this
            omega
          subst hij
          rw [List.getElem?_append_right (by omega), hl] at hz
          simp at hz
          subst hz
          exact hx
    obtain ⟨l, hll, hr⟩ := key2
    refine ⟨some a, cap, l, by rw [hll], ⟨rfl, by unfold maxLen at hm; omega, fun _ => ⟨a, rfl, fun j p hj => ?_⟩⟩, by omega, ?_, ?_⟩
    · obtain ⟨cs, hK, _, hcell⟩ := hr j p hj
      obtain ⟨_, hlen, hget⟩ := World.cells?_some hcell
      refine ⟨cs, by rw [hlen, hc], hK W, fun i u hu => ?_⟩
      have hi := (List.getElem?_eq_some_iff.1 hu).1
      have := hget i (by omega)
      rw [Go.Deep.add_add, hu, hc] at this
      exact this
    · intro x hxm
      obtain ⟨i, hi, rfl⟩ := List.mem_iff_getElem.1 hxm
      obtain ⟨_, _, hQ, _⟩ := hr i _ (List.getElem?_eq_getElem hi)
      exact hQ
    · intro hz
      have := hz ((((List.range len).map D).length + ((List.range (mm - len)).map fun j => D (len + j)).length) * P.bytesOf e) (by simp [DataW.weights, ht])
      simp only [List.length_map, List.length_range] at this
      rw [hll]
      exact Nat.le_trans (Nat.mul_le_mul_right _ (Nat.le_add_right _ _)) this
end
/-- An argument that is an object. -/
theorem open_obj {H : Type} {enc : TypeId × Value → H} {W : World} {spare : Nat → Bool} {held : Bool} {r : Reach} {b0 : Nat} {v : Value} {d : DataW H} {p : List MemPlace} (hv : Value.okWide Try.prog W r b0 26 v) (h : DataW.Trod enc Try.prog W 0 spare held 26 v d p)
    (hz : ∀ z ∈ d.weights Try.prog 26, z ≤ reachBytes) : ∃ o : Obj6, Ob W v o ∧ wordsOk o.2.1 ∧ o.2.1.length * 8 ≤ 140737488351232 ∧ o.2.2.1.length * 32 ≤ 140737488351232 ∧ o.2.2.2.length * 40 ≤ 140737488351232 := by
  obtain ⟨v0, v1, v2, v3, y0, y1, y2, y3, n, rfl, rfl, _, h0, h1, h2, h3⟩ := Go.Joins.open_agg4 Try.underlying26 (by kernel_rfl) (by kernel_rfl) hv h
  obtain ⟨s, hs, _, _⟩ := DataW.trod_string Try.underlying9 h0
  obtain rfl : v0 = .string s := by simpa using hs
  have hw : ∀ z, z ∈ y1.1.weights Try.prog 22 ∨ z ∈ y2.1.weights Try.prog 23 ∨ z ∈ y3.1.weights Try.prog 24 → z ≤ reachBytes := by
    intro z hzz
    apply hz
    simp only [DataW.weights, Try.underlying26, DataW.weightsEach, List.map, List.mem_append]
    rcases hzz with h | h | h
    · exact .inr (.inl h)
    · exact .inr (.inr (.inl h))
    · exact .inr (.inr (.inr (.inl h)))
  obtain ⟨A1, c1, l1, rfl, k1, m1, q1, b1⟩ := open_row (k := Kd.int .i64) (Q := fun x => -9223372036854775808 ≤ x ∧ x < 9223372036854775808) (m := 1) Try.underlying22 (e := 2) (ls := [.int .i64]) (by kernel_rfl) (by kernel_rfl) (fun cs hcs => by
    obtain ⟨v, vs, rfl, ⟨x, rfl, hx⟩, hr⟩ := hcs.cons
    obtain rfl := hr.nil
    exact ⟨x, fun _ => rfl, wf_i64 hx⟩) h1
  obtain ⟨A2, c2, l2, rfl, k2, m2, _, b2⟩ := open_row (k := k41) (Q := fun _ => True) (m := 2) Try.underlying23 (e := 41) (ls := [.str, .int .i64, .int .i64]) (by kernel_rfl) (by kernel_rfl) (fun cs hcs => by
    obtain ⟨u0, vs0, rfl, ⟨x0, rfl, _⟩, hr0⟩ := hcs.cons
    obtain ⟨u1, vs1, rfl, ⟨x1, rfl, _⟩, hr1⟩ := hr0.cons
    obtain ⟨u2, vs2, rfl, ⟨x2, rfl, _⟩, hr2⟩ := hr1.cons
    obtain rfl := hr2.nil
    exact ⟨⟨x0, x1, x2⟩, fun _ => ⟨_, _, rfl, rfl, ⟨_, _, rfl, rfl, rfl⟩⟩, trivial⟩) h2
  obtain ⟨A3, c3, l3, rfl, k3, m3, _, b3⟩ := open_row (k := k43) (Q := fun _ => True) (m := 2) Try.underlying24 (e := 43) (ls := [.int .i64, .int .i64, .str, .int .i64]) (by kernel_rfl) (by kernel_rfl) (fun cs hcs => by
    obtain ⟨u0, vs0, rfl, ⟨x0, rfl, _⟩, hr0⟩ := hcs.cons
    obtain ⟨u1, vs1, rfl, ⟨x1, rfl, _⟩, hr1⟩ := hr0.cons
    obtain ⟨u2, vs2, rfl, ⟨x2, rfl, _⟩, hr2⟩ := hr1.cons
    obtain ⟨u3, vs3, rfl, ⟨x3, rfl, _⟩, hr3⟩ := hr2.cons
    obtain rfl := hr3.nil
    exact ⟨⟨x0, x1, x2, x3⟩, fun _ => ⟨_, _, rfl, rfl, ⟨_, _, rfl, rfl, ⟨_, _, rfl, rfl, rfl⟩⟩⟩, trivial⟩) h3
  exact ⟨(s, l1, l2, l3), ⟨A1, c1, A2, c2, A3, c3, rfl, k1, m1, k2, m2, k3, m3⟩, q1, b1 (fun z hzz => hw z (.inl hzz)), b2 (fun z hzz => hw z (.inr (.inl hzz))), b3 (fun z hzz => hw z (.inr (.inr hzz)))⟩
end Go.Proofs.Ytilmndkbloodbaa.M

