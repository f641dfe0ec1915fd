/-
  Texts of the proofs of ObjfWrites, cut to what the proofs reach and packed by a program of this session (wip/packs.py). Each part begins with what it says; conditions: those told there.
-/
import Derived.Test.YtilmndkbloodbaaPO6B2n1
-- lines of print.sh's words, cut to what these proofs reach by a program of this session
-- PRINTED WORDS (module Derived/Print/Words.lean): go-wishes' parts 1 to 38 and go-gate-2's additions: AI agents of Go's test side, Mon Nov 16 2026; no person has read them. Plain theorems and definitions: no macro, no elab, no axiom.
set_option linter.unusedVariables false
set_option linter.unusedSimpArgs false
namespace Go.Proofs.YtilmndkbloodbaaW.PrintWords
open Go.RowKit

/-! ### 1. Values and lists -/
/-! ### 2. The world -/
/-! ### 3. A slice of whole numbers that is read; nil, empty and other slices alike -/
/-! ### 4. A row of the call's own -/
/-! ### 5. append(v, x): behind 'at_builtin'; the goal's world is 'W.alloc' of the variadic's box -/
section
variable {P : Program} {ops : Array Oper} {rest : List Oper} {o : Oper} {a : Act} {Q : Exit → Act → World → Prop}

end

/-! ### 6. make([]T, n), n an Int; a literal -/
section
variable {P : Program}
end
/-! ### 7. v[i] read and v[i] = x, v a row of the call's own: 'obtain ⟨g, cap, rfl, hgb, hgl⟩ := HO.out.form (by omega)' first -/
/-! ### 8. append(v, ys...): ys a slice that is read, nil let in; behind 'at_builtin' -/
section
variable {P : Program} {ops : Array Oper} {rest : List Oper} {o : Oper} {a : Act} {Q : Exit → Act → World → Prop}
end

/-! ### 9. []byte(s): a slice that is read (its row bears a conversion's mark: no row of one's own); cuts of a slice that is read -/
/-! ### 10. Rounds: more rounds give the same answer; what ends gives a number of rounds -/
/-! ### 11. Rows of elements of several cells (structs): read, made. R: what an element's cells say ('RepItem w': printed for each type) -/
section
variable {P : Program} {ops : Array Oper} {rest : List Oper} {o : Oper} {a : Act} {Q : Exit → Act → World → Prop}
end

/-! ### 12. A block of one's own that is a state: its cells, what a store leaves -/
/-! ### 13. Two states at once: what a call on the state at block g (its row before: 'row') has turned -/
/-! ### 10b. From some number of rounds on -/
/-! ### 14. append as_ one step of a region that draws its order: for 'go_region_law' (and a region walked by hand) -/
section
variable {P : Program} {ops : Array Oper} {o : Oper} {a : Act} {Q : Exit → Act → World → Prop} {K : Act → World → Prop}
end
/-! ### 15. A row's base may be lowered -/
/-! ### 16. Parts 3 to 9 for ANY element of one cell: 'enc' (Value.int k, Value.string, Value.bool), a default 'd' -/
section
variable {α : Type} {enc : α → Value} {d : α}
end
section
variable {α : Type} {P : Program} {ops : Array Oper} {rest : List Oper} {o : Oper} {a : Act} {Q : Exit → Act → World → Prop}
end

/-! ### 17. Rows of one element type held at once: no two share a block -/
/-! ### 18. A block behind a new one; behind a draw -/
/-! ### 19. Results that lie in memory beside others -/
section
variable {P : Program}
end
/-! ### 20. Rows of elements of any kind: R is what an element's cells say -/
section
variable {α : Type} {R R' : α → List Value → Prop} {e : TypeId} {size : Nat} {w w1 : World} {base : Nat} {v : Value} {ps : List α}
end
section
variable {P : Program} {ops : Array Oper} {rest : List Oper} {o : Oper} {a : Act} {Q : Exit → Act → World → Prop} {α : Type} {R : α → List Value → Prop}
end
section
variable {P : Program} {ops : Array Oper} {o : Oper} {a : Act} {Q : Exit → Act → World → Prop} {K : Act → World → Prop} {α : Type} {R : α → List Value → Prop}
end
/-- What is read as_ a row has its cells one behind the other. -/
theorem ReadsRow.inner_ {α : Type} {R : α → List Value → Prop} {size : Nat} {w : World} {ad : Addr} {n : Nat} {ps : List α} (h : ReadsRow R size w (some ad) n ps) :
    ∃ inner, Reps R size ps inner ∧ ∀ j u, inner[j]? = some u → w.cell? (ad.add j) = some u := by
  have key : ∀ m, m ≤ ps.length → ∃ inner, Reps R size (ps.take m) inner ∧ ∀ j u, inner[j]? = some u → w.cell? (ad.add j) = some u := by
    intro m
    induction m with
    | zero => exact fun _ => ⟨[], Reps.none _ _, fun j u hu => by simp at hu⟩
    | succ m ih =>
      intro hm
      obtain ⟨inner, hr, hc⟩ := ih (by omega)
      obtain ⟨ad', he, hcell⟩ := h.2.2 (by have := h.1; omega)
      injection he with he
      subst he
      obtain ⟨c, hcl, hp, hcc⟩ := hcell m _ (List.getElem?_eq_getElem (show m < ps.length by omega))
      refine ⟨inner ++ c, ?_, fun j u hu => ?_⟩
      · rw [List.take_succ_eq_append_getElem (show m < ps.length by omega)]
        exact hr.snoc hp hcl
      · have hil : inner.length = m * size := by rw [hr.1, List.length_take, Nat.min_eq_left (by omega)]
        rcases Nat.lt_or_ge j inner.length with hj | hj
        · rw [List.getElem?_append_left hj] at hu
          exact hc j u hu
        · rw [List.getElem?_append_right hj] at hu
          have := hcc (j - inner.length) u hu
          rwa [hil, Nat.add_sub_cancel' (by omega)] at this
  obtain ⟨inner, hr, hc⟩ := key ps.length (Nat.le_refl _)
  rw [List.take_length] at hr
  exact ⟨inner, hr, hc⟩
/-! ### 21. Cuts of a slice that came in, lengths spelled as_ the lists' -/
section
variable {α : Type} {P : Program}
end

/-! ### 22. append([]byte, s...), s a string; behind 'at_builtin'. (No word on where the new row lies: two rows of bytes at once don't go by it.) -/
section
variable {P : Program} {ops : Array Oper} {rest : List Oper} {o : Oper} {a : Act} {Q : Exit → Act → World → Prop}
end
/-! ### 23. KINDS: what a value's cells say, read (K) and made (M), kind by kind; every mover proved once -/
namespace Kd
section
variable {α : Type} {d : Kd α} {e : Nat} {w w1 : World} {base : Nat} {ok ok' : Nat → Prop} {v : Value} {xs : List α}
/-- Another row (a block, or none) has been written. -/
theorem R_grown (h : d.R e w base ok v xs) {row : Option Nat} (hg : w.grownBy w1 row) (hok : ∀ k, ok k → some k ≠ row) : d.R e w1 base ok v xs := R_step h (fun k ho hk => hg.block k hk (hok k ho))
end

/-! #### the kinds -/
/-! #### an element of a row that is read; an element appended -/
section
variable {P : Program} {ops : Array Oper} {rest : List Oper} {o : Oper} {a : Act} {Q : Exit → Act → World → Prop} {α : Type}
end
section
variable {P : Program} {ops : Array Oper} {o : Oper} {a : Act} {Q : Exit → Act → World → Prop} {Kc : Act → World → Prop} {α : Type}
end
end Kd
/-! ### 24. Kinds nested in themselves -/
namespace Kd
section
variable {α : Type} {F : Kd α → Kd α} {sz : Nat} {E : List Nat} {hs : ∀ n, (upto F sz E n).sz = sz} {hE : ∀ n q, q ∈ (upto F sz E n).E → q ∈ E}
end
end Kd
/-! ### 25. What is held while another row is written: 'ok' says that its rows are none of that row's block -/
namespace Kd
end Kd
/-! ### 26. Words for a printer that takes every slice by its kind -/
namespace Kd
section
variable {α β : Type} {d : Kd α} {d' : Kd β} {e e' : Nat} {w w1 W : World} {base b b' : Nat} {ok ok' okv oku : Nat → Prop} {v u : Value} {xs : List α} {ys : List β}
end
/-! #### scalars -/
section
variable {w W : World} {A : Option Addr} {n : Nat}
variable {α : Type} {enc : α → Value} {h1 : ∀ x, (enc x).oneCell' = true} {e base g cap : Nat} {ok : Nat → Prop} {xs : List α}
end

/-! #### events: a letter for what make and a literal leave -/
section
variable {P : Program} {ops : Array Oper} {rest : List Oper} {o : Oper} {a : Act} {Q : Exit → Act → World → Prop}
variable {α : Type}
end
end Kd
/-! ### 27. Cuts of a row of one's own: 'xs = xs[:n]' stays a row (R_take); 'xs = xs[k:]' is a row that begins inside its block (Kd.Q), append goes on it too -/
section
variable {P : Program}
end
section
variable {w w1 : World} {base n size : Nat} {e : TypeId} {v : Value} {xs : List Value}
end
section
variable {P : Program}
end
/-! ### 28. The kinds' words for cuts: R_take; Q (a row that may begin inside its block) with all of R's movers -/
namespace Kd
section
variable {α : Type} {d : Kd α} {e : Nat} {w w1 W : World} {base : Nat} {ok ok' : Nat → Prop} {v : Value} {xs : List α}
end
section
variable {P : Program} {ops : Array Oper} {rest : List Oper} {o : Oper} {a : Act} {Q' : Exit → Act → World → Prop} {Kc : Act → World → Prop} {α : Type}
end
end Kd
/-! ### 29. Movers that ask of another row no more than they need: for R and for Q -/
namespace Kd
section
variable {α : Type} {d : Kd α} {e e' : Nat} {w w1 W : World} {base : Nat} {ok : Nat → Prop} {u v : Value} {xs : List α}
end
end Kd
/-! ### 30. Elements written: x[i] = T{..}, x[i].f = v, swaps, in a row of elements of any kind -/
namespace Kd
section
variable {α : Type} {d : Kd α} {e base g n cap : Nat} {ok okp : Nat → Prop} {W : World} {xs : List α}
end
end Kd
/-! ### 31. What came in, put into what is made: 'fixed d w0' (read in w0, whatever happens since), 'or_ a b', 'mix' (a slice that came in, or one that is made) -/
namespace Kd
section
variable {α : Type} {F : Kd α → Kd α} {sz : Nat} {E : List Nat} {hs : ∀ n, (upto F sz E n).sz = sz} {hE : ∀ n q, q ∈ (upto F sz E n).E → q ∈ E}
end
end Kd
/-! ### 32. A whole row appended, of elements of any kind; copy onto a row of scalars of one's own -/
namespace Kd
theorem reps_append {α : Type} {R : α → List Value → Prop} {size : Nat} {ps qs : List α} {cs ds : List Value} (h : Reps R size ps cs) (h' : Reps R size qs ds) : Reps R size (ps ++ qs) (cs ++ ds) := by
  refine ⟨by rw [List.length_append, List.length_append, h.1, h'.1, Nat.add_mul], fun j p hj => ?_⟩
  rcases Nat.lt_or_ge j ps.length with hlt | hge
  · rw [List.getElem?_append_left hlt] at hj
    have hle : j * size + size ≤ cs.length := by rw [h.1, ← Nat.succ_mul]; exact Nat.mul_le_mul_right _ hlt
    rw [List.drop_append_of_le_length (by omega), List.take_append_of_le_length (by rw [List.length_drop]; omega)]
    exact h.2 j p hj
  · rw [List.getElem?_append_right hge] at hj
    have h2 := h'.2 (j - ps.length) p hj
    have hle : ps.length * size ≤ j * size := Nat.mul_le_mul_right _ hge
    rw [List.drop_append, List.drop_eq_nil_of_le (by rw [h.1]; exact hle), List.nil_append, h.1, ← Nat.sub_mul]
    exact h2
section
variable {P : Program} {ops : Array Oper} {rest : List Oper} {o : Oper} {a : Act} {Q : Exit → Act → World → Prop} {α : Type}
/-- append(v, ys...): Rr is what is known of a read element's cells (d.K W; or k<T>.K w0 for a row that came in), hKM: it may stand as_ made. -/
theorem R_append_rows (d : Kd α) {Rr : α → List Value → Prop} {w0 W : World} (base : Nat) (hgd : o.guard = none) (s x : Operand) (t e : TypeId) (z : Value) (bytes : Nat)
    (ho : o.op = .call { callee := .builtin .append, args := #[s, x], argTypes := #[t, t] })
    (ht : P.underlying t = some (.slice e)) (hinfo : (P.info? e).map (fun i => (i.zero, i.size, i.bytes)) = some (some z, d.sz, bytes)) (hz : z.cells.size = d.sz) (hs0 : 0 < d.sz) (hb0 : 0 < bytes)
    (v : Value) (xs ys : List α) (A : Option Addr) (m c : Nat) (ok okp : Nat → Prop) (hs : a.eval s = v) (hx : a.eval x = .slice A m c)
    (HO : d.R e W base ok v xs) (HR : ReadsRow Rr d.sz W A m ys) (hKM : ∀ x cs, Rr x cs → d.M W base okp x cs) (hokp : ∀ k, okp k → ok k ∧ some k ≠ v.ownBlock) (hfresh : ∀ k, W.heap.size ≤ k → ok k)
    (HB : Below base w0 W) (hbase : base ≤ W.heap.size) (hl : (xs.length + m) * bytes ≤ 140737488355328)
    (h : ∀ v1 w1, d.R e w1 base ok v1 (xs ++ ys) → Below base w0 w1 → W.grownBy w1 v.ownBlock → (v1.ownBlock = v.ownBlock ∨ ∃ b, v1.ownBlock = some b ∧ W.heap.size ≤ b) → wpList P ops Q rest (a.put o.dst v1) w1) :
    wpList P ops Q (o :: rest) a W := by
  obtain ⟨i0, hi, hzz⟩ := Option.map_eq_some_iff.1 hinfo
  simp only [Prod.mk.injEq] at hzz
  obtain ⟨hz0, hz1, hz2⟩ := hzz
  have hm : ys.length = m := HR.1
  have hlen : xs.length + m ≤ 140737488355328 := Nat.le_trans (Nat.le_mul_of_pos_right _ hb0) hl
  obtain ⟨hok, inner, hown, hr⟩ := HO
  have hrun : ∃ v1 w1, (Builtin.append_ #[t, t] o.type #[v, .slice A m c]).run P W = .ok v1 w1 ∧ d.R e w1 base ok v1 (xs ++ ys) ∧ W.grownBy w1 v.ownBlock ∧ (v1.ownBlock = v.ownBlock ∨ ∃ b, v1.ownBlock = some b ∧ W.heap.size ≤ b) := by
    rcases A with _ | ad
    · have h0 : m = 0 := by
        rcases Nat.eq_zero_or_pos m with h0 | h0
        · exact h0
        · obtain ⟨ad, h, _⟩ := HR.2.2 h0
          cases h
      subst h0
      obtain rfl : ys = [] := List.eq_nil_of_length_eq_zero hm
      refine ⟨v, W, ?_, by rw [List.append_nil]; exact ⟨hok, inner, hown, hr⟩, World.grownBy.refl W _, .inl rfl⟩
      rcases hown.2 with ⟨rfl, hn⟩ | ⟨g, cap, cur, rfl, _, _, hnc, _⟩
      · simp [Builtin.append_, run_underlying ht, sizeOf, typeInfo, hi, Builtin.lenOf, Builtin.firstCells]
      · simp [Builtin.append_, run_underlying ht, sizeOf, typeInfo, hi, Builtin.lenOf, Builtin.firstCells, hnc, storeCells]
    · obtain ⟨news, hnr, hnc⟩ := ReadsRow.inner_ HR
      have hnM : Reps (d.M W base okp) d.sz ys news := hnr.imp_ (fun p c hp => hKM p c hp)
      have hone : ∀ u ∈ news, u.oneCell' = true := by
        intro u hu
        obtain ⟨q, hq, rfl⟩ := List.mem_iff_getElem.1 hu
        have hql : q / d.sz < ys.length := by
          rw [Nat.div_lt_iff_lt_mul hs0]
          rw [← hnM.1]
          exact hq
        have hc := hnM.2 (q / d.sz) _ (List.getElem?_eq_getElem hql)
        refine d.K_one (d.K_of_M hc) _ ?_
        rw [List.mem_iff_getElem?]
        refine ⟨q % d.sz, ?_⟩
        rw [List.getElem?_take, if_pos (Nat.mod_lt _ hs0), List.getElem?_drop, Nat.mul_comm, Nat.div_add_mod, List.getElem?_eq_getElem hq]
      obtain ⟨v1, w1, hrun, h2, hg, _, hat⟩ := run_append_own_at (P := P) W base t o.type e i0 z d.sz bytes ht hi hz0 hz1 hz2 hz hs0 v xs.length inner hown ad m c news (by rw [hnM.1, hm]) hnc hone (by simp only [maxLen]; omega) hl hbase
      have hat' : v1.ownBlock = v.ownBlock ∨ ∃ b, v1.ownBlock = some b ∧ W.heap.size ≤ b := by
        rcases hat with hat | hat
        · exact .inl hat
        · exact .inr ⟨_, hat, Nat.le_refl _⟩
      have hne : ∀ k, some k ≠ v.ownBlock → k < W.heap.size → some k ≠ v1.ownBlock := by
        intro k hk hlt
        rcases hat' with hat | ⟨b, hb, hle⟩
        · rw [hat]; exact hk
        · rw [hb]
          intro he
          injection he with he
          omega
      have step : ∀ {q : α} {c : List Value} {o : Nat → Prop}, d.M W base o q c → (∀ k, o k → ok k ∧ some k ≠ v.ownBlock) → d.M w1 base (fun k => ok k ∧ some k ≠ v1.ownBlock) q c := by
        intro q c o hq ho
        have h1 := d.M_move (w1 := w1) (fun k hk => hg.block k hk.2.2.1 (ho k hk.1).2) (d.M_bound hq)
        exact d.M_mono (fun k hk => ⟨(ho k hk.1).1, hne k (ho k hk.1).2 hk.2.2.1⟩) h1
      refine ⟨v1, w1, hrun, ⟨fun k hk => ?_, inner ++ news, by rw [List.length_append, hm]; exact h2, reps_append (hr.imp_ (fun _ _ hq => step hq (fun _ hk => hk))) (hnM.imp_ (fun _ _ hq => step hq hokp))⟩, hg, hat'⟩
      rcases hat' with hat | ⟨b, hb, hle⟩
      · exact hok k (hat ▸ hk)
      · rw [hb] at hk
        injection hk with hk
        exact hfresh k (by omega)
  obtain ⟨v1, w1, hr1, h1, hg, hat⟩ := hrun
  refine wpList_plain hgd fun K hK => ?_
  unfold Oper.wp execOp
  simp only [ho, resolve, invoke, builtin, Sem.run_bind, Sem.run_pure, Result.andThen_ok, List.map_toArray, List.map_cons, List.map_nil, hs, hx, hr1]
  exact hK _ _ (h v1 w1 h1 (HB.grown hg hbase (own_base hown)) hg hat)
end
end Kd
/-! ### 33. A store into a row of one's own, as_ an event: no go_simp -/
namespace Kd
section
variable {P : Program} {ops : Array Oper} {rest : List Oper} {o : Oper} {a : Act} {Q : Exit → Act → World → Prop} {α : Type}
end
end Kd
/-! ### 34. Cuts that are only read, of any row -/
namespace Kd
section
variable {α : Type} {k : Kd α} {w : World} {A : Option Addr} {xs : List α} {m c : Nat}
end
end Kd
section
variable {P : Program}
end
/-! ### 35. string(b), b read (a cut too) -/
/-! ### 6. What the printer adds -/
namespace Kd
section
variable {α β : Type} {d : Kd α} {d' : Kd β} {e e' base base' n : Nat} {ok ok' : Nat → Prop} {w W w1 W1 : World} {v u : Value} {xs : List α} {ys : List β} {A : Option Addr} {c : Nat}
end
section
variable {α : Type} {enc : α → Value} {h1 : ∀ x, (enc x).oneCell' = true} {w W : World} {A : Option Addr} {n g : Nat} {xs : List α}
end
end Kd
namespace Kd
section
variable {α : Type} {d : Kd α} {e base g : Nat} {ok : Nat → Prop} {w w1 : World} {v : Value} {xs : List α} {o : Obj}
end
end Kd
section
variable {P : Program} {ops : Array Oper} {rest : List Oper} {o : Oper} {a : Act} {Q : Exit → Act → World → Prop}
end
namespace Kd
section
variable {α : Type} {enc : α → Value} {h1 : ∀ x, (enc x).oneCell' = true} {e base g n cap : Nat} {ok : Nat → Prop} {W : World} {xs : List α}
end
end Kd
section
variable {P : Program} {ops : Array Oper} {rest : List Oper} {o : Oper} {a : Act} {Q : Exit → Act → World → Prop}
end
namespace Kd
section
variable {α : Type} {enc : α → Value} {h1 : ∀ x, (enc x).oneCell' = true} {e base g n cap : Nat} {ok : Nat → Prop} {W : World} {xs : List α}
end
end Kd
section
variable {P : Program} {ops : Array Oper} {rest : List Oper} {o : Oper} {a : Act} {Q : Exit → Act → World → Prop} {W : World}
end
/-! ### 36. Events as_ one step of a region that draws (for one_, two_, three_) -/
section
variable {P : Program} {ops : Array Oper} {o : Oper} {a : Act} {Q : Exit → Act → World → Prop} {Kc : Act → World → Prop}
namespace Kd
variable {α : Type}
end Kd
end
/-! ### 37. Results of any shape -/
section
variable {P : Program} {tmps : Array Value} {w : World}
end
/-! ### 38. 'out = append(out[:k], out[k+1:]...)': an element taken out of a row of one's own, in place -/
namespace Kd
section
variable {P : Program} {α : Type}
end
section
variable {P : Program} {ops : Array Oper} {rest : List Oper} {o : Oper} {a : Act} {Q : Exit → Act → World → Prop} {Kc : Act → World → Prop} {α : Type}
end
end Kd

end Go.Proofs.YtilmndkbloodbaaW.PrintWords

-- lines of print.sh's words, cut to what these proofs reach by a program of this session
/-
  PRINTED WORDS, second file: A REGION THAT DRAWS ITS ORDER, WALKED BY HAND, where its last store writes what its own loads read ('x.f = append(x.f, f(i))'). Plain theorems; no macro, no elab. A claim may hold it (turn the namespace's name).
  A load may be taken first in every world that meets S; behind the operations of ds nothing is shown; sound because each of ds waits for what is taken (Region.lastB). The kernel checks it.
  By an AI agent of Go's test side, Mon Nov 16 2026. No person has read it.
-/
namespace Go.Proofs.YtilmndkbloodbaaW.PrintLast

section
variable {P : Program} {ops : Array Oper} {Q : Exit → Act → World → Prop} {md : Region.Mode} {S : World → Prop} {ds : List Nat}

end

section
variable {P : Program} {ops : Array Oper} {Q : Exit → Act → World → Prop} {md : Region.Mode} {S : World → Prop} {ds : List Nat}

/-! ### Several operations that write or call may come up: each order is walked, what follows is shown once (join_) -/
theorem two_ {i j : Nat} {Ni Nj : Option Tmp} {oi oj : Oper} {fuel : Nat} {l : Array Bool} {a : Act} {w : World} (li lj : Array Bool) (hi : ops[i]? = some oi) (hj : ops[j]? = some oj) (hNi : oi.dst = Ni) (hNj : oj.dst = Nj)
    (hc : (Region.ready md ops l == [i, j] && l.setIfInBounds i true == li && l.setIfInBounds j true == lj) = true) (hdi : i ∉ ds) (hdj : j ∉ ds)
    (h1 : ∀ K : Act → World → Prop, Shut (∀ a' w', S w' → (S w' → wpAnyLast P md ops Q S ds fuel li a' w') → K a' w') → if Region.wanted oi (yielded ops a.tmps) = true then Oper.wp P oi a w K Q else K (a.put Ni undef) w)
    (h2 : ∀ K : Act → World → Prop, Shut (∀ a' w', S w' → (S w' → wpAnyLast P md ops Q S ds fuel lj a' w') → K a' w') → if Region.wanted oj (yielded ops a.tmps) = true then Oper.wp P oj a w K Q else K (a.put Nj undef) w) :
    wpAnyLast P md ops Q S ds (fuel + 1) l a w := by
  subst hNi
  subst hNj
  simp only [Bool.and_eq_true, beq_iff_eq] at hc
  obtain ⟨⟨h3, h4⟩, h5⟩ := hc
  subst h4
  subst h5
  exact wpAnyLast_ready h3 (by simp) (AllReadyL.cons hi hdi (fun K hK => h1 K hK) (AllReadyL.cons hj hdj (fun K hK => h2 K hK) AllReadyL.nil))
/-- The act with some destinations filled. -/
def putAll : Act → List (Tmp × Value) → Act
  | a, [] => a
  | a, (n, v) :: r => putAll (a.put (some n) v) r
/-- What follows, once: s the values that the orders leave, F what is known of them and of the world. -/
theorem join_ {σ : Type} {fuel : Nat} {l : Array Bool} {a : Act} {w : World} (fuel' : Nat) (l' : Array Bool) (ns : σ → List (Tmp × Value)) (F : σ → World → Prop)
    (hcont : ∀ s w', F s w' → wpAnyLast P md ops Q S ds fuel' l' (putAll a (ns s)) w')
    (h : (∀ s w', F s w' → wpAnyLast P md ops Q S ds fuel' l' (putAll a (ns s)) w') → wpAnyLast P md ops Q S ds fuel l a w) : wpAnyLast P md ops Q S ds fuel l a w := h hcont
end
end Go.Proofs.YtilmndkbloodbaaW.PrintLast

/-
  Plain lemmas: numbers in groups of seven bits, numbers as bytes, texts made of numbers; no program in sight. No condition.
-/
namespace Go.Proofs.Ytilmndkbloodbaa.Seven
open Go.RowKit Go.Proofs.Ytilmndkbloodbaa.Num Go.Proofs.YtilmndkbloodbaaW.PrintWords

theorem str_append (a b : List Int) : strOfNums a ++ strOfNums b = strOfNums (a ++ b) := by
  have h : (strOfNums a ++ strOfNums b).data = (strOfNums (a ++ b)).data := by
    rw [ByteArray.data_append]
    simp [strOfNums]
  cases h1 : strOfNums a ++ strOfNums b
  cases h2 : strOfNums (a ++ b)
  rw [h1, h2] at h
  simp only at h
  rw [h]

/-! ### groups of seven bits -/
/-! ### numbers as bytes, the lowest first -/
end Go.Proofs.Ytilmndkbloodbaa.Seven

-- Written by a program of this session (wip/ownprint.py) over the translation. Lean checks it.
namespace Go.Proofs.Ytilmndkbloodbaa.M
open Go.RowKit Go.Proofs.YtilmndkbloodbaaW.PrintWords Go.Proofs.YtilmndkbloodbaaW.PrintLast
set_option linter.unusedVariables false
set_option linter.unusedSimpArgs false

/-! ### cotterref01_Bytes: function 47 -/
mutual
def cotterref01_Bytes.j0 : Nat → Int → Int → Option (ByteArray × Int)
  | 0, _, _ => none
  | k + 1, x0, x1 => cotterref01_Bytes.l0 k x1 ([] : List Int) (IntKind.u64.wrap (x0)) 0
def cotterref01_Bytes.l0 : Nat → Int → List Int → Int → Int → Option (ByteArray × Int)
  | 0, _, _, _, _ => none
  | k + 1, x1, x7, x8, x9 => if x9 < x1 then (if x7.length < 140737488355328 then (cotterref01_Bytes.l0 k x1 (x7 ++ [(Int.tmod x8 256) % 256]) (IntKind.u64.wrap (Int.tdiv x8 256)) (wrap64 (x9 + 1))) else (none)) else (some (strOfNums x7, 0))
end
def cotterref01_Bytes.f (k : Nat) (a0 : Int) (a1 : Int) : Option (ByteArray × Int) := (cotterref01_sized.f a1).bind fun t256 => (if t256 = true then (if a1 < 8 then (if 0 ≤ (IntKind.u64.wrap (wrap64 ((wrap64 (8 * a1)) - 1))) then (if a0 < (wrap64 (-(shl .i64 1 (IntKind.u64.wrap (wrap64 ((wrap64 (8 * a1)) - 1)))))) then (some ((⟨#[]⟩ : ByteArray), 7)) else (if a0 ≥ (shl .i64 1 (IntKind.u64.wrap (wrap64 ((wrap64 (8 * a1)) - 1)))) then (some ((⟨#[]⟩ : ByteArray), 7)) else (cotterref01_Bytes.j0 k a0 a1))) else (none)) else (cotterref01_Bytes.j0 k a0 a1)) else (some ((⟨#[]⟩ : ByteArray), 1)))
set_option maxHeartbeats 8000000 in
set_option maxRecDepth 100000 in
theorem cotterref01_Bytes.calls (k : Nat) (a0 : Int) (a1 : Int) (r1 : ByteArray) (r2 : Int) (w : World) (h : cotterref01_Bytes.f k a0 a1 = some (r1, r2)) :
    Calls Try.prog 47 #[.int .i64 a0, .int .i64 a1] w fun e w' => e = .returned (.tuple #[.string r1, .int .i64 r2]) ∧ Below w.heap.size w w' := by
  have HB := Aside0.mk (Below.refl w.heap.size w)
  have H : ((cotterref01_sized.f a1).bind fun t256 => (if t256 = true then (if a1 < 8 then (if 0 ≤ (IntKind.u64.wrap (wrap64 ((wrap64 (8 * a1)) - 1))) then (if a0 < (wrap64 (-(shl .i64 1 (IntKind.u64.wrap (wrap64 ((wrap64 (8 * a1)) - 1)))))) then (some ((⟨#[]⟩ : ByteArray), 7)) else (if a0 ≥ (shl .i64 1 (IntKind.u64.wrap (wrap64 ((wrap64 (8 * a1)) - 1)))) then (some ((⟨#[]⟩ : ByteArray), 7)) else (cotterref01_Bytes.j0 k a0 a1))) else (none)) else (cotterref01_Bytes.j0 k a0 a1)) else (some ((⟨#[]⟩ : ByteArray), 1)))) = some (r1, r2) := h
  clear h
  replace H := Option.bind_eq_some_iff.mp H
  obtain ⟨t256, A30, H⟩ := H
  replace H : (if t256 = true then (if a1 < 8 then (if 0 ≤ (IntKind.u64.wrap (wrap64 ((wrap64 (8 * a1)) - 1))) then (if a0 < (wrap64 (-(shl .i64 1 (IntKind.u64.wrap (wrap64 ((wrap64 (8 * a1)) - 1)))))) then (some ((⟨#[]⟩ : ByteArray), 7)) else (if a0 ≥ (shl .i64 1 (IntKind.u64.wrap (wrap64 ((wrap64 (8 * a1)) - 1)))) then (some ((⟨#[]⟩ : ByteArray), 7)) else (cotterref01_Bytes.j0 k a0 a1))) else (none)) else (cotterref01_Bytes.j0 k a0 a1)) else (some ((⟨#[]⟩ : ByteArray), 1))) = some (r1, r2) := H
  have A3 := Aside0.mk A30
  clear A30
  by_cases c4 : t256 = true
  · subst c4
    have H1 : (if a1 < 8 then (if 0 ≤ (IntKind.u64.wrap (wrap64 ((wrap64 (8 * a1)) - 1))) then (if a0 < (wrap64 (-(shl .i64 1 (IntKind.u64.wrap (wrap64 ((wrap64 (8 * a1)) - 1)))))) then (some ((⟨#[]⟩ : ByteArray), 7)) else (if a0 ≥ (shl .i64 1 (IntKind.u64.wrap (wrap64 ((wrap64 (8 * a1)) - 1)))) then (some ((⟨#[]⟩ : ByteArray), 7)) else (cotterref01_Bytes.j0 k a0 a1))) else (none)) else (cotterref01_Bytes.j0 k a0 a1)) = some (r1, r2) := by rw [if_pos rfl] at H; exact H
    clear H
    have H := H1
    clear H1
    have HC5 := Aside0.mk H
    clear H
    go_enter Try.func47, Try.ntmps47
    go_upto_if 14 with (first | ((with_reducible refine gate_callee (f := 54) rfl ?_); refine goesL_ (some 11) rfl rfl Try.func54 (by kernel_rfl) rfl #[.int .i64 a1] rfl (by (try simp only [List.map_toArray, List.map_cons, List.map_nil]); first | done | rfl | (simp only [List.length_drop, List.length_take]; rfl)) ?_; (with_reducible refine (cotterref01_sized.calls a1 true _ A3.out).mono ?_); rintro e w' ⟨rfl, ⟨nd, rfl⟩⟩; refine ⟨_, rfl, ?_⟩))
    (try simp only [Act.put, List.setIfInBounds_toArray, List.set_cons_zero, List.set_cons_succ])
    go_cut [] (fun wc => ∃ (kq : Nat), Aside0 (cotterref01_Bytes.j0 kq a0 a1 = some (r1, r2)) ∧ Aside0 (kq ≤ k) ∧ Aside0 (Below w.heap.size w wc))
    case first =>
      have H := HC5.out
      clear HC5
      by_cases c6 : a1 < 8
      · rw [if_pos c6] at H
        have c6b0 : decide (a1 < 8) = true := decide_eq_true c6
        clear c6
        (first | rw [c6b0] | (simp only [i64_w, i32_w]; rw [c6b0]) | skip)
        obtain ⟨ji7, hji7⟩ : ∃ j_ : Int, (IntKind.u64.wrap (wrap64 ((wrap64 (8 * a1)) - 1))) = j_ := ⟨_, rfl⟩
        replace H : (if 0 ≤ (ji7) then (if a0 < (wrap64 (-(shl .i64 1 (ji7)))) then (some ((⟨#[]⟩ : ByteArray), 7)) else (if a0 ≥ (shl .i64 1 (ji7)) then (some ((⟨#[]⟩ : ByteArray), 7)) else (cotterref01_Bytes.j0 k a0 a1))) else (none)) = some (r1, r2) := by first | (rw [hji7] at H; exact H) | (simp only [hji7] at H ⊢; exact H)
        by_cases c8 : 0 ≤ (ji7)
        · rw [if_pos c8] at H
          have c8b0 := eq_true c8
          have c8b1 : decide (0 ≤ (ji7)) = true := decide_eq_true c8
          clear c8
          obtain ⟨ji9, hji9⟩ : ∃ j_ : Int, (shl .i64 1 (ji7)) = j_ := ⟨_, rfl⟩
          replace H : (if a0 < (wrap64 (-(ji9))) then (some ((⟨#[]⟩ : ByteArray), 7)) else (if a0 ≥ (ji9) then (some ((⟨#[]⟩ : ByteArray), 7)) else (cotterref01_Bytes.j0 k a0 a1))) = some (r1, r2) := by first | (rw [hji9] at H; exact H) | (simp only [hji9] at H ⊢; exact H)
          have hji9_ : (IntKind.i64.wrap (1 * 2 ^ min (ji7).toNat 64)) = ji9 := hji9
          have hji9z : (ji7) ≤ 64 → (IntKind.i64.wrap (1 * 2 ^ (ji7).toNat)) = ji9 := shl_small hji9
          have hji9u : (IntKind.i64.wrap (2 ^ min (ji7).toNat 64)) = ji9 := by have h_ := hji9_; rw [Int.one_mul] at h_; exact h_
          have hji9v : (ji7) ≤ 64 → (IntKind.i64.wrap (2 ^ (ji7).toNat)) = ji9 := fun hle_ => by have h_ := hji9z hle_; rw [Int.one_mul] at h_; exact h_
          have hji9y : (wrap64 (1 * 2 ^ min (ji7).toNat 64)) = ji9 := (i64_w _).symm.trans hji9_
          have hji9x : (ji7) ≤ 64 → (wrap64 (1 * 2 ^ (ji7).toNat)) = ji9 := fun h_ => (i64_w _).symm.trans (hji9z h_)
          by_cases c10 : a0 < (wrap64 (-(ji9)))
          · rw [if_pos c10] at H
            have c10b0 : decide (a0 < (wrap64 (-(ji9)))) = true := decide_eq_true c10
            clear c10
            simp only [Option.some.injEq, Prod.mk.injEq] at H
            obtain ⟨rfl, rfl⟩ := H
            go_wp2
            go_ret2
            exact ⟨by first | rfl | (simp [errW_none, errW_some] <;> rfl) | (simp only [← hji7, ← hji9]; first | rfl | (simp [errW_none, errW_some] <;> rfl)) | (simp [*, errW_none, errW_some] <;> rfl), by repeat (first | (with_reducible first | exact HB.out | apply below_alloc | apply pw_below_drewN | apply below_drew1) | exact HB.out)⟩
          · rw [if_neg c10] at H
            have c10b0 : decide (a0 < (wrap64 (-(ji9)))) = false := decide_eq_false c10
            clear c10
            by_cases c11 : a0 ≥ (ji9)
            · rw [if_pos c11] at H
              have c11b0 : decide ((ji9) ≤ a0) = true := decide_eq_true c11
              clear c11
              simp only [Option.some.injEq, Prod.mk.injEq] at H
              obtain ⟨rfl, rfl⟩ := H
              go_wp2
              go_ret2
              exact ⟨by first | rfl | (simp [errW_none, errW_some] <;> rfl) | (simp only [← hji7, ← hji9]; first | rfl | (simp [errW_none, errW_some] <;> rfl)) | (simp [*, errW_none, errW_some] <;> rfl), by repeat (first | (with_reducible first | exact HB.out | apply below_alloc | apply pw_below_drewN | apply below_drew1) | exact HB.out)⟩
            · rw [if_neg c11] at H
              have c11b0 : decide ((ji9) ≤ a0) = false := decide_eq_false c11
              clear c11
              have H' := Aside0.mk H
              clear H
              go_wp2
              go_meet
              case rel => exact ⟨_, H', ⟨by first | omega | exact Nat.le_refl _⟩, ⟨by repeat (first | (with_reducible first | exact HB.out | apply below_alloc | apply pw_below_drewN | apply below_drew1) | exact HB.out)⟩⟩
        · rw [if_neg c8] at H
          exact absurd H (by simp)
      · rw [if_neg c6] at H
        have c6b0 : decide (a1 < 8) = false := decide_eq_false c6
        clear c6
        (first | rw [c6b0] | (simp only [i64_w, i32_w]; rw [c6b0]) | skip)
        have H' := Aside0.mk H
        clear H
        go_wp2
        go_meet
        case rel => exact ⟨_, H', ⟨by first | omega | exact Nat.le_refl _⟩, ⟨by repeat (first | (with_reducible first | exact HB.out | apply below_alloc | apply pw_below_drewN | apply below_drew1) | exact HB.out)⟩⟩
    case rest =>
      clear HC5
      try clear c1
      try clear p2
      try clear c4
      try clear c5
      try clear c6
      try clear c6b0
      try clear p6
      try clear c8
      try clear c8b0
      try clear c8b1
      try clear c10
      try clear c10b0
      try clear c11
      try clear c11b0
      obtain ⟨kq, HA, HJ4, HB⟩ := hcut
      cases kq with
      | zero => exact absurd HA.out (by simp [cotterref01_Bytes.j0])
      | succ kj4 =>
        have H := HA.out
        clear HA
        simp only [cotterref01_Bytes.j0] at H
        have H' := Aside0.mk H
        clear H
        go_wp2
        go_loopg [7, 8, 9] kj4 (fun kq v7 v8 v9 w' => ∃ (x7_2 : List Int) (x8_2 : Int) (x9_2 : Int), v8 = .int .u64 x8_2 ∧ v9 = .int .i64 x9_2 ∧ Aside0 (cotterref01_Bytes.l0 kq a1 x7_2 x8_2 x9_2 = some (r1, r2)) ∧ Aside0 (kq ≤ kj4) ∧ Aside0 (Kd.R (Kd.int .u8) 5 w' w.heap.size (fun _ => True) v7 x7_2) ∧ Aside0 (Below w.heap.size w w'))
        case atStart => exact ⟨(([] : List Int)), (IntKind.u64.wrap (a0)), (0), (by first | rfl | (simp; done) | (simp [*]; done)), (by first | rfl | (simp; done) | (simp [*]; done)), H', ⟨Nat.le_refl _⟩, ⟨by first | exact Kd.R_nil _ _ _ _ _ | exact Kd.N_nil _ _ _ _ _ | exact Kd.V_nil _ _ _ _ _ | exact Kd.Q_nil _ _ _ _ _ | exact Kd.S_nil _ _ _ _ _⟩, ⟨by repeat (first | (with_reducible first | exact HB.out | apply below_alloc | apply pw_below_drewN | apply below_drew1) | exact HB.out)⟩⟩
        case round =>
          clear H'
          try clear c1
          try clear p2
          try clear c4
          try clear c5
          try clear c6
          try clear c6b0
          try clear p6
          try clear c8
          try clear c8b0
          try clear c8b1
          try clear c10
          try clear c10b0
          try clear c11
          try clear c11b0
          try clear p2
          try clear p6
          obtain ⟨x7_2, x8_2, x9_2, rfl, rfl, HA, HK2, HO_7, HB⟩ := hrel
          cases gk with
          | zero => exact absurd HA.out (by simp [cotterref01_Bytes.l0])
          | succ k2 =>
            have H := HA.out
            clear HA
            simp only [cotterref01_Bytes.l0] at H
            by_cases c12 : x9_2 < a1
            · rw [if_pos c12] at H
              have c12b0 : decide (x9_2 < a1) = true := decide_eq_true c12
              clear c12
              by_cases c13 : x7_2.length < 140737488355328
              · rw [if_pos c13] at H
                have LMc13 := Aside0.mk c13
                clear c13
                obtain ⟨y257, hy257⟩ : ∃ y_ : List Int, y_ = (x7_2 ++ [(Int.tmod x8_2 256) % 256]) := ⟨_, rfl⟩
                replace H : (cotterref01_Bytes.l0 k2 a1 y257 (IntKind.u64.wrap (Int.tdiv x8_2 256)) (wrap64 (x9_2 + 1))) = some (r1, r2) := by first | (rw [hy257]; with_reducible exact H) | (have H2_ := (Option.bind_some _ _).symm.trans H; rw [hy257]; with_reducible exact H2_) | (have H2_ := (Option.bind_some _ _).symm.trans H; with_reducible exact H2_) | with_reducible exact H | (rw [hy257]; exact H) | exact H
                have Ny257 := Aside0.mk hy257
                clear hy257
                have H' := Aside0.mk H
                clear H
                go_wp2_with (first | ((with_reducible refine gate_builtin (b := .append) (xs := #[.tmp 36, .tmp 40]) rfl ?_); at_builtin; refine Kd.R_append (Kd.int .u8) (w0 := w) w.heap.size rfl (.tmp 36) (.tmp 40) 45 5 (.int .u8 0) 1 rfl Try.underlying45 info5 rfl (by decide) (by omega) u7 x7_2 ((Int.tmod x8_2 256) % 256) [.int .u8 ((Int.tmod x8_2 256) % 256)] (fun _ => True) (fun _ => False) rfl rfl ?aP (fun _ hk => hk.elim) ?aF ?aO ?aB ?aS ?aL ?_; (case aP => exact rfl); (case aB => exact (by repeat (first | (with_reducible first | exact HB.out | apply below_alloc | apply pw_below_drewN | apply below_drew1) | exact HB.out))); (case aF => exact (fun _ _ => trivial)); (case aO => exact (by (with_reducible repeat (first | apply Kd.R_alloc | apply Kd.R_drewN | apply Kd.R_drew)); exact HO_7.out)); (case aS => exact (below_size (by repeat (first | (with_reducible first | exact HB.out | apply below_alloc | apply pw_below_drewN | apply below_drew1) | exact HB.out)))); (case aL => have := LMc13.out; omega); intro v258 w14 ho hb hg hat; rw [← Ny257.out] at ho; have n0_ := Aside0.mk (hb); have n1_ := Aside0.mk (ho); clear HB; clear HO_7; have HB := n0_; have HO259 := n1_; clear n0_ n1_; clear ho hb hg hat))
                go_roundg k2
                case measure => have := HJ4.out; have := HK2.out; omega
                case rel => exact ⟨(y257), (IntKind.u64.wrap (Int.tdiv x8_2 256)), (wrap64 (x9_2 + 1)), (by first | rfl | (simp; done) | (simp [*]; done)), (by first | rfl | (simp; done) | (simp [*]; done)), H', ⟨by have := HJ4.out; have := HK2.out; omega⟩, ⟨by (with_reducible repeat (first | apply Kd.R_alloc | apply Kd.R_drewN | apply Kd.R_drew)); exact HO259.out⟩, ⟨by repeat (first | (with_reducible first | exact HB.out | apply below_alloc | apply pw_below_drewN | apply below_drew1) | exact HB.out)⟩⟩
              · rw [if_neg c13] at H
                exact absurd H (by simp)
            · rw [if_neg c12] at H
              have c12b0 : decide (x9_2 < a1) = false := decide_eq_false c12
              clear c12
              simp only [Option.some.injEq, Prod.mk.injEq] at H
              obtain ⟨rfl, rfl⟩ := H
              have hcv15 := own_string (P := Try.prog) Try.underlying45 Try.underlying5 Try.underlying9 (Kd.own_of_R HO_7.out)
              go_wp2
              go_ret2
              exact ⟨by first | rfl | (simp [errW_none, errW_some] <;> rfl) | (simp [*, errW_none, errW_some] <;> rfl), by repeat (first | (with_reducible first | exact HB.out | apply below_alloc | apply pw_below_drewN | apply below_drew1) | exact HB.out)⟩
  · replace c4 := Bool.eq_false_iff.mpr c4
    subst c4
    have H1 : (some ((⟨#[]⟩ : ByteArray), 1)) = some (r1, r2) := by rw [if_neg (show ¬ (false = true) by decide)] at H; exact H
    clear H
    have H := H1
    clear H1
    simp only [Option.some.injEq, Prod.mk.injEq] at H
    obtain ⟨rfl, rfl⟩ := H
    go_enter Try.func47, Try.ntmps47
    go_wp2_with (first | ((with_reducible refine gate_callee (f := 54) rfl ?_); refine goesL_ (some 11) rfl rfl Try.func54 (by kernel_rfl) rfl #[.int .i64 a1] rfl (by (try simp only [List.map_toArray, List.map_cons, List.map_nil]); first | done | rfl | (simp only [List.length_drop, List.length_take]; rfl)) ?_; (with_reducible refine (cotterref01_sized.calls a1 false _ A3.out).mono ?_); rintro e w' ⟨rfl, ⟨nd, rfl⟩⟩; refine ⟨_, rfl, ?_⟩))
    go_ret2
    exact ⟨by first | rfl | (simp [errW_none, errW_some] <;> rfl) | (simp [*, errW_none, errW_some] <;> rfl), by repeat (first | (with_reducible first | exact HB.out | apply below_alloc | apply pw_below_drewN | apply below_drew1) | exact HB.out)⟩

/-! ### cotterref06_wide: function 26 -/
def cotterref06_wide.f (k : Nat) (a0 : Int) : Option (ByteArray) := (cotterref01_Bytes.f k a0 8).bind fun bt260 => (some bt260.1)
set_option maxHeartbeats 8000000 in
set_option maxRecDepth 100000 in
theorem cotterref06_wide.calls (k : Nat) (a0 : Int) (r : ByteArray) (w : World) (h : cotterref06_wide.f k a0 = some r) :
    Calls Try.prog 26 #[.int .i64 a0] w fun e w' => e = .returned (.string r) ∧ Below w.heap.size w w' := by
  have HB := Aside0.mk (Below.refl w.heap.size w)
  have H : ((cotterref01_Bytes.f k a0 8).bind fun bt260 => (some bt260.1)) = some r := h
  clear h
  replace H := Option.bind_eq_some_iff.mp H
  obtain ⟨⟨t260, t261⟩, A20, H⟩ := H
  replace H : (some t260) = some r := H
  have A2 := Aside0.mk A20
  clear A20
  obtain rfl := Option.some.inj H
  go_enter Try.func26, Try.ntmps26
  go_wp2_with (first | ((with_reducible refine gate_callee (f := 47) rfl ?_); refine goesL_ (some 7) rfl rfl Try.func47 (by kernel_rfl) rfl #[.int .i64 a0, .int .i64 8] rfl (by (try simp only [List.map_toArray, List.map_cons, List.map_nil]); first | done | rfl | (simp only [List.length_drop, List.length_take]; rfl)) ?_; (with_reducible refine (cotterref01_Bytes.calls k a0 8 t260 t261 _ A2.out).mono ?_); rintro e w3 ⟨rfl, hb⟩; refine ⟨_, rfl, ?_⟩; have n0_ := Aside0.mk (below_step (by repeat (first | (with_reducible first | exact HB.out | apply below_alloc | apply pw_below_drewN | apply below_drew1) | exact HB.out)) hb); clear HB; have HB := n0_; clear n0_; (try clear hb); (try clear hb2); (try clear hk); (try clear hi)))
  go_ret
  exact ⟨by first | rfl | (simp [errW_none, errW_some] <;> rfl) | (simp [*, errW_none, errW_some] <;> rfl), by repeat (first | (with_reducible first | exact HB.out | apply below_alloc | apply pw_below_drewN | apply below_drew1) | exact HB.out)⟩

/-! ### cotterref01_Put: function 46 -/
def cotterref01_Put.l0 : Nat → Int → List Int → Option (ByteArray)
  | 0, _, _ => none
  | k + 1, x0, x3 => if x0 > 127 then (if x3.length < 140737488355328 then (cotterref01_Put.l0 k (IntKind.u64.wrap (Int.tdiv x0 128)) (x3 ++ [(IntKind.u64.wrap ((Int.tmod x0 128) + 128)) % 256])) else (none)) else (if x3.length < 140737488355328 then (some (strOfNums (x3 ++ [(x0) % 256]))) else (none))
def cotterref01_Put.f (k : Nat) (a0 : Int) : Option (ByteArray) := cotterref01_Put.l0 k a0 ([] : List Int)
set_option maxHeartbeats 8000000 in
set_option maxRecDepth 100000 in
theorem cotterref01_Put.calls (k : Nat) (a0 : Int) (r : ByteArray) (w : World) (h : cotterref01_Put.f k a0 = some r) :
    Calls Try.prog 46 #[.int .u64 a0] w fun e w' => e = .returned (.string r) ∧ Below w.heap.size w w' := by
  have HB := Aside0.mk (Below.refl w.heap.size w)
  have H : (cotterref01_Put.l0 k a0 ([] : List Int)) = some r := h
  clear h
  have H' := Aside0.mk H
  clear H
  go_enter Try.func46, Try.ntmps46
  go_wp2
  go_loopg [0, 3] k (fun kq v0 v3 w' => ∃ (x0_1 : Int) (x3_1 : List Int), v0 = .int .u64 x0_1 ∧ Aside0 (cotterref01_Put.l0 kq x0_1 x3_1 = some r) ∧ Aside0 (kq ≤ k) ∧ Aside0 (Kd.R (Kd.int .u8) 5 w' w.heap.size (fun _ => True) v3 x3_1) ∧ Aside0 (Below w.heap.size w w'))
  case atStart => exact ⟨(a0), (([] : List Int)), (by first | rfl | (simp; done) | (simp [*]; done)), H', ⟨Nat.le_refl _⟩, ⟨by first | exact Kd.R_nil _ _ _ _ _ | exact Kd.N_nil _ _ _ _ _ | exact Kd.V_nil _ _ _ _ _ | exact Kd.Q_nil _ _ _ _ _ | exact Kd.S_nil _ _ _ _ _⟩, ⟨by repeat (first | (with_reducible first | exact HB.out | apply below_alloc | apply pw_below_drewN | apply below_drew1) | exact HB.out)⟩⟩
  case round =>
    clear H'
    obtain ⟨x0_1, x3_1, rfl, HA, HK1, HO_3, HB⟩ := hrel
    cases gk with
    | zero => exact absurd HA.out (by simp [cotterref01_Put.l0])
    | succ k1 =>
      have H := HA.out
      clear HA
      simp only [cotterref01_Put.l0] at H
      by_cases c2 : x0_1 > 127
      · rw [if_pos c2] at H
        have c2b0 : decide (127 < x0_1) = true := decide_eq_true c2
        clear c2
        by_cases c3 : x3_1.length < 140737488355328
        · rw [if_pos c3] at H
          have LMc3 := Aside0.mk c3
          clear c3
          obtain ⟨y262, hy262⟩ : ∃ y_ : List Int, y_ = (x3_1 ++ [(IntKind.u64.wrap ((Int.tmod x0_1 128) + 128)) % 256]) := ⟨_, rfl⟩
          replace H : (cotterref01_Put.l0 k1 (IntKind.u64.wrap (Int.tdiv x0_1 128)) y262) = some r := by first | (rw [hy262]; with_reducible exact H) | (have H2_ := (Option.bind_some _ _).symm.trans H; rw [hy262]; with_reducible exact H2_) | (have H2_ := (Option.bind_some _ _).symm.trans H; with_reducible exact H2_) | with_reducible exact H | (rw [hy262]; exact H) | exact H
          have Ny262 := Aside0.mk hy262
          clear hy262
          have H' := Aside0.mk H
          clear H
          go_wp2_with (first | ((with_reducible refine gate_builtin (b := .append) (xs := #[.tmp 6, .tmp 11]) rfl ?_); at_builtin; refine Kd.R_append (Kd.int .u8) (w0 := w) w.heap.size rfl (.tmp 6) (.tmp 11) 45 5 (.int .u8 0) 1 rfl Try.underlying45 info5 rfl (by decide) (by omega) u3 x3_1 ((IntKind.u64.wrap ((Int.tmod x0_1 128) + 128)) % 256) [.int .u8 ((IntKind.u64.wrap ((Int.tmod x0_1 128) + 128)) % 256)] (fun _ => True) (fun _ => False) rfl rfl ?aP (fun _ hk => hk.elim) ?aF ?aO ?aB ?aS ?aL ?_; (case aP => exact rfl); (case aB => exact (by repeat (first | (with_reducible first | exact HB.out | apply below_alloc | apply pw_below_drewN | apply below_drew1) | exact HB.out))); (case aF => exact (fun _ _ => trivial)); (case aO => exact (by (with_reducible repeat (first | apply Kd.R_alloc | apply Kd.R_drewN | apply Kd.R_drew)); exact HO_3.out)); (case aS => exact (below_size (by repeat (first | (with_reducible first | exact HB.out | apply below_alloc | apply pw_below_drewN | apply below_drew1) | exact HB.out)))); (case aL => have := LMc3.out; omega); intro v263 w4 ho hb hg hat; rw [← Ny262.out] at ho; have n0_ := Aside0.mk (hb); have n1_ := Aside0.mk (ho); clear HB; clear HO_3; have HB := n0_; have HO264 := n1_; clear n0_ n1_; clear ho hb hg hat))
          go_roundg k1
          case measure => have := HK1.out; omega
          case rel => exact ⟨(IntKind.u64.wrap (Int.tdiv x0_1 128)), (y262), (by first | rfl | (simp; done) | (simp [*]; done)), H', ⟨by have := HK1.out; omega⟩, ⟨by (with_reducible repeat (first | apply Kd.R_alloc | apply Kd.R_drewN | apply Kd.R_drew)); exact HO264.out⟩, ⟨by repeat (first | (with_reducible first | exact HB.out | apply below_alloc | apply pw_below_drewN | apply below_drew1) | exact HB.out)⟩⟩
        · rw [if_neg c3] at H
          exact absurd H (by simp)
      · rw [if_neg c2] at H
        have c2b0 : decide (127 < x0_1) = false := decide_eq_false c2
        clear c2
        by_cases c5 : x3_1.length < 140737488355328
        · rw [if_pos c5] at H
          have LMc5 := Aside0.mk c5
          clear c5
          obtain ⟨y265, hy265⟩ : ∃ y_ : List Int, y_ = (x3_1 ++ [(x0_1) % 256]) := ⟨_, rfl⟩
          replace H : (some (strOfNums y265)) = some r := by first | (rw [hy265]; with_reducible exact H) | (have H2_ := (Option.bind_some _ _).symm.trans H; rw [hy265]; with_reducible exact H2_) | (have H2_ := (Option.bind_some _ _).symm.trans H; with_reducible exact H2_) | with_reducible exact H | (rw [hy265]; exact H) | exact H
          have Ny265 := Aside0.mk hy265
          clear hy265
          obtain rfl := Option.some.inj H
          go_wp2_with (first | ((with_reducible refine gate_builtin (b := .append) (xs := #[.tmp 15, .tmp 18]) rfl ?_); at_builtin; refine Kd.R_append (Kd.int .u8) (w0 := w) w.heap.size rfl (.tmp 15) (.tmp 18) 45 5 (.int .u8 0) 1 rfl Try.underlying45 info5 rfl (by decide) (by omega) u3 x3_1 ((x0_1) % 256) [.int .u8 ((x0_1) % 256)] (fun _ => True) (fun _ => False) rfl rfl ?aP (fun _ hk => hk.elim) ?aF ?aO ?aB ?aS ?aL ?_; (case aP => exact rfl); (case aB => exact (by repeat (first | (with_reducible first | exact HB.out | apply below_alloc | apply pw_below_drewN | apply below_drew1) | exact HB.out))); (case aF => exact (fun _ _ => trivial)); (case aO => exact (by (with_reducible repeat (first | apply Kd.R_alloc | apply Kd.R_drewN | apply Kd.R_drew)); exact HO_3.out)); (case aS => exact (below_size (by repeat (first | (with_reducible first | exact HB.out | apply below_alloc | apply pw_below_drewN | apply below_drew1) | exact HB.out)))); (case aL => have := LMc5.out; omega); intro v266 w6 ho hb hg hat; rw [← Ny265.out] at ho; have n0_ := Aside0.mk (hb); have n1_ := Aside0.mk (ho); clear HB; clear HO_3; have HB := n0_; have HO267 := n1_; clear n0_ n1_; clear ho hb hg hat; have hcv7 := own_string (P := Try.prog) Try.underlying45 Try.underlying5 Try.underlying9 (Kd.own_of_R HO267.out)))
          go_ret
          exact ⟨by first | rfl | (simp [errW_none, errW_some] <;> rfl) | (simp [*, errW_none, errW_some] <;> rfl), by repeat (first | (with_reducible first | exact HB.out | apply below_alloc | apply pw_below_drewN | apply below_drew1) | exact HB.out)⟩
        · rw [if_neg c5] at H
          exact absurd H (by simp)

/-! ### cotterref06_number: function 24 -/
def cotterref06_number.f (k : Nat) (a0 : Int) : Option (ByteArray) := (cotterref01_Put.f k (IntKind.u64.wrap (a0))).bind fun t268 => (some t268)
set_option maxHeartbeats 8000000 in
set_option maxRecDepth 100000 in
theorem cotterref06_number.calls (k : Nat) (a0 : Int) (r : ByteArray) (w : World) (h : cotterref06_number.f k a0 = some r) :
    Calls Try.prog 24 #[.int .i64 a0] w fun e w' => e = .returned (.string r) ∧ Below w.heap.size w w' := by
  have HB := Aside0.mk (Below.refl w.heap.size w)
  have H : ((cotterref01_Put.f k (IntKind.u64.wrap (a0))).bind fun t268 => (some t268)) = some r := h
  clear h
  replace H := Option.bind_eq_some_iff.mp H
  obtain ⟨t268, A20, H⟩ := H
  replace H : (some t268) = some r := H
  have A2 := Aside0.mk A20
  clear A20
  obtain rfl := Option.some.inj H
  go_enter Try.func24, Try.ntmps24
  go_wp2_with (first | ((with_reducible refine gate_callee (f := 46) rfl ?_); refine goesL_ (some 5) rfl rfl Try.func46 (by kernel_rfl) rfl #[.int .u64 (IntKind.u64.wrap (a0))] rfl (by (try simp only [List.map_toArray, List.map_cons, List.map_nil]); first | done | rfl | (simp only [List.length_drop, List.length_take]; rfl)) ?_; (with_reducible refine (cotterref01_Put.calls k (IntKind.u64.wrap (a0)) t268 _ A2.out).mono ?_); rintro e w3 ⟨rfl, hb⟩; refine ⟨_, rfl, ?_⟩; have n0_ := Aside0.mk (below_step (by repeat (first | (with_reducible first | exact HB.out | apply below_alloc | apply pw_below_drewN | apply below_drew1) | exact HB.out)) hb); clear HB; have HB := n0_; clear n0_; (try clear hb); (try clear hb2); (try clear hk); (try clear hi)))
  go_ret
  exact ⟨by first | rfl | (simp [errW_none, errW_some] <;> rfl) | (simp [*, errW_none, errW_some] <;> rfl), by repeat (first | (with_reducible first | exact HB.out | apply below_alloc | apply pw_below_drewN | apply below_drew1) | exact HB.out)⟩

/-! ### cotterref06_text: function 25 -/
def cotterref06_text.f (k : Nat) (a0 : ByteArray) : Option (ByteArray) := (cotterref06_number.f k (a0.size : Int)).bind fun t269 => (if t269.size + a0.size ≤ 9223372036854775807 then (some (t269 ++ a0)) else (none))
set_option maxHeartbeats 8000000 in
set_option maxRecDepth 100000 in
theorem cotterref06_text.calls (k : Nat) (a0 : ByteArray) (r : ByteArray) (w : World) (h : cotterref06_text.f k a0 = some r) :
    Calls Try.prog 25 #[.string a0] w fun e w' => e = .returned (.string r) ∧ Below w.heap.size w w' := by
  have HB := Aside0.mk (Below.refl w.heap.size w)
  have H : ((cotterref06_number.f k (a0.size : Int)).bind fun t269 => (if t269.size + a0.size ≤ 9223372036854775807 then (some (t269 ++ a0)) else (none))) = some r := h
  clear h
  replace H := Option.bind_eq_some_iff.mp H
  obtain ⟨t269, A20, H⟩ := H
  replace H : (if t269.size + a0.size ≤ 9223372036854775807 then (some (t269 ++ a0)) else (none)) = some r := H
  have A2 := Aside0.mk A20
  clear A20
  by_cases c3 : t269.size + a0.size ≤ 9223372036854775807
  · rw [if_pos c3] at H
    have c3b0 := eq_true c3
    have c3b1 : decide (t269.size + a0.size ≤ 9223372036854775807) = true := decide_eq_true c3
    try have c3b2 : (9223372036854775807 < t269.size + a0.size) = False := eq_false (Nat.not_lt.2 c3)
    obtain rfl := Option.some.inj H
    go_enter Try.func25, Try.ntmps25
    go_wp2_with (first | ((with_reducible refine gate_callee (f := 24) rfl ?_); refine goesL_ (some 5) rfl rfl Try.func24 (by kernel_rfl) rfl #[.int .i64 (a0.size : Int)] rfl (by (try simp only [List.map_toArray, List.map_cons, List.map_nil]); first | done | rfl | (simp only [List.length_drop, List.length_take]; rfl)) ?_; (with_reducible refine (cotterref06_number.calls k (a0.size : Int) t269 _ A2.out).mono ?_); rintro e w4 ⟨rfl, hb⟩; refine ⟨_, rfl, ?_⟩; have n0_ := Aside0.mk (below_step (by repeat (first | (with_reducible first | exact HB.out | apply below_alloc | apply pw_below_drewN | apply below_drew1) | exact HB.out)) hb); clear HB; have HB := n0_; clear n0_; (try clear hb); (try clear hb2); (try clear hk); (try clear hi)))
    go_ret
    exact ⟨by first | rfl | (simp [errW_none, errW_some] <;> rfl) | (simp [*, errW_none, errW_some] <;> rfl), by repeat (first | (with_reducible first | exact HB.out | apply below_alloc | apply pw_below_drewN | apply below_drew1) | exact HB.out)⟩
  · rw [if_neg c3] at H
    exact absurd H (by simp)

end Go.Proofs.Ytilmndkbloodbaa.M

/-
  What the document's Put, All, Take, Bytes and Number (cotterref01) answer, said by the same plain functions as the program's. Conditions: numbers of 64 bits; lists and texts small enough.
-/
namespace Go.Proofs.Ytilmndkbloodbaa.Word1
open Go.RowKit Go.Proofs.Ytilmndkbloodbaa.M Go.Proofs.Ytilmndkbloodbaa.Num Go.Proofs.Ytilmndkbloodbaa.Seven Go.Proofs.YtilmndkbloodbaaW.PrintWords Go.Proofs.YtilmndkbloodbaaW.PrintLast

theorem rput_l0 : ∀ (n k u : Nat) (x : List Int), u < 18446744073709551616 → u < 128 ^ (n + 1) → x.length + n < 140737488355328 → n < k → cotterref01_Put.l0 k u x = some (strOfNums (x ++ putL u)) := by
  intro n
  induction n with
  | zero =>
    intro k u x h64 hu hx hk
    obtain ⟨k, rfl⟩ : ∃ m, k = m + 1 := ⟨k - 1, by omega⟩
    simp only [cotterref01_Put.l0]
    rw [if_neg (by omega), if_pos (by omega), putL_small (by omega)]
    congr 4
    omega
  | succ n ih =>
    intro k u x h64 hu hx hk
    obtain ⟨k, rfl⟩ : ∃ m, k = m + 1 := ⟨k - 1, by omega⟩
    simp only [cotterref01_Put.l0]
    by_cases h : u < 128
    · rw [if_neg (by omega), if_pos (by omega), putL_small h]
      congr 4
      omega
    · rw [if_pos (by omega), if_pos (by omega)]
      have h2 : u / 128 < 128 ^ (n + 1) := by rw [Nat.div_lt_iff_lt_mul (by decide)]; rw [Nat.pow_succ] at hu; exact hu
      have d0 : Int.tdiv (u : Int) 128 = ((u / 128 : Nat) : Int) := by rw [Int.tdiv_eq_ediv_of_nonneg (by omega)]; omega
      have m0 : Int.tmod (u : Int) 128 = ((u % 128 : Nat) : Int) := by rw [Int.tmod_eq_emod_of_nonneg (by omega)]; omega
      have e : IntKind.u64.wrap (Int.tdiv (u : Int) 128) = ((u / 128 : Nat) : Int) := by rw [d0, wrap_u64]; omega
      have e2 : IntKind.u64.wrap (Int.tmod (u : Int) 128 + 128) % 256 = ((u % 128 + 128 : Nat) : Int) := by rw [m0, wrap_u64]; omega
      rw [e, e2, ih k (u / 128) _ (by omega) h2 (by simp; omega) (by omega), putL_great h]
      simp

theorem rput_f {k u : Nat} (hu : u < 18446744073709551616) (hk : 9 < k) : cotterref01_Put.f k u = some (strOfNums (putL u)) := by
  unfold cotterref01_Put.f
  have h := rput_l0 9 k u [] hu (by omega) (by simp) hk
  simpa using h

theorem rbytes_l0 (n : Int) (s : Nat) (hs : s ≤ 8) : ∀ (d k i : Nat), s - i = d → i ≤ s → d < k →
    cotterref01_Bytes.l0 k s (leL n i) (n % 18446744073709551616 / 256 ^ i) i = some (strOfNums (leL n s), 0) := by
  intro d
  induction d with
  | zero =>
    intro k i hd hi hk
    obtain ⟨k, rfl⟩ : ∃ m, k = m + 1 := ⟨k - 1, by omega⟩
    obtain rfl : i = s := by omega
    simp only [cotterref01_Bytes.l0]
    rw [if_neg (by omega)]
  | succ d ih =>
    intro k i hd hi hk
    obtain ⟨k, rfl⟩ : ∃ m, k = m + 1 := ⟨k - 1, by omega⟩
    simp only [cotterref01_Bytes.l0]
    have hp := pow256_pos i
    have hq : 0 ≤ n % 18446744073709551616 / 256 ^ i := Int.ediv_nonneg (by omega) (by omega)
    have hq1 : n % 18446744073709551616 / 256 ^ i ≤ n % 18446744073709551616 := Int.ediv_le_self _ (by omega)
    have hb : n % 18446744073709551616 / 256 ^ i % 256 = n / 256 ^ i % 256 := by
      have h := leL_mod n (i + 1) 8 (by omega)
      have e8 : (256 : Int) ^ 8 = 18446744073709551616 := by decide
      rw [e8, leL_snoc, leL_snoc, leL_mod' n i (by omega)] at h
      simpa using h
    have hm : Int.tmod (n % 18446744073709551616 / 256 ^ i) 256 = n / 256 ^ i % 256 := by rw [Int.tmod_eq_emod_of_nonneg hq, hb]
    have hd2 : IntKind.u64.wrap (Int.tdiv (n % 18446744073709551616 / 256 ^ i) 256) = n % 18446744073709551616 / 256 ^ (i + 1) := by
      rw [Int.tdiv_eq_ediv_of_nonneg hq, wrap_u64_id (by omega) (by omega), Int.ediv_ediv_of_nonneg (by omega), Int.pow_succ]
    rw [if_pos (by omega), if_pos (by rw [leL_len]; omega), hm, hd2, show n / 256 ^ i % 256 % 256 = n / 256 ^ i % 256 by omega, ← leL_snoc, wrap64_id (by omega) (by omega), show ((i : Int) + 1) = ((i + 1 : Nat) : Int) by omega]
    exact ih k (i + 1) (by omega) (by omega) (by omega)

theorem rbytes_f (n size : Int) (h0 : -9223372036854775808 ≤ n) (h1 : n < 9223372036854775808) (k : Nat) (hk : 10 < k) : cotterref01_Bytes.f k n size = some (bytesR n size) := by
  obtain ⟨k, rfl⟩ : ∃ m, k = m + 1 := ⟨k - 1, by omega⟩
  have hj : ∀ s : Nat, s ≤ 8 → cotterref01_Bytes.j0 (k + 1) n s = some (strOfNums (leL n s), 0) := by
    intro s hs
    simp only [cotterref01_Bytes.j0]
    rw [wrap_u64]
    have h := rbytes_l0 n s hs s k 0 (by omega) (by omega) (by omega)
    simpa [leL] using h
  unfold cotterref01_Bytes.f bytesR
  rw [sized_f]
  simp only [Option.bind_some, decide_eq_true_eq]
  by_cases hz : size = 1 ∨ size = 4 ∨ size = 8
  · rw [if_pos hz, if_pos hz]
    rcases hz with rfl | rfl | rfl
    · have e1 : IntKind.u64.wrap (wrap64 (wrap64 (8 * 1) - 1)) = 7 := by decide +kernel
      have e2 : shl .i64 1 7 = 128 := by decide +kernel
      have e3 : wrap64 (-128) = -128 := by decide +kernel
      rw [if_pos (by omega), e1, e2, e3, if_pos (by omega)]
      by_cases ha : n < -128
      · rw [if_pos ha, if_neg (by unfold Fits; omega)]
      · rw [if_neg ha]
        by_cases hb : n ≥ 128
        · rw [if_pos hb, if_neg (by unfold Fits; omega)]
        · rw [if_neg hb, if_pos (by unfold Fits; omega)]
          exact hj 1 (by omega)
    · have e1 : IntKind.u64.wrap (wrap64 (wrap64 (8 * 4) - 1)) = 31 := by decide +kernel
      have e2 : shl .i64 1 31 = 2147483648 := by decide +kernel
      have e3 : wrap64 (-2147483648) = -2147483648 := by decide +kernel
      rw [if_pos (by omega), e1, e2, e3, if_pos (by omega)]
      by_cases ha : n < -2147483648
      · rw [if_pos ha, if_neg (by unfold Fits; omega)]
      · rw [if_neg ha]
        by_cases hb : n ≥ 2147483648
        · rw [if_pos hb, if_neg (by unfold Fits; omega)]
        · rw [if_neg hb, if_pos (by unfold Fits; omega)]
          exact hj 4 (by omega)
    · rw [if_neg (by omega), if_pos (by unfold Fits; omega)]
      exact hj 8 (by omega)
  · rw [if_neg hz, if_neg hz]

end Go.Proofs.Ytilmndkbloodbaa.Word1

/-
  Layer 6: rows of bytes that came of a conversion of a text (they bear a mark behind their end): read, appended to, told as a text. No condition beside the sizes.
-/
namespace Go.Proofs.YtilmndkbloodbaaW.PrintWords
open Go.RowKit
set_option linter.unusedVariables false
set_option linter.unusedSimpArgs false
theorem bytesWorld_below (w : World) (e : TypeId) (s : ByteArray) : Below w.heap.size w (Lib.bytesWorld w e s) :=
  ⟨rfl, rfl, rfl, by rw [Lib.bytesWorld_size]; omega, fun i hi => Lib.bytesWorld_at_old w e s i hi⟩
theorem run_storeCells_mark {P : Program} (g o : Nat) (t : TypeId) (fr : Nat × Nat) : ∀ (vs : List Value) (i : Nat) (cur : Array Value) (w : World), w.heap[g]? = some (.cells cur t fr) → (fr.2 ≤ fr.1 ∨ cur.size ≤ fr.1) → o + i + vs.length ≤ cur.size → (∀ v ∈ vs, v.oneCell' = true) →
    (storeCells ⟨g, o, none⟩ vs i).run P w = .ok () (w.setRow g (cur.toList.take (o + i) ++ vs ++ cur.toList.drop (o + i + vs.length)).toArray)
  | [], i, cur, w, hg, _, _, _ => by
    simp only [storeCells, List.append_nil, List.length_nil, Nat.add_zero, List.take_append_drop, Array.toArray_toList]
    rw [setRow_self w g cur t fr hg]
    rfl
  | v :: rest, i, cur, w, hg, hf, hl, h1 => by
    have hi : o + i < cur.size := by simp at hl; omega
    have hadd : (⟨g, o, none⟩ : Addr).add i = ⟨g, o + i, none⟩ := by unfold Addr.add; split <;> simp_all
    have hcell : w.cell? ⟨g, o + i, none⟩ = some cur[o + i] := by simp [World.cell?, hg, hi]
    have hfro : w.frozen? ⟨g, o + i, none⟩ = false := by
      simp [World.frozen?, hg]
      omega
    have hst : (store ((⟨g, o, none⟩ : Addr).add i) v).run P w = .ok () (w.setRow g (cur.setIfInBounds (o + i) v)) := by
      rw [hadd, run_store P w _ v _ (h1 v (by simp)), hcell]
      simp [hfro, setCell_eq_setRow w g (o + i) cur t fr v hg]
    have ih := run_storeCells_mark (P := P) g o t fr rest (i + 1) (cur.setIfInBounds (o + i) v) (w.setRow g (cur.setIfInBounds (o + i) v)) (setRow_heap w g cur _ t _ hg) (by simpa using hf) (by simp at hl ⊢; omega) (fun x hx => h1 x (by simp [hx]))
    simp only [storeCells, Sem.run_bind, hst, Result.andThen_ok, ih, setRow_setRow]
    congr 3
    have e := list_seg_step cur.toList (o + i) v rest (by simp at hl ⊢; omega)
    simpa [Array.toList_setIfInBounds, Nat.add_assoc] using e
theorem run_append_mark {P : Program} (w : World) (base : Nat) (t u ty e : TypeId) (i : TypeInfo) (ht : P.underlying t = some (.slice e)) (hu : P.underlying u = some .string) (hi : P.info? e = some i) (hz : i.zero = some (.int .u8 0))
    (hsize : i.size = 1) (hby : i.bytes = 1) (v : Value) (xs : List Int) (h : OwnB w base e v xs) (s : ByteArray) (hl : xs.length + s.size ≤ 140737488355328) (hbase : base ≤ w.heap.size) :
    ∃ v' w', (Builtin.append_ #[t, u] ty #[v, .string s]).run P w = .ok v' w' ∧ OwnB w' base e v' (xs ++ bytesOf s) ∧ w.grownBy w' v.ownBlock := by
  have hl2 : (xs ++ bytesOf s).length = xs.length + s.size := by rw [List.length_append, bytesOf_length]
  have hc2 : nums .u8 (xs ++ bytesOf s) = nums .u8 xs ++ Lib.strCells s := by
    rw [nums_append]
    congr 1
    simp [nums, bytesOf, Lib.strCells]
  rcases h with ⟨rfl, rfl⟩ | ⟨g, cap, cur, fr, rfl, hbg, hg, hf, h1, h2, h3, h4⟩
  · obtain ⟨v', w', hr, ho, hgr, _⟩ := Lib.run_append_own_string (P := P) w base t u ty e i ht hu hi hz hsize hby (.slice none 0 0) 0 [] (World.ownsRow_nil w base e 1) s (by simp only [maxLen]; omega) (by simpa using hl) hbase
    refine ⟨v', w', hr, ?_, hgr⟩
    simp only [List.nil_append]
    rcases ho.2 with ⟨rfl, h0⟩ | ⟨g, cap, cur, rfl, hb, hh, a1, a2, a3, a4⟩
    · have : bytesOf s = [] := List.eq_nil_of_length_eq_zero (by rw [bytesOf_length]; omega)
      exact .inl ⟨rfl, this⟩
    · have e1 : (bytesOf s).length = s.size := bytesOf_length s
      refine .inr ⟨g, cap, cur, (0, 0), by rw [e1]; simp, hb, hh, .inl (Nat.le_refl _), by rw [e1]; omega, a2, by simpa using a3, ?_⟩
      rw [e1]
      have : nums .u8 (bytesOf s) = Lib.strCells s := by simp [nums, bytesOf, Lib.strCells]
      rw [this]
      simpa using a4
  · by_cases hroom : xs.length + s.size ≤ cap
    · have hfc := Lib.run_firstCells_string (P := P) w 1 s
      have hst := run_storeCells_mark (P := P) g xs.length e fr (Lib.strCells s) 0 cur w hg hf (by rw [Lib.strCells_length, Nat.add_zero]; omega) (Lib.strCells_oneCell s)
      simp only [Nat.add_zero, Lib.strCells_length] at hst
      have hrun : (Builtin.append_ #[t, u] ty #[.slice (some ⟨g, 0, none⟩) xs.length cap, .string s]).run P w = .ok (.slice (some ⟨g, 0, none⟩) (xs.length + s.size) cap) (w.setRow g (cur.toList.take xs.length ++ Lib.strCells s ++ cur.toList.drop (xs.length + s.size)).toArray) := by
        simp [Builtin.append_, run_underlying ht, run_underlying hu, sizeOf, typeInfo, hi, hsize, Builtin.lenOf, hroom, hfc, Addr.add_lit, hst]
      refine ⟨.slice (some ⟨g, 0, none⟩) (xs.length + s.size) cap, _, hrun, .inr ⟨g, cap, _, fr, by rw [hl2], hbg, setRow_heap w g cur _ e _ hg, ?_, by rw [hl2]; exact hroom, h2, ?_, ?_⟩, ⟨rfl, rfl, rfl, by simp, fun k _ hk => setRow_other w g k _ (fun e => hk (by simp [Value.ownBlock, e]))⟩⟩
      · simp only [List.size_toArray, List.length_append, List.length_take, List.length_drop, Array.length_toList, Lib.strCells_length]
        omega
      · simp only [List.size_toArray, List.length_append, List.length_take, List.length_drop, Array.length_toList, Lib.strCells_length]
        omega
      · rw [h4, hl2, hc2]
        have e2 : (nums .u8 xs ++ Lib.strCells s).length = xs.length + s.size := by rw [List.length_append, nums_length, Lib.strCells_length]
        rw [← e2]
        exact List.take_left
    · have holds : ∀ j u, (nums .u8 xs)[j]? = some u → w.cell? ((⟨g, 0, none⟩ : Addr).add j) = some u := fun j u hj => by
        rw [add_plain, cell_of_row w g j cur e fr hg]
        have hlt : j < xs.length := by rw [← nums_length .u8 xs]; exact (List.getElem?_eq_some_iff.1 hj).1
        rw [← h4, List.getElem?_take_of_lt hlt] at hj
        simpa using hj
      have hr := Lib.run_append_grow_string (P := P) w t u ty e i (.int .u8 0) ht hu hi hz ⟨g, 0, none⟩ xs.length cap (nums .u8 xs) (by rw [hsize, nums_length]; simp) holds s (by omega) (by omega) (by rw [hby]; exact growslice_fits (by omega) (by omega))
      have hge := grownCap_ge w (xs.length + s.size) cap e
      have hcm : grownCap w (xs.length + s.size) cap e ≤ maxLen := grownCap_le_maxLen w (xs.length + s.size) cap e (by simp only [maxLen]; omega)
      refine ⟨_, _, hr, .inr ⟨w.heap.size, _, _, (0, 0), by rw [hl2], hbase, heap_alloc_new w.drew _, .inl (Nat.le_refl _), by rw [hl2]; exact hge, hcm, ?_, ?_⟩, ⟨rfl, rfl, rfl, by simp, fun k hk _ => Below.heap_alloc w.drew _ k hk⟩⟩
      · have hz1 : (Value.int IntKind.u8 0).cells.size = 1 := rfl
        simp only [Array.size_append, List.size_toArray, size_zeroCells, hz1, nums_length, Lib.strCells_length]
        omega
      · have e2 : (nums .u8 xs ++ Lib.strCells s).length = xs.length + s.size := by rw [List.length_append, nums_length, Lib.strCells_length]
        simp only [Array.toList_append, List.append_assoc]
        rw [hl2, hc2, ← List.append_assoc, ← e2]
        exact List.take_left
section
variable {P : Program} {ops : Array Oper} {rest : List Oper} {o : Oper} {a : Act} {Q : Exit → Act → World → Prop} {K : Act → World → Prop}
/-- append of a text's bytes, as one step of a region that draws. -/
theorem mark_step {W : World} (base : Nat) (hw : Region.wanted o (yielded ops a.tmps) = true) (s x : Operand) (t u e : TypeId)
    (ho : o.op = .call { callee := .builtin .append, args := #[s, x], argTypes := #[t, u] })
    (ht : P.underlying t = some (.slice e)) (hu : P.underlying u = some .string) (hinfo : (P.info? e).map (fun i => (i.zero, i.size, i.bytes)) = some (some (.int .u8 0), 1, 1))
    (v : Value) (xs ys : List Int) (y : ByteArray) (hy : ys = xs ++ bytesOf y) (hs : a.eval s = v) (hx : a.eval x = .string y)
    (HO : OwnB W base e v xs) (hbase : base ≤ W.heap.size) (hl : xs.length + y.size ≤ 140737488355328)
    (h : ∀ A n w1, OwnB w1 base e (.slice A ys.length n) ys → W.grownBy w1 v.ownBlock → K (a.put o.dst (.slice A ys.length n)) w1) :
    if Region.wanted o (yielded ops a.tmps) = true then Oper.wp P o a W K Q else K (a.put o.dst undef) W := by
  obtain ⟨i0, hi, hzz⟩ := Option.map_eq_some_iff.1 hinfo
  simp only [Prod.mk.injEq] at hzz
  obtain ⟨hz0, hz1, hz2⟩ := hzz
  rw [if_pos hw]
  obtain ⟨v1, w1, hr, hown, hg⟩ := run_append_mark (P := P) W base t u o.type e i0 ht hu hi hz0 hz1 hz2 v xs HO y hl hbase
  unfold Oper.wp execOp
  simp only [ho, resolve, invoke, builtin, Sem.run_bind, Sem.run_pure, Result.andThen_ok, List.map_toArray, List.map_cons, List.map_nil, hs, hx, hr]
  rw [← hy] at hown
  obtain ⟨A, n, rfl⟩ := hown.slice
  exact h A n w1 hown hg
/-- .. where no order is drawn. -/
theorem mark_append {W : World} (base : Nat) (hgd : o.guard = none) (s x : Operand) (t u e : TypeId)
    (ho : o.op = .call { callee := .builtin .append, args := #[s, x], argTypes := #[t, u] })
    (ht : P.underlying t = some (.slice e)) (hu : P.underlying u = some .string) (hinfo : (P.info? e).map (fun i => (i.zero, i.size, i.bytes)) = some (some (.int .u8 0), 1, 1))
    (v : Value) (xs ys : List Int) (y : ByteArray) (hy : ys = xs ++ bytesOf y) (hs : a.eval s = v) (hx : a.eval x = .string y)
    (HO : OwnB W base e v xs) (hbase : base ≤ W.heap.size) (hl : xs.length + y.size ≤ 140737488355328)
    (h : ∀ A n w1, OwnB w1 base e (.slice A ys.length n) ys → W.grownBy w1 v.ownBlock → wpList P ops Q rest (a.put o.dst (.slice A ys.length n)) w1) :
    wpList P ops Q (o :: rest) a W := by
  refine wpList_plain hgd fun K' hK' => ?_
  have := mark_step (P := P) (ops := ops) (o := o) (a := a) (Q := Q) (K := K') (W := W) base (by simp [Region.wanted, hgd]) s x t u e ho ht hu hinfo v xs ys y hy hs hx HO hbase hl (fun A n w1 h1 h2 => hK' _ _ (h A n w1 h1 h2))
  rw [if_pos (by simp [Region.wanted, hgd])] at this
  exact this
end
end Go.Proofs.YtilmndkbloodbaaW.PrintWords

/-
  Layer 6: the document's forms (cotterref06.Front, Write): the walks. Conditions: the words of data are of 64 bits; for Front, that symbols, code and data may be.
-/
namespace Go.Proofs.Ytilmndkbloodbaa.M
open Go.RowKit Go.Proofs.YtilmndkbloodbaaW.PrintWords Go.Proofs.YtilmndkbloodbaaW.PrintLast Go.Proofs.Ytilmndkbloodbaa.Num Go.Proofs.Ytilmndkbloodbaa.Seven Go.Proofs.Ytilmndkbloodbaa.Word1 Go.Proofs.Ytilmndkbloodbaa.Obj
set_option linter.unusedVariables false
set_option linter.unusedSimpArgs false
theorem rnum_f (n : Int) (h0 : 0 ≤ n) (h : n < 18446744073709551616) : cotterref06_number.f 10 n = some (strOfNums (putL n.toNat)) := by
  unfold cotterref06_number.f
  rw [wrap_u64_id h0 h]
  have := rput_f (k := 10) (u := n.toNat) (by omega) (by omega)
  rw [Int.toNat_of_nonneg h0] at this
  rw [this]
  rfl
theorem rtext_f (s : ByteArray) (h : s.size ≤ 1000000) : cotterref06_text.f 10 s = some (strOfNums (textL s)) := by
  unfold cotterref06_text.f
  rw [rnum_f _ (by omega) (by omega)]
  have h1 := put_small (n := s.size) (by omega)
  have e : strOfNums (putL s.size) ++ s = strOfNums (textL s) := by
    have := str_append (putL s.size) (bytesOf s)
    rw [str_bytesOf] at this
    exact this
  simp only [Option.bind_some, Int.toNat_natCast]
  rw [if_pos (by rw [str_size _ (putL_bs _)]; omega), e]
theorem rwide_f (n : Int) (h : -9223372036854775808 ≤ n ∧ n < 9223372036854775808) : cotterref06_wide.f 11 n = some (strOfNums (leL n 8)) := by
  unfold cotterref06_wide.f
  rw [rbytes_f n 8 h.1 h.2 11 (by omega)]
  unfold bytesR
  rw [if_pos (by omega), if_pos (by unfold Fits; omega)]
  rfl
theorem u8_wrap (n : Int) : IntKind.u8.wrap n = n % 256 := by simp [IntKind.wrap, IntKind.bits, IntKind.signed]
theorem conv1 (W : World) (b : Nat) (x : Int) (h : W.cell? ⟨b, 0, none⟩ = some (.int .u8 x)) : (convert 45 9 (.slice (some ⟨b, 0, none⟩) 1 1)).run Try.prog W = .ok (.string (strOfNums [x])) W := by
  refine run_convert_bytes_arg W 45 5 Try.underlying45 Try.underlying5 b 0 1 1 [x] rfl (fun i hi => ?_) 9 Try.underlying9
  obtain rfl : i = 0 := by omega
  simpa using h
theorem ownB_grown {w W w1 : World} {v : Value} {xs : List Int} (h : Below w.heap.size w W) (ho : OwnB W w.heap.size 5 v xs) (hg : W.grownBy w1 v.ownBlock) : Below w.heap.size w w1 := h.grown hg h.size (fun k hk => (ho.typed k hk).1)
set_option maxHeartbeats 8000000 in
set_option maxRecDepth 100000 in
theorem front_c (mark code : ByteArray) (A1 : Option Addr) (c1 : Nat) (data : List Int) (A2 : Option Addr) (c2 : Nat) (syms : List S41) (w : World) (hr1 : Kd.C (Kd.int .i64) w A1 data.length data) (hc1 : data.length ≤ c1) (hr2 : Kd.C k41 w A2 syms.length syms) (hc2 : syms.length ≤ c2)
    (hm : mark.size ≤ 100) (hcs : code.size ≤ 65536) (hds : data.length ≤ 4096) (hss : syms.length ≤ 1000) (hw : wordsOk data) (hs : ∀ s ∈ syms, named s.f0 ∧ 0 ≤ s.f2 ∧ s.f2 < 65536) :
    Calls Try.prog 23 #[.string mark, .string code, .slice A1 data.length c1, .slice A2 syms.length c2] w fun e w' => e = .returned (.string (strOfNums (front (bytesOf mark) code data syms))) ∧ Below w.heap.size w w' := by
  have t0 := textL_len code (by omega)
  have p1 := put_small (n := data.length) (by omega)
  have p2 := put_small (n := syms.length) (by omega)
  have TC := Aside0.mk (rtext_f code (by omega))
  have N1 := Aside0.mk (rnum_f (data.length : Int) (by omega) (by omega))
  have N2 := Aside0.mk (rnum_f (syms.length : Int) (by omega) (by omega))
  have z1 : (strOfNums (textL code)).size ≤ 65546 := by rw [str_size _ (textL_bs _)]; omega
  have z2 : (strOfNums (putL (data.length : Int).toNat)).size ≤ 10 := by rw [str_size _ (putL_bs _)]; simpa using p1
  have L0 := Aside0.mk (show (front0 (bytesOf mark) code data).length ≤ 70000 by simp only [front0, List.length_append, bytesOf_length]; omega)
  have SD := Aside0.mk (fun k => (show (dataL (data.take k)).length ≤ 32768 by rw [dataL_len, List.length_take]; omega))
  have L1 := Aside0.mk (show (front1 (bytesOf mark) code data syms).length ≤ 110000 by simp only [front1, List.length_append]; have := SD.out data.length; rw [List.take_length] at this; have := L0.out; omega)
  have SY := Aside0.mk (fun k => (show (symsL (syms.take k)).length ≤ 49000 by
      have := symsL_len (syms.take k) (fun s h => ⟨(hs s (List.mem_of_mem_take h)).1, by have := (hs s (List.mem_of_mem_take h)).2.2; omega⟩)
      rw [List.length_take] at this; omega))
  have E0 := Aside0.mk (show bytesOf (mark ++ strOfNums (textL code) ++ strOfNums (putL (data.length : Int).toNat)) = front0 (bytesOf mark) code data by
    rw [bytesOf_append, bytesOf_append, of_str (textL_bs _), of_str (putL_bs _)]; rfl)
  have HR1 := Aside0.mk hr1
  have HR2 := Aside0.mk hr2
  have HD := Aside0.mk hw
  have HS := Aside0.mk hs
  have hl1 := hr1.2.1
  have hl2 := hr2.2.1
  have hcv := fun (W : World) (s : ByteArray) => Lib.run_convert_string_bytes (P := Try.prog) W 9 45 5 s Try.underlying9 Try.underlying45 Try.underlying5
  have P2 := Aside0.mk p2
  have a1 : (mark.size + (strOfNums (textL code)).size ≤ 9223372036854775807) = True := eq_true (by omega)
  have a2 : (mark.size + (strOfNums (textL code)).size + (strOfNums (putL (data.length : Int).toNat)).size ≤ 9223372036854775807) = True := eq_true (by omega)
  have b1 : (9223372036854775807 < mark.size + (strOfNums (textL code)).size) = False := eq_false (by omega)
  have b2 : (9223372036854775807 < mark.size + (strOfNums (textL code)).size + (strOfNums (putL (data.length : Int).toNat)).size) = False := eq_false (by omega)
  have SZ := Aside0.mk (show (mark ++ strOfNums (textL code) ++ strOfNums (putL (data.length : Int).toNat)).size ≤ maxLen by simp only [ByteArray.size_append, maxLen]; omega)
  clear hr1 hr2 hw hs hm hcs hds hss t0 p1 p2 z1 z2
  generalize hT : strOfNums (textL code) = tc at *
  generalize hN : strOfNums (putL (data.length : Int).toNat) = nd at *
  clear hT hN
  go_enter Try.func23, Try.ntmps23
  go_wp2_with (first | (go_at_call 25; (with_reducible refine (cotterref06_text.calls 10 code tc _ TC.out).mono ?_); rintro e w1 ⟨rfl, hb1⟩; have HB1 := Aside0.mk hb1; clear hb1) | (go_at_call 24; (with_reducible refine (cotterref06_number.calls 10 _ nd _ N1.out).mono ?_); rintro e w2 ⟨rfl, hb2⟩; have HB2 := Aside0.mk (below_in HB1.out hb2); clear hb2))
  have hbw := bytesWorld_below w2 5 (mark ++ tc ++ nd)
  have HOB := Aside0.mk (OwnB.new w2 w.heap.size 5 (mark ++ tc ++ nd) HB2.out.size SZ.out)
  have HBW := Aside0.mk (below_in HB2.out hbw)
  clear hbw hcv a1 a2 b1 b2
  rw [E0.out] at HOB
  simp only [ByteArray.size_append] at HOB
  generalize Lib.bytesWorld w2 5 (mark ++ tc ++ nd) = w3 at *
  generalize hV : Value.slice (some ⟨w2.heap.size, 0, none⟩) (mark.size + tc.size + nd.size) (grownCap w2 (mark.size + tc.size + nd.size) 0 5) = v3 at *
  clear hV
  go_loopw [9, 10] (fun v9 v10 wr => ∃ k : Nat, k ≤ data.length ∧ v10 = .int .i64 k ∧ Aside0 (OwnB wr w.heap.size 5 v9 (front0 (bytesOf mark) code data ++ dataL (data.take k))) ∧ Aside0 (Below w.heap.size w wr)) (fun _ v10 _ => data.length - (intOf v10).toNat)
  case atStart => exact ⟨0, Nat.zero_le _, rfl, ⟨by simpa [dataL] using HOB.out⟩, HBW⟩
  case round =>
    clear HOB HBW HB1 HB2 TC N1 E0 SZ
    obtain ⟨k, hk, rfl, HO, HB⟩ := hrel
    by_cases hlt : k < data.length
    case pos =>
      obtain ⟨ad, he, hx0⟩ := Kd.at_int HR1.out (k : Int) (by omega) (by omega)
      cases he
      have hrd : rd data (k : Int) = data[k] := by simp [rd, List.getD_eq_getElem?_getD, List.getElem?_eq_getElem hlt]
      rw [hrd] at hx0
      simp only [Int.toNat_natCast] at hx0
      replace hx0 := (HB.out.cell (World.block_lt_of_cell? w _ hx0)).trans hx0
      have BY := Aside0.mk (rwide_f data[k] (HD.out _ (List.getElem_mem hlt)))
      have SN := Aside0.mk (dataL_snoc data k hlt)
      have SZ := Aside0.mk (show (strOfNums (leL data[k] 8)).size = 8 by rw [str_size _ (leL_bs _ _), leL_len])
      clear hrd
      generalize data[k] = n at hx0 BY SN SZ
      obtain ⟨ys, hys⟩ : ∃ ys, ys = front0 (bytesOf mark) code data ++ dataL (data.take (k + 1)) := ⟨_, rfl⟩
      have HY := Aside0.mk (show ys = (front0 (bytesOf mark) code data ++ dataL (data.take k)) ++ bytesOf (strOfNums (leL n 8)) by rw [hys, SN.out, of_str (leL_bs _ _), List.append_assoc])
      have HYS := Aside0.mk hys
      clear hys
      generalize strOfNums (leL n 8) = t8 at BY SZ HY
      go_wp2_with (first
        | (at_builtin; refine mark_append w.heap.size rfl (.tmp 27) (.tmp 32) 45 9 5 rfl Try.underlying45 Try.underlying9 info5 _ _ ys t8 HY.out (by first | rfl | (go_simp; done)) (by first | rfl | (go_simp; done)) HO1.out HB1.out.size (by have h1 := L0.out; have h2 := SD.out k; have h3 := SZ.out; rw [List.length_append]; omega) ?_; intro A n1 w5 ho5 hg5; have HO5 := Aside0.mk ho5; have HB5 := Aside0.mk (ownB_grown HB1.out HO1.out hg5); clear ho5 hg5)
        | (go_at_call 26; (with_reducible refine (cotterref06_wide.calls 11 n t8 _ BY.out).mono ?_); rintro e w4 ⟨rfl, hb4⟩; have HO1 := Aside0.mk (HO.out.below hb4); have HB1 := Aside0.mk (below_in HB.out hb4); clear hb4))
      go_roundw
      case rel => exact ⟨k + 1, by omega, by first | rfl | go_num, ⟨by rw [← HYS.out]; exact HO5.out⟩, HB5⟩
      case measure => simp [intOf]; omega
    case neg =>
      obtain rfl : k = data.length := by omega
      rw [List.take_length] at HO
      clear hlt hk
      have P2' := Aside0.mk (show (strOfNums (putL (syms.length : Int).toNat)).size ≤ 10 by rw [str_size _ (putL_bs _)]; simpa using P2.out)
      obtain ⟨ys, hys⟩ : ∃ ys, ys = front1 (bytesOf mark) code data syms := ⟨_, rfl⟩
      have HY := Aside0.mk (show ys = (front0 (bytesOf mark) code data ++ dataL data) ++ bytesOf (strOfNums (putL (syms.length : Int).toNat)) by rw [hys, of_str (putL_bs _)]; simp [front1])
      have HYS := Aside0.mk hys
      clear hys
      generalize strOfNums (putL (syms.length : Int).toNat) = nd2 at N2 P2' HY
      go_wp2_with (first
        | (at_builtin; refine mark_append w.heap.size rfl (.tmp 34) (.tmp 37) 45 9 5 rfl Try.underlying45 Try.underlying9 info5 _ _ ys nd2 HY.out (by first | rfl | (go_simp; done)) (by first | rfl | (go_simp; done)) HO1.out HB1.out.size (by have h1 := L0.out; have h2 := SD.out data.length; have h3 := P2'.out; rw [List.take_length] at h2; rw [List.length_append]; omega) ?_; intro A n1 w5 ho5 hg5; have HO5 := Aside0.mk ho5; have HB5 := Aside0.mk (ownB_grown HB1.out HO1.out hg5); clear ho5 hg5)
        | (go_at_call 24; (with_reducible refine (cotterref06_number.calls 10 _ nd2 _ N2.out).mono ?_); rintro e w4 ⟨rfl, hb4⟩; have HO1 := Aside0.mk (HO.out.below hb4); have HB1 := Aside0.mk (below_in HB.out hb4); clear hb4))
      generalize hV : Value.slice A ys.length n1 = v5 at *
      rw [HYS.out] at HO5
      clear HO HB HO1 HB1 HY N2 P2' hV HYS
      go_loopw [9, 11] (fun v9 v11 wr => ∃ k : Nat, k ≤ syms.length ∧ v11 = .int .i64 k ∧ Aside0 (OwnB wr w.heap.size 5 v9 (front1 (bytesOf mark) code data syms ++ symsL (syms.take k))) ∧ Aside0 (Below w.heap.size w wr)) (fun _ v11 _ => syms.length - (intOf v11).toNat)
      case atStart => exact ⟨0, Nat.zero_le _, rfl, ⟨by simpa [symsL] using HO5.out⟩, HB5⟩
      case round =>
        clear HO5 HB5
        obtain ⟨k, hk, rfl, HO, HB⟩ := hrel
        by_cases hlt : k < syms.length
        case pos =>
          obtain ⟨ad, he, hx0, hx1, hx2⟩ := at_T41 HR2.out (k : Int) (by omega) (by omega)
          cases he
          have hrd : rd_T41 syms (k : Int) = syms[k] := by simp [rd_T41, List.getD_eq_getElem?_getD, List.getElem?_eq_getElem hlt]
          rw [hrd] at hx0 hx1 hx2
          simp only [Int.toNat_natCast] at hx0 hx1 hx2
          have MM := HS.out _ (List.getElem_mem hlt)
          have SN := Aside0.mk (symsL_snoc syms k hlt)
          clear hrd
          generalize syms[k] = s at hx0 hx1 hx2 SN MM
          obtain ⟨s0, s1, s2⟩ := s
          dsimp only at hx0 hx1 hx2 MM
          have SOF := Aside0.mk (show ∀ w', Below w.heap.size w w' → (w'.cell? (ad.add (k * 3)) = some (.string s0) ∧ w'.cell? ⟨(ad.add (k * 3)).block, (ad.add (k * 3)).off + 1, none⟩ = some (.int .i64 s1) ∧ w'.cell? ⟨(ad.add (k * 3)).block, (ad.add (k * 3)).off + 2, none⟩ = some (.int .i64 s2) ∧ Below w.heap.size w w') from fun w' hb => ⟨pw_cell_below hb hx0, pw_cell_below hb hx1, pw_cell_below hb hx2, hb⟩)
          have T1 := Aside0.mk (rtext_f s0 (by have := MM.1.2; omega))
          have T2 := Aside0.mk (rnum_f s2 MM.2.1 (by have := MM.2.2; omega))
          have z1 : (strOfNums (textL s0)).size ≤ 38 := by rw [str_size _ (textL_bs _)]; have := textL_len s0 (by have := MM.1.2; omega); have := MM.1.2; omega
          have z2 : (strOfNums (putL s2.toNat)).size ≤ 10 := by rw [str_size _ (putL_bs _)]; exact put_small (by have := MM.2.2; omega)
          have z3 : (strOfNums [s1 % 256]).size = 1 := by rw [str_size _ (one_bs _)]; rfl
          obtain ⟨ys, hys⟩ : ∃ ys, ys = front1 (bytesOf mark) code data syms ++ symsL (syms.take (k + 1)) := ⟨_, rfl⟩
          have HY := Aside0.mk (show ys = (front1 (bytesOf mark) code data syms ++ symsL (syms.take k)) ++ bytesOf (strOfNums (textL s0) ++ strOfNums [s1 % 256] ++ strOfNums (putL s2.toNat)) by rw [hys, SN.out, bytesOf_append, bytesOf_append, of_str (textL_bs _), of_str (one_bs _), of_str (putL_bs _)]; simp only [symL, List.append_assoc])
          have HYS := Aside0.mk hys
          have hcv1 : ∀ (W : World) (b : Nat), W.cell? ⟨b, 0, none⟩ = some (.int .u8 (IntKind.u8.wrap s1)) → (convert 45 9 (.slice (some ⟨b, 0, none⟩) 1 1)).run Try.prog W = .ok (.string (strOfNums [s1 % 256])) W := fun W b h => by rw [conv1 W b _ h, u8_wrap]
          have HL := Aside0.mk (show (front1 (bytesOf mark) code data syms ++ symsL (syms.take k)).length + 49 ≤ 140737488355328 by rw [List.length_append]; have h1 := L1.out; have h2 := SY.out k; omega)
          clear hys MM SN
          generalize strOfNums (textL s0) = ts at *
          generalize strOfNums (putL s2.toNat) = ns at *
          generalize strOfNums [s1 % 256] = os at *
          have a1 : (ts.size + os.size ≤ 9223372036854775807) = True := eq_true (by omega)
          have a2 : (ts.size + os.size + ns.size ≤ 9223372036854775807) = True := eq_true (by omega)
          have b1 : (9223372036854775807 < ts.size + os.size) = False := eq_false (by omega)
          have b2 : (9223372036854775807 < ts.size + os.size + ns.size) = False := eq_false (by omega)
          have Z := Aside0.mk (show (ts ++ os ++ ns).size ≤ 49 by simp only [ByteArray.size_append]; omega)
          clear hx0 hx1 hx2 z1 z2 z3
          have HBW := Aside0.mk (below_drew1 (Below.refl wr.heap.size wr))
          go_wp2
          refine start_ (n := 25) (S := fun w' => w'.cell? (ad.add (k * 3)) = some (.string s0) ∧ w'.cell? ⟨(ad.add (k * 3)).block, (ad.add (k * 3)).off + 1, none⟩ = some (.int .i64 s1) ∧ w'.cell? ⟨(ad.add (k * 3)).block, (ad.add (k * 3)).off + 2, none⟩ = some (.int .i64 s2)) (ds := []) #[false, false, false, false, false, false, false, false, false, false, false, false, false, false, false, false, false, false, false, false, false, false, false, false, false] (by kernel_rfl) rfl rfl ⟨(SOF.out _ (below_in HB.out (below_drew1 (Below.refl _ _)))).1, (SOF.out _ (below_in HB.out (below_drew1 (Below.refl _ _)))).2.1, (SOF.out _ (below_in HB.out (below_drew1 (Below.refl _ _)))).2.2.1⟩ (fun hHeld => ?_)
          refine pure_ (i := 0) (N := some 45) (v := ?_) (a' := ?_) #[true, false, false, false, false, false, false, false, false, false, false, false, false, false, false, false, false, false, false, false, false, false, false, false, false] rfl rfl (by kernel_rfl) (fun _ _ _ h => h) (Or.inl ⟨by rfl, ?_⟩) ?_ ?_
          rotate_left
          · intro w'
            go_simp
            with_reducible rfl
          rotate_left
          · simp only [Act.put, List.setIfInBounds_toArray, List.set_cons_zero, List.set_cons_succ, i64_w, i32_w]
            rfl
          refine pure_ (i := 1) (N := some 46) (v := ?_) (a' := ?_) #[true, true, false, false, false, false, false, false, false, false, false, false, false, false, false, false, false, false, false, false, false, false, false, false, false] rfl rfl (by kernel_rfl) (fun _ _ _ h => h) (Or.inl ⟨by rfl, ?_⟩) ?_ ?_
          rotate_left
          · intro w'
            go_simp
            with_reducible rfl
          rotate_left
          · simp only [Act.put, List.setIfInBounds_toArray, List.set_cons_zero, List.set_cons_succ, i64_w, i32_w]
            rfl
          refine pure_ (i := 2) (N := some 47) (v := ?_) (a' := ?_) #[true, true, true, false, false, false, false, false, false, false, false, false, false, false, false, false, false, false, false, false, false, false, false, false, false] rfl rfl (by kernel_rfl) (fun _ _ _ h => h) (Or.inl ⟨by rfl, ?_⟩) ?_ ?_
          rotate_left
          · intro w'
            go_simp
            with_reducible rfl
          rotate_left
          · simp only [Act.put, List.setIfInBounds_toArray, List.set_cons_zero, List.set_cons_succ, i64_w, i32_w]
            rfl
          refine pure_ (i := 3) (N := some 48) (v := ?_) (a' := ?_) #[true, true, true, true, false, false, false, false, false, false, false, false, false, false, false, false, false, false, false, false, false, false, false, false, false] rfl rfl (by kernel_rfl) (fun _ _ _ h => h) (Or.inl ⟨by rfl, ?_⟩) ?_ ?_
          rotate_left
          · intro w'
            go_simp
            with_reducible rfl
          rotate_left
          · simp only [Act.put, List.setIfInBounds_toArray, List.set_cons_zero, List.set_cons_succ, i64_w, i32_w]
            rfl
          refine pure_ (i := 4) (N := some 49) (v := ?_) (a' := ?_) #[true, true, true, true, true, false, false, false, false, false, false, false, false, false, false, false, false, false, false, false, false, false, false, false, false] rfl rfl (by kernel_rfl) (fun _ _ _ h => h) (Or.inl ⟨by rfl, ?_⟩) ?_ ?_
          rotate_left
          · intro w'
            go_simp
            with_reducible rfl
          rotate_left
          · simp only [Act.put, List.setIfInBounds_toArray, List.set_cons_zero, List.set_cons_succ, i64_w, i32_w]
            rfl
          refine pure_ (i := 7) (N := some 52) (v := ?_) (a' := ?_) #[true, true, true, true, true, false, false, true, false, false, false, false, false, false, false, false, false, false, false, false, false, false, false, false, false] rfl rfl (by kernel_rfl) (fun _ _ _ h => h) (Or.inl ⟨by rfl, ?_⟩) ?_ ?_
          rotate_left
          · intro w'
            go_simp
            with_reducible rfl
          rotate_left
          · simp only [Act.put, List.setIfInBounds_toArray, List.set_cons_zero, List.set_cons_succ, i64_w, i32_w]
            rfl
          refine pure_ (i := 8) (N := some 53) (v := ?_) (a' := ?_) #[true, true, true, true, true, false, false, true, true, false, false, false, false, false, false, false, false, false, false, false, false, false, false, false, false] rfl rfl (by kernel_rfl) (fun _ _ _ h => h) (Or.inl ⟨by rfl, ?_⟩) ?_ ?_
          rotate_left
          · intro w'
            go_simp
            with_reducible rfl
          rotate_left
          · simp only [Act.put, List.setIfInBounds_toArray, List.set_cons_zero, List.set_cons_succ, i64_w, i32_w]
            rfl
          refine pure_ (i := 9) (N := some 54) (v := ?_) (a' := ?_) #[true, true, true, true, true, false, false, true, true, true, false, false, false, false, false, false, false, false, false, false, false, false, false, false, false] rfl rfl (by kernel_rfl) (fun _ _ _ h => h) (Or.inl ⟨by rfl, ?_⟩) ?_ ?_
          rotate_left
          · intro w'
            go_simp
            with_reducible rfl
          rotate_left
          · simp only [Act.put, List.setIfInBounds_toArray, List.set_cons_zero, List.set_cons_succ, i64_w, i32_w]
            rfl
          refine pure_ (i := 10) (N := some 55) (v := ?_) (a' := ?_) #[true, true, true, true, true, false, false, true, true, true, true, false, false, false, false, false, false, false, false, false, false, false, false, false, false] rfl rfl (by kernel_rfl) (fun _ _ _ h => h) (Or.inl ⟨by rfl, ?_⟩) ?_ ?_
          rotate_left
          · intro w'
            go_simp
            with_reducible rfl
          rotate_left
          · simp only [Act.put, List.setIfInBounds_toArray, List.set_cons_zero, List.set_cons_succ, i64_w, i32_w]
            rfl
          refine pure_ (i := 16) (N := some 61) (v := ?_) (a' := ?_) #[true, true, true, true, true, false, false, true, true, true, true, false, false, false, false, false, true, false, false, false, false, false, false, false, false] rfl rfl (by kernel_rfl) (fun _ _ _ h => h) (Or.inl ⟨by rfl, ?_⟩) ?_ ?_
          rotate_left
          · intro w'
            go_simp
            with_reducible rfl
          rotate_left
          · simp only [Act.put, List.setIfInBounds_toArray, List.set_cons_zero, List.set_cons_succ, i64_w, i32_w]
            rfl
          refine pure_ (i := 17) (N := some 62) (v := ?_) (a' := ?_) #[true, true, true, true, true, false, false, true, true, true, true, false, false, false, false, false, true, true, false, false, false, false, false, false, false] rfl rfl (by kernel_rfl) (fun _ _ _ h => h) (Or.inl ⟨by rfl, ?_⟩) ?_ ?_
          rotate_left
          · intro w'
            go_simp
            with_reducible rfl
          rotate_left
          · simp only [Act.put, List.setIfInBounds_toArray, List.set_cons_zero, List.set_cons_succ, i64_w, i32_w]
            rfl
          refine pure_ (i := 18) (N := some 63) (v := ?_) (a' := ?_) #[true, true, true, true, true, false, false, true, true, true, true, false, false, false, false, false, true, true, true, false, false, false, false, false, false] rfl rfl (by kernel_rfl) (fun _ _ _ h => h) (Or.inl ⟨by rfl, ?_⟩) ?_ ?_
          rotate_left
          · intro w'
            go_simp
            with_reducible rfl
          rotate_left
          · simp only [Act.put, List.setIfInBounds_toArray, List.set_cons_zero, List.set_cons_succ, i64_w, i32_w]
            rfl
          refine pure_ (i := 19) (N := some 64) (v := ?_) (a' := ?_) #[true, true, true, true, true, false, false, true, true, true, true, false, false, false, false, false, true, true, true, true, false, false, false, false, false] rfl rfl (by kernel_rfl) (fun _ _ _ h => h) (Or.inl ⟨by rfl, ?_⟩) ?_ ?_
          rotate_left
          · intro w'
            go_simp
            with_reducible rfl
          rotate_left
          · simp only [Act.put, List.setIfInBounds_toArray, List.set_cons_zero, List.set_cons_succ, i64_w, i32_w]
            rfl
          refine take_ (i := 5) (N := some 50) (v := ?_) (a' := ?_) #[true, true, true, true, true, true, false, true, true, true, true, false, false, false, false, false, true, true, true, true, false, false, false, false, false] rfl rfl (by kernel_rfl) (fun _ _ _ h => h) (Or.inl ⟨by rfl, ?_⟩) hHeld ?_ ?_
          rotate_left
          · rintro w' ⟨s0, s1, s2⟩
            go_simp
            with_reducible rfl
          rotate_left
          · simp only [Act.put, List.setIfInBounds_toArray, List.set_cons_zero, List.set_cons_succ, i64_w, i32_w]
            rfl
          refine take_ (i := 11) (N := some 56) (v := ?_) (a' := ?_) #[true, true, true, true, true, true, false, true, true, true, true, true, false, false, false, false, true, true, true, true, false, false, false, false, false] rfl rfl (by kernel_rfl) (fun _ _ _ h => h) (Or.inl ⟨by rfl, ?_⟩) hHeld ?_ ?_
          rotate_left
          · rintro w' ⟨s0, s1, s2⟩
            go_simp
            with_reducible rfl
          rotate_left
          · simp only [Act.put, List.setIfInBounds_toArray, List.set_cons_zero, List.set_cons_succ, i64_w, i32_w]
            rfl
          refine pure_ (i := 12) (N := some 57) (v := ?_) (a' := ?_) #[true, true, true, true, true, true, false, true, true, true, true, true, true, false, false, false, true, true, true, true, false, false, false, false, false] rfl rfl (by kernel_rfl) (fun _ _ _ h => h) (Or.inl ⟨by rfl, ?_⟩) ?_ ?_
          rotate_left
          · intro w'
            go_simp
            with_reducible rfl
          rotate_left
          · simp only [Act.put, List.setIfInBounds_toArray, List.set_cons_zero, List.set_cons_succ, i64_w, i32_w]
            rfl
          refine take_ (i := 20) (N := some 65) (v := ?_) (a' := ?_) #[true, true, true, true, true, true, false, true, true, true, true, true, true, false, false, false, true, true, true, true, true, false, false, false, false] rfl rfl (by kernel_rfl) (fun _ _ _ h => h) (Or.inl ⟨by rfl, ?_⟩) hHeld ?_ ?_
          rotate_left
          · rintro w' ⟨s0, s1, s2⟩
            go_simp
            with_reducible rfl
          rotate_left
          · simp only [Act.put, List.setIfInBounds_toArray, List.set_cons_zero, List.set_cons_succ, i64_w, i32_w]
            rfl
          refine join_ (σ := Nat) 3 #[true, true, true, true, true, true, true, true, true, true, true, true, true, true, true, true, true, true, true, true, true, true, false, false, false] (fun b => [(51, .string ts), (66, .string ns), (58, .slice (some ⟨b, 0, none⟩) 1 1), (59, .string os), (60, .string (ts ++ os))]) (fun _ w' => Aside0 (Below (wr).heap.size wr w')) ?_ ?_
          rotate_left
          · intro hCont
            refine two_ (i := 6) (j := 13) (Ni := some 51) (Nj := some 58) #[true, true, true, true, true, true, true, true, true, true, true, true, true, false, false, false, true, true, true, true, true, false, false, false, false] #[true, true, true, true, true, true, false, true, true, true, true, true, true, true, false, false, true, true, true, true, true, false, false, false, false] rfl rfl rfl rfl (by kernel_rfl) (by decide) (by decide) (fun K hK => ?_) (fun K hK => ?_)
            · skip
              refine goes_ Try.func25 (by kernel_rfl) rfl #[.string s0] (by rfl) rfl rfl (by simp only [List.map_toArray, List.map_cons, List.map_nil]; rfl) ?_
              with_reducible refine (cotterref06_text.calls 10 s0 ts _ T1.out).mono ?_
              rintro e w6_ ⟨rfl, hb_⟩
              refine ⟨_, rfl, ?_⟩
              have HBW := Aside0.mk (below_in HBW.out hb_)
              clear hb_
              refine hK.out _ _ ⟨(SOF.out _ (below_in HB.out HBW.out)).1, (SOF.out _ (below_in HB.out HBW.out)).2.1, (SOF.out _ (below_in HB.out HBW.out)).2.2.1⟩ (fun hHeld => ?_)
              clear hK K
              refine norm_ (a' := ?_) ?_ ?_
              rotate_left
              · show Act.put _ (some 51) _ = _
                simp only [Act.put, List.setIfInBounds_toArray, List.set_cons_zero, List.set_cons_succ, i64_w, i32_w]
                rfl
              refine two_ (i := 13) (j := 21) (Ni := some 58) (Nj := some 66) #[true, true, true, true, true, true, true, true, true, true, true, true, true, true, false, false, true, true, true, true, true, false, false, false, false] #[true, true, true, true, true, true, true, true, true, true, true, true, true, false, false, false, true, true, true, true, true, true, false, false, false] rfl rfl rfl rfl (by kernel_rfl) (by decide) (by decide) (fun K hK => ?_) (fun K hK => ?_)
              · skip
                refine value_ (w1 := w6_.alloc (.cells #[.int .u8 (IntKind.u8.wrap s1)] 5)) (v := .slice (some ⟨w6_.heap.size, 0, none⟩) 1 1) (by rfl) rfl ?_ ?_
                · go_simp
                have HC := Aside0.mk (show (w6_.alloc (.cells #[.int .u8 (IntKind.u8.wrap s1)] 5)).cell? ⟨w6_.heap.size, 0, none⟩ = some (.int .u8 (IntKind.u8.wrap s1)) from (blk_cell (blk_new _ _) 0).trans rfl)
                have HBW := Aside0.mk (below_alloc HBW.out (.cells #[.int .u8 (IntKind.u8.wrap s1)] 5))
                generalize hA_ : w6_.alloc (.cells #[.int .u8 (IntKind.u8.wrap s1)] 5) = w13_ at HC HBW ⊢
                clear hA_
                refine hK.out _ _ ⟨(SOF.out _ (below_in HB.out HBW.out)).1, (SOF.out _ (below_in HB.out HBW.out)).2.1, (SOF.out _ (below_in HB.out HBW.out)).2.2.1⟩ (fun hHeld => ?_)
                clear hK K
                refine norm_ (a' := ?_) ?_ ?_
                rotate_left
                · show Act.put _ (some 58) _ = _
                  simp only [Act.put, List.setIfInBounds_toArray, List.set_cons_zero, List.set_cons_succ, i64_w, i32_w]
                  rfl
                refine two_ (i := 14) (j := 21) (Ni := some 59) (Nj := some 66) #[true, true, true, true, true, true, true, true, true, true, true, true, true, true, true, false, true, true, true, true, true, false, false, false, false] #[true, true, true, true, true, true, true, true, true, true, true, true, true, true, false, false, true, true, true, true, true, true, false, false, false] rfl rfl rfl rfl (by kernel_rfl) (by decide) (by decide) (fun K hK => ?_) (fun K hK => ?_)
                · skip
                  have hc_ : w13_.cell? ⟨w6_.heap.size, 0, none⟩ = some (.int .u8 (IntKind.u8.wrap s1)) := HC.out
                  refine value_ (w1 := w13_) (v := .string os) (by rfl) rfl ?_ ?_
                  · go_simp
                  clear hc_ HC
                  obtain ⟨w14_, hA_⟩ : ∃ y, y = w13_ := ⟨_, rfl⟩
                  rw [← hA_] at HBW ⊢
                  clear hA_
                  refine hK.out _ _ ⟨(SOF.out _ (below_in HB.out HBW.out)).1, (SOF.out _ (below_in HB.out HBW.out)).2.1, (SOF.out _ (below_in HB.out HBW.out)).2.2.1⟩ (fun hHeld => ?_)
                  clear hK K
                  refine norm_ (a' := ?_) ?_ ?_
                  rotate_left
                  · show Act.put _ (some 59) _ = _
                    simp only [Act.put, List.setIfInBounds_toArray, List.set_cons_zero, List.set_cons_succ, i64_w, i32_w]
                    rfl
                  refine pure_ (i := 15) (N := some 60) (v := ?_) (a' := ?_) #[true, true, true, true, true, true, true, true, true, true, true, true, true, true, true, true, true, true, true, true, true, false, false, false, false] rfl rfl (by kernel_rfl) (fun _ _ _ h => h) (Or.inl ⟨by rfl, ?_⟩) ?_ ?_
                  rotate_left
                  · intro w'
                    go_simp
                    with_reducible rfl
                  rotate_left
                  · simp only [Act.put, List.setIfInBounds_toArray, List.set_cons_zero, List.set_cons_succ, i64_w, i32_w]
                    rfl
                  refine one_ (i := 21) (N := some 66) #[true, true, true, true, true, true, true, true, true, true, true, true, true, true, true, true, true, true, true, true, true, true, false, false, false] rfl rfl (by kernel_rfl) (by decide) (fun K hK => ?_)
                  refine goes_ Try.func24 (by kernel_rfl) rfl #[.int .i64 s2] (by rfl) rfl rfl (by simp only [List.map_toArray, List.map_cons, List.map_nil]; rfl) ?_
                  with_reducible refine (cotterref06_number.calls 10 s2 ns _ T2.out).mono ?_
                  rintro e w21_ ⟨rfl, hb_⟩
                  refine ⟨_, rfl, ?_⟩
                  have HBW := Aside0.mk (below_in HBW.out hb_)
                  clear hb_
                  refine hK.out _ _ ⟨(SOF.out _ (below_in HB.out HBW.out)).1, (SOF.out _ (below_in HB.out HBW.out)).2.1, (SOF.out _ (below_in HB.out HBW.out)).2.2.1⟩ (fun hHeld => ?_)
                  clear hK K
                  refine norm_ (a' := ?_) ?_ ?_
                  rotate_left
                  · show Act.put _ (some 66) _ = _
                    simp only [Act.put, List.setIfInBounds_toArray, List.set_cons_zero, List.set_cons_succ, i64_w, i32_w]
                    rfl
                  exact norm_ (by simp only [putAll, Act.put, List.setIfInBounds_toArray, List.set_cons_zero, List.set_cons_succ]) (hCont (w6_).heap.size _ HBW)
                · skip
                  refine goes_ Try.func24 (by kernel_rfl) rfl #[.int .i64 s2] (by rfl) rfl rfl (by simp only [List.map_toArray, List.map_cons, List.map_nil]; rfl) ?_
                  with_reducible refine (cotterref06_number.calls 10 s2 ns _ T2.out).mono ?_
                  rintro e w21_ ⟨rfl, hb_⟩
                  refine ⟨_, rfl, ?_⟩
                  have HBW := Aside0.mk (below_in HBW.out hb_)
                  have HC := Aside0.mk (pw_cell_below hb_ HC.out)
                  clear hb_
                  refine hK.out _ _ ⟨(SOF.out _ (below_in HB.out HBW.out)).1, (SOF.out _ (below_in HB.out HBW.out)).2.1, (SOF.out _ (below_in HB.out HBW.out)).2.2.1⟩ (fun hHeld => ?_)
                  clear hK K
                  refine norm_ (a' := ?_) ?_ ?_
                  rotate_left
                  · show Act.put _ (some 66) _ = _
                    simp only [Act.put, List.setIfInBounds_toArray, List.set_cons_zero, List.set_cons_succ, i64_w, i32_w]
                    rfl
                  refine one_ (i := 14) (N := some 59) #[true, true, true, true, true, true, true, true, true, true, true, true, true, true, true, false, true, true, true, true, true, true, false, false, false] rfl rfl (by kernel_rfl) (by decide) (fun K hK => ?_)
                  have hc_ : w21_.cell? ⟨w6_.heap.size, 0, none⟩ = some (.int .u8 (IntKind.u8.wrap s1)) := HC.out
                  refine value_ (w1 := w21_) (v := .string os) (by rfl) rfl ?_ ?_
                  · go_simp
                  clear hc_ HC
                  obtain ⟨w14_, hA_⟩ : ∃ y, y = w21_ := ⟨_, rfl⟩
                  rw [← hA_] at HBW ⊢
                  clear hA_
                  refine hK.out _ _ ⟨(SOF.out _ (below_in HB.out HBW.out)).1, (SOF.out _ (below_in HB.out HBW.out)).2.1, (SOF.out _ (below_in HB.out HBW.out)).2.2.1⟩ (fun hHeld => ?_)
                  clear hK K
                  refine norm_ (a' := ?_) ?_ ?_
                  rotate_left
                  · show Act.put _ (some 59) _ = _
                    simp only [Act.put, List.setIfInBounds_toArray, List.set_cons_zero, List.set_cons_succ, i64_w, i32_w]
                    rfl
                  refine pure_ (i := 15) (N := some 60) (v := ?_) (a' := ?_) #[true, true, true, true, true, true, true, true, true, true, true, true, true, true, true, true, true, true, true, true, true, true, false, false, false] rfl rfl (by kernel_rfl) (fun _ _ _ h => h) (Or.inl ⟨by rfl, ?_⟩) ?_ ?_
                  rotate_left
                  · intro w'
                    go_simp
                    with_reducible rfl
                  rotate_left
                  · simp only [Act.put, List.setIfInBounds_toArray, List.set_cons_zero, List.set_cons_succ, i64_w, i32_w]
                    rfl
                  exact norm_ (by simp only [putAll, Act.put, List.setIfInBounds_toArray, List.set_cons_zero, List.set_cons_succ]) (hCont (w6_).heap.size _ HBW)
              · skip
                refine goes_ Try.func24 (by kernel_rfl) rfl #[.int .i64 s2] (by rfl) rfl rfl (by simp only [List.map_toArray, List.map_cons, List.map_nil]; rfl) ?_
                with_reducible refine (cotterref06_number.calls 10 s2 ns _ T2.out).mono ?_
                rintro e w21_ ⟨rfl, hb_⟩
                refine ⟨_, rfl, ?_⟩
                have HBW := Aside0.mk (below_in HBW.out hb_)
                clear hb_
                refine hK.out _ _ ⟨(SOF.out _ (below_in HB.out HBW.out)).1, (SOF.out _ (below_in HB.out HBW.out)).2.1, (SOF.out _ (below_in HB.out HBW.out)).2.2.1⟩ (fun hHeld => ?_)
                clear hK K
                refine norm_ (a' := ?_) ?_ ?_
                rotate_left
                · show Act.put _ (some 66) _ = _
                  simp only [Act.put, List.setIfInBounds_toArray, List.set_cons_zero, List.set_cons_succ, i64_w, i32_w]
                  rfl
                refine one_ (i := 13) (N := some 58) #[true, true, true, true, true, true, true, true, true, true, true, true, true, true, false, false, true, true, true, true, true, true, false, false, false] rfl rfl (by kernel_rfl) (by decide) (fun K hK => ?_)
                refine value_ (w1 := w21_.alloc (.cells #[.int .u8 (IntKind.u8.wrap s1)] 5)) (v := .slice (some ⟨w21_.heap.size, 0, none⟩) 1 1) (by rfl) rfl ?_ ?_
                · go_simp
                have HC := Aside0.mk (show (w21_.alloc (.cells #[.int .u8 (IntKind.u8.wrap s1)] 5)).cell? ⟨w21_.heap.size, 0, none⟩ = some (.int .u8 (IntKind.u8.wrap s1)) from (blk_cell (blk_new _ _) 0).trans rfl)
                have HBW := Aside0.mk (below_alloc HBW.out (.cells #[.int .u8 (IntKind.u8.wrap s1)] 5))
                generalize hA_ : w21_.alloc (.cells #[.int .u8 (IntKind.u8.wrap s1)] 5) = w13_ at HC HBW ⊢
                clear hA_
                refine hK.out _ _ ⟨(SOF.out _ (below_in HB.out HBW.out)).1, (SOF.out _ (below_in HB.out HBW.out)).2.1, (SOF.out _ (below_in HB.out HBW.out)).2.2.1⟩ (fun hHeld => ?_)
                clear hK K
                refine norm_ (a' := ?_) ?_ ?_
                rotate_left
                · show Act.put _ (some 58) _ = _
                  simp only [Act.put, List.setIfInBounds_toArray, List.set_cons_zero, List.set_cons_succ, i64_w, i32_w]
                  rfl
                refine one_ (i := 14) (N := some 59) #[true, true, true, true, true, true, true, true, true, true, true, true, true, true, true, false, true, true, true, true, true, true, false, false, false] rfl rfl (by kernel_rfl) (by decide) (fun K hK => ?_)
                have hc_ : w13_.cell? ⟨w21_.heap.size, 0, none⟩ = some (.int .u8 (IntKind.u8.wrap s1)) := HC.out
                refine value_ (w1 := w13_) (v := .string os) (by rfl) rfl ?_ ?_
                · go_simp
                clear hc_ HC
                obtain ⟨w14_, hA_⟩ : ∃ y, y = w13_ := ⟨_, rfl⟩
                rw [← hA_] at HBW ⊢
                clear hA_
                refine hK.out _ _ ⟨(SOF.out _ (below_in HB.out HBW.out)).1, (SOF.out _ (below_in HB.out HBW.out)).2.1, (SOF.out _ (below_in HB.out HBW.out)).2.2.1⟩ (fun hHeld => ?_)
                clear hK K
                refine norm_ (a' := ?_) ?_ ?_
                rotate_left
                · show Act.put _ (some 59) _ = _
                  simp only [Act.put, List.setIfInBounds_toArray, List.set_cons_zero, List.set_cons_succ, i64_w, i32_w]
                  rfl
                refine pure_ (i := 15) (N := some 60) (v := ?_) (a' := ?_) #[true, true, true, true, true, true, true, true, true, true, true, true, true, true, true, true, true, true, true, true, true, true, false, false, false] rfl rfl (by kernel_rfl) (fun _ _ _ h => h) (Or.inl ⟨by rfl, ?_⟩) ?_ ?_
                rotate_left
                · intro w'
                  go_simp
                  with_reducible rfl
                rotate_left
                · simp only [Act.put, List.setIfInBounds_toArray, List.set_cons_zero, List.set_cons_succ, i64_w, i32_w]
                  rfl
                exact norm_ (by simp only [putAll, Act.put, List.setIfInBounds_toArray, List.set_cons_zero, List.set_cons_succ]) (hCont (w21_).heap.size _ HBW)
            · skip
              refine value_ (w1 := (wr).drew.alloc (.cells #[.int .u8 (IntKind.u8.wrap s1)] 5)) (v := .slice (some ⟨(wr).drew.heap.size, 0, none⟩) 1 1) (by rfl) rfl ?_ ?_
              · go_simp
              have HC := Aside0.mk (show ((wr).drew.alloc (.cells #[.int .u8 (IntKind.u8.wrap s1)] 5)).cell? ⟨(wr).drew.heap.size, 0, none⟩ = some (.int .u8 (IntKind.u8.wrap s1)) from (blk_cell (blk_new _ _) 0).trans rfl)
              have HBW := Aside0.mk (below_alloc HBW.out (.cells #[.int .u8 (IntKind.u8.wrap s1)] 5))
              generalize hA_ : (wr).drew.alloc (.cells #[.int .u8 (IntKind.u8.wrap s1)] 5) = w13_ at HC HBW ⊢
              clear hA_
              refine hK.out _ _ ⟨(SOF.out _ (below_in HB.out HBW.out)).1, (SOF.out _ (below_in HB.out HBW.out)).2.1, (SOF.out _ (below_in HB.out HBW.out)).2.2.1⟩ (fun hHeld => ?_)
              clear hK K
              refine norm_ (a' := ?_) ?_ ?_
              rotate_left
              · show Act.put _ (some 58) _ = _
                simp only [Act.put, List.setIfInBounds_toArray, List.set_cons_zero, List.set_cons_succ, i64_w, i32_w]
                rfl
              refine two_ (i := 6) (j := 14) (Ni := some 51) (Nj := some 59) #[true, true, true, true, true, true, true, true, true, true, true, true, true, true, false, false, true, true, true, true, true, false, false, false, false] #[true, true, true, true, true, true, false, true, true, true, true, true, true, true, true, false, true, true, true, true, true, false, false, false, false] rfl rfl rfl rfl (by kernel_rfl) (by decide) (by decide) (fun K hK => ?_) (fun K hK => ?_)
              · skip
                refine goes_ Try.func25 (by kernel_rfl) rfl #[.string s0] (by rfl) rfl rfl (by simp only [List.map_toArray, List.map_cons, List.map_nil]; rfl) ?_
                with_reducible refine (cotterref06_text.calls 10 s0 ts _ T1.out).mono ?_
                rintro e w6_ ⟨rfl, hb_⟩
                refine ⟨_, rfl, ?_⟩
                have HBW := Aside0.mk (below_in HBW.out hb_)
                have HC := Aside0.mk (pw_cell_below hb_ HC.out)
                clear hb_
                refine hK.out _ _ ⟨(SOF.out _ (below_in HB.out HBW.out)).1, (SOF.out _ (below_in HB.out HBW.out)).2.1, (SOF.out _ (below_in HB.out HBW.out)).2.2.1⟩ (fun hHeld => ?_)
                clear hK K
                refine norm_ (a' := ?_) ?_ ?_
                rotate_left
                · show Act.put _ (some 51) _ = _
                  simp only [Act.put, List.setIfInBounds_toArray, List.set_cons_zero, List.set_cons_succ, i64_w, i32_w]
                  rfl
                refine two_ (i := 14) (j := 21) (Ni := some 59) (Nj := some 66) #[true, true, true, true, true, true, true, true, true, true, true, true, true, true, true, false, true, true, true, true, true, false, false, false, false] #[true, true, true, true, true, true, true, true, true, true, true, true, true, true, false, false, true, true, true, true, true, true, false, false, false] rfl rfl rfl rfl (by kernel_rfl) (by decide) (by decide) (fun K hK => ?_) (fun K hK => ?_)
                · skip
                  have hc_ : w6_.cell? ⟨wr.heap.size, 0, none⟩ = some (.int .u8 (IntKind.u8.wrap s1)) := HC.out
                  refine value_ (w1 := w6_) (v := .string os) (by rfl) rfl ?_ ?_
                  · go_simp
                  clear hc_ HC
                  obtain ⟨w14_, hA_⟩ : ∃ y, y = w6_ := ⟨_, rfl⟩
                  rw [← hA_] at HBW ⊢
                  clear hA_
                  refine hK.out _ _ ⟨(SOF.out _ (below_in HB.out HBW.out)).1, (SOF.out _ (below_in HB.out HBW.out)).2.1, (SOF.out _ (below_in HB.out HBW.out)).2.2.1⟩ (fun hHeld => ?_)
                  clear hK K
                  refine norm_ (a' := ?_) ?_ ?_
                  rotate_left
                  · show Act.put _ (some 59) _ = _
                    simp only [Act.put, List.setIfInBounds_toArray, List.set_cons_zero, List.set_cons_succ, i64_w, i32_w]
                    rfl
                  refine pure_ (i := 15) (N := some 60) (v := ?_) (a' := ?_) #[true, true, true, true, true, true, true, true, true, true, true, true, true, true, true, true, true, true, true, true, true, false, false, false, false] rfl rfl (by kernel_rfl) (fun _ _ _ h => h) (Or.inl ⟨by rfl, ?_⟩) ?_ ?_
                  rotate_left
                  · intro w'
                    go_simp
                    with_reducible rfl
                  rotate_left
                  · simp only [Act.put, List.setIfInBounds_toArray, List.set_cons_zero, List.set_cons_succ, i64_w, i32_w]
                    rfl
                  refine one_ (i := 21) (N := some 66) #[true, true, true, true, true, true, true, true, true, true, true, true, true, true, true, true, true, true, true, true, true, true, false, false, false] rfl rfl (by kernel_rfl) (by decide) (fun K hK => ?_)
                  refine goes_ Try.func24 (by kernel_rfl) rfl #[.int .i64 s2] (by rfl) rfl rfl (by simp only [List.map_toArray, List.map_cons, List.map_nil]; rfl) ?_
                  with_reducible refine (cotterref06_number.calls 10 s2 ns _ T2.out).mono ?_
                  rintro e w21_ ⟨rfl, hb_⟩
                  refine ⟨_, rfl, ?_⟩
                  have HBW := Aside0.mk (below_in HBW.out hb_)
                  clear hb_
                  refine hK.out _ _ ⟨(SOF.out _ (below_in HB.out HBW.out)).1, (SOF.out _ (below_in HB.out HBW.out)).2.1, (SOF.out _ (below_in HB.out HBW.out)).2.2.1⟩ (fun hHeld => ?_)
                  clear hK K
                  refine norm_ (a' := ?_) ?_ ?_
                  rotate_left
                  · show Act.put _ (some 66) _ = _
                    simp only [Act.put, List.setIfInBounds_toArray, List.set_cons_zero, List.set_cons_succ, i64_w, i32_w]
                    rfl
                  exact norm_ (by simp only [putAll, Act.put, List.setIfInBounds_toArray, List.set_cons_zero, List.set_cons_succ]) (hCont ((wr).drew).heap.size _ HBW)
                · skip
                  refine goes_ Try.func24 (by kernel_rfl) rfl #[.int .i64 s2] (by rfl) rfl rfl (by simp only [List.map_toArray, List.map_cons, List.map_nil]; rfl) ?_
                  with_reducible refine (cotterref06_number.calls 10 s2 ns _ T2.out).mono ?_
                  rintro e w21_ ⟨rfl, hb_⟩
                  refine ⟨_, rfl, ?_⟩
                  have HBW := Aside0.mk (below_in HBW.out hb_)
                  have HC := Aside0.mk (pw_cell_below hb_ HC.out)
                  clear hb_
                  refine hK.out _ _ ⟨(SOF.out _ (below_in HB.out HBW.out)).1, (SOF.out _ (below_in HB.out HBW.out)).2.1, (SOF.out _ (below_in HB.out HBW.out)).2.2.1⟩ (fun hHeld => ?_)
                  clear hK K
                  refine norm_ (a' := ?_) ?_ ?_
                  rotate_left
                  · show Act.put _ (some 66) _ = _
                    simp only [Act.put, List.setIfInBounds_toArray, List.set_cons_zero, List.set_cons_succ, i64_w, i32_w]
                    rfl
                  refine one_ (i := 14) (N := some 59) #[true, true, true, true, true, true, true, true, true, true, true, true, true, true, true, false, true, true, true, true, true, true, false, false, false] rfl rfl (by kernel_rfl) (by decide) (fun K hK => ?_)
                  have hc_ : w21_.cell? ⟨wr.heap.size, 0, none⟩ = some (.int .u8 (IntKind.u8.wrap s1)) := HC.out
                  refine value_ (w1 := w21_) (v := .string os) (by rfl) rfl ?_ ?_
                  · go_simp
                  clear hc_ HC
                  obtain ⟨w14_, hA_⟩ : ∃ y, y = w21_ := ⟨_, rfl⟩
                  rw [← hA_] at HBW ⊢
                  clear hA_
                  refine hK.out _ _ ⟨(SOF.out _ (below_in HB.out HBW.out)).1, (SOF.out _ (below_in HB.out HBW.out)).2.1, (SOF.out _ (below_in HB.out HBW.out)).2.2.1⟩ (fun hHeld => ?_)
                  clear hK K
                  refine norm_ (a' := ?_) ?_ ?_
                  rotate_left
                  · show Act.put _ (some 59) _ = _
                    simp only [Act.put, List.setIfInBounds_toArray, List.set_cons_zero, List.set_cons_succ, i64_w, i32_w]
                    rfl
                  refine pure_ (i := 15) (N := some 60) (v := ?_) (a' := ?_) #[true, true, true, true, true, true, true, true, true, true, true, true, true, true, true, true, true, true, true, true, true, true, false, false, false] rfl rfl (by kernel_rfl) (fun _ _ _ h => h) (Or.inl ⟨by rfl, ?_⟩) ?_ ?_
                  rotate_left
                  · intro w'
                    go_simp
                    with_reducible rfl
                  rotate_left
                  · simp only [Act.put, List.setIfInBounds_toArray, List.set_cons_zero, List.set_cons_succ, i64_w, i32_w]
                    rfl
                  exact norm_ (by simp only [putAll, Act.put, List.setIfInBounds_toArray, List.set_cons_zero, List.set_cons_succ]) (hCont ((wr).drew).heap.size _ HBW)
              · skip
                have hc_ : w13_.cell? ⟨wr.heap.size, 0, none⟩ = some (.int .u8 (IntKind.u8.wrap s1)) := HC.out
                refine value_ (w1 := w13_) (v := .string os) (by rfl) rfl ?_ ?_
                · go_simp
                clear hc_ HC
                obtain ⟨w14_, hA_⟩ : ∃ y, y = w13_ := ⟨_, rfl⟩
                rw [← hA_] at HBW ⊢
                clear hA_
                refine hK.out _ _ ⟨(SOF.out _ (below_in HB.out HBW.out)).1, (SOF.out _ (below_in HB.out HBW.out)).2.1, (SOF.out _ (below_in HB.out HBW.out)).2.2.1⟩ (fun hHeld => ?_)
                clear hK K
                refine norm_ (a' := ?_) ?_ ?_
                rotate_left
                · show Act.put _ (some 59) _ = _
                  simp only [Act.put, List.setIfInBounds_toArray, List.set_cons_zero, List.set_cons_succ, i64_w, i32_w]
                  rfl
                refine one_ (i := 6) (N := some 51) #[true, true, true, true, true, true, true, true, true, true, true, true, true, true, true, false, true, true, true, true, true, false, false, false, false] rfl rfl (by kernel_rfl) (by decide) (fun K hK => ?_)
                refine goes_ Try.func25 (by kernel_rfl) rfl #[.string s0] (by rfl) rfl rfl (by simp only [List.map_toArray, List.map_cons, List.map_nil]; rfl) ?_
                with_reducible refine (cotterref06_text.calls 10 s0 ts _ T1.out).mono ?_
                rintro e w6_ ⟨rfl, hb_⟩
                refine ⟨_, rfl, ?_⟩
                have HBW := Aside0.mk (below_in HBW.out hb_)
                clear hb_
                refine hK.out _ _ ⟨(SOF.out _ (below_in HB.out HBW.out)).1, (SOF.out _ (below_in HB.out HBW.out)).2.1, (SOF.out _ (below_in HB.out HBW.out)).2.2.1⟩ (fun hHeld => ?_)
                clear hK K
                refine norm_ (a' := ?_) ?_ ?_
                rotate_left
                · show Act.put _ (some 51) _ = _
                  simp only [Act.put, List.setIfInBounds_toArray, List.set_cons_zero, List.set_cons_succ, i64_w, i32_w]
                  rfl
                refine pure_ (i := 15) (N := some 60) (v := ?_) (a' := ?_) #[true, true, true, true, true, true, true, true, true, true, true, true, true, true, true, true, true, true, true, true, true, false, false, false, false] rfl rfl (by kernel_rfl) (fun _ _ _ h => h) (Or.inl ⟨by rfl, ?_⟩) ?_ ?_
                rotate_left
                · intro w'
                  go_simp
                  with_reducible rfl
                rotate_left
                · simp only [Act.put, List.setIfInBounds_toArray, List.set_cons_zero, List.set_cons_succ, i64_w, i32_w]
                  rfl
                refine one_ (i := 21) (N := some 66) #[true, true, true, true, true, true, true, true, true, true, true, true, true, true, true, true, true, true, true, true, true, true, false, false, false] rfl rfl (by kernel_rfl) (by decide) (fun K hK => ?_)
                refine goes_ Try.func24 (by kernel_rfl) rfl #[.int .i64 s2] (by rfl) rfl rfl (by simp only [List.map_toArray, List.map_cons, List.map_nil]; rfl) ?_
                with_reducible refine (cotterref06_number.calls 10 s2 ns _ T2.out).mono ?_
                rintro e w21_ ⟨rfl, hb_⟩
                refine ⟨_, rfl, ?_⟩
                have HBW := Aside0.mk (below_in HBW.out hb_)
                clear hb_
                refine hK.out _ _ ⟨(SOF.out _ (below_in HB.out HBW.out)).1, (SOF.out _ (below_in HB.out HBW.out)).2.1, (SOF.out _ (below_in HB.out HBW.out)).2.2.1⟩ (fun hHeld => ?_)
                clear hK K
                refine norm_ (a' := ?_) ?_ ?_
                rotate_left
                · show Act.put _ (some 66) _ = _
                  simp only [Act.put, List.setIfInBounds_toArray, List.set_cons_zero, List.set_cons_succ, i64_w, i32_w]
                  rfl
                exact norm_ (by simp only [putAll, Act.put, List.setIfInBounds_toArray, List.set_cons_zero, List.set_cons_succ]) (hCont ((wr).drew).heap.size _ HBW)
          intro b w8 HBW
          have hHeld : w8.cell? (ad.add (k * 3)) = some (.string s0) ∧ w8.cell? ⟨(ad.add (k * 3)).block, (ad.add (k * 3)).off + 1, none⟩ = some (.int .i64 s1) ∧ w8.cell? ⟨(ad.add (k * 3)).block, (ad.add (k * 3)).off + 2, none⟩ = some (.int .i64 s2) := ⟨(SOF.out _ (below_in HB.out HBW.out)).1, (SOF.out _ (below_in HB.out HBW.out)).2.1, (SOF.out _ (below_in HB.out HBW.out)).2.2.1⟩
          refine norm_ (a' := ?_) ?_ ?_
          rotate_left
          · simp only [putAll, Act.put, List.setIfInBounds_toArray, List.set_cons_zero, List.set_cons_succ]
            rfl
          refine pure_ (i := 22) (N := some 67) (v := ?_) (a' := ?_) #[true, true, true, true, true, true, true, true, true, true, true, true, true, true, true, true, true, true, true, true, true, true, true, false, false] rfl rfl (by kernel_rfl) (fun _ _ _ h => h) (Or.inl ⟨by rfl, ?_⟩) ?_ ?_
          rotate_left
          · intro w'
            go_simp
            with_reducible rfl
          rotate_left
          · simp only [Act.put, List.setIfInBounds_toArray, List.set_cons_zero, List.set_cons_succ, i64_w, i32_w]
            rfl
          refine one_ (i := 23) (N := some 68) #[true, true, true, true, true, true, true, true, true, true, true, true, true, true, true, true, true, true, true, true, true, true, true, true, false] rfl rfl (by kernel_rfl) (by decide) (fun K hK => ?_)
          refine mark_step w.heap.size (by rfl) (.tmp 45) (.tmp 67) 45 9 5 rfl Try.underlying45 Try.underlying9 info5 _ _ ys (ts ++ os ++ ns) HY.out (by rfl) (by rfl) (HO.out.below HBW.out) (Nat.le_trans HB.out.size HBW.out.size) (by have h1 := HL.out; have h2 := Z.out; omega) ?_
          intro A n1 w9 ho5 hg5
          have HO5 := Aside0.mk ho5
          have HBE := Aside0.mk (ownB_grown (below_in HB.out HBW.out) (HO.out.below HBW.out) hg5)
          clear ho5 hg5
          refine hK.out _ _ ⟨(SOF.out _ (HBE.out)).1, (SOF.out _ (HBE.out)).2.1, (SOF.out _ (HBE.out)).2.2.1⟩ (fun hHeld => ?_)
          clear hK K
          refine norm_ (a' := ?_) ?_ ?_
          rotate_left
          · show Act.put _ (some 68) _ = _
            simp only [Act.put, List.setIfInBounds_toArray, List.set_cons_zero, List.set_cons_succ, i64_w, i32_w]
            rfl
          refine pure_ (i := 24) (N := some 9) (v := ?_) (a' := ?_) #[true, true, true, true, true, true, true, true, true, true, true, true, true, true, true, true, true, true, true, true, true, true, true, true, true] rfl rfl (by kernel_rfl) (fun _ _ _ h => h) (Or.inl ⟨by rfl, ?_⟩) ?_ ?_
          rotate_left
          · intro w'
            go_simp
            with_reducible rfl
          rotate_left
          · simp only [Act.put, List.setIfInBounds_toArray, List.set_cons_zero, List.set_cons_succ, i64_w, i32_w]
            rfl
          refine done_ (by kernel_rfl) ?_
          go_wp2
          go_roundw
          case rel => exact ⟨k + 1, by omega, by first | rfl | go_num, ⟨by rw [← HYS.out]; exact HO5.out⟩, HBE⟩
          case measure => simp [intOf]; omega
        case neg =>
          obtain rfl : k = syms.length := by omega
          rw [List.take_length] at HO
          have hst := HO.out.string Try.underlying45 Try.underlying5 Try.underlying9
          obtain ⟨res, hres⟩ : ∃ res, res = strOfNums (front (bytesOf mark) code data syms) := ⟨_, rfl⟩
          rw [show front1 (bytesOf mark) code data syms ++ symsL syms = front (bytesOf mark) code data syms from rfl, ← hres] at hst
          have HRES := Aside0.mk hres
          clear hres
          go_wp2
          go_ret
          exact ⟨by rw [← HRES.out]; rfl, HB.out⟩
end Go.Proofs.Ytilmndkbloodbaa.M

-- Written by a program of this session (wip/ownprint.py) over the translation. Lean checks it.
namespace Go.Proofs.Ytilmndkbloodbaa.M
open Go.RowKit Go.Proofs.YtilmndkbloodbaaW.PrintWords Go.Proofs.YtilmndkbloodbaaW.PrintLast
set_option linter.unusedVariables false
set_option linter.unusedSimpArgs false

attribute [local go_sem high] eqA41
-- NOT PRINTED: function 17 (cotterref06_Read)

/-! ### cotterref06_Check: function 14 -/
def cotterref06_Check.f (k : Nat) (a0_0 : ByteArray) (l0_1 : List Int) (l0_2 : List (S41)) (l0_3 : List (S43)) : Option (Int) := (cotterref06_May.f k a0_0 l0_1 l0_2 l0_3).bind fun t214 => (if t214 = true then (some 0) else (some 1))
set_option maxHeartbeats 8000000 in
set_option maxRecDepth 100000 in
theorem cotterref06_Check.calls (k : Nat) (a0_0 : ByteArray) (A0_1 : Option Addr) (c0_1 : Nat) (l0_1 : List Int) (A0_2 : Option Addr) (c0_2 : Nat) (l0_2 : List (S41)) (A0_3 : Option Addr) (c0_3 : Nat) (l0_3 : List (S43)) (r : Int) (w : World) (hr0_1 : Kd.C (Kd.int .i64) w A0_1 l0_1.length l0_1) (hc0_1 : l0_1.length ≤ c0_1) (hr0_2 : Kd.C k41 w A0_2 l0_2.length l0_2) (hc0_2 : l0_2.length ≤ c0_2) (hr0_3 : Kd.C k43 w A0_3 l0_3.length l0_3) (hc0_3 : l0_3.length ≤ c0_3) (h : cotterref06_Check.f k a0_0 l0_1 l0_2 l0_3 = some r) :
    Calls Try.prog 14 #[.agg #[.string a0_0, .slice A0_1 l0_1.length c0_1, .slice A0_2 l0_2.length c0_2, .slice A0_3 l0_3.length c0_3]] w fun e w' => e = .returned (.int .i64 r) ∧ Below w.heap.size w w' := by
  have hu26 := Try.underlying26
  have HR0_1 := Aside0.mk hr0_1
  have HC0_1 := Aside0.mk hc0_1
  clear hr0_1 hc0_1
  have HR0_2 := Aside0.mk hr0_2
  have HC0_2 := Aside0.mk hc0_2
  clear hr0_2 hc0_2
  have HR0_3 := Aside0.mk hr0_3
  have HC0_3 := Aside0.mk hc0_3
  clear hr0_3 hc0_3
  have HB := Aside0.mk (Below.refl w.heap.size w)
  have H : ((cotterref06_May.f k a0_0 l0_1 l0_2 l0_3).bind fun t214 => (if t214 = true then (some 0) else (some 1))) = some r := h
  clear h
  replace H := Option.bind_eq_some_iff.mp H
  obtain ⟨t214, A20, H⟩ := H
  replace H : (if t214 = true then (some 0) else (some 1)) = some r := H
  have A2 := Aside0.mk A20
  clear A20
  by_cases c3 : t214 = true
  · subst c3
    have H1 : (some 0) = some r := by rw [if_pos rfl] at H; exact H
    clear H
    have H := H1
    clear H1
    obtain rfl := Option.some.inj H
    go_enter Try.func14, Try.ntmps14
    go_wp2_with (first | ((with_reducible refine gate_dst (N := 1) rfl ?_); refine box_event ?hg (N := 1) ?hd (cs := #[.string a0_0, .slice A0_1 l0_1.length c0_1, .slice A0_2 l0_2.length c0_2, .slice A0_3 l0_3.length c0_3]) (t := 26) ?hr ?_; (case hd => rfl); (case hg => rfl); (case hr => first | (go_simp; done) | (go_simp; rfl)); intro gb213 hg w4 hbox hb; have n0_ := Aside0.mk (below_step (by repeat (first | (with_reducible first | exact HB.out | apply below_alloc | apply pw_below_drewN | apply below_drew1) | exact HB.out)) hb); have n1_ := Aside0.mk (hbox); have n2_ := Aside0.mk ((by rw [hg]; exact (below_size (by repeat (first | (with_reducible first | exact HB.out | apply below_alloc | apply pw_below_drewN | apply below_drew1) | exact HB.out))) : w.heap.size ≤ gb213)); have n3_ := Aside0.mk ((by rw [hg]; exact (below_size (by repeat (first | (with_reducible first | exact HB.out | apply below_alloc | apply pw_below_drewN | apply below_drew1) | exact HB.out))) : w.heap.size ≤ gb213)); clear HB; have HB := n0_; have BK213 := n1_; have GW213 := n2_; have GE213 := n3_; clear n0_ n1_ n2_ n3_; clear hb hbox hg; have hcz5_0 : w4.cell? ⟨gb213, 0, none⟩ = some (.string a0_0) := (blk_cell BK213.out 0).trans rfl; have hcz5_1 : w4.cell? ⟨gb213, 1, none⟩ = some (.slice A0_1 l0_1.length c0_1) := (blk_cell BK213.out 1).trans rfl; have hcz5_2 : w4.cell? ⟨gb213, 2, none⟩ = some (.slice A0_2 l0_2.length c0_2) := (blk_cell BK213.out 2).trans rfl; have hcz5_3 : w4.cell? ⟨gb213, 3, none⟩ = some (.slice A0_3 l0_3.length c0_3) := (blk_cell BK213.out 3).trans rfl; have hfz5_0 := blk_frozen BK213.out 0; have hfz5_1 := blk_frozen BK213.out 1; have hfz5_2 := blk_frozen BK213.out 2; have hfz5_3 := blk_frozen BK213.out 3) | ((with_reducible refine gate_callee (f := 22) rfl ?_); refine goesL_ (some 4) rfl rfl Try.func22 (by kernel_rfl) rfl #[.agg #[.string a0_0, .slice A0_1 l0_1.length c0_1, .slice A0_2 l0_2.length c0_2, .slice A0_3 l0_3.length c0_3]] rfl (by (try simp only [List.map_toArray, List.map_cons, List.map_nil]); first | done | rfl | (simp only [List.length_drop, List.length_take]; rfl)) ?_; (with_reducible refine (cotterref06_May.calls k a0_0 _ _ l0_1 _ _ l0_2 _ _ l0_3 true _ ?side1 ?side2 ?side3 ?side4 ?side5 ?side6 A2.out).mono ?_); (case side1 => repeat (first | exact (Kd.C_below HR0_1.out HB.out) | (with_reducible refine Kd.C_alloc ?_ _) | (with_reducible refine Kd.C_drewN ?_ _) | (with_reducible refine Kd.C_drew ?_))); (case side2 => exact HC0_1.out); (case side3 => repeat (first | exact (Kd.C_below HR0_2.out HB.out) | (with_reducible refine Kd.C_alloc ?_ _) | (with_reducible refine Kd.C_drewN ?_ _) | (with_reducible refine Kd.C_drew ?_))); (case side4 => exact HC0_2.out); (case side5 => repeat (first | exact (Kd.C_below HR0_3.out HB.out) | (with_reducible refine Kd.C_alloc ?_ _) | (with_reducible refine Kd.C_drewN ?_ _) | (with_reducible refine Kd.C_drew ?_))); (case side6 => exact HC0_3.out); rintro e w6 ⟨rfl, hb⟩; refine ⟨_, rfl, ?_⟩; have n0_ := Aside0.mk (blk_below (g := gb213) (o := .cells #[.string a0_0, .slice A0_1 l0_1.length c0_1, .slice A0_2 l0_2.length c0_2, .slice A0_3 l0_3.length c0_3] 26 (0, 0)) (by (with_reducible repeat (first | refine blk_drewN ?_ _ | refine blk_drew ?_ | refine blk_alloc ?_ _)); exact BK213.out) hb); have n1_ := Aside0.mk (below_step (by repeat (first | (with_reducible first | exact HB.out | apply below_alloc | apply pw_below_drewN | apply below_drew1 | refine below_set ?_ GE213.out) | exact HB.out)) hb); clear BK213; clear HB; have BK213 := n0_; have HB := n1_; clear n0_ n1_; (try clear hb); (try clear hb2); (try clear hk); (try clear hi)))
    go_ret
    exact ⟨by first | rfl | (simp [errW_none, errW_some] <;> rfl) | (simp [*, errW_none, errW_some] <;> rfl), by repeat (first | (with_reducible first | exact HB.out | apply below_alloc | apply pw_below_drewN | apply below_drew1 | refine below_set ?_ GE213.out) | exact HB.out)⟩
  · replace c3 := Bool.eq_false_iff.mpr c3
    subst c3
    have H1 : (some 1) = some r := by rw [if_neg (show ¬ (false = true) by decide)] at H; exact H
    clear H
    have H := H1
    clear H1
    obtain rfl := Option.some.inj H
    go_enter Try.func14, Try.ntmps14
    go_wp2_with (first | ((with_reducible refine gate_dst (N := 1) rfl ?_); refine box_event ?hg (N := 1) ?hd (cs := #[.string a0_0, .slice A0_1 l0_1.length c0_1, .slice A0_2 l0_2.length c0_2, .slice A0_3 l0_3.length c0_3]) (t := 26) ?hr ?_; (case hd => rfl); (case hg => rfl); (case hr => first | (go_simp; done) | (go_simp; rfl)); intro gb213 hg w7 hbox hb; have n0_ := Aside0.mk (below_step (by repeat (first | (with_reducible first | exact HB.out | apply below_alloc | apply pw_below_drewN | apply below_drew1) | exact HB.out)) hb); have n1_ := Aside0.mk (hbox); have n2_ := Aside0.mk ((by rw [hg]; exact (below_size (by repeat (first | (with_reducible first | exact HB.out | apply below_alloc | apply pw_below_drewN | apply below_drew1) | exact HB.out))) : w.heap.size ≤ gb213)); have n3_ := Aside0.mk ((by rw [hg]; exact (below_size (by repeat (first | (with_reducible first | exact HB.out | apply below_alloc | apply pw_below_drewN | apply below_drew1) | exact HB.out))) : w.heap.size ≤ gb213)); clear HB; have HB := n0_; have BK213 := n1_; have GW213 := n2_; have GE213 := n3_; clear n0_ n1_ n2_ n3_; clear hb hbox hg; have hcz8_0 : w7.cell? ⟨gb213, 0, none⟩ = some (.string a0_0) := (blk_cell BK213.out 0).trans rfl; have hcz8_1 : w7.cell? ⟨gb213, 1, none⟩ = some (.slice A0_1 l0_1.length c0_1) := (blk_cell BK213.out 1).trans rfl; have hcz8_2 : w7.cell? ⟨gb213, 2, none⟩ = some (.slice A0_2 l0_2.length c0_2) := (blk_cell BK213.out 2).trans rfl; have hcz8_3 : w7.cell? ⟨gb213, 3, none⟩ = some (.slice A0_3 l0_3.length c0_3) := (blk_cell BK213.out 3).trans rfl; have hfz8_0 := blk_frozen BK213.out 0; have hfz8_1 := blk_frozen BK213.out 1; have hfz8_2 := blk_frozen BK213.out 2; have hfz8_3 := blk_frozen BK213.out 3) | ((with_reducible refine gate_callee (f := 22) rfl ?_); refine goesL_ (some 4) rfl rfl Try.func22 (by kernel_rfl) rfl #[.agg #[.string a0_0, .slice A0_1 l0_1.length c0_1, .slice A0_2 l0_2.length c0_2, .slice A0_3 l0_3.length c0_3]] rfl (by (try simp only [List.map_toArray, List.map_cons, List.map_nil]); first | done | rfl | (simp only [List.length_drop, List.length_take]; rfl)) ?_; (with_reducible refine (cotterref06_May.calls k a0_0 _ _ l0_1 _ _ l0_2 _ _ l0_3 false _ ?side1 ?side2 ?side3 ?side4 ?side5 ?side6 A2.out).mono ?_); (case side1 => repeat (first | exact (Kd.C_below HR0_1.out HB.out) | (with_reducible refine Kd.C_alloc ?_ _) | (with_reducible refine Kd.C_drewN ?_ _) | (with_reducible refine Kd.C_drew ?_))); (case side2 => exact HC0_1.out); (case side3 => repeat (first | exact (Kd.C_below HR0_2.out HB.out) | (with_reducible refine Kd.C_alloc ?_ _) | (with_reducible refine Kd.C_drewN ?_ _) | (with_reducible refine Kd.C_drew ?_))); (case side4 => exact HC0_2.out); (case side5 => repeat (first | exact (Kd.C_below HR0_3.out HB.out) | (with_reducible refine Kd.C_alloc ?_ _) | (with_reducible refine Kd.C_drewN ?_ _) | (with_reducible refine Kd.C_drew ?_))); (case side6 => exact HC0_3.out); rintro e w9 ⟨rfl, hb⟩; refine ⟨_, rfl, ?_⟩; have n0_ := Aside0.mk (blk_below (g := gb213) (o := .cells #[.string a0_0, .slice A0_1 l0_1.length c0_1, .slice A0_2 l0_2.length c0_2, .slice A0_3 l0_3.length c0_3] 26 (0, 0)) (by (with_reducible repeat (first | refine blk_drewN ?_ _ | refine blk_drew ?_ | refine blk_alloc ?_ _)); exact BK213.out) hb); have n1_ := Aside0.mk (below_step (by repeat (first | (with_reducible first | exact HB.out | apply below_alloc | apply pw_below_drewN | apply below_drew1 | refine below_set ?_ GE213.out) | exact HB.out)) hb); clear BK213; clear HB; have BK213 := n0_; have HB := n1_; clear n0_ n1_; (try clear hb); (try clear hb2); (try clear hk); (try clear hi)))
    go_ret
    exact ⟨by first | rfl | (simp [errW_none, errW_some] <;> rfl) | (simp [*, errW_none, errW_some] <;> rfl), by repeat (first | (with_reducible first | exact HB.out | apply below_alloc | apply pw_below_drewN | apply below_drew1 | refine below_set ?_ GE213.out) | exact HB.out)⟩

/-! ### cotterref06_Copy: function 10 -/
def cotterref06_Copy.f (a0_0 : ByteArray) (l0_1 : List Int) (l0_2 : List (S41)) (l0_3 : List (S43)) : Option (ByteArray × List Int × (List (S41)) × (List (S43))) := if ([] : List Int).length + l0_1.length < 17592186044416 then (if ([] : List (S41)).length + l0_2.length < 4398046511104 then (if ([] : List (S43)).length + l0_3.length < 3518437208883 then (some (a0_0, (([] : List Int) ++ l0_1), (([] : List (S41)) ++ l0_2), (([] : List (S43)) ++ l0_3))) else (none)) else (none)) else (none)
set_option maxHeartbeats 8000000 in
set_option maxRecDepth 100000 in
theorem cotterref06_Copy.calls (a0_0 : ByteArray) (A0_1 : Option Addr) (c0_1 : Nat) (l0_1 : List Int) (A0_2 : Option Addr) (c0_2 : Nat) (l0_2 : List (S41)) (A0_3 : Option Addr) (c0_3 : Nat) (l0_3 : List (S43)) (r1 : ByteArray) (r2 : List Int) (r3 : List (S41)) (r4 : List (S43)) (w : World) (hr0_1 : Kd.C (Kd.int .i64) w A0_1 l0_1.length l0_1) (hc0_1 : l0_1.length ≤ c0_1) (hr0_2 : Kd.C k41 w A0_2 l0_2.length l0_2) (hc0_2 : l0_2.length ≤ c0_2) (hr0_3 : Kd.C k43 w A0_3 l0_3.length l0_3) (hc0_3 : l0_3.length ≤ c0_3) (h : cotterref06_Copy.f a0_0 l0_1 l0_2 l0_3 = some (r1, r2, r3, r4)) :
    Calls Try.prog 10 #[.agg #[.string a0_0, .slice A0_1 l0_1.length c0_1, .slice A0_2 l0_2.length c0_2, .slice A0_3 l0_3.length c0_3]] w fun e w' => ∃ v1_ v2_ v3_ : Value, e = .returned (.agg #[.string r1, v1_, v2_, v3_]) ∧ Kd.R (Kd.int .i64) 2 w' w.heap.size (fun _ => True) v1_ r2 ∧ Kd.R k41 41 w' w.heap.size (fun _ => True) v2_ r3 ∧ Kd.R k43 43 w' w.heap.size (fun _ => True) v3_ r4 ∧ Below w.heap.size w w' := by
  have hu26 := Try.underlying26
  have HR0_1 := Aside0.mk hr0_1
  have HC0_1 := Aside0.mk hc0_1
  clear hr0_1 hc0_1
  have HR0_2 := Aside0.mk hr0_2
  have HC0_2 := Aside0.mk hc0_2
  clear hr0_2 hc0_2
  have HR0_3 := Aside0.mk hr0_3
  have HC0_3 := Aside0.mk hc0_3
  clear hr0_3 hc0_3
  have HB := Aside0.mk (Below.refl w.heap.size w)
  have H : (if ([] : List Int).length + l0_1.length < 17592186044416 then (if ([] : List (S41)).length + l0_2.length < 4398046511104 then (if ([] : List (S43)).length + l0_3.length < 3518437208883 then (some (a0_0, (([] : List Int) ++ l0_1), (([] : List (S41)) ++ l0_2), (([] : List (S43)) ++ l0_3))) else (none)) else (none)) else (none)) = some (r1, r2, r3, r4) := h
  clear h
  by_cases c2 : ([] : List Int).length + l0_1.length < 17592186044416
  · rw [if_pos c2] at H
    have LMc2 := Aside0.mk c2
    clear c2
    obtain ⟨y218, hy218⟩ : ∃ y_ : List Int, y_ = (([] : List Int) ++ l0_1) := ⟨_, rfl⟩
    replace H : (if ([] : List (S41)).length + l0_2.length < 4398046511104 then (if ([] : List (S43)).length + l0_3.length < 3518437208883 then (some (a0_0, y218, (([] : List (S41)) ++ l0_2), (([] : List (S43)) ++ l0_3))) else (none)) else (none)) = some (r1, r2, r3, r4) := by first | (rw [hy218]; with_reducible exact H) | (have H2_ := (Option.bind_some _ _).symm.trans H; rw [hy218]; with_reducible exact H2_) | (have H2_ := (Option.bind_some _ _).symm.trans H; with_reducible exact H2_) | with_reducible exact H | (rw [hy218]; exact H) | exact H
    have Ny218 := Aside0.mk hy218
    clear hy218
    by_cases c3 : ([] : List (S41)).length + l0_2.length < 4398046511104
    · rw [if_pos c3] at H
      have LMc3 := Aside0.mk c3
      clear c3
      obtain ⟨y221, hy221⟩ : ∃ y_ : List (S41), y_ = (([] : List (S41)) ++ l0_2) := ⟨_, rfl⟩
      replace H : (if ([] : List (S43)).length + l0_3.length < 3518437208883 then (some (a0_0, y218, y221, (([] : List (S43)) ++ l0_3))) else (none)) = some (r1, r2, r3, r4) := by first | (rw [hy221]; with_reducible exact H) | (have H2_ := (Option.bind_some _ _).symm.trans H; rw [hy221]; with_reducible exact H2_) | (have H2_ := (Option.bind_some _ _).symm.trans H; with_reducible exact H2_) | with_reducible exact H | (rw [hy221]; exact H) | exact H
      have Ny221 := Aside0.mk hy221
      clear hy221
      by_cases c4 : ([] : List (S43)).length + l0_3.length < 3518437208883
      · rw [if_pos c4] at H
        have LMc4 := Aside0.mk c4
        clear c4
        obtain ⟨y224, hy224⟩ : ∃ y_ : List (S43), y_ = (([] : List (S43)) ++ l0_3) := ⟨_, rfl⟩
        replace H : (some (a0_0, y218, y221, y224)) = some (r1, r2, r3, r4) := by first | (rw [hy224]; with_reducible exact H) | (have H2_ := (Option.bind_some _ _).symm.trans H; rw [hy224]; with_reducible exact H2_) | (have H2_ := (Option.bind_some _ _).symm.trans H; with_reducible exact H2_) | with_reducible exact H | (rw [hy224]; exact H) | exact H
        have Ny224 := Aside0.mk hy224
        clear hy224
        simp only [Option.some.injEq, Prod.mk.injEq] at H
        obtain ⟨rfl, rfl, rfl, rfl⟩ := H
        go_enter Try.func10, Try.ntmps10
        go_wp2_with (first | ((with_reducible refine gate_dst (N := 1) rfl ?_); refine box_event ?hg (N := 1) ?hd (cs := #[.string a0_0, .slice A0_1 l0_1.length c0_1, .slice A0_2 l0_2.length c0_2, .slice A0_3 l0_3.length c0_3]) (t := 26) ?hr ?_; (case hd => rfl); (case hg => rfl); (case hr => first | (go_simp; done) | (go_simp; rfl)); intro gb215 hg w5 hbox hb; have n0_ := Aside0.mk (below_step (by repeat (first | (with_reducible first | exact HB.out | apply below_alloc | apply pw_below_drewN | apply below_drew1) | exact HB.out)) hb); have n1_ := Aside0.mk (hbox); have n2_ := Aside0.mk ((by rw [hg]; exact (below_size (by repeat (first | (with_reducible first | exact HB.out | apply below_alloc | apply pw_below_drewN | apply below_drew1) | exact HB.out))) : w.heap.size ≤ gb215)); have n3_ := Aside0.mk ((by rw [hg]; exact (below_size (by repeat (first | (with_reducible first | exact HB.out | apply below_alloc | apply pw_below_drewN | apply below_drew1) | exact HB.out))) : w.heap.size ≤ gb215)); clear HB; have HB := n0_; have BK215 := n1_; have GW215 := n2_; have GE215 := n3_; clear n0_ n1_ n2_ n3_; clear hb hbox hg) | ((with_reducible refine gate_dst (N := 2) rfl ?_); refine box_event ?hg (N := 2) ?hd (cs := #[.string (⟨#[]⟩ : ByteArray), .slice none 0 0, .slice none 0 0, .slice none 0 0]) (t := 26) ?hr ?_; (case hd => rfl); (case hg => rfl); (case hr => first | (go_simp; done) | (go_simp; rfl)); intro gb216 hg w6 hbox hb; have n0_ := Aside0.mk (blk_below (g := gb215) (o := .cells #[.string a0_0, .slice A0_1 l0_1.length c0_1, .slice A0_2 l0_2.length c0_2, .slice A0_3 l0_3.length c0_3] 26 (0, 0)) (by (with_reducible repeat (first | refine blk_drewN ?_ _ | refine blk_drew ?_ | refine blk_alloc ?_ _)); exact BK215.out) hb); have n1_ := Aside0.mk (below_step (by repeat (first | (with_reducible first | exact HB.out | apply below_alloc | apply pw_below_drewN | apply below_drew1 | refine below_set ?_ GE215.out) | exact HB.out)) hb); have n2_ := Aside0.mk (hbox); have n3_ := Aside0.mk ((by rw [hg]; exact (below_size (by repeat (first | (with_reducible first | exact HB.out | apply below_alloc | apply pw_below_drewN | apply below_drew1 | refine below_set ?_ GE215.out) | exact HB.out))) : w.heap.size ≤ gb216)); have n4_ := Aside0.mk ((by rw [hg]; exact (below_size (by repeat (first | (with_reducible first | exact HB.out | apply below_alloc | apply pw_below_drewN | apply below_drew1 | refine below_set ?_ GE215.out) | exact HB.out))) : w.heap.size ≤ gb216)); have n5_ := Aside0.mk ((by rw [hg]; exact Nat.ne_of_lt (blk_lt (g := gb215) (o := .cells #[.string a0_0, .slice A0_1 l0_1.length c0_1, .slice A0_2 l0_2.length c0_2, .slice A0_3 l0_3.length c0_3] 26 (0, 0)) (by (with_reducible repeat (first | refine blk_drewN ?_ _ | refine blk_drew ?_ | refine blk_alloc ?_ _)); exact BK215.out)) : gb215 ≠ gb216)); have n6_ := Aside0.mk ((by rw [hg]; exact Nat.ne_of_gt (blk_lt (g := gb215) (o := .cells #[.string a0_0, .slice A0_1 l0_1.length c0_1, .slice A0_2 l0_2.length c0_2, .slice A0_3 l0_3.length c0_3] 26 (0, 0)) (by (with_reducible repeat (first | refine blk_drewN ?_ _ | refine blk_drew ?_ | refine blk_alloc ?_ _)); exact BK215.out)) : gb216 ≠ gb215)); clear BK215; clear HB; have BK215 := n0_; have HB := n1_; have BK216 := n2_; have GW216 := n3_; have GE216 := n4_; have NB215_216 := n5_; have NB216_215 := n6_; clear n0_ n1_ n2_ n3_ n4_ n5_ n6_; clear hb hbox hg; have hnb7 := NB215_216.out; have hnc7 := NB216_215.out; have hcz8_0 : w6.cell? ⟨gb215, 0, none⟩ = some (.string a0_0) := (blk_cell BK215.out 0).trans rfl; have hcz8_1 : w6.cell? ⟨gb215, 1, none⟩ = some (.slice A0_1 l0_1.length c0_1) := (blk_cell BK215.out 1).trans rfl; have hcz8_2 : w6.cell? ⟨gb215, 2, none⟩ = some (.slice A0_2 l0_2.length c0_2) := (blk_cell BK215.out 2).trans rfl; have hcz8_3 : w6.cell? ⟨gb215, 3, none⟩ = some (.slice A0_3 l0_3.length c0_3) := (blk_cell BK215.out 3).trans rfl; have hfz8_0 := blk_frozen BK215.out 0; have hfz8_1 := blk_frozen BK215.out 1; have hfz8_2 := blk_frozen BK215.out 2; have hfz8_3 := blk_frozen BK215.out 3) | ((with_reducible refine gate_dst (N := 3) rfl ?_); refine box_event ?hg (N := 3) ?hd (cs := #[.string (⟨#[]⟩ : ByteArray), .slice none 0 0, .slice none 0 0, .slice none 0 0]) (t := 26) ?hr ?_; (case hd => rfl); (case hg => rfl); (case hr => first | (go_simp; done) | (go_simp; rfl)); intro gb217 hg w9 hbox hb; have n0_ := Aside0.mk (blk_below (g := gb215) (o := .cells #[.string a0_0, .slice A0_1 l0_1.length c0_1, .slice A0_2 l0_2.length c0_2, .slice A0_3 l0_3.length c0_3] 26 (0, 0)) (by (with_reducible repeat (first | refine blk_drewN ?_ _ | refine blk_drew ?_ | refine blk_alloc ?_ _)); exact BK215.out) hb); have n1_ := Aside0.mk (blk_below (g := gb216) (o := .cells #[.string (⟨#[]⟩ : ByteArray), .slice none 0 0, .slice none 0 0, .slice none 0 0] 26 (0, 0)) (by (with_reducible repeat (first | refine blk_drewN ?_ _ | refine blk_drew ?_ | refine blk_alloc ?_ _)); exact BK216.out) hb); have n2_ := Aside0.mk (below_step (by repeat (first | (with_reducible first | exact HB.out | apply below_alloc | apply pw_below_drewN | apply below_drew1 | refine below_set ?_ GE215.out | refine below_set ?_ GE216.out) | exact HB.out)) hb); have n3_ := Aside0.mk (hbox); have n4_ := Aside0.mk ((by rw [hg]; exact (below_size (by repeat (first | (with_reducible first | exact HB.out | apply below_alloc | apply pw_below_drewN | apply below_drew1 | refine below_set ?_ GE215.out | refine below_set ?_ GE216.out) | exact HB.out))) : w.heap.size ≤ gb217)); have n5_ := Aside0.mk ((by rw [hg]; exact (below_size (by repeat (first | (with_reducible first | exact HB.out | apply below_alloc | apply pw_below_drewN | apply below_drew1 | refine below_set ?_ GE215.out | refine below_set ?_ GE216.out) | exact HB.out))) : w.heap.size ≤ gb217)); have n6_ := Aside0.mk ((by rw [hg]; exact Nat.ne_of_lt (blk_lt (g := gb215) (o := .cells #[.string a0_0, .slice A0_1 l0_1.length c0_1, .slice A0_2 l0_2.length c0_2, .slice A0_3 l0_3.length c0_3] 26 (0, 0)) (by (with_reducible repeat (first | refine blk_drewN ?_ _ | refine blk_drew ?_ | refine blk_alloc ?_ _)); exact BK215.out)) : gb215 ≠ gb217)); have n7_ := Aside0.mk ((by rw [hg]; exact Nat.ne_of_gt (blk_lt (g := gb215) (o := .cells #[.string a0_0, .slice A0_1 l0_1.length c0_1, .slice A0_2 l0_2.length c0_2, .slice A0_3 l0_3.length c0_3] 26 (0, 0)) (by (with_reducible repeat (first | refine blk_drewN ?_ _ | refine blk_drew ?_ | refine blk_alloc ?_ _)); exact BK215.out)) : gb217 ≠ gb215)); have n8_ := Aside0.mk ((by rw [hg]; exact Nat.ne_of_lt (blk_lt (g := gb216) (o := .cells #[.string (⟨#[]⟩ : ByteArray), .slice none 0 0, .slice none 0 0, .slice none 0 0] 26 (0, 0)) (by (with_reducible repeat (first | refine blk_drewN ?_ _ | refine blk_drew ?_ | refine blk_alloc ?_ _)); exact BK216.out)) : gb216 ≠ gb217)); have n9_ := Aside0.mk ((by rw [hg]; exact Nat.ne_of_gt (blk_lt (g := gb216) (o := .cells #[.string (⟨#[]⟩ : ByteArray), .slice none 0 0, .slice none 0 0, .slice none 0 0] 26 (0, 0)) (by (with_reducible repeat (first | refine blk_drewN ?_ _ | refine blk_drew ?_ | refine blk_alloc ?_ _)); exact BK216.out)) : gb217 ≠ gb216)); clear BK215; clear BK216; clear HB; have BK215 := n0_; have BK216 := n1_; have HB := n2_; have BK217 := n3_; have GW217 := n4_; have GE217 := n5_; have NB215_217 := n6_; have NB217_215 := n7_; have NB216_217 := n8_; have NB217_216 := n9_; clear n0_ n1_ n2_ n3_ n4_ n5_ n6_ n7_ n8_ n9_; clear hb hbox hg; have hnb10 := NB217_215.out; have hnc10 := NB215_217.out; have hnb11 := NB217_216.out; have hnc11 := NB216_217.out; have hcz12_0 : w9.cell? ⟨gb217, 0, none⟩ = some (.string (⟨#[]⟩ : ByteArray)) := (blk_cell BK217.out 0).trans rfl; have hcz12_1 : w9.cell? ⟨gb217, 1, none⟩ = some (.slice none 0 0) := (blk_cell BK217.out 1).trans rfl; have hcz12_2 : w9.cell? ⟨gb217, 2, none⟩ = some (.slice none 0 0) := (blk_cell BK217.out 2).trans rfl; have hcz12_3 : w9.cell? ⟨gb217, 3, none⟩ = some (.slice none 0 0) := (blk_cell BK217.out 3).trans rfl; have hfz12_0 := blk_frozen BK217.out 0; have hfz12_1 := blk_frozen BK217.out 1; have hfz12_2 := blk_frozen BK217.out 2; have hfz12_3 := blk_frozen BK217.out 3; have hcz13_0 : w9.cell? ⟨gb215, 0, none⟩ = some (.string a0_0) := (blk_cell BK215.out 0).trans rfl; have hcz13_1 : w9.cell? ⟨gb215, 1, none⟩ = some (.slice A0_1 l0_1.length c0_1) := (blk_cell BK215.out 1).trans rfl; have hcz13_2 : w9.cell? ⟨gb215, 2, none⟩ = some (.slice A0_2 l0_2.length c0_2) := (blk_cell BK215.out 2).trans rfl; have hcz13_3 : w9.cell? ⟨gb215, 3, none⟩ = some (.slice A0_3 l0_3.length c0_3) := (blk_cell BK215.out 3).trans rfl; have hfz13_0 := blk_frozen BK215.out 0; have hfz13_1 := blk_frozen BK215.out 1; have hfz13_2 := blk_frozen BK215.out 2; have hfz13_3 := blk_frozen BK215.out 3) | ((with_reducible refine gate_builtin (b := .append) (xs := #[.tmp 8, .tmp 10]) rfl ?_); at_builtin; refine Kd.R_append_rows (Kd.int .i64) (w0 := w) w.heap.size rfl (.tmp 8) (.tmp 10) 22 2 (.int .i64 0) 8 rfl Try.underlying22 info2 rfl (by decide) (by omega) (.slice none 0 0) ([] : List Int) l0_1 _ _ _ (fun _ => True) (fun _ => False) rfl rfl ?aO ?aR (fun _ _ h => h) (fun _ h => h.elim) ?aF ?aB ?aS ?aL ?_; (case aR => exact Kd.C_below HR0_1.out (by repeat (first | (with_reducible first | exact HB.out | apply below_alloc | apply pw_below_drewN | apply below_drew1 | refine below_set ?_ GE215.out | refine below_set ?_ GE216.out | refine below_set ?_ GE217.out) | exact HB.out))); (case aB => exact (by repeat (first | (with_reducible first | exact HB.out | apply below_alloc | apply pw_below_drewN | apply below_drew1 | refine below_set ?_ GE215.out | refine below_set ?_ GE216.out | refine below_set ?_ GE217.out) | exact HB.out))); (case aF => exact (fun _ _ => trivial)); (case aO => exact ((Kd.R_nil _ _ _ _ (fun _ => True)))); (case aS => exact (below_size (by repeat (first | (with_reducible first | exact HB.out | apply below_alloc | apply pw_below_drewN | apply below_drew1 | refine below_set ?_ GE215.out | refine below_set ?_ GE216.out | refine below_set ?_ GE217.out) | exact HB.out)))); (case aL => have := LMc2.out; omega); intro v219 w14 ho hb hg hat; rw [← Ny218.out] at ho; have n0_ := Aside0.mk (blk_grown (g := gb215) (o := .cells #[.string a0_0, .slice A0_1 l0_1.length c0_1, .slice A0_2 l0_2.length c0_2, .slice A0_3 l0_3.length c0_3] 26 (0, 0)) (by (with_reducible repeat (first | refine blk_drewN ?_ _ | refine blk_drew ?_ | refine blk_alloc ?_ _)); refine blk_far ?_ NB215_217.out _; (with_reducible repeat (first | refine blk_drewN ?_ _ | refine blk_drew ?_ | refine blk_alloc ?_ _)); refine blk_far ?_ NB215_217.out _; (with_reducible repeat (first | refine blk_drewN ?_ _ | refine blk_drew ?_ | refine blk_alloc ?_ _)); refine blk_far ?_ NB215_217.out _; (with_reducible repeat (first | refine blk_drewN ?_ _ | refine blk_drew ?_ | refine blk_alloc ?_ _)); refine blk_far ?_ NB215_217.out _; (with_reducible repeat (first | refine blk_drewN ?_ _ | refine blk_drew ?_ | refine blk_alloc ?_ _)); exact BK215.out) hg (by simp [Value.ownBlock])); have n1_ := Aside0.mk (blk_grown (g := gb216) (o := .cells #[.string (⟨#[]⟩ : ByteArray), .slice none 0 0, .slice none 0 0, .slice none 0 0] 26 (0, 0)) (by (with_reducible repeat (first | refine blk_drewN ?_ _ | refine blk_drew ?_ | refine blk_alloc ?_ _)); refine blk_far ?_ NB216_217.out _; (with_reducible repeat (first | refine blk_drewN ?_ _ | refine blk_drew ?_ | refine blk_alloc ?_ _)); refine blk_far ?_ NB216_217.out _; (with_reducible repeat (first | refine blk_drewN ?_ _ | refine blk_drew ?_ | refine blk_alloc ?_ _)); refine blk_far ?_ NB216_217.out _; (with_reducible repeat (first | refine blk_drewN ?_ _ | refine blk_drew ?_ | refine blk_alloc ?_ _)); refine blk_far ?_ NB216_217.out _; (with_reducible repeat (first | refine blk_drewN ?_ _ | refine blk_drew ?_ | refine blk_alloc ?_ _)); exact BK216.out) hg (by simp [Value.ownBlock])); have n2_ := Aside0.mk (blk_grown (g := gb217) (o := .cells #[.string a0_0, .slice none 0 0, .slice none 0 0, .slice none 0 0] 26 (0, 0)) (by (with_reducible repeat (first | refine blk_drewN ?_ _ | refine blk_drew ?_ | refine blk_alloc ?_ _)); refine blk_put (cs := #[.string a0_0, .slice none 0 0, .slice none 0 0, .slice none 0 0]) ?_ 3 _ rfl; (with_reducible repeat (first | refine blk_drewN ?_ _ | refine blk_drew ?_ | refine blk_alloc ?_ _)); refine blk_put (cs := #[.string a0_0, .slice none 0 0, .slice none 0 0, .slice none 0 0]) ?_ 2 _ rfl; (with_reducible repeat (first | refine blk_drewN ?_ _ | refine blk_drew ?_ | refine blk_alloc ?_ _)); refine blk_put (cs := #[.string a0_0, .slice none 0 0, .slice none 0 0, .slice none 0 0]) ?_ 1 _ rfl; (with_reducible repeat (first | refine blk_drewN ?_ _ | refine blk_drew ?_ | refine blk_alloc ?_ _)); refine blk_put (cs := #[.string (⟨#[]⟩ : ByteArray), .slice none 0 0, .slice none 0 0, .slice none 0 0]) ?_ 0 _ rfl; (with_reducible repeat (first | refine blk_drewN ?_ _ | refine blk_drew ?_ | refine blk_alloc ?_ _)); exact BK217.out) hg (by simp [Value.ownBlock])); have n3_ := Aside0.mk (hb); have n4_ := Aside0.mk (ho); clear BK215; clear BK216; clear BK217; clear HB; have BK215 := n0_; have BK216 := n1_; have BK217 := n2_; have HB := n3_; have HO220 := n4_; clear n0_ n1_ n2_ n3_ n4_; clear ho hb hg hat; obtain ⟨Ao15, co15, eo15⟩ := Kd.R_slice HO220.out; subst eo15; have hcz16_0 : w14.cell? ⟨gb217, 0, none⟩ = some (.string a0_0) := (blk_cell BK217.out 0).trans rfl; have hcz16_1 : w14.cell? ⟨gb217, 1, none⟩ = some (.slice none 0 0) := (blk_cell BK217.out 1).trans rfl; have hcz16_2 : w14.cell? ⟨gb217, 2, none⟩ = some (.slice none 0 0) := (blk_cell BK217.out 2).trans rfl; have hcz16_3 : w14.cell? ⟨gb217, 3, none⟩ = some (.slice none 0 0) := (blk_cell BK217.out 3).trans rfl; have hfz16_0 := blk_frozen BK217.out 0; have hfz16_1 := blk_frozen BK217.out 1; have hfz16_2 := blk_frozen BK217.out 2; have hfz16_3 := blk_frozen BK217.out 3; have hcz17_0 : w14.cell? ⟨gb215, 0, none⟩ = some (.string a0_0) := (blk_cell BK215.out 0).trans rfl; have hcz17_1 : w14.cell? ⟨gb215, 1, none⟩ = some (.slice A0_1 l0_1.length c0_1) := (blk_cell BK215.out 1).trans rfl; have hcz17_2 : w14.cell? ⟨gb215, 2, none⟩ = some (.slice A0_2 l0_2.length c0_2) := (blk_cell BK215.out 2).trans rfl; have hcz17_3 : w14.cell? ⟨gb215, 3, none⟩ = some (.slice A0_3 l0_3.length c0_3) := (blk_cell BK215.out 3).trans rfl; have hfz17_0 := blk_frozen BK215.out 0; have hfz17_1 := blk_frozen BK215.out 1; have hfz17_2 := blk_frozen BK215.out 2; have hfz17_3 := blk_frozen BK215.out 3) | ((with_reducible refine gate_builtin (b := .append) (xs := #[.tmp 14, .tmp 16]) rfl ?_); at_builtin; refine Kd.R_append_rows k41 (w0 := w) w.heap.size rfl (.tmp 14) (.tmp 16) 23 41 (.agg #[(.string ⟨#[]⟩), (.int .i64 0), (.int .i64 0)]) 32 rfl Try.underlying23 info41 rfl (by decide) (by omega) (.slice none 0 0) ([] : List (S41)) l0_2 _ _ _ (fun _ => True) (fun _ => False) rfl rfl ?aO ?aR (fun _ _ h => h) (fun _ h => h.elim) ?aF ?aB ?aS ?aL ?_; (case aR => exact Kd.C_below HR0_2.out (by repeat (first | (with_reducible first | exact HB.out | apply below_alloc | apply pw_below_drewN | apply below_drew1 | refine below_set ?_ GE215.out | refine below_set ?_ GE216.out | refine below_set ?_ GE217.out) | exact HB.out))); (case aB => exact (by repeat (first | (with_reducible first | exact HB.out | apply below_alloc | apply pw_below_drewN | apply below_drew1 | refine below_set ?_ GE215.out | refine below_set ?_ GE216.out | refine below_set ?_ GE217.out) | exact HB.out))); (case aF => exact (fun _ _ => trivial)); (case aO => exact ((Kd.R_nil _ _ _ _ (fun _ => True)))); (case aS => exact (below_size (by repeat (first | (with_reducible first | exact HB.out | apply below_alloc | apply pw_below_drewN | apply below_drew1 | refine below_set ?_ GE215.out | refine below_set ?_ GE216.out | refine below_set ?_ GE217.out) | exact HB.out)))); (case aL => have := LMc3.out; omega); intro v222 w18 ho hb hg hat; rw [← Ny221.out] at ho; have n0_ := Aside0.mk (blk_grown (g := gb215) (o := .cells #[.string a0_0, .slice A0_1 l0_1.length c0_1, .slice A0_2 l0_2.length c0_2, .slice A0_3 l0_3.length c0_3] 26 (0, 0)) (by (with_reducible repeat (first | refine blk_drewN ?_ _ | refine blk_drew ?_ | refine blk_alloc ?_ _)); refine blk_far ?_ NB215_217.out _; (with_reducible repeat (first | refine blk_drewN ?_ _ | refine blk_drew ?_ | refine blk_alloc ?_ _)); exact BK215.out) hg (by simp [Value.ownBlock])); have n1_ := Aside0.mk (blk_grown (g := gb216) (o := .cells #[.string (⟨#[]⟩ : ByteArray), .slice none 0 0, .slice none 0 0, .slice none 0 0] 26 (0, 0)) (by (with_reducible repeat (first | refine blk_drewN ?_ _ | refine blk_drew ?_ | refine blk_alloc ?_ _)); refine blk_far ?_ NB216_217.out _; (with_reducible repeat (first | refine blk_drewN ?_ _ | refine blk_drew ?_ | refine blk_alloc ?_ _)); exact BK216.out) hg (by simp [Value.ownBlock])); have n2_ := Aside0.mk (blk_grown (g := gb217) (o := .cells #[.string a0_0, .slice Ao15 y218.length co15, .slice none 0 0, .slice none 0 0] 26 (0, 0)) (by (with_reducible repeat (first | refine blk_drewN ?_ _ | refine blk_drew ?_ | refine blk_alloc ?_ _)); refine blk_put (cs := #[.string a0_0, .slice none 0 0, .slice none 0 0, .slice none 0 0]) ?_ 1 _ rfl; (with_reducible repeat (first | refine blk_drewN ?_ _ | refine blk_drew ?_ | refine blk_alloc ?_ _)); exact BK217.out) hg (by simp [Value.ownBlock])); have n3_ := Aside0.mk (Kd.R_grown (by (with_reducible repeat (first | apply Kd.R_alloc | apply Kd.R_drewN | apply Kd.R_drew)); exact (Kd.R_mono (Kd.R_far (p := ⟨gb217, 1, none⟩) (Kd.R_types HO220.out BK217.out (by decide)) (fun _ hk => hk.2) (.slice Ao15 y218.length co15)) (fun _ h_ => h_.1))) hg (fun _ _ => by simp [Value.ownBlock])); have n4_ := Aside0.mk (hb); have n5_ := Aside0.mk (ho); clear BK215; clear BK216; clear BK217; clear HO220; clear HB; have BK215 := n0_; have BK216 := n1_; have BK217 := n2_; have HO220 := n3_; have HB := n4_; have HO223 := n5_; clear n0_ n1_ n2_ n3_ n4_ n5_; clear ho hb hg hat; obtain ⟨Ao19, co19, eo19⟩ := Kd.R_slice HO223.out; subst eo19; have hcz20_0 : w18.cell? ⟨gb217, 0, none⟩ = some (.string a0_0) := (blk_cell BK217.out 0).trans rfl; have hcz20_1 : w18.cell? ⟨gb217, 1, none⟩ = some (.slice Ao15 y218.length co15) := (blk_cell BK217.out 1).trans rfl; have hcz20_2 : w18.cell? ⟨gb217, 2, none⟩ = some (.slice none 0 0) := (blk_cell BK217.out 2).trans rfl; have hcz20_3 : w18.cell? ⟨gb217, 3, none⟩ = some (.slice none 0 0) := (blk_cell BK217.out 3).trans rfl; have hfz20_0 := blk_frozen BK217.out 0; have hfz20_1 := blk_frozen BK217.out 1; have hfz20_2 := blk_frozen BK217.out 2; have hfz20_3 := blk_frozen BK217.out 3; have hcz21_0 : w18.cell? ⟨gb215, 0, none⟩ = some (.string a0_0) := (blk_cell BK215.out 0).trans rfl; have hcz21_1 : w18.cell? ⟨gb215, 1, none⟩ = some (.slice A0_1 l0_1.length c0_1) := (blk_cell BK215.out 1).trans rfl; have hcz21_2 : w18.cell? ⟨gb215, 2, none⟩ = some (.slice A0_2 l0_2.length c0_2) := (blk_cell BK215.out 2).trans rfl; have hcz21_3 : w18.cell? ⟨gb215, 3, none⟩ = some (.slice A0_3 l0_3.length c0_3) := (blk_cell BK215.out 3).trans rfl; have hfz21_0 := blk_frozen BK215.out 0; have hfz21_1 := blk_frozen BK215.out 1; have hfz21_2 := blk_frozen BK215.out 2; have hfz21_3 := blk_frozen BK215.out 3) | ((with_reducible refine gate_builtin (b := .append) (xs := #[.tmp 20, .tmp 22]) rfl ?_); at_builtin; refine Kd.R_append_rows k43 (w0 := w) w.heap.size rfl (.tmp 20) (.tmp 22) 24 43 (.agg #[(.int .i64 0), (.int .i64 0), (.string ⟨#[]⟩), (.int .i64 0)]) 40 rfl Try.underlying24 info43 rfl (by decide) (by omega) (.slice none 0 0) ([] : List (S43)) l0_3 _ _ _ (fun _ => True) (fun _ => False) rfl rfl ?aO ?aR (fun _ _ h => h) (fun _ h => h.elim) ?aF ?aB ?aS ?aL ?_; (case aR => exact Kd.C_below HR0_3.out (by repeat (first | (with_reducible first | exact HB.out | apply below_alloc | apply pw_below_drewN | apply below_drew1 | refine below_set ?_ GE215.out | refine below_set ?_ GE216.out | refine below_set ?_ GE217.out) | exact HB.out))); (case aB => exact (by repeat (first | (with_reducible first | exact HB.out | apply below_alloc | apply pw_below_drewN | apply below_drew1 | refine below_set ?_ GE215.out | refine below_set ?_ GE216.out | refine below_set ?_ GE217.out) | exact HB.out))); (case aF => exact (fun _ _ => trivial)); (case aO => exact ((Kd.R_nil _ _ _ _ (fun _ => True)))); (case aS => exact (below_size (by repeat (first | (with_reducible first | exact HB.out | apply below_alloc | apply pw_below_drewN | apply below_drew1 | refine below_set ?_ GE215.out | refine below_set ?_ GE216.out | refine below_set ?_ GE217.out) | exact HB.out)))); (case aL => have := LMc4.out; omega); intro v225 w22 ho hb hg hat; rw [← Ny224.out] at ho; have n0_ := Aside0.mk (blk_grown (g := gb215) (o := .cells #[.string a0_0, .slice A0_1 l0_1.length c0_1, .slice A0_2 l0_2.length c0_2, .slice A0_3 l0_3.length c0_3] 26 (0, 0)) (by (with_reducible repeat (first | refine blk_drewN ?_ _ | refine blk_drew ?_ | refine blk_alloc ?_ _)); refine blk_far ?_ NB215_217.out _; (with_reducible repeat (first | refine blk_drewN ?_ _ | refine blk_drew ?_ | refine blk_alloc ?_ _)); exact BK215.out) hg (by simp [Value.ownBlock])); have n1_ := Aside0.mk (blk_grown (g := gb216) (o := .cells #[.string (⟨#[]⟩ : ByteArray), .slice none 0 0, .slice none 0 0, .slice none 0 0] 26 (0, 0)) (by (with_reducible repeat (first | refine blk_drewN ?_ _ | refine blk_drew ?_ | refine blk_alloc ?_ _)); refine blk_far ?_ NB216_217.out _; (with_reducible repeat (first | refine blk_drewN ?_ _ | refine blk_drew ?_ | refine blk_alloc ?_ _)); exact BK216.out) hg (by simp [Value.ownBlock])); have n2_ := Aside0.mk (blk_grown (g := gb217) (o := .cells #[.string a0_0, .slice Ao15 y218.length co15, .slice Ao19 y221.length co19, .slice none 0 0] 26 (0, 0)) (by (with_reducible repeat (first | refine blk_drewN ?_ _ | refine blk_drew ?_ | refine blk_alloc ?_ _)); refine blk_put (cs := #[.string a0_0, .slice Ao15 y218.length co15, .slice none 0 0, .slice none 0 0]) ?_ 2 _ rfl; (with_reducible repeat (first | refine blk_drewN ?_ _ | refine blk_drew ?_ | refine blk_alloc ?_ _)); exact BK217.out) hg (by simp [Value.ownBlock])); have n3_ := Aside0.mk (Kd.R_grown (by (with_reducible repeat (first | apply Kd.R_alloc | apply Kd.R_drewN | apply Kd.R_drew)); exact (Kd.R_mono (Kd.R_far (p := ⟨gb217, 2, none⟩) (Kd.R_types HO220.out BK217.out (by decide)) (fun _ hk => hk.2) (.slice Ao19 y221.length co19)) (fun _ h_ => h_.1))) hg (fun _ _ => by simp [Value.ownBlock])); have n4_ := Aside0.mk (Kd.R_grown (by (with_reducible repeat (first | apply Kd.R_alloc | apply Kd.R_drewN | apply Kd.R_drew)); exact (Kd.R_mono (Kd.R_far (p := ⟨gb217, 2, none⟩) (Kd.R_types HO223.out BK217.out (by decide)) (fun _ hk => hk.2) (.slice Ao19 y221.length co19)) (fun _ h_ => h_.1))) hg (fun _ _ => by simp [Value.ownBlock])); have n5_ := Aside0.mk (hb); have n6_ := Aside0.mk (ho); clear BK215; clear BK216; clear BK217; clear HO220; clear HO223; clear HB; have BK215 := n0_; have BK216 := n1_; have BK217 := n2_; have HO220 := n3_; have HO223 := n4_; have HB := n5_; have HO226 := n6_; clear n0_ n1_ n2_ n3_ n4_ n5_ n6_; clear ho hb hg hat; obtain ⟨Ao23, co23, eo23⟩ := Kd.R_slice HO226.out; subst eo23; have hcz24_0 : w22.cell? ⟨gb217, 0, none⟩ = some (.string a0_0) := (blk_cell BK217.out 0).trans rfl; have hcz24_1 : w22.cell? ⟨gb217, 1, none⟩ = some (.slice Ao15 y218.length co15) := (blk_cell BK217.out 1).trans rfl; have hcz24_2 : w22.cell? ⟨gb217, 2, none⟩ = some (.slice Ao19 y221.length co19) := (blk_cell BK217.out 2).trans rfl; have hcz24_3 : w22.cell? ⟨gb217, 3, none⟩ = some (.slice none 0 0) := (blk_cell BK217.out 3).trans rfl; have hfz24_0 := blk_frozen BK217.out 0; have hfz24_1 := blk_frozen BK217.out 1; have hfz24_2 := blk_frozen BK217.out 2; have hfz24_3 := blk_frozen BK217.out 3; have hcz25_0 : w22.cell? ⟨gb216, 0, none⟩ = some (.string (⟨#[]⟩ : ByteArray)) := (blk_cell BK216.out 0).trans rfl; have hcz25_1 : w22.cell? ⟨gb216, 1, none⟩ = some (.slice none 0 0) := (blk_cell BK216.out 1).trans rfl; have hcz25_2 : w22.cell? ⟨gb216, 2, none⟩ = some (.slice none 0 0) := (blk_cell BK216.out 2).trans rfl; have hcz25_3 : w22.cell? ⟨gb216, 3, none⟩ = some (.slice none 0 0) := (blk_cell BK216.out 3).trans rfl; have hfz25_0 := blk_frozen BK216.out 0; have hfz25_1 := blk_frozen BK216.out 1; have hfz25_2 := blk_frozen BK216.out 2; have hfz25_3 := blk_frozen BK216.out 3))
        refine bodyPost_ret (results_cell_row rfl _ _ gb216 26 #[.string a0_0, .slice Ao15 y218.length co15, .slice Ao19 y221.length co19, .slice Ao23 y224.length co23] (0, 0) _ rfl (by (with_reducible repeat (first | refine blk_drewN ?_ _ | refine blk_drew ?_ | refine blk_alloc ?_ _)); refine blk_put (cs := #[.string a0_0, .slice Ao15 y218.length co15, .slice Ao19 y221.length co19, .slice none 0 0]) ?_ 3 _ rfl; (with_reducible repeat (first | refine blk_drewN ?_ _ | refine blk_drew ?_ | refine blk_alloc ?_ _)); refine blk_put (cs := #[.string a0_0, .slice Ao15 y218.length co15, .slice none 0 0, .slice none 0 0]) ?_ 2 _ rfl; (with_reducible repeat (first | refine blk_drewN ?_ _ | refine blk_drew ?_ | refine blk_alloc ?_ _)); refine blk_put (cs := #[.string a0_0, .slice none 0 0, .slice none 0 0, .slice none 0 0]) ?_ 1 _ rfl; (with_reducible repeat (first | refine blk_drewN ?_ _ | refine blk_drew ?_ | refine blk_alloc ?_ _)); refine blk_put (cs := #[.string (⟨#[]⟩ : ByteArray), .slice none 0 0, .slice none 0 0, .slice none 0 0]) ?_ 0 _ rfl; (with_reducible repeat (first | refine blk_drewN ?_ _ | refine blk_drew ?_ | refine blk_alloc ?_ _)); refine blk_far ?_ NB216_217.out _; (with_reducible repeat (first | refine blk_drewN ?_ _ | refine blk_drew ?_ | refine blk_alloc ?_ _)); exact BK216.out) Try.underlying26 rfl (by kernel_rfl)) rfl ?_
        exact ⟨_, _, _, by first | rfl | (simp [errW_none, errW_some] <;> rfl) | (simp [*, errW_none, errW_some] <;> rfl), by (with_reducible repeat (first | apply Kd.R_alloc | apply Kd.R_drewN | apply Kd.R_drew)); exact Kd.R_mono (Kd.R_far (p := ⟨gb216, 3, none⟩) (Kd.R_far (p := ⟨gb216, 2, none⟩) (Kd.R_far (p := ⟨gb216, 1, none⟩) (Kd.R_far (p := ⟨gb216, 0, none⟩) (Kd.R_far (p := ⟨gb217, 3, none⟩) (Kd.R_types (Kd.R_types HO220.out BK217.out (by decide)) BK216.out (by decide)) (fun _ hk => hk.1.2) (.slice Ao23 y224.length co23)) (fun _ hk => hk.2) (.string a0_0)) (fun _ hk => hk.2) (.slice Ao15 y218.length co15)) (fun _ hk => hk.2) (.slice Ao19 y221.length co19)) (fun _ hk => hk.2) (.slice Ao23 y224.length co23)) (fun _ hk => trivial), by (with_reducible repeat (first | apply Kd.R_alloc | apply Kd.R_drewN | apply Kd.R_drew)); exact Kd.R_mono (Kd.R_far (p := ⟨gb216, 3, none⟩) (Kd.R_far (p := ⟨gb216, 2, none⟩) (Kd.R_far (p := ⟨gb216, 1, none⟩) (Kd.R_far (p := ⟨gb216, 0, none⟩) (Kd.R_far (p := ⟨gb217, 3, none⟩) (Kd.R_types (Kd.R_types HO223.out BK217.out (by decide)) BK216.out (by decide)) (fun _ hk => hk.1.2) (.slice Ao23 y224.length co23)) (fun _ hk => hk.2) (.string a0_0)) (fun _ hk => hk.2) (.slice Ao15 y218.length co15)) (fun _ hk => hk.2) (.slice Ao19 y221.length co19)) (fun _ hk => hk.2) (.slice Ao23 y224.length co23)) (fun _ hk => trivial), by (with_reducible repeat (first | apply Kd.R_alloc | apply Kd.R_drewN | apply Kd.R_drew)); exact Kd.R_mono (Kd.R_far (p := ⟨gb216, 3, none⟩) (Kd.R_far (p := ⟨gb216, 2, none⟩) (Kd.R_far (p := ⟨gb216, 1, none⟩) (Kd.R_far (p := ⟨gb216, 0, none⟩) (Kd.R_far (p := ⟨gb217, 3, none⟩) (Kd.R_types (Kd.R_types HO226.out BK217.out (by decide)) BK216.out (by decide)) (fun _ hk => hk.1.2) (.slice Ao23 y224.length co23)) (fun _ hk => hk.2) (.string a0_0)) (fun _ hk => hk.2) (.slice Ao15 y218.length co15)) (fun _ hk => hk.2) (.slice Ao19 y221.length co19)) (fun _ hk => hk.2) (.slice Ao23 y224.length co23)) (fun _ hk => trivial), by repeat (first | (with_reducible first | exact HB.out | apply below_alloc | apply pw_below_drewN | apply below_drew1 | refine below_set ?_ GE215.out | refine below_set ?_ GE216.out | refine below_set ?_ GE217.out) | exact HB.out)⟩
      · rw [if_neg c4] at H
        exact absurd H (by simp)
    · rw [if_neg c3] at H
      exact absurd H (by simp)
  · rw [if_neg c2] at H
    exact absurd H (by simp)

/-! ### cotterref06_SameData: function 29 -/
/-! ### cotterref06_SameSyms: function 30 -/
end Go.Proofs.Ytilmndkbloodbaa.M

/-
  Layer 6, plain: whether an object may be, as the document tells it (cotterref06.Syms, May), said by the program's own plain function. Conditions: lengths below 2^63.
-/
namespace Go.Proofs.Ytilmndkbloodbaa.Obj
open Go.RowKit Go.Proofs.Ytilmndkbloodbaa.M Go.Proofs.Ytilmndkbloodbaa.Num Go.Proofs.YtilmndkbloodbaaW.PrintWords Go.Proofs.YtilmndkbloodbaaW.PrintLast
set_option linter.unusedSimpArgs false
set_option linter.unusedVariables false
theorem rcheck_f (code : ByteArray) (data : List Int) (syms : List S41) (rels : List S43) (k : Nat) (hk : 1004010 < k) (hk2 : 2 * rels.length + 2 < k) (hm : rels.length ≤ 9223372036854775807) :
    cotterref06_Check.f k code data syms rels = some (if may code data syms rels = true then 0 else 1) := by
  unfold cotterref06_Check.f
  rw [rmay_f code data syms rels k hk hk2 hm]
  cases may code data syms rels <;> rfl
end Go.Proofs.Ytilmndkbloodbaa.Obj

