/-
  Texts of the proofs of LinkLands, cut to what the proofs reach and packed by a program of this session (wip/packs.py). Each part begins with what it says; conditions: those told there.
-/
import Derived.Test.YteaealmnmmcbpaaPHA6
-- lines of print.sh's words, cut to what these proofs reach by a program of this session
-- PRINTED WORDS (module Derived/Print/Words.lean): go-wishes' parts 1 to 38 and go-gate-2's additions: AI agents of Go's test side, Mon Nov 16 2026; no person has read them. Plain theorems and definitions: no macro, no elab, no axiom.
set_option linter.unusedVariables false
set_option linter.unusedSimpArgs false
namespace Go.Proofs.YteaealmnmmcbpaaW.PrintWords
open Go.RowKit

/-! ### 1. Values and lists -/
theorem bt_range (s : ByteArray) (i : Int) : 0 ≤ bt s i ∧ bt s i ≤ 255 := by
  unfold bt
  split
  · rename_i h
    have := (s[i.toNat]'h).toNat_lt
    omega
  · omega
/-! ### 2. The world -/
/-! ### 3. A slice of whole numbers that is read; nil, empty and other slices alike -/
/-! ### 4. A row of the call's own -/
/-! ### 5. append(v, x): behind 'at_builtin'; the goal's world is 'W.alloc' of the variadic's box -/
section
variable {P : Program} {ops : Array Oper} {rest : List Oper} {o : Oper} {a : Act} {Q : Exit → Act → World → Prop}

end

/-! ### 6. make([]T, n), n an Int; a literal -/
section
variable {P : Program}
end
/-! ### 7. v[i] read and v[i] = x, v a row of the call's own: 'obtain ⟨g, cap, rfl, hgb, hgl⟩ := HO.out.form (by omega)' first -/
/-! ### 8. append(v, ys...): ys a slice that is read, nil let in; behind 'at_builtin' -/
section
variable {P : Program} {ops : Array Oper} {rest : List Oper} {o : Oper} {a : Act} {Q : Exit → Act → World → Prop}
end

/-! ### 9. []byte(s): a slice that is read (its row bears a conversion's mark: no row of one's own); cuts of a slice that is read -/
/-! ### 10. Rounds: more rounds give the same answer; what ends gives a number of rounds -/
/-! ### 11. Rows of elements of several cells (structs): read, made. R: what an element's cells say ('RepItem w': printed for each type) -/
section
variable {P : Program} {ops : Array Oper} {rest : List Oper} {o : Oper} {a : Act} {Q : Exit → Act → World → Prop}
end

/-! ### 12. A block of one's own that is a state: its cells, what a store leaves -/
/-! ### 13. Two states at once: what a call on the state at block g (its row before: 'row') has turned -/
/-! ### 10b. From some number of rounds on -/
/-! ### 14. append as_ one step of a region that draws its order: for 'go_region_law' (and a region walked by hand) -/
section
variable {P : Program} {ops : Array Oper} {o : Oper} {a : Act} {Q : Exit → Act → World → Prop} {K : Act → World → Prop}
end
/-! ### 15. A row's base may be lowered -/
/-! ### 16. Parts 3 to 9 for ANY element of one cell: 'enc' (Value.int k, Value.string, Value.bool), a default 'd' -/
section
variable {α : Type} {enc : α → Value} {d : α}
end
section
variable {α : Type} {P : Program} {ops : Array Oper} {rest : List Oper} {o : Oper} {a : Act} {Q : Exit → Act → World → Prop}
end

/-! ### 17. Rows of one element type held at once: no two share a block -/
/-! ### 18. A block behind a new one; behind a draw -/
/-! ### 19. Results that lie in memory beside others -/
section
variable {P : Program}
end
/-! ### 20. Rows of elements of any kind: R is what an element's cells say -/
section
variable {α : Type} {R R' : α → List Value → Prop} {e : TypeId} {size : Nat} {w w1 : World} {base : Nat} {v : Value} {ps : List α}
end
section
variable {P : Program} {ops : Array Oper} {rest : List Oper} {o : Oper} {a : Act} {Q : Exit → Act → World → Prop} {α : Type} {R : α → List Value → Prop}
end
section
variable {P : Program} {ops : Array Oper} {o : Oper} {a : Act} {Q : Exit → Act → World → Prop} {K : Act → World → Prop} {α : Type} {R : α → List Value → Prop}
end
/-! ### 21. Cuts of a slice that came in, lengths spelled as_ the lists' -/
section
variable {α : Type} {P : Program}
end

/-! ### 22. append([]byte, s...), s a string; behind 'at_builtin'. (No word on where the new row lies: two rows of bytes at once don't go by it.) -/
section
variable {P : Program} {ops : Array Oper} {rest : List Oper} {o : Oper} {a : Act} {Q : Exit → Act → World → Prop}
end
/-! ### 23. KINDS: what a value's cells say, read (K) and made (M), kind by kind; every mover proved once -/
namespace Kd
section
variable {α : Type} {d : Kd α} {e : Nat} {w w1 : World} {base : Nat} {ok ok' : Nat → Prop} {v : Value} {xs : List α}
end

/-! #### the kinds -/
/-! #### an element of a row that is read; an element appended -/
section
variable {P : Program} {ops : Array Oper} {rest : List Oper} {o : Oper} {a : Act} {Q : Exit → Act → World → Prop} {α : Type}
end
section
variable {P : Program} {ops : Array Oper} {o : Oper} {a : Act} {Q : Exit → Act → World → Prop} {Kc : Act → World → Prop} {α : Type}
end
end Kd
/-! ### 24. Kinds nested in themselves -/
namespace Kd
section
variable {α : Type} {F : Kd α → Kd α} {sz : Nat} {E : List Nat} {hs : ∀ n, (upto F sz E n).sz = sz} {hE : ∀ n q, q ∈ (upto F sz E n).E → q ∈ E}
end
end Kd
/-! ### 25. What is held while another row is written: 'ok' says that its rows are none of that row's block -/
namespace Kd
end Kd
/-! ### 26. Words for a printer that takes every slice by its kind -/
namespace Kd
section
variable {α β : Type} {d : Kd α} {d' : Kd β} {e e' : Nat} {w w1 W : World} {base b b' : Nat} {ok ok' okv oku : Nat → Prop} {v u : Value} {xs : List α} {ys : List β}
end
/-! #### scalars -/
section
variable {w W : World} {A : Option Addr} {n : Nat}
variable {α : Type} {enc : α → Value} {h1 : ∀ x, (enc x).oneCell' = true} {e base g cap : Nat} {ok : Nat → Prop} {xs : List α}
end

/-! #### events: a letter for what make and a literal leave -/
section
variable {P : Program} {ops : Array Oper} {rest : List Oper} {o : Oper} {a : Act} {Q : Exit → Act → World → Prop}
variable {α : Type}
end
end Kd
/-! ### 27. Cuts of a row of one's own: 'xs = xs[:n]' stays a row (R_take); 'xs = xs[k:]' is a row that begins inside its block (Kd.Q), append goes on it too -/
section
variable {P : Program}
end
section
variable {w w1 : World} {base n size : Nat} {e : TypeId} {v : Value} {xs : List Value}
end
section
variable {P : Program}
end
/-! ### 28. The kinds' words for cuts: R_take; Q (a row that may begin inside its block) with all of R's movers -/
namespace Kd
section
variable {α : Type} {d : Kd α} {e : Nat} {w w1 W : World} {base : Nat} {ok ok' : Nat → Prop} {v : Value} {xs : List α}
end
section
variable {P : Program} {ops : Array Oper} {rest : List Oper} {o : Oper} {a : Act} {Q' : Exit → Act → World → Prop} {Kc : Act → World → Prop} {α : Type}
end
end Kd
/-! ### 29. Movers that ask of another row no more than they need: for R and for Q -/
namespace Kd
section
variable {α : Type} {d : Kd α} {e e' : Nat} {w w1 W : World} {base : Nat} {ok : Nat → Prop} {u v : Value} {xs : List α}
end
end Kd
/-! ### 30. Elements written: x[i] = T{..}, x[i].f = v, swaps, in a row of elements of any kind -/
namespace Kd
section
variable {α : Type} {d : Kd α} {e base g n cap : Nat} {ok okp : Nat → Prop} {W : World} {xs : List α}
end
end Kd
/-! ### 31. What came in, put into what is made: 'fixed d w0' (read in w0, whatever happens since), 'or_ a b', 'mix' (a slice that came in, or one that is made) -/
namespace Kd
section
variable {α : Type} {F : Kd α → Kd α} {sz : Nat} {E : List Nat} {hs : ∀ n, (upto F sz E n).sz = sz} {hE : ∀ n q, q ∈ (upto F sz E n).E → q ∈ E}
end
end Kd
/-! ### 32. A whole row appended, of elements of any kind; copy onto a row of scalars of one's own -/
namespace Kd
section
variable {P : Program} {ops : Array Oper} {rest : List Oper} {o : Oper} {a : Act} {Q : Exit → Act → World → Prop} {α : Type}
end
end Kd
/-! ### 33. A store into a row of one's own, as_ an event: no go_simp -/
namespace Kd
section
variable {P : Program} {ops : Array Oper} {rest : List Oper} {o : Oper} {a : Act} {Q : Exit → Act → World → Prop} {α : Type}
end
end Kd
/-! ### 34. Cuts that are only read, of any row -/
namespace Kd
section
variable {α : Type} {k : Kd α} {w : World} {A : Option Addr} {xs : List α} {m c : Nat}
end
end Kd
section
variable {P : Program}
end
/-! ### 35. string(b), b read (a cut too) -/
/-! ### 6. What the printer adds -/
namespace Kd
section
variable {α β : Type} {d : Kd α} {d' : Kd β} {e e' base base' n : Nat} {ok ok' : Nat → Prop} {w W w1 W1 : World} {v u : Value} {xs : List α} {ys : List β} {A : Option Addr} {c : Nat}
end
section
variable {α : Type} {enc : α → Value} {h1 : ∀ x, (enc x).oneCell' = true} {w W : World} {A : Option Addr} {n g : Nat} {xs : List α}
end
end Kd
namespace Kd
section
variable {α : Type} {d : Kd α} {e base g : Nat} {ok : Nat → Prop} {w w1 : World} {v : Value} {xs : List α} {o : Obj}
theorem R_elderB (h : d.R e w base ok v xs) (a : Nat) (ha : w.heap.size ≤ a) : d.R e w base (fun k => ok k ∧ k ≠ a) v xs := R_mono (R_bound h) (fun k hk => ⟨hk.1, by have := hk.2.2.1; omega⟩)
end
end Kd
section
variable {P : Program} {ops : Array Oper} {rest : List Oper} {o : Oper} {a : Act} {Q : Exit → Act → World → Prop}
end
namespace Kd
section
variable {α : Type} {enc : α → Value} {h1 : ∀ x, (enc x).oneCell' = true} {e base g n cap : Nat} {ok : Nat → Prop} {W : World} {xs : List α}
end
end Kd
section
variable {P : Program} {ops : Array Oper} {rest : List Oper} {o : Oper} {a : Act} {Q : Exit → Act → World → Prop}
end
namespace Kd
section
variable {α : Type} {enc : α → Value} {h1 : ∀ x, (enc x).oneCell' = true} {e base g n cap : Nat} {ok : Nat → Prop} {W : World} {xs : List α}
end
end Kd
section
variable {P : Program} {ops : Array Oper} {rest : List Oper} {o : Oper} {a : Act} {Q : Exit → Act → World → Prop} {W : World}
end
/-! ### 36. Events as_ one step of a region that draws (for one_, two_, three_) -/
section
variable {P : Program} {ops : Array Oper} {o : Oper} {a : Act} {Q : Exit → Act → World → Prop} {Kc : Act → World → Prop}
namespace Kd
variable {α : Type}
end Kd
end
/-! ### 37. Results of any shape -/
section
variable {P : Program} {tmps : Array Value} {w : World}
end
/-! ### 38. 'out = append(out[:k], out[k+1:]...)': an element taken out of a row of one's own, in place -/
namespace Kd
section
variable {P : Program} {α : Type}
end
section
variable {P : Program} {ops : Array Oper} {rest : List Oper} {o : Oper} {a : Act} {Q : Exit → Act → World → Prop} {Kc : Act → World → Prop} {α : Type}
end
end Kd

end Go.Proofs.YteaealmnmmcbpaaW.PrintWords

/-
  Plain lemmas on Go's whole numbers (wraps, bit operations, shifts), without any program. No condition.
-/
namespace Go.Proofs.Yteaealmnmmcbpaa.Num
open Go.RowKit Go.Proofs.YteaealmnmmcbpaaW.PrintWords

theorem wrap_u64 (n : Int) : IntKind.u64.wrap n = n % 18446744073709551616 := by simp [IntKind.wrap, IntKind.bits, IntKind.signed]
end Go.Proofs.Yteaealmnmmcbpaa.Num

/-
  Plain lemmas: numbers in groups of seven bits, numbers as bytes, texts made of numbers; no program in sight. No condition.
-/
namespace Go.Proofs.Yteaealmnmmcbpaa.Seven
open Go.RowKit Go.Proofs.Yteaealmnmmcbpaa.Num Go.Proofs.YteaealmnmmcbpaaW.PrintWords

theorem str_bytesOf (s : ByteArray) : strOfNums (bytesOf s) = s := by
  have h : (strOfNums (bytesOf s)).data.toList = s.data.toList := by
    rw [strOfNums_data, bytesOf, List.map_map]
    conv => rhs; rw [← List.map_id s.data.toList]
    refine List.map_congr_left fun x _ => ?_
    simp
  have h2 : (strOfNums (bytesOf s)).data = s.data := Array.toList_inj.1 h
  cases s
  cases hs : strOfNums (bytesOf _)
  rw [hs] at h2
  simp only at h2
  rw [h2]

theorem bytesOf_inj {s t : ByteArray} (h : bytesOf s = bytesOf t) : s = t := by
  rw [← str_bytesOf s, h, str_bytesOf]

theorem bt_drop (s : ByteArray) (j : Nat) (h : j < s.size) : (bytesOf s).drop j = bt s j :: (bytesOf s).drop (j + 1) := by
  have hl : j < (bytesOf s).length := by rw [bytesOf_length]; exact h
  rw [List.drop_eq_getElem_cons hl, ← rd_bytesOf]
  unfold rd
  rw [Int.toNat_natCast, List.getD_eq_getElem?_getD, List.getElem?_eq_getElem hl]
  rfl

/-! ### groups of seven bits -/
/-! ### numbers as bytes, the lowest first -/
def unleL : List Int → Int
  | [] => 0
  | b :: r => b + 256 * unleL r

theorem pow256_pos (s : Nat) : (0 : Int) < 256 ^ s := by
  have h1 : 0 < 256 ^ s := Nat.pow_pos (by decide)
  have h2 : ((256 ^ s : Nat) : Int) = (256 : Int) ^ s := by simp
  omega
theorem unleL_leL (n : Int) (s : Nat) : unleL (leL n s) = n % 256 ^ s := by
  induction s generalizing n with
  | zero => simp [leL, unleL, Int.emod_one]
  | succ s ih =>
    simp only [leL, unleL, ih]
    have hp := pow256_pos s
    have h := Int.emod_emod_of_dvd
    rw [Int.pow_succ', Int.emod_def n (256 * 256 ^ s), Int.emod_def (n / 256) (256 ^ s), Int.ediv_ediv_of_nonneg (by decide), Int.mul_sub, ← Int.mul_assoc]
    have := Int.emod_add_mul_ediv n 256
    omega
theorem unleL_range (l : List Int) (h : Bs l) : 0 ≤ unleL l ∧ unleL l < 256 ^ l.length := by
  induction l with
  | nil => simp [unleL]
  | cons b r ih =>
    have hb := h b (by simp)
    obtain ⟨h1, h2⟩ := ih (fun x hx => h x (List.mem_cons_of_mem _ hx))
    simp only [unleL, List.length_cons, Int.pow_succ']
    omega
theorem unleL_snoc (l : List Int) (b : Int) : unleL (l ++ [b]) = unleL l + b * 256 ^ l.length := by
  induction l with
  | nil => simp [unleL]
  | cons c r ih =>
    simp only [List.cons_append, unleL, ih, List.length_cons, Int.pow_succ', Int.mul_add]
    rw [Int.mul_left_comm b 256]
    omega

end Go.Proofs.Yteaealmnmmcbpaa.Seven

-- Written by a program of this session (wip/ownprint.py) over the translation. Lean checks it.
namespace Go.Proofs.Yteaealmnmmcbpaa.M
open Go.RowKit Go.Proofs.YteaealmnmmcbpaaW.PrintWords Go.Proofs.YteaealmnmmcbpaaW.PrintLast
set_option linter.unusedVariables false
set_option linter.unusedSimpArgs false

/-! ### cotterref06_Copy: function 19 -/
/-! ### cotterref01_sized: function 32 -/
def cotterref01_sized.f (a0 : Int) : Option (Bool) := if a0 = 1 then (some true) else (if a0 = 4 then (some true) else (some (a0 == 8)))
set_option maxHeartbeats 8000000 in
set_option maxRecDepth 100000 in
theorem cotterref01_sized.calls (a0 : Int) (r : Bool) (w : World) (h : cotterref01_sized.f a0 = some r) :
    Calls Try.prog 32 #[.int .i64 a0] w fun e w' => e = .returned (.bool r) ∧ Drawn0 w w' := by
  have H : (if a0 = 1 then (some true) else (if a0 = 4 then (some true) else (some (a0 == 8)))) = some r := h
  clear h
  by_cases c2 : a0 = 1
  · rw [if_pos c2] at H
    have c2b0 : (a0 == 1) = true := beq_iff_eq.mpr c2
    have c2b1 : (a0 != 1) = false := bne_eq_false_iff_eq.mpr c2
    clear c2
    obtain rfl := Option.some.inj H
    go_enter Try.func32, Try.ntmps32
    go_wp2
    go_ret
    exact ⟨by first | rfl | (simp; done) | (simp [*]; done), by repeat (first | exact Drawn0.refl _ | apply Drawn0.step)⟩
  · rw [if_neg c2] at H
    have c2b0 : (a0 == 1) = false := beq_eq_false_iff_ne.mpr c2
    have c2b1 : (a0 != 1) = true := bne_iff_ne.mpr c2
    by_cases c3 : a0 = 4
    · rw [if_pos c3] at H
      have c3b0 : (a0 == 4) = true := beq_iff_eq.mpr c3
      have c3b1 : (a0 != 4) = false := bne_eq_false_iff_eq.mpr c3
      clear c3
      obtain rfl := Option.some.inj H
      go_enter Try.func32, Try.ntmps32
      go_wp2
      go_ret
      exact ⟨by first | rfl | (simp; done) | (simp [*]; done), by repeat (first | exact Drawn0.refl _ | apply Drawn0.step)⟩
    · rw [if_neg c3] at H
      have c3b0 : (a0 == 4) = false := beq_eq_false_iff_ne.mpr c3
      have c3b1 : (a0 != 4) = true := bne_iff_ne.mpr c3
      obtain rfl := Option.some.inj H
      go_enter Try.func32, Try.ntmps32
      go_wp2
      go_ret
      exact ⟨by first | rfl | (simp; done) | (simp [*]; done), by repeat (first | exact Drawn0.refl _ | apply Drawn0.step)⟩

/-! ### cotterref01_Bytes: function 31 -/
end Go.Proofs.Yteaealmnmmcbpaa.M

-- Written by a program of this session (wip/ownprint.py) over the translation. Lean checks it.
namespace Go.Proofs.Yteaealmnmmcbpaa.M
open Go.RowKit Go.Proofs.YteaealmnmmcbpaaW.PrintWords Go.Proofs.YteaealmnmmcbpaaW.PrintLast
set_option linter.unusedVariables false
set_option linter.unusedSimpArgs false

/-! ### cotterref01_Number: function 17 -/
def cotterref01_Number.l0 : Nat → ByteArray → Int → Int → Option (Int × Int)
  | 0, _, _, _ => none
  | k + 1, x0, x4, x5 => if x5 ≥ 0 then (if 0 ≤ x5 then (if x5 < (x0.size : Int) then (cotterref01_Number.l0 k x0 (IntKind.u64.wrap ((IntKind.u64.wrap (x4 * 256)) + (IntKind.u64.wrap (bt x0 x5)))) (wrap64 (x5 - 1))) else (none)) else (none)) else (if (x0.size : Int) < 8 then (if 0 ≤ (wrap64 ((x0.size : Int) - 1)) then (if (wrap64 ((x0.size : Int) - 1)) < (x0.size : Int) then (if (bt x0 (wrap64 ((x0.size : Int) - 1))) ≥ 128 then (if 0 ≤ (IntKind.u64.wrap (wrap64 (8 * (x0.size : Int)))) then (some (wrap64 (IntKind.u64.wrap (x4 - (shl .u64 1 (IntKind.u64.wrap (wrap64 (8 * (x0.size : Int))))))), 0)) else (none)) else (some (wrap64 (x4), 0))) else (none)) else (none)) else (some (wrap64 (x4), 0)))
def cotterref01_Number.f (k : Nat) (a0 : ByteArray) : Option (Int × Int) := (cotterref01_sized.f (a0.size : Int)).bind fun t172 => (if t172 = true then (cotterref01_Number.l0 k a0 0 (wrap64 ((a0.size : Int) - 1))) else (some (0, 1)))
set_option maxHeartbeats 8000000 in
set_option maxRecDepth 100000 in
theorem cotterref01_Number.calls (k : Nat) (a0 : ByteArray) (r1 : Int) (r2 : Int) (w : World) (h : cotterref01_Number.f k a0 = some (r1, r2)) :
    Calls Try.prog 17 #[.string a0] w fun e w' => e = .returned (.tuple #[.int .i64 r1, .int .i64 r2]) ∧ Drawn0 w w' := by
  have H : ((cotterref01_sized.f (a0.size : Int)).bind fun t172 => (if t172 = true then (cotterref01_Number.l0 k a0 0 (wrap64 ((a0.size : Int) - 1))) else (some (0, 1)))) = some (r1, r2) := h
  clear h
  replace H := Option.bind_eq_some_iff.mp H
  obtain ⟨t172, A20, H⟩ := H
  replace H : (if t172 = true then (cotterref01_Number.l0 k a0 0 (wrap64 ((a0.size : Int) - 1))) else (some (0, 1))) = some (r1, r2) := H
  have A2 := Aside0.mk A20
  clear A20
  by_cases c3 : t172 = true
  · subst c3
    have H1 : (cotterref01_Number.l0 k a0 0 (wrap64 ((a0.size : Int) - 1))) = some (r1, r2) := by rw [if_pos rfl] at H; exact H
    clear H
    have H := H1
    clear H1
    have H' := Aside0.mk H
    clear H
    go_enter Try.func17, Try.ntmps17
    go_wp2_with (first | ((with_reducible refine gate_callee (f := 32) rfl ?_); refine goesL_ (some 8) rfl rfl Try.func32 (by kernel_rfl) rfl #[.int .i64 (a0.size : Int)] rfl (by (try simp only [List.map_toArray, List.map_cons, List.map_nil]); first | done | rfl | (simp only [List.length_drop, List.length_take]; rfl)) ?_; (with_reducible refine (cotterref01_sized.calls (a0.size : Int) true _ A2.out).mono ?_); rintro e w' ⟨rfl, ⟨nd, rfl⟩⟩; refine ⟨_, rfl, ?_⟩))
    go_loopg [4, 5] k (fun kq v4 v5 w' => ∃ (x4_1 : Int) (x5_1 : Int), v4 = .int .u64 x4_1 ∧ v5 = .int .i64 x5_1 ∧ Aside0 (cotterref01_Number.l0 kq a0 x4_1 x5_1 = some (r1, r2)) ∧ Aside0 (kq ≤ k) ∧ Drawn0 w w')
    case atStart => exact ⟨(0), (wrap64 ((a0.size : Int) - 1)), (by first | rfl | (simp; done) | (simp [*]; done)), (by first | rfl | (simp; done) | (simp [*]; done)), H', ⟨Nat.le_refl _⟩, by repeat (first | exact Drawn0.refl _ | apply Drawn0.step)⟩
    case round =>
      clear H'
      try clear c1
      try clear p2
      try clear c3
      obtain ⟨x4_1, x5_1, rfl, rfl, HA, HK1, ⟨m1, rfl⟩⟩ := hrel
      cases gk with
      | zero => exact absurd HA.out (by simp [cotterref01_Number.l0])
      | succ k1 =>
        have H := HA.out
        clear HA
        simp only [cotterref01_Number.l0] at H
        by_cases c4 : x5_1 ≥ 0
        · rw [if_pos c4] at H
          have c4b0 : decide (0 ≤ x5_1) = true := decide_eq_true c4
          clear c4
          by_cases c5 : 0 ≤ x5_1
          · rw [if_pos c5] at H
            have c5b0 : decide (0 ≤ x5_1) = true := decide_eq_true c5
            clear c5
            by_cases c6 : x5_1 < (a0.size : Int)
            · rw [if_pos c6] at H
              have c6b0 : decide (x5_1 < (a0.size : Int)) = true := decide_eq_true c6
              clear c6
              have H' := Aside0.mk H
              clear H
              have p7 : 0 ≤ (x5_1 : Int) := of_decide_eq_true (by first | (with_reducible assumption) | assumption)
              have q7 : x5_1 < (a0.size : Int) := of_decide_eq_true (by first | (with_reducible assumption) | assumption)
              have hx7 := bt_at a0 x5_1
              replace p7 := eq_true p7
              replace q7 := eq_true q7
              go_wp2
              go_roundg k1
              case measure => have := HK1.out; omega
              case rel => exact ⟨(IntKind.u64.wrap ((IntKind.u64.wrap (x4_1 * 256)) + (IntKind.u64.wrap (bt a0 x5_1)))), (wrap64 (x5_1 - 1)), (by first | rfl | (simp; done) | (simp [*]; done)), (by first | rfl | (simp; done) | (simp [*]; done)), H', ⟨by have := HK1.out; omega⟩, by repeat (first | exact Drawn0.refl _ | apply Drawn0.step)⟩
            · rw [if_neg c6] at H
              exact absurd H (by simp)
          · rw [if_neg c5] at H
            exact absurd H (by simp)
        · rw [if_neg c4] at H
          have c4b0 : decide (0 ≤ x5_1) = false := decide_eq_false c4
          clear c4
          by_cases c8 : (a0.size : Int) < 8
          · rw [if_pos c8] at H
            have c8b0 : decide ((a0.size : Int) < 8) = true := decide_eq_true c8
            have c8b1 : decide (a0.size < 8) = true := decide_eq_true (by omega)
            clear c8
            obtain ⟨ji9, hji9⟩ : ∃ j_ : Int, (wrap64 ((a0.size : Int) - 1)) = j_ := ⟨_, rfl⟩
            replace H : (if 0 ≤ (ji9) then (if (ji9) < (a0.size : Int) then (if (bt a0 (ji9)) ≥ 128 then (if 0 ≤ (IntKind.u64.wrap (wrap64 (8 * (a0.size : Int)))) then (some (wrap64 (IntKind.u64.wrap (x4_1 - (shl .u64 1 (IntKind.u64.wrap (wrap64 (8 * (a0.size : Int))))))), 0)) else (none)) else (some (wrap64 (x4_1), 0))) else (none)) else (none)) = some (r1, r2) := by first | (rw [hji9] at H; exact H) | (simp only [hji9] at H ⊢; exact H)
            have hji9w : (IntKind.i64.wrap ((a0.size : Int) - 1)) = ji9 := (i64_w _).trans hji9
            by_cases c10 : 0 ≤ (ji9)
            · rw [if_pos c10] at H
              have c10b0 : decide (0 ≤ (ji9)) = true := decide_eq_true c10
              clear c10
              by_cases c11 : (ji9) < (a0.size : Int)
              · rw [if_pos c11] at H
                have c11b0 : decide ((ji9) < (a0.size : Int)) = true := decide_eq_true c11
                clear c11
                by_cases c13 : (bt a0 (ji9)) ≥ 128
                · rw [if_pos c13] at H
                  have c13b0 : decide (128 ≤ (bt a0 (ji9))) = true := decide_eq_true c13
                  clear c13
                  obtain ⟨ji14, hji14⟩ : ∃ j_ : Int, (IntKind.u64.wrap (wrap64 (8 * (a0.size : Int)))) = j_ := ⟨_, rfl⟩
                  replace H : (if 0 ≤ (ji14) then (some (wrap64 (IntKind.u64.wrap (x4_1 - (shl .u64 1 (ji14)))), 0)) else (none)) = some (r1, r2) := by first | (rw [hji14] at H; exact H) | (simp only [hji14] at H ⊢; exact H)
                  by_cases c15 : 0 ≤ (ji14)
                  · rw [if_pos c15] at H
                    have c15b0 := eq_true c15
                    have c15b1 : decide (0 ≤ (ji14)) = true := decide_eq_true c15
                    clear c15
                    obtain ⟨ji16, hji16⟩ : ∃ j_ : Int, (shl .u64 1 (ji14)) = j_ := ⟨_, rfl⟩
                    replace H : (some (wrap64 (IntKind.u64.wrap (x4_1 - (ji16))), 0)) = some (r1, r2) := by first | (rw [hji16] at H; exact H) | (simp only [hji16] at H ⊢; exact H)
                    have hji16_ : (IntKind.u64.wrap (1 * 2 ^ min (ji14).toNat 64)) = ji16 := hji16
                    have hji16z : (ji14) ≤ 64 → (IntKind.u64.wrap (1 * 2 ^ (ji14).toNat)) = ji16 := shl_small hji16
                    have hji16u : (IntKind.u64.wrap (2 ^ min (ji14).toNat 64)) = ji16 := by have h_ := hji16_; rw [Int.one_mul] at h_; exact h_
                    have hji16v : (ji14) ≤ 64 → (IntKind.u64.wrap (2 ^ (ji14).toNat)) = ji16 := fun hle_ => by have h_ := hji16z hle_; rw [Int.one_mul] at h_; exact h_
                    simp only [Option.some.injEq, Prod.mk.injEq] at H
                    obtain ⟨rfl, rfl⟩ := H
                    have p12 : 0 ≤ ((ji9) : Int) := of_decide_eq_true (by first | (with_reducible assumption) | assumption)
                    have q12 : (ji9) < (a0.size : Int) := of_decide_eq_true (by first | (with_reducible assumption) | assumption)
                    have hx12 := bt_at a0 (ji9)
                    replace p12 := eq_true p12
                    replace q12 := eq_true q12
                    go_wp2
                    go_ret2
                    exact ⟨by first | rfl | (simp; done) | (simp only [← hji9, ← hji14, ← hji16] <;> (first | rfl | simp)) | (simp [*]; done), by repeat (first | exact Drawn0.refl _ | apply Drawn0.step)⟩
                  · rw [if_neg c15] at H
                    exact absurd H (by simp)
                · rw [if_neg c13] at H
                  have c13b0 : decide (128 ≤ (bt a0 (ji9))) = false := decide_eq_false c13
                  clear c13
                  simp only [Option.some.injEq, Prod.mk.injEq] at H
                  obtain ⟨rfl, rfl⟩ := H
                  have p12 : 0 ≤ ((ji9) : Int) := of_decide_eq_true (by first | (with_reducible assumption) | assumption)
                  have q12 : (ji9) < (a0.size : Int) := of_decide_eq_true (by first | (with_reducible assumption) | assumption)
                  have hx12 := bt_at a0 (ji9)
                  replace p12 := eq_true p12
                  replace q12 := eq_true q12
                  go_wp2
                  go_ret2
                  exact ⟨by first | rfl | (simp; done) | (simp only [← hji9] <;> (first | rfl | simp)) | (simp [*]; done), by repeat (first | exact Drawn0.refl _ | apply Drawn0.step)⟩
              · rw [if_neg c11] at H
                exact absurd H (by simp)
            · rw [if_neg c10] at H
              exact absurd H (by simp)
          · rw [if_neg c8] at H
            have c8b0 : decide ((a0.size : Int) < 8) = false := decide_eq_false c8
            have c8b1 : decide (a0.size < 8) = false := decide_eq_false (by omega)
            clear c8
            simp only [Option.some.injEq, Prod.mk.injEq] at H
            obtain ⟨rfl, rfl⟩ := H
            go_wp2
            go_ret2
            exact ⟨by first | rfl | (simp; done) | (simp [*]; done), by repeat (first | exact Drawn0.refl _ | apply Drawn0.step)⟩
  · replace c3 := Bool.eq_false_iff.mpr c3
    subst c3
    have H1 : (some (0, 1)) = some (r1, r2) := by rw [if_neg (show ¬ (false = true) by decide)] at H; exact H
    clear H
    have H := H1
    clear H1
    simp only [Option.some.injEq, Prod.mk.injEq] at H
    obtain ⟨rfl, rfl⟩ := H
    go_enter Try.func17, Try.ntmps17
    go_wp2_with (first | ((with_reducible refine gate_callee (f := 32) rfl ?_); refine goesL_ (some 8) rfl rfl Try.func32 (by kernel_rfl) rfl #[.int .i64 (a0.size : Int)] rfl (by (try simp only [List.map_toArray, List.map_cons, List.map_nil]); first | done | rfl | (simp only [List.length_drop, List.length_take]; rfl)) ?_; (with_reducible refine (cotterref01_sized.calls (a0.size : Int) false _ A2.out).mono ?_); rintro e w' ⟨rfl, ⟨nd, rfl⟩⟩; refine ⟨_, rfl, ?_⟩))
    go_ret2
    exact ⟨by first | rfl | (simp; done) | (simp [*]; done), by repeat (first | exact Drawn0.refl _ | apply Drawn0.step)⟩

/-! ### word_Bytes: function 35 -/
end Go.Proofs.Yteaealmnmmcbpaa.M

/-
  What word.Bytes and word.Number answer, said by plain functions. Conditions: a number of 64 bits with a sign; a text of at most 2^47 bytes.
-/
namespace Go.Proofs.Yteaealmnmmcbpaa.Word1
open Go.RowKit Go.Proofs.Yteaealmnmmcbpaa.M Go.Proofs.Yteaealmnmmcbpaa.Num Go.Proofs.Yteaealmnmmcbpaa.Seven Go.Proofs.YteaealmnmmcbpaaW.PrintWords Go.Proofs.YteaealmnmmcbpaaW.PrintLast

/-- What Number answers. -/
def numR (s : ByteArray) : Int × Int :=
  if s.size = 1 then ((unleL (bytesOf s) + 128) % 256 - 128, 0)
  else if s.size = 4 then ((unleL (bytesOf s) + 2147483648) % 4294967296 - 2147483648, 0)
  else if s.size = 8 then (wrap64 (unleL (bytesOf s)), 0)
  else (0, 1)

theorem take_snoc_bytes (s : ByteArray) (i : Nat) (h : i < s.size) : (bytesOf s).take (i + 1) = (bytesOf s).take i ++ [bt s i] := by
  have hl : i < (bytesOf s).length := by rw [bytesOf_length]; exact h
  rw [List.take_succ_eq_append_getElem hl, ← rd_bytesOf]
  unfold rd
  rw [Int.toNat_natCast, List.getD_eq_getElem?_getD, List.getElem?_eq_getElem hl]
  rfl

/-- Number turns Bytes back. -/
theorem num_bytes (n size : Int) (h0 : -9223372036854775808 ≤ n) (h1 : n < 9223372036854775808) (h : Fits n size) : numR (bytesR n size).1 = (n, 0) := by
  unfold bytesR
  have hz : size = 1 ∨ size = 4 ∨ size = 8 := by unfold Fits at h; omega
  rw [if_pos hz, if_pos h]
  simp only [numR, strOfNums_size, leL_len]
  rw [bytesOf_str (leL_bs _ _), unleL_leL]
  rcases h with ⟨rfl, h⟩ | ⟨rfl, h⟩ | rfl
  · rw [if_pos (by omega)]
    have e : (1 : Int).toNat = 1 := rfl
    rw [e]
    congr 1
    omega
  · rw [if_neg (by omega), if_pos (by omega)]
    have e : (4 : Int).toNat = 4 := rfl
    rw [e]
    congr 1
    omega
  · rw [if_neg (by omega), if_neg (by omega), if_pos (by omega)]
    have e : (8 : Int).toNat = 8 := rfl
    rw [e]
    unfold wrap64
    congr 1
    omega

end Go.Proofs.Yteaealmnmmcbpaa.Word1

/-
  Layer 7: plain facts of what a link gives (linkF). No condition.
-/
namespace Go.Proofs.Yteaealmnmmcbpaa.M
open Go.RowKit Go.Proofs.YteaealmnmmcbpaaW.PrintWords Go.Proofs.YteaealmnmmcbpaaW.PrintLast Go.Proofs.Yteaealmnmmcbpaa.Num Go.Proofs.Yteaealmnmmcbpaa.Seven Go.Proofs.Yteaealmnmmcbpaa.Obj
set_option linter.unusedVariables false
set_option linter.unusedSimpArgs false
/-! ### Some bytes stored -/
theorem pokes_at : ∀ (us code : List Int) (a : Nat), a + us.length ≤ code.length → ((pokes code a us).drop a).take us.length = us
  | [], _, _, _ => by simp
  | u :: us, code, a, h => by
    simp only [List.length_cons] at h
    rw [pokes]
    have hl : a < (pokes (code.set a u) (a + 1) us).length := by rw [pokes_length, List.length_set]; omega
    rw [List.drop_eq_getElem_cons hl, List.length_cons, List.take_succ_cons, pokes_at us (code.set a u) (a + 1) (by rw [List.length_set]; omega)]
    have h1 := pokes_far us (code.set a u) (a + 1) a (by omega)
    rw [List.getElem?_eq_getElem hl, List.getElem?_set_self (by omega)] at h1
    rw [Option.some.inj h1]
/-! ### All places filled in -/
theorem fillAll_at {l : List S36} : ∀ (qs : List (Nat × S45)) (code c : List Int), fillAll l code qs = some c → Places qs → (∀ q ∈ qs, q.1 + 4 ≤ code.length) →
    ∀ q ∈ qs, (c.drop q.1).take 4 = leL (fillN l q.1 q.2) 4 ∧ (q.2.f1 = 2 → 0 ≤ fillN l q.1 q.2 ∧ fillN l q.1 q.2 ≤ 2147483647)
  | [], _, _, _, _, _, q, hq => by cases hq
  | x :: qs, code, c, h, hp, hl, q, hq => by
    unfold fillAll at h
    obtain ⟨d, hd, h⟩ := Option.bind_eq_some_iff.1 h
    obtain ⟨rfl, hx⟩ := fillF_yes hd
    obtain ⟨hp1, hp2⟩ := List.pairwise_cons.1 hp
    rcases List.mem_cons.1 hq with rfl | hq
    · refine ⟨?_, hx⟩
      have hlen := hl q (by simp)
      have h4 := pokes_at (leL (fillN l q.1 q.2) 4) code q.1 (by rw [leL_len]; exact hlen)
      rw [leL_len] at h4
      rw [← h4]
      have hcl := (fillAll_len _ _ _ h).trans (pokes_length _ _ _)
      refine List.ext_getElem? fun i => ?_
      by_cases hi : i < 4
      · rw [List.getElem?_take_of_lt hi, List.getElem?_take_of_lt hi, List.getElem?_drop, List.getElem?_drop]
        exact (fillAll_far qs _ c h (fun z hz => .inl (by have := hp1 z hz; omega))).1
      · rw [List.getElem?_eq_none (by simp; omega), List.getElem?_eq_none (by simp; omega)]
    · exact fillAll_at qs _ c h hp2 (fun z hz => by rw [pokes_length]; exact hl z (by simp [hz])) q hq
/-! ### Where relocations lie -/
theorem relsAt_places : ∀ (os : List S40) (p : Nat), (∀ o ∈ os, mayO o = true) → Places (relsAt p os)
  | [], _, _ => List.Pairwise.nil
  | o :: os, p, h => by
    rw [relsAt]
    refine List.pairwise_append.2 ⟨(rels_places p o.f3 _ 0 (by omega) (may_rels (h o (by simp)))).1, relsAt_places os _ (fun o ho => h o (by simp [ho])), fun a ha b hb => ?_⟩
    obtain ⟨r, hr, rfl⟩ := List.mem_map.1 ha
    have h1 := (rels_places p o.f3 _ 0 (by omega) (may_rels (h o (by simp)))).2 r hr
    have h2 := relsAt_range os (p + o.f0.size) (fun o ho => h o (by simp [ho])) b hb
    dsimp only
    omega
theorem relsAt_mem {l0 : List S40} {i : Nat} (hi : i < l0.length) {r : S45} (hr : r ∈ (l0[i]).f3) : (codeLen (l0.take i) + r.f0.toNat, r) ∈ relsAt 0 l0 := by
  have e : relsAt 0 l0 = relsAt 0 (l0.take i) ++ relsAt (0 + codeLen (l0.take i)) (l0.drop i) := by rw [← relsAt_append, List.take_append_drop]
  rw [e, relsAt_drop hi, Nat.zero_add]
  exact List.mem_append_right _ (List.mem_append_left _ (List.mem_map.2 ⟨r, hr, rfl⟩))
/-! ### What is laid -/
theorem laySyms_nodup : ∀ (ss : List S36) (x y : LkS), laySyms x ss = some y → (x.syms.map (·.f0)).Nodup → (y.syms.map (·.f0)).Nodup
  | [], x, y, h, hn => by obtain rfl := Option.some.inj h; exact hn
  | s :: ss, x, y, h, hn => by
    unfold laySyms at h
    split at h
    · cases h
    · rename_i hany
      refine laySyms_nodup ss _ y h ?_
      dsimp only
      rw [List.map_append]
      refine List.nodup_append.2 ⟨hn, by simp, fun a ha b hb e => ?_⟩
      obtain ⟨t, ht, rfl⟩ := List.mem_map.1 ha
      simp only [List.map_cons, List.map_nil, List.mem_singleton] at hb
      subst hb
      apply hany
      rw [List.any_eq_true]
      exact ⟨t, ht, decide_eq_true e⟩
theorem layAll_nodup : ∀ (os : List S40) (x y : LkS), layAll x os = some y → (x.syms.map (·.f0)).Nodup → (y.syms.map (·.f0)).Nodup
  | [], x, y, h, hn => by obtain rfl := Option.some.inj h; exact hn
  | o :: os, x, y, h, hn => by
    unfold layAll at h
    obtain ⟨z, hz, h⟩ := Option.bind_eq_some_iff.1 h
    unfold layO at hz
    obtain ⟨u, hu, rfl⟩ := Option.map_eq_some_iff.1 hz
    have := laySyms_nodup _ _ _ hu hn
    exact layAll_nodup os _ y h this
theorem fitsAll_yes {l : List S36} : ∀ {rs : List S45}, fitsAll l rs = 0 → ∀ r ∈ rs, ∃ s, (l.find? fun s => decide (s.f0 = r.f2)) = some s ∧ (s.f1 = 2 ↔ r.f1 = 2)
  | [], _, r, hr => by cases hr
  | x :: rs, h, r, hr => by
    unfold fitsAll at h
    split at h
    · rename_i hx
      rcases List.mem_cons.1 hr with rfl | hr
      · unfold fitsF at hx
        split at hx
        · cases hx
        · rename_i s hs
          refine ⟨s, hs, ?_⟩
          split at hx
          · rename_i e
            exact decide_eq_decide.1 e
          · cases hx
      · exact fitsAll_yes h r hr
    · rename_i hx
      exact absurd h hx
namespace Goes
variable {l0 : List S40} {x : LkS} {c : List Int}
theorem nodup (G : Goes l0 x c) : (x.syms.map (·.f0)).Nodup := layAll_nodup l0 _ _ G.lay (by simp [LkS.empty])
theorem inv (G : Goes l0 x c) : Inv l0.length x := by
  have key : ∀ (os : List S40) (k : Nat) (y z : LkS), (∀ o ∈ os, mayO o = true) → Inv k y → layAll y os = some z → Inv (k + os.length) z := by
    intro os
    induction os with
    | nil => intro k y z _ h hz; obtain rfl := Option.some.inj hz; simpa using h
    | cons o os ih =>
      intro k y z hm h hz
      unfold layAll at hz
      obtain ⟨u, hu, hz⟩ := Option.bind_eq_some_iff.1 hz
      have := ih (k + 1) u z (fun o ho => hm o (by simp [ho])) (layO_inv h (hm o (by simp)) hu) hz
      rw [List.length_cons, show k + (os.length + 1) = k + 1 + os.length by omega]
      exact this
  have := key l0 0 _ _ G.may inv_empty G.lay
  rwa [Nat.zero_add] at this
/-- What stands where a relocation lies. -/
theorem at_rel (G : Goes l0 x c) {i : Nat} (hi : i < l0.length) {r : S45} (hr : r ∈ (l0[i]).f3) :
    ∃ m, ∃ hm : m < x.syms.length, (x.syms[m]).f0 = r.f2 ∧ 0 ≤ (x.syms[m]).f2 ∧ (x.syms[m]).f2 ≤ 1048576 ∧ 0 ≤ r.f0 ∧ r.f0 + 4 ≤ ((l0[i]).f0.size : Int) ∧ -2147483648 ≤ r.f3 ∧ r.f3 ≤ 2147483647 ∧
      ∃ n : Int, (c.drop (codeLen (l0.take i) + r.f0.toNat)).take 4 = leL n 4 ∧ -2147483648 ≤ n ∧ n ≤ 2147483647 ∧
        ((r.f1 = 1 ∧ n = (x.syms[m]).f2 - ((codeLen (l0.take i) + r.f0.toNat : Nat) : Int) - 4) ∨ (r.f1 = 2 ∧ n = 1048576 + 8 * (x.syms[m]).f2 + r.f3)) := by
  have hmay := G.may _ (List.getElem_mem hi)
  have hro := relsOk_all _ _ 0 (by omega) (may_rels hmay) r hr
  obtain ⟨s, hs, hk⟩ := fitsAll_yes G.fits r (List.mem_flatMap.2 ⟨_, List.getElem_mem hi, hr⟩)
  obtain ⟨m, hm, rfl⟩ := List.mem_iff_getElem.1 (List.mem_of_find?_eq_some hs)
  have hname : (x.syms[m]).f0 = r.f2 := by have := List.find?_some hs; exact of_decide_eq_true this
  have hinv := G.inv.2.2.2.2.2.2.2 _ (List.getElem_mem hm)
  have hfew := G.few
  have hmem := relsAt_mem hi hr
  have hlen : x.code.length = codeLen l0 := by rw [G.code, codeAll_length]
  have hat := fillAll_at _ _ _ G.fill (relsAt_places l0 0 G.may) (fun q hq => by
    have := relsAt_range l0 0 G.may q hq
    omega) _ hmem
  dsimp only at hat
  have hn : fillN x.syms (codeLen (l0.take i) + r.f0.toNat) r = if r.f1 = 2 then 1048576 + 8 * (x.syms[m]).f2 + r.f3 else (x.syms[m]).f2 - ((codeLen (l0.take i) + r.f0.toNat : Nat) : Int) - 4 := by
    unfold fillN
    rw [hs]
    rfl
  have hrange := relsAt_range l0 0 G.may _ hmem
  have hroom := G.room
  dsimp only at hrange
  refine ⟨m, hm, hname, hinv.1, by omega, hro.2.1, by omega, hro.2.2.2.2.1, hro.2.2.2.2.2, _, hat.1, ?_⟩
  rw [hn] at hat ⊢
  split at hat
  · rename_i e
    have := hat.2 e
    rw [if_pos e]
    exact ⟨by omega, by omega, .inr ⟨e, rfl⟩⟩
  · rename_i e
    rw [if_neg e]
    exact ⟨by omega, by omega, .inl ⟨by omega, rfl⟩⟩
end Goes
end Go.Proofs.Yteaealmnmmcbpaa.M

/-
  What the document's Put, All, Take, Bytes and Number (cotterref01) answer, said by the same plain functions as the program's. Conditions: numbers of 64 bits; lists and texts small enough.
-/
namespace Go.Proofs.Yteaealmnmmcbpaa.Word1
open Go.RowKit Go.Proofs.Yteaealmnmmcbpaa.M Go.Proofs.Yteaealmnmmcbpaa.Num Go.Proofs.Yteaealmnmmcbpaa.Seven Go.Proofs.YteaealmnmmcbpaaW.PrintWords Go.Proofs.YteaealmnmmcbpaaW.PrintLast

theorem sized_f (n : Int) : cotterref01_sized.f n = some (decide (n = 1 ∨ n = 4 ∨ n = 8)) := by
  unfold cotterref01_sized.f
  by_cases e1 : n = 1
  · simp [e1]
  · by_cases e4 : n = 4
    · simp [e4]
    · by_cases e8 : n = 8
      · simp [e8]
      · simp [e1, e4, e8]

theorem rnumber_l0 (s : ByteArray) (hg : s.size = 1 ∨ s.size = 4 ∨ s.size = 8) : ∀ (d k : Nat), d ≤ s.size → d < k →
    cotterref01_Number.l0 k s (unleL ((bytesOf s).drop d)) ((d : Int) - 1) = some (numR s) := by
  intro d
  induction d with
  | zero =>
    intro k hi hk
    obtain ⟨k, rfl⟩ : ∃ m, k = m + 1 := ⟨k - 1, by omega⟩
    simp only [cotterref01_Number.l0]
    have hr := unleL_range _ (bytesOf_Bs s)
    rw [bytesOf_length] at hr
    have hlast : ∀ n : Nat, s.size = n + 1 → unleL (bytesOf s) = unleL ((bytesOf s).take n) + bt s n * 256 ^ n ∧ 0 ≤ unleL ((bytesOf s).take n) ∧ unleL ((bytesOf s).take n) < 256 ^ n := by
      intro n hn
      have hl : ((bytesOf s).take n).length = n := by rw [List.length_take, bytesOf_length]; omega
      have e := unleL_snoc ((bytesOf s).take n) (bt s n)
      rw [hl, ← take_snoc_bytes s n (by omega), List.take_of_length_le (by rw [bytesOf_length]; omega)] at e
      have hr2 := unleL_range _ ((bytesOf_Bs s).take n)
      rw [hl] at hr2
      exact ⟨e, hr2.1, hr2.2⟩
    rw [if_neg (by omega), List.drop_zero]
    unfold numR
    rcases hg with h | h | h
    · obtain ⟨g1, g2, g3⟩ := hlast 0 h
      have hbr := bt_range s (0 : Nat)
      rw [h] at hr
      have ew : wrap64 ((s.size : Int) - 1) = ((0 : Nat) : Int) := by rw [h]; decide +kernel
      have es : shl .u64 1 (IntKind.u64.wrap (wrap64 (8 * (s.size : Int)))) = 256 := by rw [h]; decide +kernel
      rw [if_pos (by omega), ew, if_pos (by omega), if_pos (by omega), if_pos h, es]
      by_cases hb : bt s (0 : Nat) ≥ 128
      · rw [if_pos hb, if_pos (by rw [wrap_u64]; omega), wrap_u64]
        unfold wrap64
        congr 2
        omega
      · rw [if_neg hb]
        unfold wrap64
        congr 2
        omega
    · obtain ⟨g1, g2, g3⟩ := hlast 3 h
      have hbr := bt_range s (3 : Nat)
      rw [h] at hr
      have ew : wrap64 ((s.size : Int) - 1) = ((3 : Nat) : Int) := by rw [h]; decide +kernel
      have es : shl .u64 1 (IntKind.u64.wrap (wrap64 (8 * (s.size : Int)))) = 4294967296 := by rw [h]; decide +kernel
      rw [if_pos (by omega), ew, if_pos (by omega), if_pos (by omega), if_neg (show ¬ s.size = 1 by omega), if_pos h, es]
      by_cases hb : bt s (3 : Nat) ≥ 128
      · rw [if_pos hb, if_pos (by rw [wrap_u64]; omega), wrap_u64]
        unfold wrap64
        congr 2
        omega
      · rw [if_neg hb]
        unfold wrap64
        congr 2
        omega
    · rw [if_neg (by omega), if_neg (by omega), if_neg (by omega), if_pos h]
  | succ d ih =>
    intro k hi hk
    obtain ⟨k, rfl⟩ : ∃ m, k = m + 1 := ⟨k - 1, by omega⟩
    simp only [cotterref01_Number.l0]
    have e1 : ((d + 1 : Nat) : Int) - 1 = (d : Int) := by omega
    have hbr := bt_range s d
    have hr := unleL_range _ ((bytesOf_Bs s).drop (d + 1))
    have hl : ((bytesOf s).drop (d + 1)).length = s.size - (d + 1) := by rw [List.length_drop, bytesOf_length]
    have h7 : (256 : Int) ^ (s.size - (d + 1)) ≤ 256 ^ 7 := by
      have h1 : 256 ^ (s.size - (d + 1)) ≤ 256 ^ 7 := Nat.pow_le_pow_right (by decide) (by omega)
      have h2 : ((256 ^ (s.size - (d + 1)) : Nat) : Int) = (256 : Int) ^ (s.size - (d + 1)) := by simp
      have h3 : ((256 ^ 7 : Nat) : Int) = (256 : Int) ^ 7 := by simp
      omega
    have e7 : (256 : Int) ^ 7 = 72057594037927936 := by decide
    rw [hl] at hr
    rw [e7] at h7
    rw [e1, if_pos (by omega), if_pos (by omega), if_pos (by omega), wrap64_id (by omega) (by omega)]
    have e2 : IntKind.u64.wrap (IntKind.u64.wrap (unleL ((bytesOf s).drop (d + 1)) * 256) + IntKind.u64.wrap (bt s d)) = unleL ((bytesOf s).drop d) := by
      rw [bt_drop s d (by omega), unleL, wrap_u64, wrap_u64, wrap_u64]
      omega
    rw [e2]
    exact ih k (by omega) (by omega)

theorem rnumber_f (s : ByteArray) (hs : s.size ≤ 281474976710656) (k : Nat) (hk : 9 < k) : cotterref01_Number.f k s = some (numR s) := by
  unfold cotterref01_Number.f
  rw [sized_f]
  simp only [Option.bind_some, decide_eq_true_eq]
  by_cases hg : s.size = 1 ∨ s.size = 4 ∨ s.size = 8
  · rw [if_pos (by omega), wrap64_id (by omega) (by omega)]
    have h := rnumber_l0 s hg s.size k (by omega) (by omega)
    rw [List.drop_eq_nil_of_le (by rw [bytesOf_length]; exact Nat.le_refl _)] at h
    exact h
  · rw [if_neg (by omega)]
    unfold numR
    rw [if_neg (by omega), if_neg (by omega), if_neg (by omega)]

end Go.Proofs.Yteaealmnmmcbpaa.Word1

/-
  Layer 7: what holds from some number of rounds on; objects small enough; texts and rows compared. No condition.
-/
namespace Go.Proofs.Yteaealmnmmcbpaa.M
open Go.RowKit Go.Proofs.YteaealmnmmcbpaaW.PrintWords Go.Proofs.YteaealmnmmcbpaaW.PrintLast Go.Proofs.Yteaealmnmmcbpaa.Num Go.Proofs.Yteaealmnmmcbpaa.Seven Go.Proofs.Yteaealmnmmcbpaa.Obj Go.Proofs.Yteaealmnmmcbpaa.Word1
set_option linter.unusedVariables false
set_option linter.unusedSimpArgs false
theorem Ev.ge {p : Nat → Prop} (n : Nat) (h : ∀ k, n < k → p k) : Ev p := ⟨n + 1, fun k hk => h k (by omega)⟩
/-! ### Rows the same -/
/-- A number of four bytes, read. -/
theorem number4_ev {n : Int} (h0 : -2147483648 ≤ n) (h1 : n ≤ 2147483647) {c : List Int} {p : Nat} (hb : Bs c) (h : (c.drop p).take 4 = leL n 4) : Ev fun k => cotterref01_Number.f k ((strOfNums c).extract p (p + 4)) = some (n, 0) := by
  have e : (strOfNums c).extract p (p + 4) = strOfNums (leL n 4) := by
    refine bytesOf_inj ?_
    rw [bytesOf_str (leL_bs _ _), ← h]
    conv => rhs; rw [← bytesOf_str hb]
    unfold bytesOf
    rw [ByteArray.data_extract, Array.toList_extract, ← List.map_drop, ← List.map_take]
    simp [List.extract]
  refine .ge 9 fun k hk => ?_
  rw [e, rnumber_f _ (by rw [strOfNums_size, leL_len]; omega) k hk]
  have := num_bytes n 4 (by omega) (by omega) (by unfold Fits; omega)
  unfold bytesR at this
  rw [if_pos (by omega), if_pos (by unfold Fits; omega)] at this
  exact congrArg some this
end Go.Proofs.Yteaealmnmmcbpaa.M

-- Written by a program of this session (wip/ownprint.py) over the translation. Lean checks it.
namespace Go.Proofs.Yteaealmnmmcbpaa.M
open Go.RowKit Go.Proofs.YteaealmnmmcbpaaW.PrintWords Go.Proofs.YteaealmnmmcbpaaW.PrintLast
set_option linter.unusedVariables false
set_option linter.unusedSimpArgs false

/-! ### cotterlaw07_LinkLands: function 6 -/
mutual
def cotterlaw07_LinkLands.l0 : Nat → List (S40) → Int → Int → ByteArray → List Int → List (S36) → Option (Bool)
  | 0, _, _, _, _, _, _ => none
  | k + 1, x0, x5, x6, x232000, x232001, x232002 => if x6 < (x0.length : Int) then (cotterlaw07_LinkLands.l1 k x0 x5 x6 0 x232000 x232001 x232002) else ((cotterlaw07_live.f).bind fun t233 => (some t233))
def cotterlaw07_LinkLands.l1 : Nat → List (S40) → Int → Int → Int → ByteArray → List Int → List (S36) → Option (Bool)
  | 0, _, _, _, _, _, _, _ => none
  | k + 1, x0, x5, x6, x7, x232000, x232001, x232002 => if 0 ≤ x6 then (if x6 < (x0.length : Int) then (if x7 < (((rd_T40 x0 x6).f3).length : Int) then (if 0 ≤ x7 then (if (wrap64 ((wrap64 (x5 + ((rd_T45 ((rd_T40 x0 x6).f3) x7).f0))) + 4)) > (x232000.size : Int) then (some false) else (if 0 ≤ (wrap64 (x5 + ((rd_T45 ((rd_T40 x0 x6).f3) x7).f0))) then (if (wrap64 (x5 + ((rd_T45 ((rd_T40 x0 x6).f3) x7).f0))) ≤ (wrap64 ((wrap64 (x5 + ((rd_T45 ((rd_T40 x0 x6).f3) x7).f0))) + 4)) then (if (wrap64 ((wrap64 (x5 + ((rd_T45 ((rd_T40 x0 x6).f3) x7).f0))) + 4)) ≤ (x232000.size : Int) then ((cotterref01_Number.f k (x232000.extract ((wrap64 (x5 + ((rd_T45 ((rd_T40 x0 x6).f3) x7).f0))) : Int).toNat ((wrap64 ((wrap64 (x5 + ((rd_T45 ((rd_T40 x0 x6).f3) x7).f0))) + 4)) : Int).toNat)).bind fun bt239 => (cotterlaw07_LinkLands.l2 k x0 x5 x6 x7 (wrap64 (x5 + ((rd_T45 ((rd_T40 x0 x6).f3) x7).f0))) bt239.1 false 0 x232000 x232001 x232002 ((rd_T45 ((rd_T40 x0 x6).f3) x7).f0) ((rd_T45 ((rd_T40 x0 x6).f3) x7).f1) ((rd_T45 ((rd_T40 x0 x6).f3) x7).f2) ((rd_T45 ((rd_T40 x0 x6).f3) x7).f3))) else (none)) else (none)) else (none))) else (none)) else (cotterlaw07_LinkLands.l0 k x0 (wrap64 (x5 + (((rd_T40 x0 x6).f0).size : Int))) (wrap64 (x6 + 1)) x232000 x232001 x232002)) else (none)) else (none)
def cotterlaw07_LinkLands.l2 : Nat → List (S40) → Int → Int → Int → Int → Int → Bool → Int → ByteArray → List Int → List (S36) → Int → Int → ByteArray → Int → Option (Bool)
  | 0, _, _, _, _, _, _, _, _, _, _, _, _, _, _, _ => none
  | k + 1, x0, x5, x6, x7, x9, x10, x12, x13, x232000, x232001, x232002, x239000, x239001, x239002, x239003 => if x13 < (x232002.length : Int) then (if 0 ≤ x13 then (if ((rd_T36 x232002 x13).f0).toList = x239002.toList then (if x239001 = 1 then (if (wrap64 ((wrap64 (x9 + 4)) + x10)) = ((rd_T36 x232002 x13).f2) then (cotterlaw07_LinkLands.l2 k x0 x5 x6 x7 x9 x10 true (wrap64 (x13 + 1)) x232000 x232001 x232002 x239000 x239001 x239002 x239003) else (if x239001 = 2 then (cotterlaw07_LinkLands.l2 k x0 x5 x6 x7 x9 x10 (x10 == (wrap64 ((wrap64 (1048576 + (wrap64 (8 * ((rd_T36 x232002 x13).f2))))) + x239003))) (wrap64 (x13 + 1)) x232000 x232001 x232002 x239000 x239001 x239002 x239003) else (cotterlaw07_LinkLands.l2 k x0 x5 x6 x7 x9 x10 false (wrap64 (x13 + 1)) x232000 x232001 x232002 x239000 x239001 x239002 x239003))) else (if x239001 = 2 then (cotterlaw07_LinkLands.l2 k x0 x5 x6 x7 x9 x10 (x10 == (wrap64 ((wrap64 (1048576 + (wrap64 (8 * ((rd_T36 x232002 x13).f2))))) + x239003))) (wrap64 (x13 + 1)) x232000 x232001 x232002 x239000 x239001 x239002 x239003) else (cotterlaw07_LinkLands.l2 k x0 x5 x6 x7 x9 x10 false (wrap64 (x13 + 1)) x232000 x232001 x232002 x239000 x239001 x239002 x239003))) else (cotterlaw07_LinkLands.l2 k x0 x5 x6 x7 x9 x10 x12 (wrap64 (x13 + 1)) x232000 x232001 x232002 x239000 x239001 x239002 x239003)) else (none)) else (if x12 = true then (cotterlaw07_LinkLands.l1 k x0 x5 x6 (wrap64 (x7 + 1)) x232000 x232001 x232002) else (some false))
end
def cotterlaw07_LinkLands.f (k : Nat) (l0 : List (S40)) : Option (Bool) := (cotterlaw07_small.f k l0).bind fun t221 => (if t221 = true then ((link_Link.f l0).bind fun bt223 => (if bt223.2.2.2 = 0 then (cotterlaw07_LinkLands.l0 k l0 0 0 bt223.1 bt223.2.1 bt223.2.2.1) else ((cotterlaw07_live.f).bind fun t232 => (some t232)))) else ((cotterlaw07_live.f).bind fun t222 => (some t222)))
set_option maxHeartbeats 8000000 in
set_option maxRecDepth 100000 in
theorem cotterlaw07_LinkLands.calls (k : Nat) (A0 : Option Addr) (c0 : Nat) (l0 : List (S40)) (r : Bool) (w : World) (hr0 : Kd.C k40 w A0 l0.length l0) (hc0 : l0.length ≤ c0) (h : cotterlaw07_LinkLands.f k l0 = some r) :
    Calls Try.prog 6 #[.slice A0 l0.length c0] w fun e w' => e = .returned (.bool r) ∧ Below w.heap.size w w' := by
  have hu29 := Try.underlying29
  have hu45 := Try.underlying45
  have hu36 := Try.underlying36
  have HR0 := Aside0.mk hr0
  have HC0 := Aside0.mk hc0
  clear hr0 hc0
  have HB := Aside0.mk (Below.refl w.heap.size w)
  have H : ((cotterlaw07_small.f k l0).bind fun t221 => (if t221 = true then ((link_Link.f l0).bind fun bt223 => (if bt223.2.2.2 = 0 then (cotterlaw07_LinkLands.l0 k l0 0 0 bt223.1 bt223.2.1 bt223.2.2.1) else ((cotterlaw07_live.f).bind fun t232 => (some t232)))) else ((cotterlaw07_live.f).bind fun t222 => (some t222)))) = some r := h
  clear h
  replace H := Option.bind_eq_some_iff.mp H
  obtain ⟨t221, A20, H⟩ := H
  replace H : (if t221 = true then ((link_Link.f l0).bind fun bt223 => (if bt223.2.2.2 = 0 then (cotterlaw07_LinkLands.l0 k l0 0 0 bt223.1 bt223.2.1 bt223.2.2.1) else ((cotterlaw07_live.f).bind fun t232 => (some t232)))) else ((cotterlaw07_live.f).bind fun t222 => (some t222))) = some r := H
  have A2 := Aside0.mk A20
  clear A20
  by_cases c3 : t221 = true
  · subst c3
    have H1 : ((link_Link.f l0).bind fun bt223 => (if bt223.2.2.2 = 0 then (cotterlaw07_LinkLands.l0 k l0 0 0 bt223.1 bt223.2.1 bt223.2.2.1) else ((cotterlaw07_live.f).bind fun t232 => (some t232)))) = some r := by rw [if_pos rfl] at H; exact H
    clear H
    have H := H1
    clear H1
    replace H := Option.bind_eq_some_iff.mp H
    obtain ⟨⟨t223, t224, t227, t230⟩, A40, H⟩ := H
    replace H : (if t230 = 0 then (cotterlaw07_LinkLands.l0 k l0 0 0 t223 t224 t227) else ((cotterlaw07_live.f).bind fun t232 => (some t232))) = some r := H
    have A4 := Aside0.mk A40
    clear A40
    by_cases c5 : t230 = 0
    · rw [if_pos c5] at H
      have c5b0 : (t230 == 0) = true := beq_iff_eq.mpr c5
      have c5b1 : (t230 != 0) = false := bne_eq_false_iff_eq.mpr c5
      clear c5
      have H' := Aside0.mk H
      clear H
      go_enter Try.func6, Try.ntmps6
      go_wp2_with (first | ((with_reducible refine gate_callee (f := 9) rfl ?_); refine goesL_ (some 16) rfl rfl Try.func9 (by kernel_rfl) rfl #[.slice A0 l0.length c0] rfl (by (try simp only [List.map_toArray, List.map_cons, List.map_nil]); first | done | rfl | (simp only [List.length_drop, List.length_take]; rfl)) ?_; (with_reducible refine (cotterlaw07_small.calls k _ _ l0 true _ ?side1 ?side2 A2.out).mono ?_); (case side1 => repeat (first | exact HR0.out | (with_reducible refine Kd.C_alloc ?_ _) | (with_reducible refine Kd.C_drewN ?_ _) | (with_reducible refine Kd.C_drew ?_))); (case side2 => exact HC0.out); rintro e w' ⟨rfl, ⟨nd, rfl⟩⟩; refine ⟨_, rfl, ?_⟩) | ((with_reducible refine gate_callee (f := 12) rfl ?_); refine goesL_ (some 21) rfl rfl Try.func12 (by kernel_rfl) rfl #[.slice A0 l0.length c0] rfl (by (try simp only [List.map_toArray, List.map_cons, List.map_nil]); first | done | rfl | (simp only [List.length_drop, List.length_take]; rfl)) ?_; (with_reducible refine (link_Link.calls _ _ l0 t223 t224 t227 t230 _ ?side1 ?side2 A4.out).mono ?_); (case side1 => repeat (first | exact HR0.out | (with_reducible refine Kd.C_alloc ?_ _) | (with_reducible refine Kd.C_drewN ?_ _) | (with_reducible refine Kd.C_drew ?_))); (case side2 => exact HC0.out); rintro e w6 ⟨v225, v228, rfl, ho0, ho1, hb⟩; refine ⟨_, rfl, ?_⟩; have n0_ := Aside0.mk (Kd.R_lower ho0 (below_size (by repeat (first | (with_reducible first | exact HB.out | apply below_alloc | apply pw_below_drewN | apply below_drew1) | exact HB.out)))); have n1_ := Aside0.mk (Kd.R_lower ho1 (below_size (by repeat (first | (with_reducible first | exact HB.out | apply below_alloc | apply pw_below_drewN | apply below_drew1) | exact HB.out)))); have n2_ := Aside0.mk (below_step (by repeat (first | (with_reducible first | exact HB.out | apply below_alloc | apply pw_below_drewN | apply below_drew1) | exact HB.out)) hb); clear HB; have HO226 := n0_; have HO229 := n1_; have HB := n2_; clear n0_ n1_ n2_; (try clear hb); (try clear hb2); (try clear hk); (try clear hi); (try clear ho0); (try clear ho1)) | ((with_reducible refine gate_dst (N := 3) rfl ?_); refine box_event ?hg (N := 3) ?hd (cs := #[.string (⟨#[]⟩ : ByteArray), .slice none 0 0, .slice none 0 0]) (t := 29) ?hr ?_; (case hd => rfl); (case hg => rfl); (case hr => first | (go_simp; done) | (go_simp; rfl)); intro gb231 hg w7 hbox hb; have n0_ := Aside0.mk (Kd.R_below (by (with_reducible repeat (first | apply Kd.R_alloc | apply Kd.R_drewN | apply Kd.R_drew)); exact HO226.out) hb); have n1_ := Aside0.mk (Kd.R_below (by (with_reducible repeat (first | apply Kd.R_alloc | apply Kd.R_drewN | apply Kd.R_drew)); exact HO229.out) hb); have n2_ := Aside0.mk (below_step (by repeat (first | (with_reducible first | exact HB.out | apply below_alloc | apply pw_below_drewN | apply below_drew1) | exact HB.out)) hb); have n3_ := Aside0.mk (hbox); have n4_ := Aside0.mk ((by rw [hg]; exact (below_size (by repeat (first | (with_reducible first | exact HB.out | apply below_alloc | apply pw_below_drewN | apply below_drew1) | exact HB.out))) : w.heap.size ≤ gb231)); have n5_ := Aside0.mk ((by rw [hg]; exact (below_size (by repeat (first | (with_reducible first | exact HB.out | apply below_alloc | apply pw_below_drewN | apply below_drew1) | exact HB.out))) : w.heap.size ≤ gb231)); clear HO226; clear HO229; clear HB; have HO226 := n0_; have HO229 := n1_; have HB := n2_; have BK231 := n3_; have GW231 := n4_; have GE231 := n5_; clear n0_ n1_ n2_ n3_ n4_ n5_; clear hb hbox hg; have hcz8_0 : w7.cell? ⟨gb231, 0, none⟩ = some (.string (⟨#[]⟩ : ByteArray)) := (blk_cell BK231.out 0).trans rfl; have hcz8_1 : w7.cell? ⟨gb231, 1, none⟩ = some (.slice none 0 0) := (blk_cell BK231.out 1).trans rfl; have hcz8_2 : w7.cell? ⟨gb231, 2, none⟩ = some (.slice none 0 0) := (blk_cell BK231.out 2).trans rfl; have hfz8_0 := blk_frozen BK231.out 0; have hfz8_1 := blk_frozen BK231.out 1; have hfz8_2 := blk_frozen BK231.out 2; obtain ⟨Ao9, co9, eo9⟩ := Kd.R_slice HO226.out; subst eo9; obtain ⟨Ao10, co10, eo10⟩ := Kd.R_slice HO229.out; subst eo10))
      go_loopg [5, 6] k (fun kq v5 v6 w' => ∃ (x5_1 : Int) (x6_1 : Int), v5 = .int .i64 x5_1 ∧ v6 = .int .i64 x6_1 ∧ Aside0 (cotterlaw07_LinkLands.l0 kq l0 x5_1 x6_1 t223 t224 t227 = some r) ∧ Aside0 (kq ≤ k) ∧ Aside0 (Kd.R (Kd.int .i64) 2 w' w.heap.size (fun _ => True) (.slice Ao9 t224.length co9) t224) ∧ Aside0 (Kd.R k36 36 w' w.heap.size (fun _ => True) (.slice Ao10 t227.length co10) t227) ∧ Aside0 (w'.heap[gb231]? = some (.cells #[.string t223, (.slice Ao9 t224.length co9), (.slice Ao10 t227.length co10)] 29 (0, 0))) ∧ Aside0 (Below w.heap.size w w'))
      case atStart => exact ⟨(0), (0), (by first | rfl | (simp; done) | (simp [*]; done)), (by first | rfl | (simp; done) | (simp [*]; done)), H', ⟨Nat.le_refl _⟩, ⟨by (with_reducible repeat (first | apply Kd.R_alloc | apply Kd.R_drewN | apply Kd.R_drew)); exact Kd.R_mono (Kd.R_far (p := ⟨gb231, 2, none⟩) (Kd.R_far (p := ⟨gb231, 1, none⟩) (Kd.R_far (p := ⟨gb231, 0, none⟩) (Kd.R_types HO226.out BK231.out (by decide)) (fun _ hk => hk.2) (.string t223)) (fun _ hk => hk.2) (.slice Ao9 t224.length co9)) (fun _ hk => hk.2) (.slice Ao10 t227.length co10)) (fun _ hk => trivial)⟩, ⟨by (with_reducible repeat (first | apply Kd.R_alloc | apply Kd.R_drewN | apply Kd.R_drew)); exact Kd.R_mono (Kd.R_far (p := ⟨gb231, 2, none⟩) (Kd.R_far (p := ⟨gb231, 1, none⟩) (Kd.R_far (p := ⟨gb231, 0, none⟩) (Kd.R_types HO229.out BK231.out (by decide)) (fun _ hk => hk.2) (.string t223)) (fun _ hk => hk.2) (.slice Ao9 t224.length co9)) (fun _ hk => hk.2) (.slice Ao10 t227.length co10)) (fun _ hk => trivial)⟩, ⟨by (with_reducible repeat (first | refine blk_drewN ?_ _ | refine blk_drew ?_ | refine blk_alloc ?_ _)); refine blk_put (cs := #[.string t223, .slice Ao9 t224.length co9, .slice none 0 0]) ?_ 2 _ rfl; (with_reducible repeat (first | refine blk_drewN ?_ _ | refine blk_drew ?_ | refine blk_alloc ?_ _)); refine blk_put (cs := #[.string t223, .slice none 0 0, .slice none 0 0]) ?_ 1 _ rfl; (with_reducible repeat (first | refine blk_drewN ?_ _ | refine blk_drew ?_ | refine blk_alloc ?_ _)); refine blk_put (cs := #[.string (⟨#[]⟩ : ByteArray), .slice none 0 0, .slice none 0 0]) ?_ 0 _ rfl; (with_reducible repeat (first | refine blk_drewN ?_ _ | refine blk_drew ?_ | refine blk_alloc ?_ _)); exact BK231.out⟩, ⟨by repeat (first | (with_reducible first | exact HB.out | apply below_alloc | apply pw_below_drewN | apply below_drew1 | refine below_set ?_ GE231.out) | exact HB.out)⟩⟩
      case round =>
        clear H'
        try clear c1
        try clear p2
        try clear c3
        try clear c5
        try clear c5b0
        try clear c5b1
        try clear c6
        try clear c9
        try clear hcz8_0
        try clear hcz8_1
        try clear hcz8_2
        try clear hfz8_0
        try clear hfz8_1
        try clear hfz8_2
        obtain ⟨x5_1, x6_1, rfl, rfl, HA, HK1, HO_232001, HO_232002, BK231, HB⟩ := hrel
        cases gk with
        | zero => exact absurd HA.out (by simp [cotterlaw07_LinkLands.l0])
        | succ k1 =>
          have H := HA.out
          clear HA
          simp only [cotterlaw07_LinkLands.l0] at H
          by_cases c11 : x6_1 < (l0.length : Int)
          · rw [if_pos c11] at H
            have c11b0 : decide (x6_1 < (l0.length : Int)) = true := decide_eq_true c11
            clear c11
            have H' := Aside0.mk H
            clear H
            go_wp2
            go_loopg [7] k1 (fun kq v7 w' => ∃ (x7_2 : Int), v7 = .int .i64 x7_2 ∧ Aside0 (cotterlaw07_LinkLands.l1 kq l0 x5_1 x6_1 x7_2 t223 t224 t227 = some r) ∧ Aside0 (kq ≤ k1) ∧ Aside0 (Kd.R (Kd.int .i64) 2 w' w.heap.size (fun _ => True) (.slice Ao9 t224.length co9) t224) ∧ Aside0 (Kd.R k36 36 w' w.heap.size (fun _ => True) (.slice Ao10 t227.length co10) t227) ∧ Aside0 (w'.heap[gb231]? = some (.cells #[.string t223, (.slice Ao9 t224.length co9), (.slice Ao10 t227.length co10)] 29 (0, 0))) ∧ Aside0 (Below w.heap.size w w'))
            case atStart => exact ⟨(0), (by first | rfl | (simp; done) | (simp [*]; done)), H', ⟨Nat.le_refl _⟩, ⟨by (with_reducible repeat (first | apply Kd.R_alloc | apply Kd.R_drewN | apply Kd.R_drew)); exact HO_232001.out⟩, ⟨by (with_reducible repeat (first | apply Kd.R_alloc | apply Kd.R_drewN | apply Kd.R_drew)); exact HO_232002.out⟩, ⟨by (with_reducible repeat (first | refine blk_drewN ?_ _ | refine blk_drew ?_ | refine blk_alloc ?_ _)); exact BK231.out⟩, ⟨by repeat (first | (with_reducible first | exact HB.out | apply below_alloc | apply pw_below_drewN | apply below_drew1 | refine below_set ?_ GE231.out) | exact HB.out)⟩⟩
            case round =>
              clear H'
              try clear c1
              try clear p2
              try clear c3
              try clear c5
              try clear c5b0
              try clear c5b1
              try clear c6
              try clear c9
              try clear c11
              try clear c11b0
              try clear hcz8_0
              try clear hcz8_1
              try clear hcz8_2
              try clear hfz8_0
              try clear hfz8_1
              try clear hfz8_2
              try clear p2
              obtain ⟨x7_2, rfl, HA, HK2, HO_232001, HO_232002, BK231, HB⟩ := hrel
              cases gk with
              | zero => exact absurd HA.out (by simp [cotterlaw07_LinkLands.l1])
              | succ k2 =>
                have H := HA.out
                clear HA
                simp only [cotterlaw07_LinkLands.l1] at H
                by_cases c12 : 0 ≤ x6_1
                · rw [if_pos c12] at H
                  have c12b0 : decide (0 ≤ x6_1) = true := decide_eq_true c12
                  clear c12
                  by_cases c13 : x6_1 < (l0.length : Int)
                  · rw [if_pos c13] at H
                    have c13b0 : decide (x6_1 < (l0.length : Int)) = true := decide_eq_true c13
                    clear c13
                    by_cases c14 : x7_2 < (((rd_T40 l0 x6_1).f3).length : Int)
                    · rw [if_pos c14] at H
                      have c14b0 : decide (x7_2 < (((rd_T40 l0 x6_1).f3).length : Int)) = true := decide_eq_true c14
                      clear c14
                      by_cases c15 : 0 ≤ x7_2
                      · rw [if_pos c15] at H
                        have c15b0 : decide (0 ≤ x7_2) = true := decide_eq_true c15
                        clear c15
                        by_cases c16 : (wrap64 ((wrap64 (x5_1 + ((rd_T45 ((rd_T40 l0 x6_1).f3) x7_2).f0))) + 4)) > (t223.size : Int)
                        · rw [if_pos c16] at H
                          have c16b0 : decide ((t223.size : Int) < (wrap64 ((wrap64 (x5_1 + ((rd_T45 ((rd_T40 l0 x6_1).f3) x7_2).f0))) + 4))) = true := decide_eq_true c16
                          clear c16
                          obtain rfl := Option.some.inj H
                          have p234 : 0 ≤ (x6_1 : Int) := of_decide_eq_true (by first | (with_reducible assumption) | assumption)
                          have q234 : x6_1 < (l0.length : Int) := of_decide_eq_true (by first | (with_reducible assumption) | assumption)
                          obtain ⟨ad234, A234_1, c234_1, A234_2, c234_2, A234_3, c234_3, e234, hx234_0, hx234_1, hx234_2, hx234_3, hl234_1, hi234_1, hl234_2, hi234_2, hl234_3, hi234_3⟩ := at_T40 HR0.out x6_1 p234 q234
                          cases e234
                          replace hx234_0 := (HB.out.cell (World.block_lt_of_cell? w _ hx234_0)).trans hx234_0
                          replace hx234_1 := (HB.out.cell (World.block_lt_of_cell? w _ hx234_1)).trans hx234_1
                          replace hx234_2 := (HB.out.cell (World.block_lt_of_cell? w _ hx234_2)).trans hx234_2
                          replace hx234_3 := (HB.out.cell (World.block_lt_of_cell? w _ hx234_3)).trans hx234_3
                          have HR234_1 := Aside0.mk hi234_1
                          have HC234_1 := Aside0.mk hl234_1
                          clear hi234_1 hl234_1
                          have HR234_2 := Aside0.mk hi234_2
                          have HC234_2 := Aside0.mk hl234_2
                          clear hi234_2 hl234_2
                          have HR234_3 := Aside0.mk hi234_3
                          have HC234_3 := Aside0.mk hl234_3
                          clear hi234_3 hl234_3
                          replace p234 := eq_true p234
                          replace q234 := eq_true q234
                          have p236 : 0 ≤ (x6_1 : Int) := of_decide_eq_true (by first | (with_reducible assumption) | assumption)
                          have q236 : x6_1 < (l0.length : Int) := of_decide_eq_true (by first | (with_reducible assumption) | assumption)
                          obtain ⟨ad236, A236_1, c236_1, A236_2, c236_2, A236_3, c236_3, e236, hx236_0, hx236_1, hx236_2, hx236_3, hl236_1, hi236_1, hl236_2, hi236_2, hl236_3, hi236_3⟩ := at_T40 HR0.out x6_1 p236 q236
                          obtain rfl : ad234 = ad236 := (by injection e236)
                          replace hx236_0 := (HB.out.cell (World.block_lt_of_cell? w _ hx236_0)).trans hx236_0
                          replace hx236_1 := (HB.out.cell (World.block_lt_of_cell? w _ hx236_1)).trans hx236_1
                          replace hx236_2 := (HB.out.cell (World.block_lt_of_cell? w _ hx236_2)).trans hx236_2
                          replace hx236_3 := (HB.out.cell (World.block_lt_of_cell? w _ hx236_3)).trans hx236_3
                          have HR236_1 := Aside0.mk hi236_1
                          have HC236_1 := Aside0.mk hl236_1
                          clear hi236_1 hl236_1
                          have HR236_2 := Aside0.mk hi236_2
                          have HC236_2 := Aside0.mk hl236_2
                          clear hi236_2 hl236_2
                          have HR236_3 := Aside0.mk hi236_3
                          have HC236_3 := Aside0.mk hl236_3
                          clear hi236_3 hl236_3
                          replace p236 := eq_true p236
                          replace q236 := eq_true q236
                          have ea_ := Option.some.inj (hx234_1.symm.trans hx236_1)
                          injection ea_ with ea_ en_ ec_
                          subst ea_
                          subst ec_
                          clear en_
                          have ea_ := Option.some.inj (hx234_2.symm.trans hx236_2)
                          injection ea_ with ea_ en_ ec_
                          subst ea_
                          subst ec_
                          clear en_
                          have ea_ := Option.some.inj (hx234_3.symm.trans hx236_3)
                          injection ea_ with ea_ en_ ec_
                          subst ea_
                          subst ec_
                          clear en_
                          have p237 : 0 ≤ (x7_2 : Int) := of_decide_eq_true (by first | (with_reducible assumption) | assumption)
                          have q237 : x7_2 < (((rd_T40 l0 x6_1).f3).length : Int) := of_decide_eq_true (by first | (with_reducible assumption) | assumption)
                          obtain ⟨ad237, e237, hx237_0, hx237_1, hx237_2, hx237_3⟩ := at_T45 HR236_3.out x7_2 p237 q237
                          cases e237
                          replace hx237_0 := (HB.out.cell (World.block_lt_of_cell? w _ hx237_0)).trans hx237_0
                          replace hx237_1 := (HB.out.cell (World.block_lt_of_cell? w _ hx237_1)).trans hx237_1
                          replace hx237_2 := (HB.out.cell (World.block_lt_of_cell? w _ hx237_2)).trans hx237_2
                          replace hx237_3 := (HB.out.cell (World.block_lt_of_cell? w _ hx237_3)).trans hx237_3
                          replace p237 := eq_true p237
                          replace q237 := eq_true q237
                          go_wp2_with (first | ((with_reducible refine gate_dst (N := 8) rfl ?_); refine box_event ?hg (N := 8) ?hd (cs := #[.int .i64 0, .int .i64 0, .string (⟨#[]⟩ : ByteArray), .int .i64 0]) (t := 45) ?hr ?_; (case hd => rfl); (case hg => rfl); (case hr => first | (go_simp; done) | (go_simp; rfl)); intro gb238 hg w17 hbox hb; have n0_ := Aside0.mk (Kd.R_below (by (with_reducible repeat (first | apply Kd.R_alloc | apply Kd.R_drewN | apply Kd.R_drew)); exact HO_232001.out) hb); have n1_ := Aside0.mk (Kd.R_below (by (with_reducible repeat (first | apply Kd.R_alloc | apply Kd.R_drewN | apply Kd.R_drew)); exact HO_232002.out) hb); have n2_ := Aside0.mk (blk_below (g := gb231) (o := .cells #[.string t223, .slice Ao9 t224.length co9, .slice Ao10 t227.length co10] 29 (0, 0)) (by (with_reducible repeat (first | refine blk_drewN ?_ _ | refine blk_drew ?_ | refine blk_alloc ?_ _)); exact BK231.out) hb); have n3_ := Aside0.mk (below_step (by repeat (first | (with_reducible first | exact HB.out | apply below_alloc | apply pw_below_drewN | apply below_drew1 | refine below_set ?_ GE231.out) | exact HB.out)) hb); have n4_ := Aside0.mk (hbox); have n5_ := Aside0.mk ((by rw [hg]; exact (below_size (by repeat (first | (with_reducible first | exact HB.out | apply below_alloc | apply pw_below_drewN | apply below_drew1 | refine below_set ?_ GE231.out) | exact HB.out))) : w.heap.size ≤ gb238)); have n6_ := Aside0.mk ((by rw [hg]; exact (below_size (by repeat (first | (with_reducible first | exact HB.out | apply below_alloc | apply pw_below_drewN | apply below_drew1 | refine below_set ?_ GE231.out) | exact HB.out))) : w.heap.size ≤ gb238)); have n7_ := Aside0.mk ((by rw [hg]; exact Nat.ne_of_lt (blk_lt (g := gb231) (o := .cells #[.string t223, .slice Ao9 t224.length co9, .slice Ao10 t227.length co10] 29 (0, 0)) (by (with_reducible repeat (first | refine blk_drewN ?_ _ | refine blk_drew ?_ | refine blk_alloc ?_ _)); exact BK231.out)) : gb231 ≠ gb238)); have n8_ := Aside0.mk ((by rw [hg]; exact Nat.ne_of_gt (blk_lt (g := gb231) (o := .cells #[.string t223, .slice Ao9 t224.length co9, .slice Ao10 t227.length co10] 29 (0, 0)) (by (with_reducible repeat (first | refine blk_drewN ?_ _ | refine blk_drew ?_ | refine blk_alloc ?_ _)); exact BK231.out)) : gb238 ≠ gb231)); clear HO_232001; clear HO_232002; clear BK231; clear HB; have HO_232001 := n0_; have HO_232002 := n1_; have BK231 := n2_; have HB := n3_; have BK238 := n4_; have GW238 := n5_; have GE238 := n6_; have NB231_238 := n7_; have NB238_231 := n8_; clear n0_ n1_ n2_ n3_ n4_ n5_ n6_ n7_ n8_; clear hb hbox hg; have hnb18 := NB238_231.out; have hnc18 := NB231_238.out; have hcz19_0 : w17.cell? ⟨gb238, 0, none⟩ = some (.int .i64 0) := (blk_cell BK238.out 0).trans rfl; have hcz19_1 : w17.cell? ⟨gb238, 1, none⟩ = some (.int .i64 0) := (blk_cell BK238.out 1).trans rfl; have hcz19_2 : w17.cell? ⟨gb238, 2, none⟩ = some (.string (⟨#[]⟩ : ByteArray)) := (blk_cell BK238.out 2).trans rfl; have hcz19_3 : w17.cell? ⟨gb238, 3, none⟩ = some (.int .i64 0) := (blk_cell BK238.out 3).trans rfl; have hfz19_0 := blk_frozen BK238.out 0; have hfz19_1 := blk_frozen BK238.out 1; have hfz19_2 := blk_frozen BK238.out 2; have hfz19_3 := blk_frozen BK238.out 3; have hcz20_0 : w17.cell? ⟨gb231, 0, none⟩ = some (.string t223) := (blk_cell BK231.out 0).trans rfl; have hcz20_1 : w17.cell? ⟨gb231, 1, none⟩ = some (.slice Ao9 t224.length co9) := (blk_cell BK231.out 1).trans rfl; have hcz20_2 : w17.cell? ⟨gb231, 2, none⟩ = some (.slice Ao10 t227.length co10) := (blk_cell BK231.out 2).trans rfl; have hfz20_0 := blk_frozen BK231.out 0; have hfz20_1 := blk_frozen BK231.out 1; have hfz20_2 := blk_frozen BK231.out 2))
                          go_ret
                          exact ⟨by first | rfl | (simp [errW_none, errW_some] <;> rfl) | (simp [*, errW_none, errW_some] <;> rfl), by repeat (first | (with_reducible first | exact HB.out | apply below_alloc | apply pw_below_drewN | apply below_drew1 | refine below_set ?_ GE231.out | refine below_set ?_ GE238.out) | exact HB.out)⟩
                        · rw [if_neg c16] at H
                          have c16b0 : decide ((t223.size : Int) < (wrap64 ((wrap64 (x5_1 + ((rd_T45 ((rd_T40 l0 x6_1).f3) x7_2).f0))) + 4))) = false := decide_eq_false c16
                          clear c16
                          obtain ⟨ji21, hji21⟩ : ∃ j_ : Int, (wrap64 (x5_1 + ((rd_T45 ((rd_T40 l0 x6_1).f3) x7_2).f0))) = j_ := ⟨_, rfl⟩
                          replace H : (if 0 ≤ (ji21) then (if (ji21) ≤ (wrap64 ((ji21) + 4)) then (if (wrap64 ((ji21) + 4)) ≤ (t223.size : Int) then ((cotterref01_Number.f k2 (t223.extract ((ji21) : Int).toNat ((wrap64 ((ji21) + 4)) : Int).toNat)).bind fun bt239 => (cotterlaw07_LinkLands.l2 k2 l0 x5_1 x6_1 x7_2 ji21 bt239.1 false 0 t223 t224 t227 ((rd_T45 ((rd_T40 l0 x6_1).f3) x7_2).f0) ((rd_T45 ((rd_T40 l0 x6_1).f3) x7_2).f1) ((rd_T45 ((rd_T40 l0 x6_1).f3) x7_2).f2) ((rd_T45 ((rd_T40 l0 x6_1).f3) x7_2).f3))) else (none)) else (none)) else (none)) = some r := by first | (rw [hji21] at H; exact H) | (simp only [hji21] at H ⊢; exact H)
                          (try rw [hji21] at c16b0)
                          have hji21w : (IntKind.i64.wrap (x5_1 + ((rd_T45 ((rd_T40 l0 x6_1).f3) x7_2).f0))) = ji21 := (i64_w _).trans hji21
                          by_cases c22 : 0 ≤ (ji21)
                          · rw [if_pos c22] at H
                            have c22b0 := eq_true c22
                            have c22b1 : decide (0 ≤ (ji21)) = true := decide_eq_true c22
                            clear c22
                            by_cases c23 : (ji21) ≤ (wrap64 ((ji21) + 4))
                            · rw [if_pos c23] at H
                              have c23b0 := eq_true c23
                              have c23b1 : decide ((ji21) ≤ (wrap64 ((ji21) + 4))) = true := decide_eq_true c23
                              by_cases c24 : (wrap64 ((ji21) + 4)) ≤ (t223.size : Int)
                              · rw [if_pos c24] at H
                                have c24b0 := eq_true c24
                                have c24b1 : decide ((wrap64 ((ji21) + 4)) ≤ (t223.size : Int)) = true := decide_eq_true c24
                                replace H := Option.bind_eq_some_iff.mp H
                                obtain ⟨⟨t239, t240⟩, A250, H⟩ := H
                                replace H : (cotterlaw07_LinkLands.l2 k2 l0 x5_1 x6_1 x7_2 ji21 t239 false 0 t223 t224 t227 ((rd_T45 ((rd_T40 l0 x6_1).f3) x7_2).f0) ((rd_T45 ((rd_T40 l0 x6_1).f3) x7_2).f1) ((rd_T45 ((rd_T40 l0 x6_1).f3) x7_2).f2) ((rd_T45 ((rd_T40 l0 x6_1).f3) x7_2).f3)) = some r := H
                                have A25 := Aside0.mk A250
                                clear A250
                                have H' := Aside0.mk H
                                clear H
                                have p234 : 0 ≤ (x6_1 : Int) := of_decide_eq_true (by first | (with_reducible assumption) | assumption)
                                have q234 : x6_1 < (l0.length : Int) := of_decide_eq_true (by first | (with_reducible assumption) | assumption)
                                obtain ⟨ad234, A234_1, c234_1, A234_2, c234_2, A234_3, c234_3, e234, hx234_0, hx234_1, hx234_2, hx234_3, hl234_1, hi234_1, hl234_2, hi234_2, hl234_3, hi234_3⟩ := at_T40 HR0.out x6_1 p234 q234
                                cases e234
                                replace hx234_0 := (HB.out.cell (World.block_lt_of_cell? w _ hx234_0)).trans hx234_0
                                replace hx234_1 := (HB.out.cell (World.block_lt_of_cell? w _ hx234_1)).trans hx234_1
                                replace hx234_2 := (HB.out.cell (World.block_lt_of_cell? w _ hx234_2)).trans hx234_2
                                replace hx234_3 := (HB.out.cell (World.block_lt_of_cell? w _ hx234_3)).trans hx234_3
                                have HR234_1 := Aside0.mk hi234_1
                                have HC234_1 := Aside0.mk hl234_1
                                clear hi234_1 hl234_1
                                have HR234_2 := Aside0.mk hi234_2
                                have HC234_2 := Aside0.mk hl234_2
                                clear hi234_2 hl234_2
                                have HR234_3 := Aside0.mk hi234_3
                                have HC234_3 := Aside0.mk hl234_3
                                clear hi234_3 hl234_3
                                replace p234 := eq_true p234
                                replace q234 := eq_true q234
                                have p236 : 0 ≤ (x6_1 : Int) := of_decide_eq_true (by first | (with_reducible assumption) | assumption)
                                have q236 : x6_1 < (l0.length : Int) := of_decide_eq_true (by first | (with_reducible assumption) | assumption)
                                obtain ⟨ad236, A236_1, c236_1, A236_2, c236_2, A236_3, c236_3, e236, hx236_0, hx236_1, hx236_2, hx236_3, hl236_1, hi236_1, hl236_2, hi236_2, hl236_3, hi236_3⟩ := at_T40 HR0.out x6_1 p236 q236
                                obtain rfl : ad234 = ad236 := (by injection e236)
                                replace hx236_0 := (HB.out.cell (World.block_lt_of_cell? w _ hx236_0)).trans hx236_0
                                replace hx236_1 := (HB.out.cell (World.block_lt_of_cell? w _ hx236_1)).trans hx236_1
                                replace hx236_2 := (HB.out.cell (World.block_lt_of_cell? w _ hx236_2)).trans hx236_2
                                replace hx236_3 := (HB.out.cell (World.block_lt_of_cell? w _ hx236_3)).trans hx236_3
                                have HR236_1 := Aside0.mk hi236_1
                                have HC236_1 := Aside0.mk hl236_1
                                clear hi236_1 hl236_1
                                have HR236_2 := Aside0.mk hi236_2
                                have HC236_2 := Aside0.mk hl236_2
                                clear hi236_2 hl236_2
                                have HR236_3 := Aside0.mk hi236_3
                                have HC236_3 := Aside0.mk hl236_3
                                clear hi236_3 hl236_3
                                replace p236 := eq_true p236
                                replace q236 := eq_true q236
                                have ea_ := Option.some.inj (hx234_1.symm.trans hx236_1)
                                injection ea_ with ea_ en_ ec_
                                subst ea_
                                subst ec_
                                clear en_
                                have ea_ := Option.some.inj (hx234_2.symm.trans hx236_2)
                                injection ea_ with ea_ en_ ec_
                                subst ea_
                                subst ec_
                                clear en_
                                have ea_ := Option.some.inj (hx234_3.symm.trans hx236_3)
                                injection ea_ with ea_ en_ ec_
                                subst ea_
                                subst ec_
                                clear en_
                                have p237 : 0 ≤ (x7_2 : Int) := of_decide_eq_true (by first | (with_reducible assumption) | assumption)
                                have q237 : x7_2 < (((rd_T40 l0 x6_1).f3).length : Int) := of_decide_eq_true (by first | (with_reducible assumption) | assumption)
                                obtain ⟨ad237, e237, hx237_0, hx237_1, hx237_2, hx237_3⟩ := at_T45 HR236_3.out x7_2 p237 q237
                                cases e237
                                replace hx237_0 := (HB.out.cell (World.block_lt_of_cell? w _ hx237_0)).trans hx237_0
                                replace hx237_1 := (HB.out.cell (World.block_lt_of_cell? w _ hx237_1)).trans hx237_1
                                replace hx237_2 := (HB.out.cell (World.block_lt_of_cell? w _ hx237_2)).trans hx237_2
                                replace hx237_3 := (HB.out.cell (World.block_lt_of_cell? w _ hx237_3)).trans hx237_3
                                replace p237 := eq_true p237
                                replace q237 := eq_true q237
                                go_wp2_with (first | ((with_reducible refine gate_dst (N := 8) rfl ?_); refine box_event ?hg (N := 8) ?hd (cs := #[.int .i64 0, .int .i64 0, .string (⟨#[]⟩ : ByteArray), .int .i64 0]) (t := 45) ?hr ?_; (case hd => rfl); (case hg => rfl); (case hr => first | (go_simp; done) | (go_simp; rfl)); intro gb238 hg w26 hbox hb; have n0_ := Aside0.mk (Kd.R_below (by (with_reducible repeat (first | apply Kd.R_alloc | apply Kd.R_drewN | apply Kd.R_drew)); exact HO_232001.out) hb); have n1_ := Aside0.mk (Kd.R_below (by (with_reducible repeat (first | apply Kd.R_alloc | apply Kd.R_drewN | apply Kd.R_drew)); exact HO_232002.out) hb); have n2_ := Aside0.mk (blk_below (g := gb231) (o := .cells #[.string t223, .slice Ao9 t224.length co9, .slice Ao10 t227.length co10] 29 (0, 0)) (by (with_reducible repeat (first | refine blk_drewN ?_ _ | refine blk_drew ?_ | refine blk_alloc ?_ _)); exact BK231.out) hb); have n3_ := Aside0.mk (below_step (by repeat (first | (with_reducible first | exact HB.out | apply below_alloc | apply pw_below_drewN | apply below_drew1 | refine below_set ?_ GE231.out) | exact HB.out)) hb); have n4_ := Aside0.mk (hbox); have n5_ := Aside0.mk ((by rw [hg]; exact (below_size (by repeat (first | (with_reducible first | exact HB.out | apply below_alloc | apply pw_below_drewN | apply below_drew1 | refine below_set ?_ GE231.out) | exact HB.out))) : w.heap.size ≤ gb238)); have n6_ := Aside0.mk ((by rw [hg]; exact (below_size (by repeat (first | (with_reducible first | exact HB.out | apply below_alloc | apply pw_below_drewN | apply below_drew1 | refine below_set ?_ GE231.out) | exact HB.out))) : w.heap.size ≤ gb238)); have n7_ := Aside0.mk ((by rw [hg]; exact Nat.ne_of_lt (blk_lt (g := gb231) (o := .cells #[.string t223, .slice Ao9 t224.length co9, .slice Ao10 t227.length co10] 29 (0, 0)) (by (with_reducible repeat (first | refine blk_drewN ?_ _ | refine blk_drew ?_ | refine blk_alloc ?_ _)); exact BK231.out)) : gb231 ≠ gb238)); have n8_ := Aside0.mk ((by rw [hg]; exact Nat.ne_of_gt (blk_lt (g := gb231) (o := .cells #[.string t223, .slice Ao9 t224.length co9, .slice Ao10 t227.length co10] 29 (0, 0)) (by (with_reducible repeat (first | refine blk_drewN ?_ _ | refine blk_drew ?_ | refine blk_alloc ?_ _)); exact BK231.out)) : gb238 ≠ gb231)); clear HO_232001; clear HO_232002; clear BK231; clear HB; have HO_232001 := n0_; have HO_232002 := n1_; have BK231 := n2_; have HB := n3_; have BK238 := n4_; have GW238 := n5_; have GE238 := n6_; have NB231_238 := n7_; have NB238_231 := n8_; clear n0_ n1_ n2_ n3_ n4_ n5_ n6_ n7_ n8_; clear hb hbox hg; have hnb27 := NB238_231.out; have hnc27 := NB231_238.out; have hcz28_0 : w26.cell? ⟨gb238, 0, none⟩ = some (.int .i64 0) := (blk_cell BK238.out 0).trans rfl; have hcz28_1 : w26.cell? ⟨gb238, 1, none⟩ = some (.int .i64 0) := (blk_cell BK238.out 1).trans rfl; have hcz28_2 : w26.cell? ⟨gb238, 2, none⟩ = some (.string (⟨#[]⟩ : ByteArray)) := (blk_cell BK238.out 2).trans rfl; have hcz28_3 : w26.cell? ⟨gb238, 3, none⟩ = some (.int .i64 0) := (blk_cell BK238.out 3).trans rfl; have hfz28_0 := blk_frozen BK238.out 0; have hfz28_1 := blk_frozen BK238.out 1; have hfz28_2 := blk_frozen BK238.out 2; have hfz28_3 := blk_frozen BK238.out 3; have hcz29_0 : w26.cell? ⟨gb231, 0, none⟩ = some (.string t223) := (blk_cell BK231.out 0).trans rfl; have hcz29_1 : w26.cell? ⟨gb231, 1, none⟩ = some (.slice Ao9 t224.length co9) := (blk_cell BK231.out 1).trans rfl; have hcz29_2 : w26.cell? ⟨gb231, 2, none⟩ = some (.slice Ao10 t227.length co10) := (blk_cell BK231.out 2).trans rfl; have hfz29_0 := blk_frozen BK231.out 0; have hfz29_1 := blk_frozen BK231.out 1; have hfz29_2 := blk_frozen BK231.out 2) | ((with_reducible refine gate_callee (f := 17) rfl ?_); refine goesL_ (some 68) rfl rfl Try.func17 (by kernel_rfl) rfl #[.string (t223.extract ((ji21) : Int).toNat ((wrap64 ((ji21) + 4)) : Int).toNat)] rfl (by (try simp only [List.map_toArray, List.map_cons, List.map_nil]); first | done | (simp only [hji21]; rfl) | rfl | (simp only [List.length_drop, List.length_take]; rfl)) ?_; (with_reducible refine (cotterref01_Number.calls k2 (t223.extract ((ji21) : Int).toNat ((wrap64 ((ji21) + 4)) : Int).toNat) t239 t240 _ A25.out).mono ?_); rintro e w' ⟨rfl, ⟨nd, rfl⟩⟩; refine ⟨_, rfl, ?_⟩))
                                go_loopg [12, 13] k2 (fun kq v12 v13 w' => ∃ (x12_3 : Bool) (x13_3 : Int), v12 = .bool x12_3 ∧ v13 = .int .i64 x13_3 ∧ Aside0 (cotterlaw07_LinkLands.l2 kq l0 x5_1 x6_1 x7_2 ji21 t239 x12_3 x13_3 t223 t224 t227 ((rd_T45 ((rd_T40 l0 x6_1).f3) x7_2).f0) ((rd_T45 ((rd_T40 l0 x6_1).f3) x7_2).f1) ((rd_T45 ((rd_T40 l0 x6_1).f3) x7_2).f2) ((rd_T45 ((rd_T40 l0 x6_1).f3) x7_2).f3) = some r) ∧ Aside0 (kq ≤ k2) ∧ Aside0 (Kd.R (Kd.int .i64) 2 w' w.heap.size (fun _ => True) (.slice Ao9 t224.length co9) t224) ∧ Aside0 (Kd.R k36 36 w' w.heap.size (fun _ => True) (.slice Ao10 t227.length co10) t227) ∧ Aside0 (w'.heap[gb231]? = some (.cells #[.string t223, (.slice Ao9 t224.length co9), (.slice Ao10 t227.length co10)] 29 (0, 0))) ∧ Aside0 (w'.heap[gb238]? = some (.cells #[.int .i64 ((rd_T45 ((rd_T40 l0 x6_1).f3) x7_2).f0), .int .i64 ((rd_T45 ((rd_T40 l0 x6_1).f3) x7_2).f1), .string ((rd_T45 ((rd_T40 l0 x6_1).f3) x7_2).f2), .int .i64 ((rd_T45 ((rd_T40 l0 x6_1).f3) x7_2).f3)] 45 (0, 0))) ∧ Aside0 (Below w.heap.size w w'))
                                case atStart => exact ⟨(false), (0), (by first | rfl | (simp; done) | (simp [*]; done)), (by first | rfl | (simp; done) | (simp [*]; done)), H', ⟨Nat.le_refl _⟩, ⟨by (with_reducible repeat (first | apply Kd.R_alloc | apply Kd.R_drewN | apply Kd.R_drew)); exact Kd.R_mono (Kd.R_far (p := ⟨gb238, 3, none⟩) (Kd.R_far (p := ⟨gb238, 2, none⟩) (Kd.R_far (p := ⟨gb238, 1, none⟩) (Kd.R_far (p := ⟨gb238, 0, none⟩) (Kd.R_types HO_232001.out BK238.out (by decide)) (fun _ hk => hk.2) (.int .i64 ((rd_T45 ((rd_T40 l0 x6_1).f3) x7_2).f0))) (fun _ hk => hk.2) (.int .i64 ((rd_T45 ((rd_T40 l0 x6_1).f3) x7_2).f1))) (fun _ hk => hk.2) (.string ((rd_T45 ((rd_T40 l0 x6_1).f3) x7_2).f2))) (fun _ hk => hk.2) (.int .i64 ((rd_T45 ((rd_T40 l0 x6_1).f3) x7_2).f3))) (fun _ hk => trivial)⟩, ⟨by (with_reducible repeat (first | apply Kd.R_alloc | apply Kd.R_drewN | apply Kd.R_drew)); exact Kd.R_mono (Kd.R_far (p := ⟨gb238, 3, none⟩) (Kd.R_far (p := ⟨gb238, 2, none⟩) (Kd.R_far (p := ⟨gb238, 1, none⟩) (Kd.R_far (p := ⟨gb238, 0, none⟩) (Kd.R_types HO_232002.out BK238.out (by decide)) (fun _ hk => hk.2) (.int .i64 ((rd_T45 ((rd_T40 l0 x6_1).f3) x7_2).f0))) (fun _ hk => hk.2) (.int .i64 ((rd_T45 ((rd_T40 l0 x6_1).f3) x7_2).f1))) (fun _ hk => hk.2) (.string ((rd_T45 ((rd_T40 l0 x6_1).f3) x7_2).f2))) (fun _ hk => hk.2) (.int .i64 ((rd_T45 ((rd_T40 l0 x6_1).f3) x7_2).f3))) (fun _ hk => trivial)⟩, ⟨by (with_reducible repeat (first | refine blk_drewN ?_ _ | refine blk_drew ?_ | refine blk_alloc ?_ _)); refine blk_far ?_ NB231_238.out _; (with_reducible repeat (first | refine blk_drewN ?_ _ | refine blk_drew ?_ | refine blk_alloc ?_ _)); refine blk_far ?_ NB231_238.out _; (with_reducible repeat (first | refine blk_drewN ?_ _ | refine blk_drew ?_ | refine blk_alloc ?_ _)); refine blk_far ?_ NB231_238.out _; (with_reducible repeat (first | refine blk_drewN ?_ _ | refine blk_drew ?_ | refine blk_alloc ?_ _)); refine blk_far ?_ NB231_238.out _; (with_reducible repeat (first | refine blk_drewN ?_ _ | refine blk_drew ?_ | refine blk_alloc ?_ _)); exact BK231.out⟩, ⟨by (with_reducible repeat (first | refine blk_drewN ?_ _ | refine blk_drew ?_ | refine blk_alloc ?_ _)); refine blk_put (cs := #[.int .i64 ((rd_T45 ((rd_T40 l0 x6_1).f3) x7_2).f0), .int .i64 ((rd_T45 ((rd_T40 l0 x6_1).f3) x7_2).f1), .string ((rd_T45 ((rd_T40 l0 x6_1).f3) x7_2).f2), .int .i64 0]) ?_ 3 _ rfl; (with_reducible repeat (first | refine blk_drewN ?_ _ | refine blk_drew ?_ | refine blk_alloc ?_ _)); refine blk_put (cs := #[.int .i64 ((rd_T45 ((rd_T40 l0 x6_1).f3) x7_2).f0), .int .i64 ((rd_T45 ((rd_T40 l0 x6_1).f3) x7_2).f1), .string (⟨#[]⟩ : ByteArray), .int .i64 0]) ?_ 2 _ rfl; (with_reducible repeat (first | refine blk_drewN ?_ _ | refine blk_drew ?_ | refine blk_alloc ?_ _)); refine blk_put (cs := #[.int .i64 ((rd_T45 ((rd_T40 l0 x6_1).f3) x7_2).f0), .int .i64 0, .string (⟨#[]⟩ : ByteArray), .int .i64 0]) ?_ 1 _ rfl; (with_reducible repeat (first | refine blk_drewN ?_ _ | refine blk_drew ?_ | refine blk_alloc ?_ _)); refine blk_put (cs := #[.int .i64 0, .int .i64 0, .string (⟨#[]⟩ : ByteArray), .int .i64 0]) ?_ 0 _ rfl; (with_reducible repeat (first | refine blk_drewN ?_ _ | refine blk_drew ?_ | refine blk_alloc ?_ _)); exact BK238.out⟩, ⟨by repeat (first | (with_reducible first | exact HB.out | apply below_alloc | apply pw_below_drewN | apply below_drew1 | refine below_set ?_ GE231.out | refine below_set ?_ GE238.out) | exact HB.out)⟩⟩
                                case round =>
                                  clear H'
                                  try clear c1
                                  try clear c2
                                  try clear p2
                                  try clear q2
                                  try clear hx2
                                  try clear c3
                                  try clear c5
                                  try clear c5b0
                                  try clear c5b1
                                  try clear c6
                                  try clear p6
                                  try clear c9
                                  try clear c11
                                  try clear c11b0
                                  try clear c12
                                  try clear c12b0
                                  try clear c13
                                  try clear c13b0
                                  try clear c14
                                  try clear c14b0
                                  try clear c15
                                  try clear c15b0
                                  try clear c16
                                  try clear c16b0
                                  try clear c17
                                  try clear c18
                                  try clear c22
                                  try clear c22b0
                                  try clear c22b1
                                  try clear c23
                                  try clear c23b0
                                  try clear c23b1
                                  try clear p23
                                  try clear q23
                                  try clear hx23
                                  try clear c24
                                  try clear c24b0
                                  try clear c24b1
                                  try clear c27
                                  try clear hcz19_0
                                  try clear hcz19_1
                                  try clear hcz19_2
                                  try clear hcz19_3
                                  try clear hcz20_0
                                  try clear hcz20_1
                                  try clear hcz20_2
                                  try clear hcz28_0
                                  try clear hcz28_1
                                  try clear hcz28_2
                                  try clear hcz28_3
                                  try clear hcz29_0
                                  try clear hcz29_1
                                  try clear hcz29_2
                                  try clear hcz8_0
                                  try clear hcz8_1
                                  try clear hcz8_2
                                  try clear hfz19_0
                                  try clear hfz19_1
                                  try clear hfz19_2
                                  try clear hfz19_3
                                  try clear hfz20_0
                                  try clear hfz20_1
                                  try clear hfz20_2
                                  try clear hfz28_0
                                  try clear hfz28_1
                                  try clear hfz28_2
                                  try clear hfz28_3
                                  try clear hfz29_0
                                  try clear hfz29_1
                                  try clear hfz29_2
                                  try clear hfz8_0
                                  try clear hfz8_1
                                  try clear hfz8_2
                                  try clear hx234_0
                                  try clear hx234_1
                                  try clear hx234_2
                                  try clear hx234_3
                                  try clear hx236_0
                                  try clear hx236_1
                                  try clear hx236_2
                                  try clear hx236_3
                                  try clear hx237_0
                                  try clear hx237_1
                                  try clear hx237_2
                                  try clear hx237_3
                                  try clear p2
                                  try clear p234
                                  try clear p236
                                  try clear p237
                                  try clear q234
                                  try clear q236
                                  try clear q237
                                  obtain ⟨x12_3, x13_3, rfl, rfl, HA, HK3, HO_232001, HO_232002, BK231, BK238, HB⟩ := hrel
                                  cases gk with
                                  | zero => exact absurd HA.out (by simp [cotterlaw07_LinkLands.l2])
                                  | succ k3 =>
                                    have H := HA.out
                                    clear HA
                                    simp only [cotterlaw07_LinkLands.l2] at H
                                    by_cases c30 : x13_3 < (t227.length : Int)
                                    · rw [if_pos c30] at H
                                      have c30b0 : decide (x13_3 < (t227.length : Int)) = true := decide_eq_true c30
                                      (try simp only [hl234_1, hl234_2, hl234_3, hl236_1, hl236_2, hl236_3] at c30b0)
                                      clear c30
                                      by_cases c31 : 0 ≤ x13_3
                                      · rw [if_pos c31] at H
                                        have c31b0 : decide (0 ≤ x13_3) = true := decide_eq_true c31
                                        clear c31
                                        by_cases c32 : ((rd_T36 t227 x13_3).f0).toList = ((rd_T45 ((rd_T40 l0 x6_1).f3) x7_2).f2).toList
                                        · rw [if_pos c32] at H
                                          have c32b0 : (((rd_T36 t227 x13_3).f0).toList == ((rd_T45 ((rd_T40 l0 x6_1).f3) x7_2).f2).toList) = true := beq_iff_eq.mpr c32
                                          have c32b1 : (((rd_T36 t227 x13_3).f0).toList != ((rd_T45 ((rd_T40 l0 x6_1).f3) x7_2).f2).toList) = false := bne_eq_false_iff_eq.mpr c32
                                          clear c32
                                          by_cases c33 : ((rd_T45 ((rd_T40 l0 x6_1).f3) x7_2).f1) = 1
                                          · rw [if_pos c33] at H
                                            have c33b0 : (((rd_T45 ((rd_T40 l0 x6_1).f3) x7_2).f1) == 1) = true := beq_iff_eq.mpr c33
                                            have c33b1 : (((rd_T45 ((rd_T40 l0 x6_1).f3) x7_2).f1) != 1) = false := bne_eq_false_iff_eq.mpr c33
                                            clear c33
                                            by_cases c34 : (wrap64 ((wrap64 (ji21 + 4)) + t239)) = ((rd_T36 t227 x13_3).f2)
                                            · rw [if_pos c34] at H
                                              have c34b0 : ((wrap64 ((wrap64 (ji21 + 4)) + t239)) == ((rd_T36 t227 x13_3).f2)) = true := beq_iff_eq.mpr c34
                                              have c34b1 : ((wrap64 ((wrap64 (ji21 + 4)) + t239)) != ((rd_T36 t227 x13_3).f2)) = false := bne_eq_false_iff_eq.mpr c34
                                              clear c34
                                              have H' := Aside0.mk H
                                              clear H
                                              have hnb35 := NB231_238.out
                                              have hnc35 := NB238_231.out
                                              have hcz36_0 : wr.cell? ⟨gb231, 0, none⟩ = some (.string t223) := (blk_cell BK231.out 0).trans rfl
                                              have hcz36_1 : wr.cell? ⟨gb231, 1, none⟩ = some (.slice Ao9 t224.length co9) := (blk_cell BK231.out 1).trans rfl
                                              have hcz36_2 : wr.cell? ⟨gb231, 2, none⟩ = some (.slice Ao10 t227.length co10) := (blk_cell BK231.out 2).trans rfl
                                              have hfz36_0 := blk_frozen BK231.out 0
                                              have hfz36_1 := blk_frozen BK231.out 1
                                              have hfz36_2 := blk_frozen BK231.out 2
                                              have p241 : 0 ≤ (x13_3 : Int) := of_decide_eq_true (by first | (with_reducible assumption) | assumption)
                                              have q241 : x13_3 < (t227.length : Int) := of_decide_eq_true (by first | (with_reducible assumption) | assumption)
                                              obtain ⟨ad241, e241, hx241_0, hx241_1, hx241_2⟩ := at_T36 (Kd.R_reads' HO_232002.out).2.2 x13_3 p241 q241
                                              cases e241
                                              replace p241 := eq_true p241
                                              replace q241 := eq_true q241
                                              go_wp2_with (first | ((with_reducible refine gate_dst (N := 14) rfl ?_); refine box_event ?hg (N := 14) ?hd (cs := #[.string (⟨#[]⟩ : ByteArray), .int .i64 0, .int .i64 0]) (t := 36) ?hr ?_; (case hd => rfl); (case hg => rfl); (case hr => first | (go_simp; done) | (go_simp; rfl)); intro gb242 hg w37 hbox hb; have n0_ := Aside0.mk (Kd.R_below (by (with_reducible repeat (first | apply Kd.R_alloc | apply Kd.R_drewN | apply Kd.R_drew)); exact HO_232001.out) hb); have n1_ := Aside0.mk (Kd.R_below (Kd.R_elderB (by (with_reducible repeat (first | apply Kd.R_alloc | apply Kd.R_drewN | apply Kd.R_drew)); exact HO_232002.out) gb242 (Nat.le_of_eq hg.symm)) hb); have n2_ := Aside0.mk (blk_below (g := gb231) (o := .cells #[.string t223, .slice Ao9 t224.length co9, .slice (some ad241) t227.length co10] 29 (0, 0)) (by (with_reducible repeat (first | refine blk_drewN ?_ _ | refine blk_drew ?_ | refine blk_alloc ?_ _)); exact BK231.out) hb); have n3_ := Aside0.mk (blk_below (g := gb238) (o := .cells #[.int .i64 ((rd_T45 ((rd_T40 l0 x6_1).f3) x7_2).f0), .int .i64 ((rd_T45 ((rd_T40 l0 x6_1).f3) x7_2).f1), .string ((rd_T45 ((rd_T40 l0 x6_1).f3) x7_2).f2), .int .i64 ((rd_T45 ((rd_T40 l0 x6_1).f3) x7_2).f3)] 45 (0, 0)) (by (with_reducible repeat (first | refine blk_drewN ?_ _ | refine blk_drew ?_ | refine blk_alloc ?_ _)); exact BK238.out) hb); have n4_ := Aside0.mk (below_step (by repeat (first | (with_reducible first | exact HB.out | apply below_alloc | apply pw_below_drewN | apply below_drew1 | refine below_set ?_ GE231.out | refine below_set ?_ GE238.out) | exact HB.out)) hb); have n5_ := Aside0.mk (hbox); have n6_ := Aside0.mk ((by rw [hg]; exact (below_size (by repeat (first | (with_reducible first | exact HB.out | apply below_alloc | apply pw_below_drewN | apply below_drew1 | refine below_set ?_ GE231.out | refine below_set ?_ GE238.out) | exact HB.out))) : w.heap.size ≤ gb242)); have n7_ := Aside0.mk ((by rw [hg]; exact (below_size (by repeat (first | (with_reducible first | exact HB.out | apply below_alloc | apply pw_below_drewN | apply below_drew1 | refine below_set ?_ GE231.out | refine below_set ?_ GE238.out) | exact HB.out))) : w.heap.size ≤ gb242)); have n8_ := Aside0.mk ((by rw [hg]; exact Nat.ne_of_lt (blk_lt (g := gb231) (o := .cells #[.string t223, .slice Ao9 t224.length co9, .slice (some ad241) t227.length co10] 29 (0, 0)) (by (with_reducible repeat (first | refine blk_drewN ?_ _ | refine blk_drew ?_ | refine blk_alloc ?_ _)); exact BK231.out)) : gb231 ≠ gb242)); have n9_ := Aside0.mk ((by rw [hg]; exact Nat.ne_of_gt (blk_lt (g := gb231) (o := .cells #[.string t223, .slice Ao9 t224.length co9, .slice (some ad241) t227.length co10] 29 (0, 0)) (by (with_reducible repeat (first | refine blk_drewN ?_ _ | refine blk_drew ?_ | refine blk_alloc ?_ _)); exact BK231.out)) : gb242 ≠ gb231)); have n10_ := Aside0.mk ((by rw [hg]; exact Nat.ne_of_lt (blk_lt (g := gb238) (o := .cells #[.int .i64 ((rd_T45 ((rd_T40 l0 x6_1).f3) x7_2).f0), .int .i64 ((rd_T45 ((rd_T40 l0 x6_1).f3) x7_2).f1), .string ((rd_T45 ((rd_T40 l0 x6_1).f3) x7_2).f2), .int .i64 ((rd_T45 ((rd_T40 l0 x6_1).f3) x7_2).f3)] 45 (0, 0)) (by (with_reducible repeat (first | refine blk_drewN ?_ _ | refine blk_drew ?_ | refine blk_alloc ?_ _)); exact BK238.out)) : gb238 ≠ gb242)); have n11_ := Aside0.mk ((by rw [hg]; exact Nat.ne_of_gt (blk_lt (g := gb238) (o := .cells #[.int .i64 ((rd_T45 ((rd_T40 l0 x6_1).f3) x7_2).f0), .int .i64 ((rd_T45 ((rd_T40 l0 x6_1).f3) x7_2).f1), .string ((rd_T45 ((rd_T40 l0 x6_1).f3) x7_2).f2), .int .i64 ((rd_T45 ((rd_T40 l0 x6_1).f3) x7_2).f3)] 45 (0, 0)) (by (with_reducible repeat (first | refine blk_drewN ?_ _ | refine blk_drew ?_ | refine blk_alloc ?_ _)); exact BK238.out)) : gb242 ≠ gb238)); clear HO_232001; clear HO_232002; clear BK231; clear BK238; clear HB; have HO_232001 := n0_; have HO_232002 := n1_; have BK231 := n2_; have BK238 := n3_; have HB := n4_; have BK242 := n5_; have GW242 := n6_; have GE242 := n7_; have NB231_242 := n8_; have NB242_231 := n9_; have NB238_242 := n10_; have NB242_238 := n11_; clear n0_ n1_ n2_ n3_ n4_ n5_ n6_ n7_ n8_ n9_ n10_ n11_; clear hb hbox hg; have hnb38 := NB242_231.out; have hnc38 := NB231_242.out; have hnb39 := NB242_238.out; have hnc39 := NB238_242.out; have hcz40_0 : w37.cell? ⟨gb242, 0, none⟩ = some (.string (⟨#[]⟩ : ByteArray)) := (blk_cell BK242.out 0).trans rfl; have hcz40_1 : w37.cell? ⟨gb242, 1, none⟩ = some (.int .i64 0) := (blk_cell BK242.out 1).trans rfl; have hcz40_2 : w37.cell? ⟨gb242, 2, none⟩ = some (.int .i64 0) := (blk_cell BK242.out 2).trans rfl; have hfz40_0 := blk_frozen BK242.out 0; have hfz40_1 := blk_frozen BK242.out 1; have hfz40_2 := blk_frozen BK242.out 2; have hcz41_0 : w37.cell? ⟨gb238, 0, none⟩ = some (.int .i64 ((rd_T45 ((rd_T40 l0 x6_1).f3) x7_2).f0)) := (blk_cell BK238.out 0).trans rfl; have hcz41_1 : w37.cell? ⟨gb238, 1, none⟩ = some (.int .i64 ((rd_T45 ((rd_T40 l0 x6_1).f3) x7_2).f1)) := (blk_cell BK238.out 1).trans rfl; have hcz41_2 : w37.cell? ⟨gb238, 2, none⟩ = some (.string ((rd_T45 ((rd_T40 l0 x6_1).f3) x7_2).f2)) := (blk_cell BK238.out 2).trans rfl; have hcz41_3 : w37.cell? ⟨gb238, 3, none⟩ = some (.int .i64 ((rd_T45 ((rd_T40 l0 x6_1).f3) x7_2).f3)) := (blk_cell BK238.out 3).trans rfl; have hfz41_0 := blk_frozen BK238.out 0; have hfz41_1 := blk_frozen BK238.out 1; have hfz41_2 := blk_frozen BK238.out 2; have hfz41_3 := blk_frozen BK238.out 3))
                                              go_roundg k3
                                              case measure => have := HK1.out; have := HK2.out; have := HK3.out; omega
                                              case rel => exact ⟨(true), (wrap64 (x13_3 + 1)), (by first | rfl | (simp; done) | (simp [*]; done)), (by first | rfl | (simp; done) | (simp [*]; done)), H', ⟨by have := HK1.out; have := HK2.out; have := HK3.out; omega⟩, ⟨by (with_reducible repeat (first | apply Kd.R_alloc | apply Kd.R_drewN | apply Kd.R_drew)); exact Kd.R_mono (Kd.R_far (p := ⟨gb242, 2, none⟩) (Kd.R_far (p := ⟨gb242, 1, none⟩) (Kd.R_far (p := ⟨gb242, 0, none⟩) (Kd.R_types HO_232001.out BK242.out (by decide)) (fun _ hk => hk.2) (.string ((rd_T36 t227 x13_3).f0))) (fun _ hk => hk.2) (.int .i64 ((rd_T36 t227 x13_3).f1))) (fun _ hk => hk.2) (.int .i64 ((rd_T36 t227 x13_3).f2))) (fun _ hk => trivial)⟩, ⟨by (with_reducible repeat (first | apply Kd.R_alloc | apply Kd.R_drewN | apply Kd.R_drew)); exact Kd.R_mono (Kd.R_far (p := ⟨gb242, 2, none⟩) (Kd.R_far (p := ⟨gb242, 1, none⟩) (Kd.R_far (p := ⟨gb242, 0, none⟩) (Kd.R_mono HO_232002.out (fun k_ hk => (⟨hk, hk.2⟩ : _ ∧ k_ ≠ gb242))) (fun _ hk => hk.2) (.string ((rd_T36 t227 x13_3).f0))) (fun _ hk => hk.2) (.int .i64 ((rd_T36 t227 x13_3).f1))) (fun _ hk => hk.2) (.int .i64 ((rd_T36 t227 x13_3).f2))) (fun _ hk => trivial)⟩, ⟨by (with_reducible repeat (first | refine blk_drewN ?_ _ | refine blk_drew ?_ | refine blk_alloc ?_ _)); refine blk_far ?_ NB231_242.out _; (with_reducible repeat (first | refine blk_drewN ?_ _ | refine blk_drew ?_ | refine blk_alloc ?_ _)); refine blk_far ?_ NB231_242.out _; (with_reducible repeat (first | refine blk_drewN ?_ _ | refine blk_drew ?_ | refine blk_alloc ?_ _)); refine blk_far ?_ NB231_242.out _; (with_reducible repeat (first | refine blk_drewN ?_ _ | refine blk_drew ?_ | refine blk_alloc ?_ _)); exact BK231.out⟩, ⟨by (with_reducible repeat (first | refine blk_drewN ?_ _ | refine blk_drew ?_ | refine blk_alloc ?_ _)); refine blk_far ?_ NB238_242.out _; (with_reducible repeat (first | refine blk_drewN ?_ _ | refine blk_drew ?_ | refine blk_alloc ?_ _)); refine blk_far ?_ NB238_242.out _; (with_reducible repeat (first | refine blk_drewN ?_ _ | refine blk_drew ?_ | refine blk_alloc ?_ _)); refine blk_far ?_ NB238_242.out _; (with_reducible repeat (first | refine blk_drewN ?_ _ | refine blk_drew ?_ | refine blk_alloc ?_ _)); exact BK238.out⟩, ⟨by repeat (first | (with_reducible first | exact HB.out | apply below_alloc | apply pw_below_drewN | apply below_drew1 | refine below_set ?_ GE231.out | refine below_set ?_ GE238.out | refine below_set ?_ GE242.out) | exact HB.out)⟩⟩
                                            · rw [if_neg c34] at H
                                              have c34b0 : ((wrap64 ((wrap64 (ji21 + 4)) + t239)) == ((rd_T36 t227 x13_3).f2)) = false := beq_eq_false_iff_ne.mpr c34
                                              have c34b1 : ((wrap64 ((wrap64 (ji21 + 4)) + t239)) != ((rd_T36 t227 x13_3).f2)) = true := bne_iff_ne.mpr c34
                                              by_cases c42 : ((rd_T45 ((rd_T40 l0 x6_1).f3) x7_2).f1) = 2
                                              · rw [if_pos c42] at H
                                                have c42b0 : (((rd_T45 ((rd_T40 l0 x6_1).f3) x7_2).f1) == 2) = true := beq_iff_eq.mpr c42
                                                have c42b1 : (((rd_T45 ((rd_T40 l0 x6_1).f3) x7_2).f1) != 2) = false := bne_eq_false_iff_eq.mpr c42
                                                clear c42
                                                have H' := Aside0.mk H
                                                clear H
                                                have hnb43 := NB231_238.out
                                                have hnc43 := NB238_231.out
                                                have hcz44_0 : wr.cell? ⟨gb231, 0, none⟩ = some (.string t223) := (blk_cell BK231.out 0).trans rfl
                                                have hcz44_1 : wr.cell? ⟨gb231, 1, none⟩ = some (.slice Ao9 t224.length co9) := (blk_cell BK231.out 1).trans rfl
                                                have hcz44_2 : wr.cell? ⟨gb231, 2, none⟩ = some (.slice Ao10 t227.length co10) := (blk_cell BK231.out 2).trans rfl
                                                have hfz44_0 := blk_frozen BK231.out 0
                                                have hfz44_1 := blk_frozen BK231.out 1
                                                have hfz44_2 := blk_frozen BK231.out 2
                                                have p241 : 0 ≤ (x13_3 : Int) := of_decide_eq_true (by first | (with_reducible assumption) | assumption)
                                                have q241 : x13_3 < (t227.length : Int) := of_decide_eq_true (by first | (with_reducible assumption) | assumption)
                                                obtain ⟨ad241, e241, hx241_0, hx241_1, hx241_2⟩ := at_T36 (Kd.R_reads' HO_232002.out).2.2 x13_3 p241 q241
                                                cases e241
                                                replace p241 := eq_true p241
                                                replace q241 := eq_true q241
                                                go_wp2_with (first | ((with_reducible refine gate_dst (N := 14) rfl ?_); refine box_event ?hg (N := 14) ?hd (cs := #[.string (⟨#[]⟩ : ByteArray), .int .i64 0, .int .i64 0]) (t := 36) ?hr ?_; (case hd => rfl); (case hg => rfl); (case hr => first | (go_simp; done) | (go_simp; rfl)); intro gb242 hg w45 hbox hb; have n0_ := Aside0.mk (Kd.R_below (by (with_reducible repeat (first | apply Kd.R_alloc | apply Kd.R_drewN | apply Kd.R_drew)); exact HO_232001.out) hb); have n1_ := Aside0.mk (Kd.R_below (Kd.R_elderB (by (with_reducible repeat (first | apply Kd.R_alloc | apply Kd.R_drewN | apply Kd.R_drew)); exact HO_232002.out) gb242 (Nat.le_of_eq hg.symm)) hb); have n2_ := Aside0.mk (blk_below (g := gb231) (o := .cells #[.string t223, .slice Ao9 t224.length co9, .slice (some ad241) t227.length co10] 29 (0, 0)) (by (with_reducible repeat (first | refine blk_drewN ?_ _ | refine blk_drew ?_ | refine blk_alloc ?_ _)); exact BK231.out) hb); have n3_ := Aside0.mk (blk_below (g := gb238) (o := .cells #[.int .i64 ((rd_T45 ((rd_T40 l0 x6_1).f3) x7_2).f0), .int .i64 ((rd_T45 ((rd_T40 l0 x6_1).f3) x7_2).f1), .string ((rd_T45 ((rd_T40 l0 x6_1).f3) x7_2).f2), .int .i64 ((rd_T45 ((rd_T40 l0 x6_1).f3) x7_2).f3)] 45 (0, 0)) (by (with_reducible repeat (first | refine blk_drewN ?_ _ | refine blk_drew ?_ | refine blk_alloc ?_ _)); exact BK238.out) hb); have n4_ := Aside0.mk (below_step (by repeat (first | (with_reducible first | exact HB.out | apply below_alloc | apply pw_below_drewN | apply below_drew1 | refine below_set ?_ GE231.out | refine below_set ?_ GE238.out) | exact HB.out)) hb); have n5_ := Aside0.mk (hbox); have n6_ := Aside0.mk ((by rw [hg]; exact (below_size (by repeat (first | (with_reducible first | exact HB.out | apply below_alloc | apply pw_below_drewN | apply below_drew1 | refine below_set ?_ GE231.out | refine below_set ?_ GE238.out) | exact HB.out))) : w.heap.size ≤ gb242)); have n7_ := Aside0.mk ((by rw [hg]; exact (below_size (by repeat (first | (with_reducible first | exact HB.out | apply below_alloc | apply pw_below_drewN | apply below_drew1 | refine below_set ?_ GE231.out | refine below_set ?_ GE238.out) | exact HB.out))) : w.heap.size ≤ gb242)); have n8_ := Aside0.mk ((by rw [hg]; exact Nat.ne_of_lt (blk_lt (g := gb231) (o := .cells #[.string t223, .slice Ao9 t224.length co9, .slice (some ad241) t227.length co10] 29 (0, 0)) (by (with_reducible repeat (first | refine blk_drewN ?_ _ | refine blk_drew ?_ | refine blk_alloc ?_ _)); exact BK231.out)) : gb231 ≠ gb242)); have n9_ := Aside0.mk ((by rw [hg]; exact Nat.ne_of_gt (blk_lt (g := gb231) (o := .cells #[.string t223, .slice Ao9 t224.length co9, .slice (some ad241) t227.length co10] 29 (0, 0)) (by (with_reducible repeat (first | refine blk_drewN ?_ _ | refine blk_drew ?_ | refine blk_alloc ?_ _)); exact BK231.out)) : gb242 ≠ gb231)); have n10_ := Aside0.mk ((by rw [hg]; exact Nat.ne_of_lt (blk_lt (g := gb238) (o := .cells #[.int .i64 ((rd_T45 ((rd_T40 l0 x6_1).f3) x7_2).f0), .int .i64 ((rd_T45 ((rd_T40 l0 x6_1).f3) x7_2).f1), .string ((rd_T45 ((rd_T40 l0 x6_1).f3) x7_2).f2), .int .i64 ((rd_T45 ((rd_T40 l0 x6_1).f3) x7_2).f3)] 45 (0, 0)) (by (with_reducible repeat (first | refine blk_drewN ?_ _ | refine blk_drew ?_ | refine blk_alloc ?_ _)); exact BK238.out)) : gb238 ≠ gb242)); have n11_ := Aside0.mk ((by rw [hg]; exact Nat.ne_of_gt (blk_lt (g := gb238) (o := .cells #[.int .i64 ((rd_T45 ((rd_T40 l0 x6_1).f3) x7_2).f0), .int .i64 ((rd_T45 ((rd_T40 l0 x6_1).f3) x7_2).f1), .string ((rd_T45 ((rd_T40 l0 x6_1).f3) x7_2).f2), .int .i64 ((rd_T45 ((rd_T40 l0 x6_1).f3) x7_2).f3)] 45 (0, 0)) (by (with_reducible repeat (first | refine blk_drewN ?_ _ | refine blk_drew ?_ | refine blk_alloc ?_ _)); exact BK238.out)) : gb242 ≠ gb238)); clear HO_232001; clear HO_232002; clear BK231; clear BK238; clear HB; have HO_232001 := n0_; have HO_232002 := n1_; have BK231 := n2_; have BK238 := n3_; have HB := n4_; have BK242 := n5_; have GW242 := n6_; have GE242 := n7_; have NB231_242 := n8_; have NB242_231 := n9_; have NB238_242 := n10_; have NB242_238 := n11_; clear n0_ n1_ n2_ n3_ n4_ n5_ n6_ n7_ n8_ n9_ n10_ n11_; clear hb hbox hg; have hnb46 := NB242_231.out; have hnc46 := NB231_242.out; have hnb47 := NB242_238.out; have hnc47 := NB238_242.out; have hcz48_0 : w45.cell? ⟨gb242, 0, none⟩ = some (.string (⟨#[]⟩ : ByteArray)) := (blk_cell BK242.out 0).trans rfl; have hcz48_1 : w45.cell? ⟨gb242, 1, none⟩ = some (.int .i64 0) := (blk_cell BK242.out 1).trans rfl; have hcz48_2 : w45.cell? ⟨gb242, 2, none⟩ = some (.int .i64 0) := (blk_cell BK242.out 2).trans rfl; have hfz48_0 := blk_frozen BK242.out 0; have hfz48_1 := blk_frozen BK242.out 1; have hfz48_2 := blk_frozen BK242.out 2; have hcz49_0 : w45.cell? ⟨gb238, 0, none⟩ = some (.int .i64 ((rd_T45 ((rd_T40 l0 x6_1).f3) x7_2).f0)) := (blk_cell BK238.out 0).trans rfl; have hcz49_1 : w45.cell? ⟨gb238, 1, none⟩ = some (.int .i64 ((rd_T45 ((rd_T40 l0 x6_1).f3) x7_2).f1)) := (blk_cell BK238.out 1).trans rfl; have hcz49_2 : w45.cell? ⟨gb238, 2, none⟩ = some (.string ((rd_T45 ((rd_T40 l0 x6_1).f3) x7_2).f2)) := (blk_cell BK238.out 2).trans rfl; have hcz49_3 : w45.cell? ⟨gb238, 3, none⟩ = some (.int .i64 ((rd_T45 ((rd_T40 l0 x6_1).f3) x7_2).f3)) := (blk_cell BK238.out 3).trans rfl; have hfz49_0 := blk_frozen BK238.out 0; have hfz49_1 := blk_frozen BK238.out 1; have hfz49_2 := blk_frozen BK238.out 2; have hfz49_3 := blk_frozen BK238.out 3))
                                                go_roundg k3
                                                case measure => have := HK1.out; have := HK2.out; have := HK3.out; omega
                                                case rel => exact ⟨((t239 == (wrap64 ((wrap64 (1048576 + (wrap64 (8 * ((rd_T36 t227 x13_3).f2))))) + ((rd_T45 ((rd_T40 l0 x6_1).f3) x7_2).f3))))), (wrap64 (x13_3 + 1)), (by first | rfl | (simp; done) | (simp [*]; done)), (by first | rfl | (simp; done) | (simp [*]; done)), H', ⟨by have := HK1.out; have := HK2.out; have := HK3.out; omega⟩, ⟨by (with_reducible repeat (first | apply Kd.R_alloc | apply Kd.R_drewN | apply Kd.R_drew)); exact Kd.R_mono (Kd.R_far (p := ⟨gb242, 2, none⟩) (Kd.R_far (p := ⟨gb242, 1, none⟩) (Kd.R_far (p := ⟨gb242, 0, none⟩) (Kd.R_types HO_232001.out BK242.out (by decide)) (fun _ hk => hk.2) (.string ((rd_T36 t227 x13_3).f0))) (fun _ hk => hk.2) (.int .i64 ((rd_T36 t227 x13_3).f1))) (fun _ hk => hk.2) (.int .i64 ((rd_T36 t227 x13_3).f2))) (fun _ hk => trivial)⟩, ⟨by (with_reducible repeat (first | apply Kd.R_alloc | apply Kd.R_drewN | apply Kd.R_drew)); exact Kd.R_mono (Kd.R_far (p := ⟨gb242, 2, none⟩) (Kd.R_far (p := ⟨gb242, 1, none⟩) (Kd.R_far (p := ⟨gb242, 0, none⟩) (Kd.R_mono HO_232002.out (fun k_ hk => (⟨hk, hk.2⟩ : _ ∧ k_ ≠ gb242))) (fun _ hk => hk.2) (.string ((rd_T36 t227 x13_3).f0))) (fun _ hk => hk.2) (.int .i64 ((rd_T36 t227 x13_3).f1))) (fun _ hk => hk.2) (.int .i64 ((rd_T36 t227 x13_3).f2))) (fun _ hk => trivial)⟩, ⟨by (with_reducible repeat (first | refine blk_drewN ?_ _ | refine blk_drew ?_ | refine blk_alloc ?_ _)); refine blk_far ?_ NB231_242.out _; (with_reducible repeat (first | refine blk_drewN ?_ _ | refine blk_drew ?_ | refine blk_alloc ?_ _)); refine blk_far ?_ NB231_242.out _; (with_reducible repeat (first | refine blk_drewN ?_ _ | refine blk_drew ?_ | refine blk_alloc ?_ _)); refine blk_far ?_ NB231_242.out _; (with_reducible repeat (first | refine blk_drewN ?_ _ | refine blk_drew ?_ | refine blk_alloc ?_ _)); exact BK231.out⟩, ⟨by (with_reducible repeat (first | refine blk_drewN ?_ _ | refine blk_drew ?_ | refine blk_alloc ?_ _)); refine blk_far ?_ NB238_242.out _; (with_reducible repeat (first | refine blk_drewN ?_ _ | refine blk_drew ?_ | refine blk_alloc ?_ _)); refine blk_far ?_ NB238_242.out _; (with_reducible repeat (first | refine blk_drewN ?_ _ | refine blk_drew ?_ | refine blk_alloc ?_ _)); refine blk_far ?_ NB238_242.out _; (with_reducible repeat (first | refine blk_drewN ?_ _ | refine blk_drew ?_ | refine blk_alloc ?_ _)); exact BK238.out⟩, ⟨by repeat (first | (with_reducible first | exact HB.out | apply below_alloc | apply pw_below_drewN | apply below_drew1 | refine below_set ?_ GE231.out | refine below_set ?_ GE238.out | refine below_set ?_ GE242.out) | exact HB.out)⟩⟩
                                              · rw [if_neg c42] at H
                                                have c42b0 : (((rd_T45 ((rd_T40 l0 x6_1).f3) x7_2).f1) == 2) = false := beq_eq_false_iff_ne.mpr c42
                                                have c42b1 : (((rd_T45 ((rd_T40 l0 x6_1).f3) x7_2).f1) != 2) = true := bne_iff_ne.mpr c42
                                                have H' := Aside0.mk H
                                                clear H
                                                have hnb50 := NB231_238.out
                                                have hnc50 := NB238_231.out
                                                have hcz51_0 : wr.cell? ⟨gb231, 0, none⟩ = some (.string t223) := (blk_cell BK231.out 0).trans rfl
                                                have hcz51_1 : wr.cell? ⟨gb231, 1, none⟩ = some (.slice Ao9 t224.length co9) := (blk_cell BK231.out 1).trans rfl
                                                have hcz51_2 : wr.cell? ⟨gb231, 2, none⟩ = some (.slice Ao10 t227.length co10) := (blk_cell BK231.out 2).trans rfl
                                                have hfz51_0 := blk_frozen BK231.out 0
                                                have hfz51_1 := blk_frozen BK231.out 1
                                                have hfz51_2 := blk_frozen BK231.out 2
                                                have p241 : 0 ≤ (x13_3 : Int) := of_decide_eq_true (by first | (with_reducible assumption) | assumption)
                                                have q241 : x13_3 < (t227.length : Int) := of_decide_eq_true (by first | (with_reducible assumption) | assumption)
                                                obtain ⟨ad241, e241, hx241_0, hx241_1, hx241_2⟩ := at_T36 (Kd.R_reads' HO_232002.out).2.2 x13_3 p241 q241
                                                cases e241
                                                replace p241 := eq_true p241
                                                replace q241 := eq_true q241
                                                go_wp2_with (first | ((with_reducible refine gate_dst (N := 14) rfl ?_); refine box_event ?hg (N := 14) ?hd (cs := #[.string (⟨#[]⟩ : ByteArray), .int .i64 0, .int .i64 0]) (t := 36) ?hr ?_; (case hd => rfl); (case hg => rfl); (case hr => first | (go_simp; done) | (go_simp; rfl)); intro gb242 hg w52 hbox hb; have n0_ := Aside0.mk (Kd.R_below (by (with_reducible repeat (first | apply Kd.R_alloc | apply Kd.R_drewN | apply Kd.R_drew)); exact HO_232001.out) hb); have n1_ := Aside0.mk (Kd.R_below (Kd.R_elderB (by (with_reducible repeat (first | apply Kd.R_alloc | apply Kd.R_drewN | apply Kd.R_drew)); exact HO_232002.out) gb242 (Nat.le_of_eq hg.symm)) hb); have n2_ := Aside0.mk (blk_below (g := gb231) (o := .cells #[.string t223, .slice Ao9 t224.length co9, .slice (some ad241) t227.length co10] 29 (0, 0)) (by (with_reducible repeat (first | refine blk_drewN ?_ _ | refine blk_drew ?_ | refine blk_alloc ?_ _)); exact BK231.out) hb); have n3_ := Aside0.mk (blk_below (g := gb238) (o := .cells #[.int .i64 ((rd_T45 ((rd_T40 l0 x6_1).f3) x7_2).f0), .int .i64 ((rd_T45 ((rd_T40 l0 x6_1).f3) x7_2).f1), .string ((rd_T45 ((rd_T40 l0 x6_1).f3) x7_2).f2), .int .i64 ((rd_T45 ((rd_T40 l0 x6_1).f3) x7_2).f3)] 45 (0, 0)) (by (with_reducible repeat (first | refine blk_drewN ?_ _ | refine blk_drew ?_ | refine blk_alloc ?_ _)); exact BK238.out) hb); have n4_ := Aside0.mk (below_step (by repeat (first | (with_reducible first | exact HB.out | apply below_alloc | apply pw_below_drewN | apply below_drew1 | refine below_set ?_ GE231.out | refine below_set ?_ GE238.out) | exact HB.out)) hb); have n5_ := Aside0.mk (hbox); have n6_ := Aside0.mk ((by rw [hg]; exact (below_size (by repeat (first | (with_reducible first | exact HB.out | apply below_alloc | apply pw_below_drewN | apply below_drew1 | refine below_set ?_ GE231.out | refine below_set ?_ GE238.out) | exact HB.out))) : w.heap.size ≤ gb242)); have n7_ := Aside0.mk ((by rw [hg]; exact (below_size (by repeat (first | (with_reducible first | exact HB.out | apply below_alloc | apply pw_below_drewN | apply below_drew1 | refine below_set ?_ GE231.out | refine below_set ?_ GE238.out) | exact HB.out))) : w.heap.size ≤ gb242)); have n8_ := Aside0.mk ((by rw [hg]; exact Nat.ne_of_lt (blk_lt (g := gb231) (o := .cells #[.string t223, .slice Ao9 t224.length co9, .slice (some ad241) t227.length co10] 29 (0, 0)) (by (with_reducible repeat (first | refine blk_drewN ?_ _ | refine blk_drew ?_ | refine blk_alloc ?_ _)); exact BK231.out)) : gb231 ≠ gb242)); have n9_ := Aside0.mk ((by rw [hg]; exact Nat.ne_of_gt (blk_lt (g := gb231) (o := .cells #[.string t223, .slice Ao9 t224.length co9, .slice (some ad241) t227.length co10] 29 (0, 0)) (by (with_reducible repeat (first | refine blk_drewN ?_ _ | refine blk_drew ?_ | refine blk_alloc ?_ _)); exact BK231.out)) : gb242 ≠ gb231)); have n10_ := Aside0.mk ((by rw [hg]; exact Nat.ne_of_lt (blk_lt (g := gb238) (o := .cells #[.int .i64 ((rd_T45 ((rd_T40 l0 x6_1).f3) x7_2).f0), .int .i64 ((rd_T45 ((rd_T40 l0 x6_1).f3) x7_2).f1), .string ((rd_T45 ((rd_T40 l0 x6_1).f3) x7_2).f2), .int .i64 ((rd_T45 ((rd_T40 l0 x6_1).f3) x7_2).f3)] 45 (0, 0)) (by (with_reducible repeat (first | refine blk_drewN ?_ _ | refine blk_drew ?_ | refine blk_alloc ?_ _)); exact BK238.out)) : gb238 ≠ gb242)); have n11_ := Aside0.mk ((by rw [hg]; exact Nat.ne_of_gt (blk_lt (g := gb238) (o := .cells #[.int .i64 ((rd_T45 ((rd_T40 l0 x6_1).f3) x7_2).f0), .int .i64 ((rd_T45 ((rd_T40 l0 x6_1).f3) x7_2).f1), .string ((rd_T45 ((rd_T40 l0 x6_1).f3) x7_2).f2), .int .i64 ((rd_T45 ((rd_T40 l0 x6_1).f3) x7_2).f3)] 45 (0, 0)) (by (with_reducible repeat (first | refine blk_drewN ?_ _ | refine blk_drew ?_ | refine blk_alloc ?_ _)); exact BK238.out)) : gb242 ≠ gb238)); clear HO_232001; clear HO_232002; clear BK231; clear BK238; clear HB; have HO_232001 := n0_; have HO_232002 := n1_; have BK231 := n2_; have BK238 := n3_; have HB := n4_; have BK242 := n5_; have GW242 := n6_; have GE242 := n7_; have NB231_242 := n8_; have NB242_231 := n9_; have NB238_242 := n10_; have NB242_238 := n11_; clear n0_ n1_ n2_ n3_ n4_ n5_ n6_ n7_ n8_ n9_ n10_ n11_; clear hb hbox hg; have hnb53 := NB242_231.out; have hnc53 := NB231_242.out; have hnb54 := NB242_238.out; have hnc54 := NB238_242.out; have hcz55_0 : w52.cell? ⟨gb242, 0, none⟩ = some (.string (⟨#[]⟩ : ByteArray)) := (blk_cell BK242.out 0).trans rfl; have hcz55_1 : w52.cell? ⟨gb242, 1, none⟩ = some (.int .i64 0) := (blk_cell BK242.out 1).trans rfl; have hcz55_2 : w52.cell? ⟨gb242, 2, none⟩ = some (.int .i64 0) := (blk_cell BK242.out 2).trans rfl; have hfz55_0 := blk_frozen BK242.out 0; have hfz55_1 := blk_frozen BK242.out 1; have hfz55_2 := blk_frozen BK242.out 2; have hcz56_0 : w52.cell? ⟨gb238, 0, none⟩ = some (.int .i64 ((rd_T45 ((rd_T40 l0 x6_1).f3) x7_2).f0)) := (blk_cell BK238.out 0).trans rfl; have hcz56_1 : w52.cell? ⟨gb238, 1, none⟩ = some (.int .i64 ((rd_T45 ((rd_T40 l0 x6_1).f3) x7_2).f1)) := (blk_cell BK238.out 1).trans rfl; have hcz56_2 : w52.cell? ⟨gb238, 2, none⟩ = some (.string ((rd_T45 ((rd_T40 l0 x6_1).f3) x7_2).f2)) := (blk_cell BK238.out 2).trans rfl; have hcz56_3 : w52.cell? ⟨gb238, 3, none⟩ = some (.int .i64 ((rd_T45 ((rd_T40 l0 x6_1).f3) x7_2).f3)) := (blk_cell BK238.out 3).trans rfl; have hfz56_0 := blk_frozen BK238.out 0; have hfz56_1 := blk_frozen BK238.out 1; have hfz56_2 := blk_frozen BK238.out 2; have hfz56_3 := blk_frozen BK238.out 3))
                                                go_roundg k3
                                                case measure => have := HK1.out; have := HK2.out; have := HK3.out; omega
                                                case rel => exact ⟨(false), (wrap64 (x13_3 + 1)), (by first | rfl | (simp; done) | (simp [*]; done)), (by first | rfl | (simp; done) | (simp [*]; done)), H', ⟨by have := HK1.out; have := HK2.out; have := HK3.out; omega⟩, ⟨by (with_reducible repeat (first | apply Kd.R_alloc | apply Kd.R_drewN | apply Kd.R_drew)); exact Kd.R_mono (Kd.R_far (p := ⟨gb242, 2, none⟩) (Kd.R_far (p := ⟨gb242, 1, none⟩) (Kd.R_far (p := ⟨gb242, 0, none⟩) (Kd.R_types HO_232001.out BK242.out (by decide)) (fun _ hk => hk.2) (.string ((rd_T36 t227 x13_3).f0))) (fun _ hk => hk.2) (.int .i64 ((rd_T36 t227 x13_3).f1))) (fun _ hk => hk.2) (.int .i64 ((rd_T36 t227 x13_3).f2))) (fun _ hk => trivial)⟩, ⟨by (with_reducible repeat (first | apply Kd.R_alloc | apply Kd.R_drewN | apply Kd.R_drew)); exact Kd.R_mono (Kd.R_far (p := ⟨gb242, 2, none⟩) (Kd.R_far (p := ⟨gb242, 1, none⟩) (Kd.R_far (p := ⟨gb242, 0, none⟩) (Kd.R_mono HO_232002.out (fun k_ hk => (⟨hk, hk.2⟩ : _ ∧ k_ ≠ gb242))) (fun _ hk => hk.2) (.string ((rd_T36 t227 x13_3).f0))) (fun _ hk => hk.2) (.int .i64 ((rd_T36 t227 x13_3).f1))) (fun _ hk => hk.2) (.int .i64 ((rd_T36 t227 x13_3).f2))) (fun _ hk => trivial)⟩, ⟨by (with_reducible repeat (first | refine blk_drewN ?_ _ | refine blk_drew ?_ | refine blk_alloc ?_ _)); refine blk_far ?_ NB231_242.out _; (with_reducible repeat (first | refine blk_drewN ?_ _ | refine blk_drew ?_ | refine blk_alloc ?_ _)); refine blk_far ?_ NB231_242.out _; (with_reducible repeat (first | refine blk_drewN ?_ _ | refine blk_drew ?_ | refine blk_alloc ?_ _)); refine blk_far ?_ NB231_242.out _; (with_reducible repeat (first | refine blk_drewN ?_ _ | refine blk_drew ?_ | refine blk_alloc ?_ _)); exact BK231.out⟩, ⟨by (with_reducible repeat (first | refine blk_drewN ?_ _ | refine blk_drew ?_ | refine blk_alloc ?_ _)); refine blk_far ?_ NB238_242.out _; (with_reducible repeat (first | refine blk_drewN ?_ _ | refine blk_drew ?_ | refine blk_alloc ?_ _)); refine blk_far ?_ NB238_242.out _; (with_reducible repeat (first | refine blk_drewN ?_ _ | refine blk_drew ?_ | refine blk_alloc ?_ _)); refine blk_far ?_ NB238_242.out _; (with_reducible repeat (first | refine blk_drewN ?_ _ | refine blk_drew ?_ | refine blk_alloc ?_ _)); exact BK238.out⟩, ⟨by repeat (first | (with_reducible first | exact HB.out | apply below_alloc | apply pw_below_drewN | apply below_drew1 | refine below_set ?_ GE231.out | refine below_set ?_ GE238.out | refine below_set ?_ GE242.out) | exact HB.out)⟩⟩
                                          · rw [if_neg c33] at H
                                            have c33b0 : (((rd_T45 ((rd_T40 l0 x6_1).f3) x7_2).f1) == 1) = false := beq_eq_false_iff_ne.mpr c33
                                            have c33b1 : (((rd_T45 ((rd_T40 l0 x6_1).f3) x7_2).f1) != 1) = true := bne_iff_ne.mpr c33
                                            by_cases c57 : ((rd_T45 ((rd_T40 l0 x6_1).f3) x7_2).f1) = 2
                                            · rw [if_pos c57] at H
                                              have c57b0 : (((rd_T45 ((rd_T40 l0 x6_1).f3) x7_2).f1) == 2) = true := beq_iff_eq.mpr c57
                                              have c57b1 : (((rd_T45 ((rd_T40 l0 x6_1).f3) x7_2).f1) != 2) = false := bne_eq_false_iff_eq.mpr c57
                                              clear c57
                                              have H' := Aside0.mk H
                                              clear H
                                              have hnb58 := NB231_238.out
                                              have hnc58 := NB238_231.out
                                              have hcz59_0 : wr.cell? ⟨gb231, 0, none⟩ = some (.string t223) := (blk_cell BK231.out 0).trans rfl
                                              have hcz59_1 : wr.cell? ⟨gb231, 1, none⟩ = some (.slice Ao9 t224.length co9) := (blk_cell BK231.out 1).trans rfl
                                              have hcz59_2 : wr.cell? ⟨gb231, 2, none⟩ = some (.slice Ao10 t227.length co10) := (blk_cell BK231.out 2).trans rfl
                                              have hfz59_0 := blk_frozen BK231.out 0
                                              have hfz59_1 := blk_frozen BK231.out 1
                                              have hfz59_2 := blk_frozen BK231.out 2
                                              have p241 : 0 ≤ (x13_3 : Int) := of_decide_eq_true (by first | (with_reducible assumption) | assumption)
                                              have q241 : x13_3 < (t227.length : Int) := of_decide_eq_true (by first | (with_reducible assumption) | assumption)
                                              obtain ⟨ad241, e241, hx241_0, hx241_1, hx241_2⟩ := at_T36 (Kd.R_reads' HO_232002.out).2.2 x13_3 p241 q241
                                              cases e241
                                              replace p241 := eq_true p241
                                              replace q241 := eq_true q241
                                              go_wp2_with (first | ((with_reducible refine gate_dst (N := 14) rfl ?_); refine box_event ?hg (N := 14) ?hd (cs := #[.string (⟨#[]⟩ : ByteArray), .int .i64 0, .int .i64 0]) (t := 36) ?hr ?_; (case hd => rfl); (case hg => rfl); (case hr => first | (go_simp; done) | (go_simp; rfl)); intro gb242 hg w60 hbox hb; have n0_ := Aside0.mk (Kd.R_below (by (with_reducible repeat (first | apply Kd.R_alloc | apply Kd.R_drewN | apply Kd.R_drew)); exact HO_232001.out) hb); have n1_ := Aside0.mk (Kd.R_below (Kd.R_elderB (by (with_reducible repeat (first | apply Kd.R_alloc | apply Kd.R_drewN | apply Kd.R_drew)); exact HO_232002.out) gb242 (Nat.le_of_eq hg.symm)) hb); have n2_ := Aside0.mk (blk_below (g := gb231) (o := .cells #[.string t223, .slice Ao9 t224.length co9, .slice (some ad241) t227.length co10] 29 (0, 0)) (by (with_reducible repeat (first | refine blk_drewN ?_ _ | refine blk_drew ?_ | refine blk_alloc ?_ _)); exact BK231.out) hb); have n3_ := Aside0.mk (blk_below (g := gb238) (o := .cells #[.int .i64 ((rd_T45 ((rd_T40 l0 x6_1).f3) x7_2).f0), .int .i64 ((rd_T45 ((rd_T40 l0 x6_1).f3) x7_2).f1), .string ((rd_T45 ((rd_T40 l0 x6_1).f3) x7_2).f2), .int .i64 ((rd_T45 ((rd_T40 l0 x6_1).f3) x7_2).f3)] 45 (0, 0)) (by (with_reducible repeat (first | refine blk_drewN ?_ _ | refine blk_drew ?_ | refine blk_alloc ?_ _)); exact BK238.out) hb); have n4_ := Aside0.mk (below_step (by repeat (first | (with_reducible first | exact HB.out | apply below_alloc | apply pw_below_drewN | apply below_drew1 | refine below_set ?_ GE231.out | refine below_set ?_ GE238.out) | exact HB.out)) hb); have n5_ := Aside0.mk (hbox); have n6_ := Aside0.mk ((by rw [hg]; exact (below_size (by repeat (first | (with_reducible first | exact HB.out | apply below_alloc | apply pw_below_drewN | apply below_drew1 | refine below_set ?_ GE231.out | refine below_set ?_ GE238.out) | exact HB.out))) : w.heap.size ≤ gb242)); have n7_ := Aside0.mk ((by rw [hg]; exact (below_size (by repeat (first | (with_reducible first | exact HB.out | apply below_alloc | apply pw_below_drewN | apply below_drew1 | refine below_set ?_ GE231.out | refine below_set ?_ GE238.out) | exact HB.out))) : w.heap.size ≤ gb242)); have n8_ := Aside0.mk ((by rw [hg]; exact Nat.ne_of_lt (blk_lt (g := gb231) (o := .cells #[.string t223, .slice Ao9 t224.length co9, .slice (some ad241) t227.length co10] 29 (0, 0)) (by (with_reducible repeat (first | refine blk_drewN ?_ _ | refine blk_drew ?_ | refine blk_alloc ?_ _)); exact BK231.out)) : gb231 ≠ gb242)); have n9_ := Aside0.mk ((by rw [hg]; exact Nat.ne_of_gt (blk_lt (g := gb231) (o := .cells #[.string t223, .slice Ao9 t224.length co9, .slice (some ad241) t227.length co10] 29 (0, 0)) (by (with_reducible repeat (first | refine blk_drewN ?_ _ | refine blk_drew ?_ | refine blk_alloc ?_ _)); exact BK231.out)) : gb242 ≠ gb231)); have n10_ := Aside0.mk ((by rw [hg]; exact Nat.ne_of_lt (blk_lt (g := gb238) (o := .cells #[.int .i64 ((rd_T45 ((rd_T40 l0 x6_1).f3) x7_2).f0), .int .i64 ((rd_T45 ((rd_T40 l0 x6_1).f3) x7_2).f1), .string ((rd_T45 ((rd_T40 l0 x6_1).f3) x7_2).f2), .int .i64 ((rd_T45 ((rd_T40 l0 x6_1).f3) x7_2).f3)] 45 (0, 0)) (by (with_reducible repeat (first | refine blk_drewN ?_ _ | refine blk_drew ?_ | refine blk_alloc ?_ _)); exact BK238.out)) : gb238 ≠ gb242)); have n11_ := Aside0.mk ((by rw [hg]; exact Nat.ne_of_gt (blk_lt (g := gb238) (o := .cells #[.int .i64 ((rd_T45 ((rd_T40 l0 x6_1).f3) x7_2).f0), .int .i64 ((rd_T45 ((rd_T40 l0 x6_1).f3) x7_2).f1), .string ((rd_T45 ((rd_T40 l0 x6_1).f3) x7_2).f2), .int .i64 ((rd_T45 ((rd_T40 l0 x6_1).f3) x7_2).f3)] 45 (0, 0)) (by (with_reducible repeat (first | refine blk_drewN ?_ _ | refine blk_drew ?_ | refine blk_alloc ?_ _)); exact BK238.out)) : gb242 ≠ gb238)); clear HO_232001; clear HO_232002; clear BK231; clear BK238; clear HB; have HO_232001 := n0_; have HO_232002 := n1_; have BK231 := n2_; have BK238 := n3_; have HB := n4_; have BK242 := n5_; have GW242 := n6_; have GE242 := n7_; have NB231_242 := n8_; have NB242_231 := n9_; have NB238_242 := n10_; have NB242_238 := n11_; clear n0_ n1_ n2_ n3_ n4_ n5_ n6_ n7_ n8_ n9_ n10_ n11_; clear hb hbox hg; have hnb61 := NB242_231.out; have hnc61 := NB231_242.out; have hnb62 := NB242_238.out; have hnc62 := NB238_242.out; have hcz63_0 : w60.cell? ⟨gb242, 0, none⟩ = some (.string (⟨#[]⟩ : ByteArray)) := (blk_cell BK242.out 0).trans rfl; have hcz63_1 : w60.cell? ⟨gb242, 1, none⟩ = some (.int .i64 0) := (blk_cell BK242.out 1).trans rfl; have hcz63_2 : w60.cell? ⟨gb242, 2, none⟩ = some (.int .i64 0) := (blk_cell BK242.out 2).trans rfl; have hfz63_0 := blk_frozen BK242.out 0; have hfz63_1 := blk_frozen BK242.out 1; have hfz63_2 := blk_frozen BK242.out 2; have hcz64_0 : w60.cell? ⟨gb238, 0, none⟩ = some (.int .i64 ((rd_T45 ((rd_T40 l0 x6_1).f3) x7_2).f0)) := (blk_cell BK238.out 0).trans rfl; have hcz64_1 : w60.cell? ⟨gb238, 1, none⟩ = some (.int .i64 ((rd_T45 ((rd_T40 l0 x6_1).f3) x7_2).f1)) := (blk_cell BK238.out 1).trans rfl; have hcz64_2 : w60.cell? ⟨gb238, 2, none⟩ = some (.string ((rd_T45 ((rd_T40 l0 x6_1).f3) x7_2).f2)) := (blk_cell BK238.out 2).trans rfl; have hcz64_3 : w60.cell? ⟨gb238, 3, none⟩ = some (.int .i64 ((rd_T45 ((rd_T40 l0 x6_1).f3) x7_2).f3)) := (blk_cell BK238.out 3).trans rfl; have hfz64_0 := blk_frozen BK238.out 0; have hfz64_1 := blk_frozen BK238.out 1; have hfz64_2 := blk_frozen BK238.out 2; have hfz64_3 := blk_frozen BK238.out 3))
                                              go_roundg k3
                                              case measure => have := HK1.out; have := HK2.out; have := HK3.out; omega
                                              case rel => exact ⟨((t239 == (wrap64 ((wrap64 (1048576 + (wrap64 (8 * ((rd_T36 t227 x13_3).f2))))) + ((rd_T45 ((rd_T40 l0 x6_1).f3) x7_2).f3))))), (wrap64 (x13_3 + 1)), (by first | rfl | (simp; done) | (simp [*]; done)), (by first | rfl | (simp; done) | (simp [*]; done)), H', ⟨by have := HK1.out; have := HK2.out; have := HK3.out; omega⟩, ⟨by (with_reducible repeat (first | apply Kd.R_alloc | apply Kd.R_drewN | apply Kd.R_drew)); exact Kd.R_mono (Kd.R_far (p := ⟨gb242, 2, none⟩) (Kd.R_far (p := ⟨gb242, 1, none⟩) (Kd.R_far (p := ⟨gb242, 0, none⟩) (Kd.R_types HO_232001.out BK242.out (by decide)) (fun _ hk => hk.2) (.string ((rd_T36 t227 x13_3).f0))) (fun _ hk => hk.2) (.int .i64 ((rd_T36 t227 x13_3).f1))) (fun _ hk => hk.2) (.int .i64 ((rd_T36 t227 x13_3).f2))) (fun _ hk => trivial)⟩, ⟨by (with_reducible repeat (first | apply Kd.R_alloc | apply Kd.R_drewN | apply Kd.R_drew)); exact Kd.R_mono (Kd.R_far (p := ⟨gb242, 2, none⟩) (Kd.R_far (p := ⟨gb242, 1, none⟩) (Kd.R_far (p := ⟨gb242, 0, none⟩) (Kd.R_mono HO_232002.out (fun k_ hk => (⟨hk, hk.2⟩ : _ ∧ k_ ≠ gb242))) (fun _ hk => hk.2) (.string ((rd_T36 t227 x13_3).f0))) (fun _ hk => hk.2) (.int .i64 ((rd_T36 t227 x13_3).f1))) (fun _ hk => hk.2) (.int .i64 ((rd_T36 t227 x13_3).f2))) (fun _ hk => trivial)⟩, ⟨by (with_reducible repeat (first | refine blk_drewN ?_ _ | refine blk_drew ?_ | refine blk_alloc ?_ _)); refine blk_far ?_ NB231_242.out _; (with_reducible repeat (first | refine blk_drewN ?_ _ | refine blk_drew ?_ | refine blk_alloc ?_ _)); refine blk_far ?_ NB231_242.out _; (with_reducible repeat (first | refine blk_drewN ?_ _ | refine blk_drew ?_ | refine blk_alloc ?_ _)); refine blk_far ?_ NB231_242.out _; (with_reducible repeat (first | refine blk_drewN ?_ _ | refine blk_drew ?_ | refine blk_alloc ?_ _)); exact BK231.out⟩, ⟨by (with_reducible repeat (first | refine blk_drewN ?_ _ | refine blk_drew ?_ | refine blk_alloc ?_ _)); refine blk_far ?_ NB238_242.out _; (with_reducible repeat (first | refine blk_drewN ?_ _ | refine blk_drew ?_ | refine blk_alloc ?_ _)); refine blk_far ?_ NB238_242.out _; (with_reducible repeat (first | refine blk_drewN ?_ _ | refine blk_drew ?_ | refine blk_alloc ?_ _)); refine blk_far ?_ NB238_242.out _; (with_reducible repeat (first | refine blk_drewN ?_ _ | refine blk_drew ?_ | refine blk_alloc ?_ _)); exact BK238.out⟩, ⟨by repeat (first | (with_reducible first | exact HB.out | apply below_alloc | apply pw_below_drewN | apply below_drew1 | refine below_set ?_ GE231.out | refine below_set ?_ GE238.out | refine below_set ?_ GE242.out) | exact HB.out)⟩⟩
                                            · rw [if_neg c57] at H
                                              have c57b0 : (((rd_T45 ((rd_T40 l0 x6_1).f3) x7_2).f1) == 2) = false := beq_eq_false_iff_ne.mpr c57
                                              have c57b1 : (((rd_T45 ((rd_T40 l0 x6_1).f3) x7_2).f1) != 2) = true := bne_iff_ne.mpr c57
                                              have H' := Aside0.mk H
                                              clear H
                                              have hnb65 := NB231_238.out
                                              have hnc65 := NB238_231.out
                                              have hcz66_0 : wr.cell? ⟨gb231, 0, none⟩ = some (.string t223) := (blk_cell BK231.out 0).trans rfl
                                              have hcz66_1 : wr.cell? ⟨gb231, 1, none⟩ = some (.slice Ao9 t224.length co9) := (blk_cell BK231.out 1).trans rfl
                                              have hcz66_2 : wr.cell? ⟨gb231, 2, none⟩ = some (.slice Ao10 t227.length co10) := (blk_cell BK231.out 2).trans rfl
                                              have hfz66_0 := blk_frozen BK231.out 0
                                              have hfz66_1 := blk_frozen BK231.out 1
                                              have hfz66_2 := blk_frozen BK231.out 2
                                              have p241 : 0 ≤ (x13_3 : Int) := of_decide_eq_true (by first | (with_reducible assumption) | assumption)
                                              have q241 : x13_3 < (t227.length : Int) := of_decide_eq_true (by first | (with_reducible assumption) | assumption)
                                              obtain ⟨ad241, e241, hx241_0, hx241_1, hx241_2⟩ := at_T36 (Kd.R_reads' HO_232002.out).2.2 x13_3 p241 q241
                                              cases e241
                                              replace p241 := eq_true p241
                                              replace q241 := eq_true q241
                                              go_wp2_with (first | ((with_reducible refine gate_dst (N := 14) rfl ?_); refine box_event ?hg (N := 14) ?hd (cs := #[.string (⟨#[]⟩ : ByteArray), .int .i64 0, .int .i64 0]) (t := 36) ?hr ?_; (case hd => rfl); (case hg => rfl); (case hr => first | (go_simp; done) | (go_simp; rfl)); intro gb242 hg w67 hbox hb; have n0_ := Aside0.mk (Kd.R_below (by (with_reducible repeat (first | apply Kd.R_alloc | apply Kd.R_drewN | apply Kd.R_drew)); exact HO_232001.out) hb); have n1_ := Aside0.mk (Kd.R_below (Kd.R_elderB (by (with_reducible repeat (first | apply Kd.R_alloc | apply Kd.R_drewN | apply Kd.R_drew)); exact HO_232002.out) gb242 (Nat.le_of_eq hg.symm)) hb); have n2_ := Aside0.mk (blk_below (g := gb231) (o := .cells #[.string t223, .slice Ao9 t224.length co9, .slice (some ad241) t227.length co10] 29 (0, 0)) (by (with_reducible repeat (first | refine blk_drewN ?_ _ | refine blk_drew ?_ | refine blk_alloc ?_ _)); exact BK231.out) hb); have n3_ := Aside0.mk (blk_below (g := gb238) (o := .cells #[.int .i64 ((rd_T45 ((rd_T40 l0 x6_1).f3) x7_2).f0), .int .i64 ((rd_T45 ((rd_T40 l0 x6_1).f3) x7_2).f1), .string ((rd_T45 ((rd_T40 l0 x6_1).f3) x7_2).f2), .int .i64 ((rd_T45 ((rd_T40 l0 x6_1).f3) x7_2).f3)] 45 (0, 0)) (by (with_reducible repeat (first | refine blk_drewN ?_ _ | refine blk_drew ?_ | refine blk_alloc ?_ _)); exact BK238.out) hb); have n4_ := Aside0.mk (below_step (by repeat (first | (with_reducible first | exact HB.out | apply below_alloc | apply pw_below_drewN | apply below_drew1 | refine below_set ?_ GE231.out | refine below_set ?_ GE238.out) | exact HB.out)) hb); have n5_ := Aside0.mk (hbox); have n6_ := Aside0.mk ((by rw [hg]; exact (below_size (by repeat (first | (with_reducible first | exact HB.out | apply below_alloc | apply pw_below_drewN | apply below_drew1 | refine below_set ?_ GE231.out | refine below_set ?_ GE238.out) | exact HB.out))) : w.heap.size ≤ gb242)); have n7_ := Aside0.mk ((by rw [hg]; exact (below_size (by repeat (first | (with_reducible first | exact HB.out | apply below_alloc | apply pw_below_drewN | apply below_drew1 | refine below_set ?_ GE231.out | refine below_set ?_ GE238.out) | exact HB.out))) : w.heap.size ≤ gb242)); have n8_ := Aside0.mk ((by rw [hg]; exact Nat.ne_of_lt (blk_lt (g := gb231) (o := .cells #[.string t223, .slice Ao9 t224.length co9, .slice (some ad241) t227.length co10] 29 (0, 0)) (by (with_reducible repeat (first | refine blk_drewN ?_ _ | refine blk_drew ?_ | refine blk_alloc ?_ _)); exact BK231.out)) : gb231 ≠ gb242)); have n9_ := Aside0.mk ((by rw [hg]; exact Nat.ne_of_gt (blk_lt (g := gb231) (o := .cells #[.string t223, .slice Ao9 t224.length co9, .slice (some ad241) t227.length co10] 29 (0, 0)) (by (with_reducible repeat (first | refine blk_drewN ?_ _ | refine blk_drew ?_ | refine blk_alloc ?_ _)); exact BK231.out)) : gb242 ≠ gb231)); have n10_ := Aside0.mk ((by rw [hg]; exact Nat.ne_of_lt (blk_lt (g := gb238) (o := .cells #[.int .i64 ((rd_T45 ((rd_T40 l0 x6_1).f3) x7_2).f0), .int .i64 ((rd_T45 ((rd_T40 l0 x6_1).f3) x7_2).f1), .string ((rd_T45 ((rd_T40 l0 x6_1).f3) x7_2).f2), .int .i64 ((rd_T45 ((rd_T40 l0 x6_1).f3) x7_2).f3)] 45 (0, 0)) (by (with_reducible repeat (first | refine blk_drewN ?_ _ | refine blk_drew ?_ | refine blk_alloc ?_ _)); exact BK238.out)) : gb238 ≠ gb242)); have n11_ := Aside0.mk ((by rw [hg]; exact Nat.ne_of_gt (blk_lt (g := gb238) (o := .cells #[.int .i64 ((rd_T45 ((rd_T40 l0 x6_1).f3) x7_2).f0), .int .i64 ((rd_T45 ((rd_T40 l0 x6_1).f3) x7_2).f1), .string ((rd_T45 ((rd_T40 l0 x6_1).f3) x7_2).f2), .int .i64 ((rd_T45 ((rd_T40 l0 x6_1).f3) x7_2).f3)] 45 (0, 0)) (by (with_reducible repeat (first | refine blk_drewN ?_ _ | refine blk_drew ?_ | refine blk_alloc ?_ _)); exact BK238.out)) : gb242 ≠ gb238)); clear HO_232001; clear HO_232002; clear BK231; clear BK238; clear HB; have HO_232001 := n0_; have HO_232002 := n1_; have BK231 := n2_; have BK238 := n3_; have HB := n4_; have BK242 := n5_; have GW242 := n6_; have GE242 := n7_; have NB231_242 := n8_; have NB242_231 := n9_; have NB238_242 := n10_; have NB242_238 := n11_; clear n0_ n1_ n2_ n3_ n4_ n5_ n6_ n7_ n8_ n9_ n10_ n11_; clear hb hbox hg; have hnb68 := NB242_231.out; have hnc68 := NB231_242.out; have hnb69 := NB242_238.out; have hnc69 := NB238_242.out; have hcz70_0 : w67.cell? ⟨gb242, 0, none⟩ = some (.string (⟨#[]⟩ : ByteArray)) := (blk_cell BK242.out 0).trans rfl; have hcz70_1 : w67.cell? ⟨gb242, 1, none⟩ = some (.int .i64 0) := (blk_cell BK242.out 1).trans rfl; have hcz70_2 : w67.cell? ⟨gb242, 2, none⟩ = some (.int .i64 0) := (blk_cell BK242.out 2).trans rfl; have hfz70_0 := blk_frozen BK242.out 0; have hfz70_1 := blk_frozen BK242.out 1; have hfz70_2 := blk_frozen BK242.out 2; have hcz71_0 : w67.cell? ⟨gb238, 0, none⟩ = some (.int .i64 ((rd_T45 ((rd_T40 l0 x6_1).f3) x7_2).f0)) := (blk_cell BK238.out 0).trans rfl; have hcz71_1 : w67.cell? ⟨gb238, 1, none⟩ = some (.int .i64 ((rd_T45 ((rd_T40 l0 x6_1).f3) x7_2).f1)) := (blk_cell BK238.out 1).trans rfl; have hcz71_2 : w67.cell? ⟨gb238, 2, none⟩ = some (.string ((rd_T45 ((rd_T40 l0 x6_1).f3) x7_2).f2)) := (blk_cell BK238.out 2).trans rfl; have hcz71_3 : w67.cell? ⟨gb238, 3, none⟩ = some (.int .i64 ((rd_T45 ((rd_T40 l0 x6_1).f3) x7_2).f3)) := (blk_cell BK238.out 3).trans rfl; have hfz71_0 := blk_frozen BK238.out 0; have hfz71_1 := blk_frozen BK238.out 1; have hfz71_2 := blk_frozen BK238.out 2; have hfz71_3 := blk_frozen BK238.out 3))
                                              go_roundg k3
                                              case measure => have := HK1.out; have := HK2.out; have := HK3.out; omega
                                              case rel => exact ⟨(false), (wrap64 (x13_3 + 1)), (by first | rfl | (simp; done) | (simp [*]; done)), (by first | rfl | (simp; done) | (simp [*]; done)), H', ⟨by have := HK1.out; have := HK2.out; have := HK3.out; omega⟩, ⟨by (with_reducible repeat (first | apply Kd.R_alloc | apply Kd.R_drewN | apply Kd.R_drew)); exact Kd.R_mono (Kd.R_far (p := ⟨gb242, 2, none⟩) (Kd.R_far (p := ⟨gb242, 1, none⟩) (Kd.R_far (p := ⟨gb242, 0, none⟩) (Kd.R_types HO_232001.out BK242.out (by decide)) (fun _ hk => hk.2) (.string ((rd_T36 t227 x13_3).f0))) (fun _ hk => hk.2) (.int .i64 ((rd_T36 t227 x13_3).f1))) (fun _ hk => hk.2) (.int .i64 ((rd_T36 t227 x13_3).f2))) (fun _ hk => trivial)⟩, ⟨by (with_reducible repeat (first | apply Kd.R_alloc | apply Kd.R_drewN | apply Kd.R_drew)); exact Kd.R_mono (Kd.R_far (p := ⟨gb242, 2, none⟩) (Kd.R_far (p := ⟨gb242, 1, none⟩) (Kd.R_far (p := ⟨gb242, 0, none⟩) (Kd.R_mono HO_232002.out (fun k_ hk => (⟨hk, hk.2⟩ : _ ∧ k_ ≠ gb242))) (fun _ hk => hk.2) (.string ((rd_T36 t227 x13_3).f0))) (fun _ hk => hk.2) (.int .i64 ((rd_T36 t227 x13_3).f1))) (fun _ hk => hk.2) (.int .i64 ((rd_T36 t227 x13_3).f2))) (fun _ hk => trivial)⟩, ⟨by (with_reducible repeat (first | refine blk_drewN ?_ _ | refine blk_drew ?_ | refine blk_alloc ?_ _)); refine blk_far ?_ NB231_242.out _; (with_reducible repeat (first | refine blk_drewN ?_ _ | refine blk_drew ?_ | refine blk_alloc ?_ _)); refine blk_far ?_ NB231_242.out _; (with_reducible repeat (first | refine blk_drewN ?_ _ | refine blk_drew ?_ | refine blk_alloc ?_ _)); refine blk_far ?_ NB231_242.out _; (with_reducible repeat (first | refine blk_drewN ?_ _ | refine blk_drew ?_ | refine blk_alloc ?_ _)); exact BK231.out⟩, ⟨by (with_reducible repeat (first | refine blk_drewN ?_ _ | refine blk_drew ?_ | refine blk_alloc ?_ _)); refine blk_far ?_ NB238_242.out _; (with_reducible repeat (first | refine blk_drewN ?_ _ | refine blk_drew ?_ | refine blk_alloc ?_ _)); refine blk_far ?_ NB238_242.out _; (with_reducible repeat (first | refine blk_drewN ?_ _ | refine blk_drew ?_ | refine blk_alloc ?_ _)); refine blk_far ?_ NB238_242.out _; (with_reducible repeat (first | refine blk_drewN ?_ _ | refine blk_drew ?_ | refine blk_alloc ?_ _)); exact BK238.out⟩, ⟨by repeat (first | (with_reducible first | exact HB.out | apply below_alloc | apply pw_below_drewN | apply below_drew1 | refine below_set ?_ GE231.out | refine below_set ?_ GE238.out | refine below_set ?_ GE242.out) | exact HB.out)⟩⟩
                                        · rw [if_neg c32] at H
                                          have c32b0 : (((rd_T36 t227 x13_3).f0).toList == ((rd_T45 ((rd_T40 l0 x6_1).f3) x7_2).f2).toList) = false := beq_eq_false_iff_ne.mpr c32
                                          have c32b1 : (((rd_T36 t227 x13_3).f0).toList != ((rd_T45 ((rd_T40 l0 x6_1).f3) x7_2).f2).toList) = true := bne_iff_ne.mpr c32
                                          have H' := Aside0.mk H
                                          clear H
                                          have hnb72 := NB231_238.out
                                          have hnc72 := NB238_231.out
                                          have hcz73_0 : wr.cell? ⟨gb231, 0, none⟩ = some (.string t223) := (blk_cell BK231.out 0).trans rfl
                                          have hcz73_1 : wr.cell? ⟨gb231, 1, none⟩ = some (.slice Ao9 t224.length co9) := (blk_cell BK231.out 1).trans rfl
                                          have hcz73_2 : wr.cell? ⟨gb231, 2, none⟩ = some (.slice Ao10 t227.length co10) := (blk_cell BK231.out 2).trans rfl
                                          have hfz73_0 := blk_frozen BK231.out 0
                                          have hfz73_1 := blk_frozen BK231.out 1
                                          have hfz73_2 := blk_frozen BK231.out 2
                                          have p241 : 0 ≤ (x13_3 : Int) := of_decide_eq_true (by first | (with_reducible assumption) | assumption)
                                          have q241 : x13_3 < (t227.length : Int) := of_decide_eq_true (by first | (with_reducible assumption) | assumption)
                                          obtain ⟨ad241, e241, hx241_0, hx241_1, hx241_2⟩ := at_T36 (Kd.R_reads' HO_232002.out).2.2 x13_3 p241 q241
                                          cases e241
                                          replace p241 := eq_true p241
                                          replace q241 := eq_true q241
                                          go_wp2_with (first | ((with_reducible refine gate_dst (N := 14) rfl ?_); refine box_event ?hg (N := 14) ?hd (cs := #[.string (⟨#[]⟩ : ByteArray), .int .i64 0, .int .i64 0]) (t := 36) ?hr ?_; (case hd => rfl); (case hg => rfl); (case hr => first | (go_simp; done) | (go_simp; rfl)); intro gb242 hg w74 hbox hb; have n0_ := Aside0.mk (Kd.R_below (by (with_reducible repeat (first | apply Kd.R_alloc | apply Kd.R_drewN | apply Kd.R_drew)); exact HO_232001.out) hb); have n1_ := Aside0.mk (Kd.R_below (Kd.R_elderB (by (with_reducible repeat (first | apply Kd.R_alloc | apply Kd.R_drewN | apply Kd.R_drew)); exact HO_232002.out) gb242 (Nat.le_of_eq hg.symm)) hb); have n2_ := Aside0.mk (blk_below (g := gb231) (o := .cells #[.string t223, .slice Ao9 t224.length co9, .slice (some ad241) t227.length co10] 29 (0, 0)) (by (with_reducible repeat (first | refine blk_drewN ?_ _ | refine blk_drew ?_ | refine blk_alloc ?_ _)); exact BK231.out) hb); have n3_ := Aside0.mk (blk_below (g := gb238) (o := .cells #[.int .i64 ((rd_T45 ((rd_T40 l0 x6_1).f3) x7_2).f0), .int .i64 ((rd_T45 ((rd_T40 l0 x6_1).f3) x7_2).f1), .string ((rd_T45 ((rd_T40 l0 x6_1).f3) x7_2).f2), .int .i64 ((rd_T45 ((rd_T40 l0 x6_1).f3) x7_2).f3)] 45 (0, 0)) (by (with_reducible repeat (first | refine blk_drewN ?_ _ | refine blk_drew ?_ | refine blk_alloc ?_ _)); exact BK238.out) hb); have n4_ := Aside0.mk (below_step (by repeat (first | (with_reducible first | exact HB.out | apply below_alloc | apply pw_below_drewN | apply below_drew1 | refine below_set ?_ GE231.out | refine below_set ?_ GE238.out) | exact HB.out)) hb); have n5_ := Aside0.mk (hbox); have n6_ := Aside0.mk ((by rw [hg]; exact (below_size (by repeat (first | (with_reducible first | exact HB.out | apply below_alloc | apply pw_below_drewN | apply below_drew1 | refine below_set ?_ GE231.out | refine below_set ?_ GE238.out) | exact HB.out))) : w.heap.size ≤ gb242)); have n7_ := Aside0.mk ((by rw [hg]; exact (below_size (by repeat (first | (with_reducible first | exact HB.out | apply below_alloc | apply pw_below_drewN | apply below_drew1 | refine below_set ?_ GE231.out | refine below_set ?_ GE238.out) | exact HB.out))) : w.heap.size ≤ gb242)); have n8_ := Aside0.mk ((by rw [hg]; exact Nat.ne_of_lt (blk_lt (g := gb231) (o := .cells #[.string t223, .slice Ao9 t224.length co9, .slice (some ad241) t227.length co10] 29 (0, 0)) (by (with_reducible repeat (first | refine blk_drewN ?_ _ | refine blk_drew ?_ | refine blk_alloc ?_ _)); exact BK231.out)) : gb231 ≠ gb242)); have n9_ := Aside0.mk ((by rw [hg]; exact Nat.ne_of_gt (blk_lt (g := gb231) (o := .cells #[.string t223, .slice Ao9 t224.length co9, .slice (some ad241) t227.length co10] 29 (0, 0)) (by (with_reducible repeat (first | refine blk_drewN ?_ _ | refine blk_drew ?_ | refine blk_alloc ?_ _)); exact BK231.out)) : gb242 ≠ gb231)); have n10_ := Aside0.mk ((by rw [hg]; exact Nat.ne_of_lt (blk_lt (g := gb238) (o := .cells #[.int .i64 ((rd_T45 ((rd_T40 l0 x6_1).f3) x7_2).f0), .int .i64 ((rd_T45 ((rd_T40 l0 x6_1).f3) x7_2).f1), .string ((rd_T45 ((rd_T40 l0 x6_1).f3) x7_2).f2), .int .i64 ((rd_T45 ((rd_T40 l0 x6_1).f3) x7_2).f3)] 45 (0, 0)) (by (with_reducible repeat (first | refine blk_drewN ?_ _ | refine blk_drew ?_ | refine blk_alloc ?_ _)); exact BK238.out)) : gb238 ≠ gb242)); have n11_ := Aside0.mk ((by rw [hg]; exact Nat.ne_of_gt (blk_lt (g := gb238) (o := .cells #[.int .i64 ((rd_T45 ((rd_T40 l0 x6_1).f3) x7_2).f0), .int .i64 ((rd_T45 ((rd_T40 l0 x6_1).f3) x7_2).f1), .string ((rd_T45 ((rd_T40 l0 x6_1).f3) x7_2).f2), .int .i64 ((rd_T45 ((rd_T40 l0 x6_1).f3) x7_2).f3)] 45 (0, 0)) (by (with_reducible repeat (first | refine blk_drewN ?_ _ | refine blk_drew ?_ | refine blk_alloc ?_ _)); exact BK238.out)) : gb242 ≠ gb238)); clear HO_232001; clear HO_232002; clear BK231; clear BK238; clear HB; have HO_232001 := n0_; have HO_232002 := n1_; have BK231 := n2_; have BK238 := n3_; have HB := n4_; have BK242 := n5_; have GW242 := n6_; have GE242 := n7_; have NB231_242 := n8_; have NB242_231 := n9_; have NB238_242 := n10_; have NB242_238 := n11_; clear n0_ n1_ n2_ n3_ n4_ n5_ n6_ n7_ n8_ n9_ n10_ n11_; clear hb hbox hg; have hnb75 := NB242_231.out; have hnc75 := NB231_242.out; have hnb76 := NB242_238.out; have hnc76 := NB238_242.out; have hcz77_0 : w74.cell? ⟨gb242, 0, none⟩ = some (.string (⟨#[]⟩ : ByteArray)) := (blk_cell BK242.out 0).trans rfl; have hcz77_1 : w74.cell? ⟨gb242, 1, none⟩ = some (.int .i64 0) := (blk_cell BK242.out 1).trans rfl; have hcz77_2 : w74.cell? ⟨gb242, 2, none⟩ = some (.int .i64 0) := (blk_cell BK242.out 2).trans rfl; have hfz77_0 := blk_frozen BK242.out 0; have hfz77_1 := blk_frozen BK242.out 1; have hfz77_2 := blk_frozen BK242.out 2; have hcz78_0 : w74.cell? ⟨gb238, 0, none⟩ = some (.int .i64 ((rd_T45 ((rd_T40 l0 x6_1).f3) x7_2).f0)) := (blk_cell BK238.out 0).trans rfl; have hcz78_1 : w74.cell? ⟨gb238, 1, none⟩ = some (.int .i64 ((rd_T45 ((rd_T40 l0 x6_1).f3) x7_2).f1)) := (blk_cell BK238.out 1).trans rfl; have hcz78_2 : w74.cell? ⟨gb238, 2, none⟩ = some (.string ((rd_T45 ((rd_T40 l0 x6_1).f3) x7_2).f2)) := (blk_cell BK238.out 2).trans rfl; have hcz78_3 : w74.cell? ⟨gb238, 3, none⟩ = some (.int .i64 ((rd_T45 ((rd_T40 l0 x6_1).f3) x7_2).f3)) := (blk_cell BK238.out 3).trans rfl; have hfz78_0 := blk_frozen BK238.out 0; have hfz78_1 := blk_frozen BK238.out 1; have hfz78_2 := blk_frozen BK238.out 2; have hfz78_3 := blk_frozen BK238.out 3))
                                          go_roundg k3
                                          case measure => have := HK1.out; have := HK2.out; have := HK3.out; omega
                                          case rel => exact ⟨(x12_3), (wrap64 (x13_3 + 1)), (by first | rfl | (simp; done) | (simp [*]; done)), (by first | rfl | (simp; done) | (simp [*]; done)), H', ⟨by have := HK1.out; have := HK2.out; have := HK3.out; omega⟩, ⟨by (with_reducible repeat (first | apply Kd.R_alloc | apply Kd.R_drewN | apply Kd.R_drew)); exact Kd.R_mono (Kd.R_far (p := ⟨gb242, 2, none⟩) (Kd.R_far (p := ⟨gb242, 1, none⟩) (Kd.R_far (p := ⟨gb242, 0, none⟩) (Kd.R_types HO_232001.out BK242.out (by decide)) (fun _ hk => hk.2) (.string ((rd_T36 t227 x13_3).f0))) (fun _ hk => hk.2) (.int .i64 ((rd_T36 t227 x13_3).f1))) (fun _ hk => hk.2) (.int .i64 ((rd_T36 t227 x13_3).f2))) (fun _ hk => trivial)⟩, ⟨by (with_reducible repeat (first | apply Kd.R_alloc | apply Kd.R_drewN | apply Kd.R_drew)); exact Kd.R_mono (Kd.R_far (p := ⟨gb242, 2, none⟩) (Kd.R_far (p := ⟨gb242, 1, none⟩) (Kd.R_far (p := ⟨gb242, 0, none⟩) (Kd.R_mono HO_232002.out (fun k_ hk => (⟨hk, hk.2⟩ : _ ∧ k_ ≠ gb242))) (fun _ hk => hk.2) (.string ((rd_T36 t227 x13_3).f0))) (fun _ hk => hk.2) (.int .i64 ((rd_T36 t227 x13_3).f1))) (fun _ hk => hk.2) (.int .i64 ((rd_T36 t227 x13_3).f2))) (fun _ hk => trivial)⟩, ⟨by (with_reducible repeat (first | refine blk_drewN ?_ _ | refine blk_drew ?_ | refine blk_alloc ?_ _)); refine blk_far ?_ NB231_242.out _; (with_reducible repeat (first | refine blk_drewN ?_ _ | refine blk_drew ?_ | refine blk_alloc ?_ _)); refine blk_far ?_ NB231_242.out _; (with_reducible repeat (first | refine blk_drewN ?_ _ | refine blk_drew ?_ | refine blk_alloc ?_ _)); refine blk_far ?_ NB231_242.out _; (with_reducible repeat (first | refine blk_drewN ?_ _ | refine blk_drew ?_ | refine blk_alloc ?_ _)); exact BK231.out⟩, ⟨by (with_reducible repeat (first | refine blk_drewN ?_ _ | refine blk_drew ?_ | refine blk_alloc ?_ _)); refine blk_far ?_ NB238_242.out _; (with_reducible repeat (first | refine blk_drewN ?_ _ | refine blk_drew ?_ | refine blk_alloc ?_ _)); refine blk_far ?_ NB238_242.out _; (with_reducible repeat (first | refine blk_drewN ?_ _ | refine blk_drew ?_ | refine blk_alloc ?_ _)); refine blk_far ?_ NB238_242.out _; (with_reducible repeat (first | refine blk_drewN ?_ _ | refine blk_drew ?_ | refine blk_alloc ?_ _)); exact BK238.out⟩, ⟨by repeat (first | (with_reducible first | exact HB.out | apply below_alloc | apply pw_below_drewN | apply below_drew1 | refine below_set ?_ GE231.out | refine below_set ?_ GE238.out | refine below_set ?_ GE242.out) | exact HB.out)⟩⟩
                                      · rw [if_neg c31] at H
                                        exact absurd H (by simp)
                                    · rw [if_neg c30] at H
                                      have c30b0 : decide (x13_3 < (t227.length : Int)) = false := decide_eq_false c30
                                      (try simp only [hl234_1, hl234_2, hl234_3, hl236_1, hl236_2, hl236_3] at c30b0)
                                      clear c30
                                      by_cases c79 : x12_3 = true
                                      · subst c79
                                        have H1 : (cotterlaw07_LinkLands.l1 k3 l0 x5_1 x6_1 (wrap64 (x7_2 + 1)) t223 t224 t227) = some r := by rw [if_pos rfl] at H; exact H
                                        clear H
                                        have H := H1
                                        clear H1
                                        have H' := Aside0.mk H
                                        clear H
                                        have hnb80 := NB231_238.out
                                        have hnc80 := NB238_231.out
                                        have hcz81_0 : wr.cell? ⟨gb231, 0, none⟩ = some (.string t223) := (blk_cell BK231.out 0).trans rfl
                                        have hcz81_1 : wr.cell? ⟨gb231, 1, none⟩ = some (.slice Ao9 t224.length co9) := (blk_cell BK231.out 1).trans rfl
                                        have hcz81_2 : wr.cell? ⟨gb231, 2, none⟩ = some (.slice Ao10 t227.length co10) := (blk_cell BK231.out 2).trans rfl
                                        have hfz81_0 := blk_frozen BK231.out 0
                                        have hfz81_1 := blk_frozen BK231.out 1
                                        have hfz81_2 := blk_frozen BK231.out 2
                                        go_wp2
                                        go_roundg k3
                                        case measure => have := HK1.out; have := HK2.out; have := HK3.out; omega
                                        case rel => exact ⟨(wrap64 (x7_2 + 1)), (by first | rfl | (simp; done) | (simp [*]; done)), H', ⟨by have := HK1.out; have := HK2.out; have := HK3.out; omega⟩, ⟨by (with_reducible repeat (first | apply Kd.R_alloc | apply Kd.R_drewN | apply Kd.R_drew)); exact HO_232001.out⟩, ⟨by (with_reducible repeat (first | apply Kd.R_alloc | apply Kd.R_drewN | apply Kd.R_drew)); exact HO_232002.out⟩, ⟨by (with_reducible repeat (first | refine blk_drewN ?_ _ | refine blk_drew ?_ | refine blk_alloc ?_ _)); exact BK231.out⟩, ⟨by repeat (first | (with_reducible first | exact HB.out | apply below_alloc | apply pw_below_drewN | apply below_drew1 | refine below_set ?_ GE231.out | refine below_set ?_ GE238.out) | exact HB.out)⟩⟩
                                      · replace c79 := Bool.eq_false_iff.mpr c79
                                        subst c79
                                        have H1 : (some false) = some r := by rw [if_neg (show ¬ (false = true) by decide)] at H; exact H
                                        clear H
                                        have H := H1
                                        clear H1
                                        obtain rfl := Option.some.inj H
                                        have hnb82 := NB231_238.out
                                        have hnc82 := NB238_231.out
                                        have hcz83_0 : wr.cell? ⟨gb231, 0, none⟩ = some (.string t223) := (blk_cell BK231.out 0).trans rfl
                                        have hcz83_1 : wr.cell? ⟨gb231, 1, none⟩ = some (.slice Ao9 t224.length co9) := (blk_cell BK231.out 1).trans rfl
                                        have hcz83_2 : wr.cell? ⟨gb231, 2, none⟩ = some (.slice Ao10 t227.length co10) := (blk_cell BK231.out 2).trans rfl
                                        have hfz83_0 := blk_frozen BK231.out 0
                                        have hfz83_1 := blk_frozen BK231.out 1
                                        have hfz83_2 := blk_frozen BK231.out 2
                                        go_wp2
                                        go_ret
                                        exact ⟨by first | rfl | (simp [errW_none, errW_some] <;> rfl) | (simp only [← hji21]; first | rfl | (simp [errW_none, errW_some] <;> rfl)) | (simp [*, errW_none, errW_some] <;> rfl), by repeat (first | (with_reducible first | exact HB.out | apply below_alloc | apply pw_below_drewN | apply below_drew1 | refine below_set ?_ GE231.out | refine below_set ?_ GE238.out) | exact HB.out)⟩
                              · rw [if_neg c24] at H
                                exact absurd H (by simp)
                            · rw [if_neg c23] at H
                              exact absurd H (by simp)
                          · rw [if_neg c22] at H
                            exact absurd H (by simp)
                      · rw [if_neg c15] at H
                        exact absurd H (by simp)
                    · rw [if_neg c14] at H
                      have c14b0 : decide (x7_2 < (((rd_T40 l0 x6_1).f3).length : Int)) = false := decide_eq_false c14
                      clear c14
                      have H' := Aside0.mk H
                      clear H
                      have p234 : 0 ≤ (x6_1 : Int) := of_decide_eq_true (by first | (with_reducible assumption) | assumption)
                      have q234 : x6_1 < (l0.length : Int) := of_decide_eq_true (by first | (with_reducible assumption) | assumption)
                      obtain ⟨ad234, A234_1, c234_1, A234_2, c234_2, A234_3, c234_3, e234, hx234_0, hx234_1, hx234_2, hx234_3, hl234_1, hi234_1, hl234_2, hi234_2, hl234_3, hi234_3⟩ := at_T40 HR0.out x6_1 p234 q234
                      cases e234
                      replace hx234_0 := (HB.out.cell (World.block_lt_of_cell? w _ hx234_0)).trans hx234_0
                      replace hx234_1 := (HB.out.cell (World.block_lt_of_cell? w _ hx234_1)).trans hx234_1
                      replace hx234_2 := (HB.out.cell (World.block_lt_of_cell? w _ hx234_2)).trans hx234_2
                      replace hx234_3 := (HB.out.cell (World.block_lt_of_cell? w _ hx234_3)).trans hx234_3
                      have HR234_1 := Aside0.mk hi234_1
                      have HC234_1 := Aside0.mk hl234_1
                      clear hi234_1 hl234_1
                      have HR234_2 := Aside0.mk hi234_2
                      have HC234_2 := Aside0.mk hl234_2
                      clear hi234_2 hl234_2
                      have HR234_3 := Aside0.mk hi234_3
                      have HC234_3 := Aside0.mk hl234_3
                      clear hi234_3 hl234_3
                      replace p234 := eq_true p234
                      replace q234 := eq_true q234
                      have p235 : 0 ≤ (x6_1 : Int) := of_decide_eq_true (by first | (with_reducible assumption) | assumption)
                      have q235 : x6_1 < (l0.length : Int) := of_decide_eq_true (by first | (with_reducible assumption) | assumption)
                      obtain ⟨ad235, A235_1, c235_1, A235_2, c235_2, A235_3, c235_3, e235, hx235_0, hx235_1, hx235_2, hx235_3, hl235_1, hi235_1, hl235_2, hi235_2, hl235_3, hi235_3⟩ := at_T40 HR0.out x6_1 p235 q235
                      obtain rfl : ad234 = ad235 := (by injection e235)
                      replace hx235_0 := (HB.out.cell (World.block_lt_of_cell? w _ hx235_0)).trans hx235_0
                      replace hx235_1 := (HB.out.cell (World.block_lt_of_cell? w _ hx235_1)).trans hx235_1
                      replace hx235_2 := (HB.out.cell (World.block_lt_of_cell? w _ hx235_2)).trans hx235_2
                      replace hx235_3 := (HB.out.cell (World.block_lt_of_cell? w _ hx235_3)).trans hx235_3
                      have HR235_1 := Aside0.mk hi235_1
                      have HC235_1 := Aside0.mk hl235_1
                      clear hi235_1 hl235_1
                      have HR235_2 := Aside0.mk hi235_2
                      have HC235_2 := Aside0.mk hl235_2
                      clear hi235_2 hl235_2
                      have HR235_3 := Aside0.mk hi235_3
                      have HC235_3 := Aside0.mk hl235_3
                      clear hi235_3 hl235_3
                      replace p235 := eq_true p235
                      replace q235 := eq_true q235
                      have ea_ := Option.some.inj (hx234_1.symm.trans hx235_1)
                      injection ea_ with ea_ en_ ec_
                      subst ea_
                      subst ec_
                      clear en_
                      have ea_ := Option.some.inj (hx234_2.symm.trans hx235_2)
                      injection ea_ with ea_ en_ ec_
                      subst ea_
                      subst ec_
                      clear en_
                      have ea_ := Option.some.inj (hx234_3.symm.trans hx235_3)
                      injection ea_ with ea_ en_ ec_
                      subst ea_
                      subst ec_
                      clear en_
                      go_wp2
                      go_roundg k2
                      case measure => have := HK1.out; have := HK2.out; omega
                      case rel => exact ⟨(wrap64 (x5_1 + (((rd_T40 l0 x6_1).f0).size : Int))), (wrap64 (x6_1 + 1)), (by first | rfl | (simp; done) | (simp [*]; done)), (by first | rfl | (simp; done) | (simp [*]; done)), H', ⟨by have := HK1.out; have := HK2.out; omega⟩, ⟨by (with_reducible repeat (first | apply Kd.R_alloc | apply Kd.R_drewN | apply Kd.R_drew)); exact HO_232001.out⟩, ⟨by (with_reducible repeat (first | apply Kd.R_alloc | apply Kd.R_drewN | apply Kd.R_drew)); exact HO_232002.out⟩, ⟨by (with_reducible repeat (first | refine blk_drewN ?_ _ | refine blk_drew ?_ | refine blk_alloc ?_ _)); exact BK231.out⟩, ⟨by repeat (first | (with_reducible first | exact HB.out | apply below_alloc | apply pw_below_drewN | apply below_drew1 | refine below_set ?_ GE231.out) | exact HB.out)⟩⟩
                  · rw [if_neg c13] at H
                    exact absurd H (by simp)
                · rw [if_neg c12] at H
                  exact absurd H (by simp)
          · rw [if_neg c11] at H
            have c11b0 : decide (x6_1 < (l0.length : Int)) = false := decide_eq_false c11
            clear c11
            replace H := Option.bind_eq_some_iff.mp H
            obtain ⟨t233, A840, H⟩ := H
            replace H : (some t233) = some r := H
            have A84 := Aside0.mk A840
            clear A840
            obtain rfl := Option.some.inj H
            go_wp2_with (first | ((with_reducible refine gate_callee (f := 10) rfl ?_); refine goesL_ (some 126) rfl rfl Try.func10 (by kernel_rfl) rfl #[] rfl (by (try simp only [List.map_toArray, List.map_cons, List.map_nil]); first | done | rfl | (simp only [List.length_drop, List.length_take]; rfl)) ?_; (with_reducible refine (cotterlaw07_live.calls  t233 _ A84.out).mono ?_); rintro e w85 ⟨rfl, hb⟩; refine ⟨_, rfl, ?_⟩; have n0_ := Aside0.mk (Kd.R_below (by (with_reducible repeat (first | apply Kd.R_alloc | apply Kd.R_drewN | apply Kd.R_drew)); exact HO_232001.out) hb); have n1_ := Aside0.mk (Kd.R_below (by (with_reducible repeat (first | apply Kd.R_alloc | apply Kd.R_drewN | apply Kd.R_drew)); exact HO_232002.out) hb); have n2_ := Aside0.mk (blk_below (g := gb231) (o := .cells #[.string t223, .slice Ao9 t224.length co9, .slice Ao10 t227.length co10] 29 (0, 0)) (by (with_reducible repeat (first | refine blk_drewN ?_ _ | refine blk_drew ?_ | refine blk_alloc ?_ _)); exact BK231.out) hb); have n3_ := Aside0.mk (below_step (by repeat (first | (with_reducible first | exact HB.out | apply below_alloc | apply pw_below_drewN | apply below_drew1 | refine below_set ?_ GE231.out) | exact HB.out)) hb); clear HO_232001; clear HO_232002; clear BK231; clear HB; have HO_232001 := n0_; have HO_232002 := n1_; have BK231 := n2_; have HB := n3_; clear n0_ n1_ n2_ n3_; (try clear hb); (try clear hb2); (try clear hk); (try clear hi)))
            go_ret
            exact ⟨by first | rfl | (simp [errW_none, errW_some] <;> rfl) | (simp [*, errW_none, errW_some] <;> rfl), by repeat (first | (with_reducible first | exact HB.out | apply below_alloc | apply pw_below_drewN | apply below_drew1 | refine below_set ?_ GE231.out) | exact HB.out)⟩
    · rw [if_neg c5] at H
      have c5b0 : (t230 == 0) = false := beq_eq_false_iff_ne.mpr c5
      have c5b1 : (t230 != 0) = true := bne_iff_ne.mpr c5
      replace H := Option.bind_eq_some_iff.mp H
      obtain ⟨t232, A860, H⟩ := H
      replace H : (some t232) = some r := H
      have A86 := Aside0.mk A860
      clear A860
      obtain rfl := Option.some.inj H
      go_enter Try.func6, Try.ntmps6
      go_wp2_with (first | ((with_reducible refine gate_callee (f := 9) rfl ?_); refine goesL_ (some 16) rfl rfl Try.func9 (by kernel_rfl) rfl #[.slice A0 l0.length c0] rfl (by (try simp only [List.map_toArray, List.map_cons, List.map_nil]); first | done | rfl | (simp only [List.length_drop, List.length_take]; rfl)) ?_; (with_reducible refine (cotterlaw07_small.calls k _ _ l0 true _ ?side1 ?side2 A2.out).mono ?_); (case side1 => repeat (first | exact HR0.out | (with_reducible refine Kd.C_alloc ?_ _) | (with_reducible refine Kd.C_drewN ?_ _) | (with_reducible refine Kd.C_drew ?_))); (case side2 => exact HC0.out); rintro e w' ⟨rfl, ⟨nd, rfl⟩⟩; refine ⟨_, rfl, ?_⟩) | ((with_reducible refine gate_callee (f := 12) rfl ?_); refine goesL_ (some 21) rfl rfl Try.func12 (by kernel_rfl) rfl #[.slice A0 l0.length c0] rfl (by (try simp only [List.map_toArray, List.map_cons, List.map_nil]); first | done | rfl | (simp only [List.length_drop, List.length_take]; rfl)) ?_; (with_reducible refine (link_Link.calls _ _ l0 t223 t224 t227 t230 _ ?side1 ?side2 A4.out).mono ?_); (case side1 => repeat (first | exact HR0.out | (with_reducible refine Kd.C_alloc ?_ _) | (with_reducible refine Kd.C_drewN ?_ _) | (with_reducible refine Kd.C_drew ?_))); (case side2 => exact HC0.out); rintro e w87 ⟨v225, v228, rfl, ho0, ho1, hb⟩; refine ⟨_, rfl, ?_⟩; have n0_ := Aside0.mk (Kd.R_lower ho0 (below_size (by repeat (first | (with_reducible first | exact HB.out | apply below_alloc | apply pw_below_drewN | apply below_drew1) | exact HB.out)))); have n1_ := Aside0.mk (Kd.R_lower ho1 (below_size (by repeat (first | (with_reducible first | exact HB.out | apply below_alloc | apply pw_below_drewN | apply below_drew1) | exact HB.out)))); have n2_ := Aside0.mk (below_step (by repeat (first | (with_reducible first | exact HB.out | apply below_alloc | apply pw_below_drewN | apply below_drew1) | exact HB.out)) hb); clear HB; have HO226 := n0_; have HO229 := n1_; have HB := n2_; clear n0_ n1_ n2_; (try clear hb); (try clear hb2); (try clear hk); (try clear hi); (try clear ho0); (try clear ho1)) | ((with_reducible refine gate_dst (N := 3) rfl ?_); refine box_event ?hg (N := 3) ?hd (cs := #[.string (⟨#[]⟩ : ByteArray), .slice none 0 0, .slice none 0 0]) (t := 29) ?hr ?_; (case hd => rfl); (case hg => rfl); (case hr => first | (go_simp; done) | (go_simp; rfl)); intro gb231 hg w88 hbox hb; have n0_ := Aside0.mk (Kd.R_below (by (with_reducible repeat (first | apply Kd.R_alloc | apply Kd.R_drewN | apply Kd.R_drew)); exact HO226.out) hb); have n1_ := Aside0.mk (Kd.R_below (by (with_reducible repeat (first | apply Kd.R_alloc | apply Kd.R_drewN | apply Kd.R_drew)); exact HO229.out) hb); have n2_ := Aside0.mk (below_step (by repeat (first | (with_reducible first | exact HB.out | apply below_alloc | apply pw_below_drewN | apply below_drew1) | exact HB.out)) hb); have n3_ := Aside0.mk (hbox); have n4_ := Aside0.mk ((by rw [hg]; exact (below_size (by repeat (first | (with_reducible first | exact HB.out | apply below_alloc | apply pw_below_drewN | apply below_drew1) | exact HB.out))) : w.heap.size ≤ gb231)); have n5_ := Aside0.mk ((by rw [hg]; exact (below_size (by repeat (first | (with_reducible first | exact HB.out | apply below_alloc | apply pw_below_drewN | apply below_drew1) | exact HB.out))) : w.heap.size ≤ gb231)); clear HO226; clear HO229; clear HB; have HO226 := n0_; have HO229 := n1_; have HB := n2_; have BK231 := n3_; have GW231 := n4_; have GE231 := n5_; clear n0_ n1_ n2_ n3_ n4_ n5_; clear hb hbox hg; have hcz89_0 : w88.cell? ⟨gb231, 0, none⟩ = some (.string (⟨#[]⟩ : ByteArray)) := (blk_cell BK231.out 0).trans rfl; have hcz89_1 : w88.cell? ⟨gb231, 1, none⟩ = some (.slice none 0 0) := (blk_cell BK231.out 1).trans rfl; have hcz89_2 : w88.cell? ⟨gb231, 2, none⟩ = some (.slice none 0 0) := (blk_cell BK231.out 2).trans rfl; have hfz89_0 := blk_frozen BK231.out 0; have hfz89_1 := blk_frozen BK231.out 1; have hfz89_2 := blk_frozen BK231.out 2; obtain ⟨Ao90, co90, eo90⟩ := Kd.R_slice HO226.out; subst eo90; obtain ⟨Ao91, co91, eo91⟩ := Kd.R_slice HO229.out; subst eo91) | ((with_reducible refine gate_callee (f := 10) rfl ?_); refine goesL_ (some 26) rfl rfl Try.func10 (by kernel_rfl) rfl #[] rfl (by (try simp only [List.map_toArray, List.map_cons, List.map_nil]); first | done | rfl | (simp only [List.length_drop, List.length_take]; rfl)) ?_; (with_reducible refine (cotterlaw07_live.calls  t232 _ A86.out).mono ?_); rintro e w92 ⟨rfl, hb⟩; refine ⟨_, rfl, ?_⟩; have n0_ := Aside0.mk (Kd.R_below (by (with_reducible repeat (first | apply Kd.R_alloc | apply Kd.R_drewN | apply Kd.R_drew)); exact (Kd.R_mono (Kd.R_far (p := ⟨gb231, 2, none⟩) (Kd.R_far (p := ⟨gb231, 1, none⟩) (Kd.R_far (p := ⟨gb231, 0, none⟩) (Kd.R_types HO226.out BK231.out (by decide)) (fun _ hk => hk.2) (.string t223)) (fun _ hk => hk.2) (.slice Ao90 t224.length co90)) (fun _ hk => hk.2) (.slice Ao91 t227.length co91)) (fun _ h_ => h_.1))) hb); have n1_ := Aside0.mk (Kd.R_below (by (with_reducible repeat (first | apply Kd.R_alloc | apply Kd.R_drewN | apply Kd.R_drew)); exact (Kd.R_mono (Kd.R_far (p := ⟨gb231, 2, none⟩) (Kd.R_far (p := ⟨gb231, 1, none⟩) (Kd.R_far (p := ⟨gb231, 0, none⟩) (Kd.R_types HO229.out BK231.out (by decide)) (fun _ hk => hk.2) (.string t223)) (fun _ hk => hk.2) (.slice Ao90 t224.length co90)) (fun _ hk => hk.2) (.slice Ao91 t227.length co91)) (fun _ h_ => h_.1))) hb); have n2_ := Aside0.mk (blk_below (g := gb231) (o := .cells #[.string t223, .slice Ao90 t224.length co90, .slice Ao91 t227.length co91] 29 (0, 0)) (by (with_reducible repeat (first | refine blk_drewN ?_ _ | refine blk_drew ?_ | refine blk_alloc ?_ _)); refine blk_put (cs := #[.string t223, .slice Ao90 t224.length co90, .slice none 0 0]) ?_ 2 _ rfl; (with_reducible repeat (first | refine blk_drewN ?_ _ | refine blk_drew ?_ | refine blk_alloc ?_ _)); refine blk_put (cs := #[.string t223, .slice none 0 0, .slice none 0 0]) ?_ 1 _ rfl; (with_reducible repeat (first | refine blk_drewN ?_ _ | refine blk_drew ?_ | refine blk_alloc ?_ _)); refine blk_put (cs := #[.string (⟨#[]⟩ : ByteArray), .slice none 0 0, .slice none 0 0]) ?_ 0 _ rfl; (with_reducible repeat (first | refine blk_drewN ?_ _ | refine blk_drew ?_ | refine blk_alloc ?_ _)); exact BK231.out) hb); have n3_ := Aside0.mk (below_step (by repeat (first | (with_reducible first | exact HB.out | apply below_alloc | apply pw_below_drewN | apply below_drew1 | refine below_set ?_ GE231.out) | exact HB.out)) hb); clear HO226; clear HO229; clear BK231; clear HB; have HO226 := n0_; have HO229 := n1_; have BK231 := n2_; have HB := n3_; clear n0_ n1_ n2_ n3_; (try clear hb); (try clear hb2); (try clear hk); (try clear hi)))
      go_ret
      exact ⟨by first | rfl | (simp [errW_none, errW_some] <;> rfl) | (simp [*, errW_none, errW_some] <;> rfl), by repeat (first | (with_reducible first | exact HB.out | apply below_alloc | apply pw_below_drewN | apply below_drew1 | refine below_set ?_ GE231.out) | exact HB.out)⟩
  · replace c3 := Bool.eq_false_iff.mpr c3
    subst c3
    have H1 : ((cotterlaw07_live.f).bind fun t222 => (some t222)) = some r := by rw [if_neg (show ¬ (false = true) by decide)] at H; exact H
    clear H
    have H := H1
    clear H1
    replace H := Option.bind_eq_some_iff.mp H
    obtain ⟨t222, A930, H⟩ := H
    replace H : (some t222) = some r := H
    have A93 := Aside0.mk A930
    clear A930
    obtain rfl := Option.some.inj H
    go_enter Try.func6, Try.ntmps6
    go_wp2_with (first | ((with_reducible refine gate_callee (f := 9) rfl ?_); refine goesL_ (some 16) rfl rfl Try.func9 (by kernel_rfl) rfl #[.slice A0 l0.length c0] rfl (by (try simp only [List.map_toArray, List.map_cons, List.map_nil]); first | done | rfl | (simp only [List.length_drop, List.length_take]; rfl)) ?_; (with_reducible refine (cotterlaw07_small.calls k _ _ l0 false _ ?side1 ?side2 A2.out).mono ?_); (case side1 => repeat (first | exact HR0.out | (with_reducible refine Kd.C_alloc ?_ _) | (with_reducible refine Kd.C_drewN ?_ _) | (with_reducible refine Kd.C_drew ?_))); (case side2 => exact HC0.out); rintro e w' ⟨rfl, ⟨nd, rfl⟩⟩; refine ⟨_, rfl, ?_⟩) | ((with_reducible refine gate_callee (f := 10) rfl ?_); refine goesL_ (some 18) rfl rfl Try.func10 (by kernel_rfl) rfl #[] rfl (by (try simp only [List.map_toArray, List.map_cons, List.map_nil]); first | done | rfl | (simp only [List.length_drop, List.length_take]; rfl)) ?_; (with_reducible refine (cotterlaw07_live.calls  t222 _ A93.out).mono ?_); rintro e w94 ⟨rfl, hb⟩; refine ⟨_, rfl, ?_⟩; have n0_ := Aside0.mk (below_step (by repeat (first | (with_reducible first | exact HB.out | apply below_alloc | apply pw_below_drewN | apply below_drew1) | exact HB.out)) hb); clear HB; have HB := n0_; clear n0_; (try clear hb); (try clear hb2); (try clear hk); (try clear hi)))
    go_ret
    exact ⟨by first | rfl | (simp [errW_none, errW_some] <;> rfl) | (simp [*, errW_none, errW_some] <;> rfl), by repeat (first | (with_reducible first | exact HB.out | apply below_alloc | apply pw_below_drewN | apply below_drew1) | exact HB.out)⟩

end Go.Proofs.Yteaealmnmmcbpaa.M

/-
  Layer 7: LinkLands says yes, plain. Condition: the objects' lengths are some machine's.
-/
namespace Go.Proofs.Yteaealmnmmcbpaa.M
open Go.RowKit Go.Proofs.YteaealmnmmcbpaaW.PrintWords Go.Proofs.YteaealmnmmcbpaaW.PrintLast Go.Proofs.Yteaealmnmmcbpaa.Num Go.Proofs.Yteaealmnmmcbpaa.Seven Go.Proofs.Yteaealmnmmcbpaa.Obj Go.Proofs.Yteaealmnmmcbpaa.Word1
set_option linter.unusedVariables false
set_option linter.unusedSimpArgs false
/-- The answer at the symbol that is meant. -/
def LandOk (place n at_ : Int) (r1 r3 : Int) : Prop := (r1 = 1 ∧ wrap64 (wrap64 (place + 4) + n) = at_) ∨ (r1 = 2 ∧ n = wrap64 (wrap64 (1048576 + wrap64 (8 * at_)) + r3))
theorem land_ok {place n at_ r1 r3 : Int} (h : LandOk place n at_ r1 r3) {α : Type} (f : Bool → α) :
    (if r1 = 1 then (if wrap64 (wrap64 (place + 4) + n) = at_ then f true else (if r1 = 2 then f (n == wrap64 (wrap64 (1048576 + wrap64 (8 * at_)) + r3)) else f false)) else (if r1 = 2 then f (n == wrap64 (wrap64 (1048576 + wrap64 (8 * at_)) + r3)) else f false)) = f true := by
  rcases h with ⟨rfl, h⟩ | ⟨rfl, h⟩
  · rw [if_pos rfl, if_pos h]
  · rw [if_neg (by decide), if_pos rfl, ← h]
    simp
theorem lands_l2 (l0 : List S40) (x5 x6 x7 place n : Int) (im : ByteArray) (data : List Int) (syms : List S36) (r0 r1 : Int) (r2 : ByteArray) (r3 : Int) (hs : syms.length ≤ 1000) (hn : (syms.map (·.f0)).Nodup) {m : Nat} (hm : m < syms.length) (hname : (syms[m]).f0 = r2)
    (hok : LandOk place n (syms[m]).f2 r1 r3) (hnext : Ev fun k => cotterlaw07_LinkLands.l1 k l0 x5 x6 (wrap64 (x7 + 1)) im data syms = some true) :
    ∀ (d j : Nat), syms.length - j = d → j ≤ syms.length → Ev fun k => cotterlaw07_LinkLands.l2 k l0 x5 x6 x7 place n (decide (m < j)) j im data syms r0 r1 r2 r3 = some true := by
  intro d
  induction d with
  | zero =>
    intro j hd hj
    refine .step (hnext.mono fun k hk => ?_)
    simp only [cotterlaw07_LinkLands.l2]
    rw [if_neg (by omega), if_pos (decide_eq_true (by omega))]
    exact hk
  | succ d ih =>
    intro j hd hj
    have hlt : j < syms.length := by omega
    refine .step ((ih (j + 1) (by omega) (by omega)).mono fun k hk => ?_)
    have e3 : wrap64 ((j : Int) + 1) = ((j + 1 : Nat) : Int) := by rw [wrap64_id (by omega) (by omega)]; omega
    have a1 : (j : Int) < (syms.length : Int) := by omega
    have a2 : (0 : Int) ≤ j := by omega
    rw [← e3] at hk
    clear e3
    simp only [cotterlaw07_LinkLands.l2]
    rw [if_pos a1, if_pos a2, rd_SS hlt]
    by_cases hj : j = m
    · subst hj
      rw [if_pos (by rw [hname])]
      have e1 : decide (j < j + 1) = true := decide_eq_true (by omega)
      rw [e1] at hk
      exact (land_ok hok fun b => cotterlaw07_LinkLands.l2 k l0 x5 x6 x7 place n b (wrap64 ((j : Int) + 1)) im data syms r0 r1 r2 r3).trans hk
    · rw [if_neg (fun h => hj (by
        have h1 := toList_inj h
        have h2 := List.getElem_inj (xs := syms.map (·.f0)) (i := j) (j := m) (h₀ := by simpa using hlt) (h₁ := by simpa using hm) hn
        simp only [List.getElem_map] at h2
        exact h2.1 (h1.trans hname.symm)))]
      have e1 : decide (m < j + 1) = decide (m < j) := decide_eq_decide.2 (by omega)
      rw [e1] at hk
      exact hk
theorem lands_l1 {l0 : List S40} {x : LkS} {c : List Int} (G : Goes l0 x c) {i : Nat} (hi : i < l0.length)
    (hnext : Ev fun k => cotterlaw07_LinkLands.l0 k l0 (codeLen (l0.take (i + 1)) : Nat) ((i + 1 : Nat) : Int) (strOfNums c) x.data x.syms = some true) :
    ∀ (d j : Nat), (l0[i]).f3.length - j = d → j ≤ (l0[i]).f3.length → Ev fun k => cotterlaw07_LinkLands.l1 k l0 (codeLen (l0.take i) : Nat) i j (strOfNums c) x.data x.syms = some true := by
  have hfew := G.few
  have hsm := G.small
  have hle := codeLen_le i hi
  have hr8 : (l0[i]).f3.length ≤ 8000 := (may_parts (G.may _ (List.getElem_mem hi))).2.2.2.1
  have hsz : (strOfNums c).size = codeLen l0 := by rw [strOfNums_size, G.clen]
  have a1 : (0 : Int) ≤ i := by omega
  have a2 : (i : Int) < (l0.length : Int) := by omega
  intro d
  induction d with
  | zero =>
    intro j hd hj
    refine .step (hnext.mono fun k hk => ?_)
    have e1 : wrap64 (((codeLen (l0.take i) : Nat) : Int) + ((l0[i]).f0.size : Int)) = (codeLen (l0.take (i + 1)) : Nat) := by rw [codeLen_succ i hi, wrap64_id (by omega) (by omega)]; omega
    have e2 : wrap64 ((i : Int) + 1) = ((i + 1 : Nat) : Int) := by rw [wrap64_id (by omega) (by omega)]; omega
    simp only [cotterlaw07_LinkLands.l1]
    rw [if_pos a1, if_pos a2, rd_SO hi, e1, e2]
    clear e1 e2
    rw [if_neg (by omega)]
    exact hk
  | succ d ih =>
    intro j hd hj
    have hlt : j < (l0[i]).f3.length := by omega
    have IH := ih (j + 1) (by omega) (by omega)
    clear ih
    obtain ⟨m, hm, h1, h2, h3, h4, h5, h6, h7, n, h8, h9, h10, h11⟩ := G.at_rel hi (List.getElem_mem hlt)
    generalize hr : ((l0[i]).f3)[j] = r at *
    have e2 : wrap64 ((j : Int) + 1) = ((j + 1 : Nat) : Int) := by rw [wrap64_id (by omega) (by omega)]; omega
    rw [← e2] at IH
    clear e2
    have ep : wrap64 (((codeLen (l0.take i) : Nat) : Int) + r.f0) = ((codeLen (l0.take i) + r.f0.toNat : Nat) : Int) := by rw [wrap64_id (by omega) (by omega)]; omega
    have ep4 : wrap64 (((codeLen (l0.take i) + r.f0.toNat : Nat) : Int) + 4) = ((codeLen (l0.take i) + r.f0.toNat + 4 : Nat) : Int) := by rw [wrap64_id (by omega) (by omega)]; omega
    have hok : LandOk ((codeLen (l0.take i) + r.f0.toNat : Nat) : Int) n (x.syms[m]).f2 r.f1 r.f3 := by
      rcases h11 with ⟨g1, g2⟩ | ⟨g1, g2⟩
      · refine .inl ⟨g1, ?_⟩
        rw [ep4]
        clear ep ep4
        rw [wrap64_id (by omega) (by omega)]
        omega
      · refine .inr ⟨g1, ?_⟩
        clear ep ep4
        rw [wrap64_id (n := 8 * _) (by omega) (by omega), wrap64_id (n := 1048576 + _) (by omega) (by omega), wrap64_id (by omega) (by omega)]
        exact g2
    have L2 := lands_l2 l0 (codeLen (l0.take i) : Nat) i j ((codeLen (l0.take i) + r.f0.toNat : Nat) : Int) n (strOfNums c) x.data x.syms r.f0 r.f1 r.f2 r.f3 G.room.2.2.1 G.nodup hm h1 hok IH x.syms.length 0 (by omega) (by omega)
    have e0 : decide (m < 0) = false := decide_eq_false (by omega)
    rw [e0] at L2
    have a3 : (j : Int) < ((l0[i]).f3.length : Int) := by omega
    have a4 : (0 : Int) ≤ j := by omega
    have a5 : ¬ ((codeLen (l0.take i) + r.f0.toNat + 4 : Nat) : Int) > ((strOfNums c).size : Int) := by clear ep ep4; omega
    have a6 : (0 : Int) ≤ ((codeLen (l0.take i) + r.f0.toNat : Nat) : Int) := Int.natCast_nonneg _
    have a7 : ((codeLen (l0.take i) + r.f0.toNat : Nat) : Int) ≤ ((codeLen (l0.take i) + r.f0.toNat + 4 : Nat) : Int) := by clear ep ep4; omega
    have a8 : ((codeLen (l0.take i) + r.f0.toNat + 4 : Nat) : Int) ≤ ((strOfNums c).size : Int) := by clear ep ep4; omega
    refine .step ((L2.and (number4_ev h9 h10 G.bs h8)).mono fun k hk => ?_)
    simp only [cotterlaw07_LinkLands.l1]
    rw [if_pos a1, if_pos a2, rd_SO hi, if_pos a3, if_pos a4, rd_SR hlt, hr, ep, ep4, if_neg a5, if_pos a6, if_pos a7, if_pos a8, Int.toNat_natCast, Int.toNat_natCast, hk.2]
    exact hk.1
theorem lands_l0 {l0 : List S40} {x : LkS} {c : List Int} (G : Goes l0 x c) : ∀ (d i : Nat), l0.length - i = d → i ≤ l0.length → Ev fun k => cotterlaw07_LinkLands.l0 k l0 (codeLen (l0.take i) : Nat) i (strOfNums c) x.data x.syms = some true := by
  intro d
  induction d with
  | zero =>
    intro i hd hi
    refine .step (.of fun k => ?_)
    simp only [cotterlaw07_LinkLands.l0]
    rw [if_neg (by omega), live_bind]
  | succ d ih =>
    intro i hd hi
    have hlt : i < l0.length := by omega
    refine .step ((lands_l1 G hlt (ih (i + 1) (by omega) (by omega)) _ 0 rfl (Nat.zero_le _)).mono fun k hk => ?_)
    simp only [cotterlaw07_LinkLands.l0]
    rw [if_pos (by omega)]
    exact hk
theorem lands_f {l0 : List S40} (h : Lens l0) : ∃ k, cotterlaw07_LinkLands.f k l0 = some true := by
  obtain ⟨b, hb⟩ := small_ev h
  cases b with
  | false => exact (hb.mono fun k hk => by unfold cotterlaw07_LinkLands.f; rw [hk]; rfl).get
  | true =>
    rcases link_cases l0 with ⟨x, c, G⟩ | ⟨e, he, G⟩
    · refine ((hb.and (lands_l0 G _ 0 rfl (Nat.zero_le _))).mono fun k hk => ?_).get
      unfold cotterlaw07_LinkLands.f
      rw [hk.1]
      unfold link_Link.f
      rw [G.is]
      exact hk.2
    · refine (hb.mono fun k hk => ?_).get
      unfold cotterlaw07_LinkLands.f
      rw [hk]
      unfold link_Link.f
      rw [G]
      simp only [Option.bind_some, if_true, linkE, live_bind]
      rw [if_neg he]
end Go.Proofs.Yteaealmnmmcbpaa.M

