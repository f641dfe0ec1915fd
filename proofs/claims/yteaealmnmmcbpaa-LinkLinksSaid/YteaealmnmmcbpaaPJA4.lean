/-
  Texts of the proofs of LinkLinks, cut to what the proofs reach and packed by a program of this session (wip/packs.py). Each part begins with what it says; conditions: those told there.
-/
import Derived.Test.YteaealmnmmcbpaaProg
import Derived.Test.YteaealmnmmcbpaaPJA2
import Derived.Test.YteaealmnmmcbpaaPJA3
-- Written by a program of this session (wip/ownprint.py) over the translation. Lean checks it.
namespace Go.Proofs.Yteaealmnmmcbpaa.M
open Go.RowKit Go.Proofs.YteaealmnmmcbpaaW.PrintWords Go.Proofs.YteaealmnmmcbpaaW.PrintLast
set_option linter.unusedVariables false
set_option linter.unusedSimpArgs false



def errW : Option Int → Value
  | none => .nilIface
  | some c => .iface 0 (.int .i64 c)
theorem errW_none : errW none = .nilIface := rfl
theorem errW_some (c : Int) : errW (some c) = .iface 0 (.int .i64 c) := rfl

theorem info2 : (Try.prog.info? 2).map (fun i => (i.zero, i.size, i.bytes)) = some (some (.int .i64 0), 1, 8) := by kernel_rfl
theorem info5 : (Try.prog.info? 5).map (fun i => (i.zero, i.size, i.bytes)) = some (some (.int .u8 0), 1, 1) := by kernel_rfl
theorem info36 : (Try.prog.info? 36).map (fun i => (i.zero, i.size, i.bytes)) = some (some (.agg #[(.string ⟨#[]⟩), (.int .i64 0), (.int .i64 0)]), 3, 32) := by kernel_rfl
theorem info40 : (Try.prog.info? 40).map (fun i => (i.zero, i.size, i.bytes)) = some (some (.agg #[(.string ⟨#[]⟩), (.slice none 0 0), (.slice none 0 0), (.slice none 0 0)]), 4, 88) := by kernel_rfl
theorem info45 : (Try.prog.info? 45).map (fun i => (i.zero, i.size, i.bytes)) = some (some (.agg #[(.int .i64 0), (.int .i64 0), (.string ⟨#[]⟩), (.int .i64 0)]), 4, 40) := by kernel_rfl
-- the values' own types
/-! #### struct type 45 -/
structure S45 where
  f0 : Int
  f1 : Int
  f2 : ByteArray
  f3 : Int
def z45 : S45 := ⟨(0 : Int), (0 : Int), (⟨#[]⟩ : ByteArray), (0 : Int)⟩
def k45 : Kd S45 := Kd.iso (Kd.pair (Kd.int .i64) (Kd.pair (Kd.int .i64) (Kd.pair Kd.string (Kd.int .i64)))) (fun x : S45 => (x.f0, x.f1, x.f2, x.f3))
theorem k45_open {w : World} {x : S45} {cs : List Value} (h : k45.K w x cs) : cs = [.int .i64 x.f0, .int .i64 x.f1, .string x.f2, .int .i64 x.f3] := by
  obtain ⟨_, _, rfl, rfl, ⟨_, _, rfl, rfl, ⟨_, _, rfl, rfl, rfl⟩⟩⟩ := h
  exact rfl
def rd_T45 (xs : List S45) (i : Int) : S45 := xs.getD i.toNat z45
theorem at_T45 {w : World} {A : Option Addr} {n : Nat} {xs : List S45} (h : Kd.C k45 w A n xs) (i : Int) (h0 : 0 ≤ i) (h1 : i < n) : ∃ ad , A = some ad ∧ w.cell? (ad.add (i.toNat * 4)) = some (.int .i64 (rd_T45 xs i).f0) ∧ w.cell? ⟨(ad.add (i.toNat * 4)).block, (ad.add (i.toNat * 4)).off + 1, none⟩ = some (.int .i64 (rd_T45 xs i).f1) ∧ w.cell? ⟨(ad.add (i.toNat * 4)).block, (ad.add (i.toNat * 4)).off + 2, none⟩ = some (.string (rd_T45 xs i).f2) ∧ w.cell? ⟨(ad.add (i.toNat * 4)).block, (ad.add (i.toNat * 4)).off + 3, none⟩ = some (.int .i64 (rd_T45 xs i).f3) := by
  obtain ⟨ad, c, e, _, hK, hc0⟩ := Kd.C_get h z45 i h0 h1
  have hc : ∀ j u, c[j]? = some u → w.cell? (ad.add (i.toNat * 4 + j)) = some u := hc0
  obtain rfl := k45_open hK
  exact ⟨ad, e, hc 0 _ rfl, by rw [← add_field _ _ 1 (by omega)]; exact hc 1 _ rfl, by rw [← add_field _ _ 2 (by omega)]; exact hc 2 _ rfl, by rw [← add_field _ _ 3 (by omega)]; exact hc 3 _ rfl⟩

/-! #### struct type 36 -/
structure S36 where
  f0 : ByteArray
  f1 : Int
  f2 : Int
def z36 : S36 := ⟨(⟨#[]⟩ : ByteArray), (0 : Int), (0 : Int)⟩
def k36 : Kd S36 := Kd.iso (Kd.pair Kd.string (Kd.pair (Kd.int .i64) (Kd.int .i64))) (fun x : S36 => (x.f0, x.f1, x.f2))
theorem k36_open {w : World} {x : S36} {cs : List Value} (h : k36.K w x cs) : cs = [.string x.f0, .int .i64 x.f1, .int .i64 x.f2] := by
  obtain ⟨_, _, rfl, rfl, ⟨_, _, rfl, rfl, rfl⟩⟩ := h
  exact rfl
theorem k36_openM {w : World} {base : Nat} {ok : Nat → Prop} {x : S36} {cs : List Value} (h : k36.M w base ok x cs) : cs = [.string x.f0, .int .i64 x.f1, .int .i64 x.f2] := by
  obtain ⟨_, _, rfl, rfl, ⟨_, _, rfl, rfl, rfl⟩⟩ := h
  exact rfl
theorem k36_mkM (w : World) (base : Nat) (ok : Nat → Prop) (x : S36)  : k36.M w base ok x [.string x.f0, .int .i64 x.f1, .int .i64 x.f2] := ⟨[.string x.f0], [.int .i64 x.f1, .int .i64 x.f2], rfl, rfl, ⟨[.int .i64 x.f1], [.int .i64 x.f2], rfl, rfl, rfl⟩⟩
def rd_T36 (xs : List S36) (i : Int) : S36 := xs.getD i.toNat z36
theorem at_T36 {w : World} {A : Option Addr} {n : Nat} {xs : List S36} (h : Kd.C k36 w A n xs) (i : Int) (h0 : 0 ≤ i) (h1 : i < n) : ∃ ad , A = some ad ∧ w.cell? (ad.add (i.toNat * 3)) = some (.string (rd_T36 xs i).f0) ∧ w.cell? ⟨(ad.add (i.toNat * 3)).block, (ad.add (i.toNat * 3)).off + 1, none⟩ = some (.int .i64 (rd_T36 xs i).f1) ∧ w.cell? ⟨(ad.add (i.toNat * 3)).block, (ad.add (i.toNat * 3)).off + 2, none⟩ = some (.int .i64 (rd_T36 xs i).f2) := by
  obtain ⟨ad, c, e, _, hK, hc0⟩ := Kd.C_get h z36 i h0 h1
  have hc : ∀ j u, c[j]? = some u → w.cell? (ad.add (i.toNat * 3 + j)) = some u := hc0
  obtain rfl := k36_open hK
  exact ⟨ad, e, hc 0 _ rfl, by rw [← add_field _ _ 1 (by omega)]; exact hc 1 _ rfl, by rw [← add_field _ _ 2 (by omega)]; exact hc 2 _ rfl⟩

/-! #### struct type 40 -/
structure S40 where
  f0 : ByteArray
  f1 : (List Int)
  f2 : (List S36)
  f3 : (List S45)
def z40 : S40 := ⟨(⟨#[]⟩ : ByteArray), ([] : List Int), ([] : List S36), ([] : List S45)⟩
def k40 : Kd S40 := Kd.iso (Kd.pair Kd.string (Kd.pair (Kd.slice 2 (Kd.int .i64)) (Kd.pair (Kd.slice 36 k36) (Kd.slice 45 k45)))) (fun x : S40 => (x.f0, x.f1, x.f2, x.f3))
theorem k40_open {w : World} {x : S40} {cs : List Value} (h : k40.K w x cs) : ∃ A1 c1 A2 c2 A3 c3, cs = [.string x.f0, .slice A1 x.f1.length c1, .slice A2 x.f2.length c2, .slice A3 x.f3.length c3] ∧ x.f1.length ≤ c1 ∧ (Kd.int .i64).C w A1 x.f1.length x.f1 ∧ x.f2.length ≤ c2 ∧ k36.C w A2 x.f2.length x.f2 ∧ x.f3.length ≤ c3 ∧ k45.C w A3 x.f3.length x.f3 := by
  obtain ⟨_, _, rfl, rfl, ⟨_, _, rfl, ⟨A1, c1, rfl, l1, g1⟩, ⟨_, _, rfl, ⟨A2, c2, rfl, l2, g2⟩, ⟨A3, c3, rfl, l3, g3⟩⟩⟩⟩ := h
  exact ⟨A1, c1, A2, c2, A3, c3, rfl, l1, g1, l2, g2, l3, g3⟩
theorem k40_openM {w : World} {base : Nat} {ok : Nat → Prop} {x : S40} {cs : List Value} (h : k40.M w base ok x cs) : ∃ v1 v2 v3, cs = [.string x.f0, v1, v2, v3] ∧ (Kd.int .i64).R 2 w base ok v1 x.f1 ∧ k36.R 36 w base ok v2 x.f2 ∧ k45.R 45 w base ok v3 x.f3 := by
  obtain ⟨_, _, rfl, rfl, ⟨_, _, rfl, ⟨v1, rfl, g1⟩, ⟨_, _, rfl, ⟨v2, rfl, g2⟩, ⟨v3, rfl, g3⟩⟩⟩⟩ := h
  exact ⟨v1, v2, v3, rfl, g1, g2, g3⟩
theorem k40_mkM (w : World) (base : Nat) (ok : Nat → Prop) (x : S40) {v1 : Value} (g1 : (Kd.int .i64).R 2 w base ok v1 x.f1) {v2 : Value} (g2 : k36.R 36 w base ok v2 x.f2) {v3 : Value} (g3 : k45.R 45 w base ok v3 x.f3) : k40.M w base ok x [.string x.f0, v1, v2, v3] := ⟨[.string x.f0], [v1, v2, v3], rfl, rfl, ⟨[v1], [v2, v3], rfl, ⟨v1, rfl, g1⟩, ⟨[v2], [v3], rfl, ⟨v2, rfl, g2⟩, ⟨v3, rfl, g3⟩⟩⟩⟩
def rd_T40 (xs : List S40) (i : Int) : S40 := xs.getD i.toNat z40
theorem at_T40 {w : World} {A : Option Addr} {n : Nat} {xs : List S40} (h : Kd.C k40 w A n xs) (i : Int) (h0 : 0 ≤ i) (h1 : i < n) : ∃ ad A1 c1 A2 c2 A3 c3, A = some ad ∧ w.cell? (ad.add (i.toNat * 4)) = some (.string (rd_T40 xs i).f0) ∧ w.cell? ⟨(ad.add (i.toNat * 4)).block, (ad.add (i.toNat * 4)).off + 1, none⟩ = some (.slice A1 (rd_T40 xs i).f1.length c1) ∧ w.cell? ⟨(ad.add (i.toNat * 4)).block, (ad.add (i.toNat * 4)).off + 2, none⟩ = some (.slice A2 (rd_T40 xs i).f2.length c2) ∧ w.cell? ⟨(ad.add (i.toNat * 4)).block, (ad.add (i.toNat * 4)).off + 3, none⟩ = some (.slice A3 (rd_T40 xs i).f3.length c3) ∧ (rd_T40 xs i).f1.length ≤ c1 ∧ (Kd.int .i64).C w A1 (rd_T40 xs i).f1.length (rd_T40 xs i).f1 ∧ (rd_T40 xs i).f2.length ≤ c2 ∧ k36.C w A2 (rd_T40 xs i).f2.length (rd_T40 xs i).f2 ∧ (rd_T40 xs i).f3.length ≤ c3 ∧ k45.C w A3 (rd_T40 xs i).f3.length (rd_T40 xs i).f3 := by
  obtain ⟨ad, c, e, _, hK, hc0⟩ := Kd.C_get h z40 i h0 h1
  have hc : ∀ j u, c[j]? = some u → w.cell? (ad.add (i.toNat * 4 + j)) = some u := hc0
  obtain ⟨A1, c1, A2, c2, A3, c3, rfl, l1, g1, l2, g2, l3, g3⟩ := k40_open hK
  exact ⟨ad, A1, c1, A2, c2, A3, c3, e, hc 0 _ rfl, by rw [← add_field _ _ 1 (by omega)]; exact hc 1 _ rfl, by rw [← add_field _ _ 2 (by omega)]; exact hc 2 _ rfl, by rw [← add_field _ _ 3 (by omega)]; exact hc 3 _ rfl, l1, g1, l2, g2, l3, g3⟩

end Go.Proofs.Yteaealmnmmcbpaa.M

-- Written by a program of this session (wip/ownprint.py) over the translation. Lean checks it.
namespace Go.Proofs.Yteaealmnmmcbpaa.M
open Go.RowKit Go.Proofs.YteaealmnmmcbpaaW.PrintWords Go.Proofs.YteaealmnmmcbpaaW.PrintLast
set_option linter.unusedVariables false
set_option linter.unusedSimpArgs false

/-! ### objf_isName: function 38 -/
def objf_isName.f (a0 : ByteArray) : Option (Bool) := if (a0.size : Int) > 0 then (some (decide ((a0.size : Int) ≤ 28))) else (some false)
set_option maxHeartbeats 8000000 in
set_option maxRecDepth 100000 in
theorem objf_isName.calls (a0 : ByteArray) (r : Bool) (w : World) (h : objf_isName.f a0 = some r) :
    Calls Try.prog 38 #[.string a0] w fun e w' => e = .returned (.bool r) ∧ Drawn0 w w' := by
  have H : (if (a0.size : Int) > 0 then (some (decide ((a0.size : Int) ≤ 28))) else (some false)) = some r := h
  clear h
  by_cases c2 : (a0.size : Int) > 0
  · rw [if_pos c2] at H
    have c2b0 : decide (0 < (a0.size : Int)) = true := decide_eq_true c2
    have c2b1 : decide (0 < a0.size) = true := decide_eq_true (by omega)
    clear c2
    obtain rfl := Option.some.inj H
    go_enter Try.func38, Try.ntmps38
    go_wp2
    go_ret
    exact ⟨by first | rfl | (simp; done) | (simp [*]; done), by repeat (first | exact Drawn0.refl _ | apply Drawn0.step)⟩
  · rw [if_neg c2] at H
    have c2b0 : decide (0 < (a0.size : Int)) = false := decide_eq_false c2
    have c2b1 : decide (0 < a0.size) = false := decide_eq_false (by omega)
    clear c2
    obtain rfl := Option.some.inj H
    go_enter Try.func38, Try.ntmps38
    go_wp2
    go_ret
    exact ⟨by first | rfl | (simp; done) | (simp [*]; done), by repeat (first | exact Drawn0.refl _ | apply Drawn0.step)⟩

/-! ### objf_symbols: function 33 -/
def symGood (code data : Int) (s : S36) : Bool :=
  decide (s.f1 = 1 ∨ s.f1 = 2 ∨ s.f1 = 3) && decide (0 < s.f0.size ∧ s.f0.size ≤ 28) && decide (0 ≤ s.f2) && decide (s.f2 < (if s.f1 = 2 then data else code))
/-- How many texts there are, each counted once. -/
def distinct : List (List UInt8) → Nat
  | [] => 0
  | s :: r => distinct r + if s ∈ r then 0 else 1
theorem distinct_cons (s : List UInt8) (r : List (List UInt8)) : distinct (s :: r) = distinct r + if s ∈ r then 0 else 1 := rfl
def symNames (l : List S36) : List (List UInt8) := (l.map (·.f0.data.toList)).reverse
def objf_symbols.f (l0 : List S36) (a1 a2 : Int) : Option Bool :=
  some (l0.all (symGood a1 a2) && decide (distinct (symNames l0) = l0.length) && decide (l0.length ≤ 1000))
abbrev SymD := DataW Unit
def symKey (s : ByteArray) : Lit := .string s.data.toList
def Named (D : SymD) (xs : List (List UInt8)) : Prop := (∀ s : List UInt8, Maps.has D (.string s) = decide (s ∈ xs)) ∧ Maps.size D = distinct xs
theorem named_nil : Named (.map []) [] := ⟨fun s => by simp [Maps.has], rfl⟩
theorem named_put {D : SymD} {xs : List (List UInt8)} (h : Named D xs) (t : Maps.Tidy D) (s : List UInt8) (d : SymD) : Named (D.put (.string s) d) (s :: xs) := by
  refine ⟨fun u => ?_, ?_⟩
  · by_cases e : u = s
    · subst e
      rw [Maps.has_put_same t.isMap (by simp [WideAt.IsKeyLit])]
      simp
    · rw [Maps.has_put_other (fun h => e (by injection h)), h.1 u]
      simp [e]
  · rw [Maps.size_put t, h.1 s, h.2]
    rw [distinct_cons]
    by_cases e : s ∈ xs <;> simp [e]
theorem symNames_snoc (l : List S36) (k : Nat) (h : k < l.length) : symNames (l.take (k + 1)) = (l.getD k z36).f0.data.toList :: symNames (l.take k) := by
  have e := congrArg (fun x : List S36 => (x.map (fun y => y.f0.data.toList)).reverse) (List.take_succ_eq_append_getElem h)
  refine Eq.trans e ?_
  simp only [symNames, List.map_append, List.reverse_append, List.map_cons, List.map_nil, List.reverse_cons, List.reverse_nil, List.nil_append, List.singleton_append, List.getD_eq_getElem?_getD, List.getElem?_eq_getElem h, Option.getD_some, List.cons_append]
theorem all_snoc (p : S36 → Bool) (l : List S36) (k : Nat) (h : k < l.length) : (l.take (k + 1)).all p = ((l.take k).all p && p (l.getD k z36)) := by
  rw [List.take_succ_eq_append_getElem h, List.all_append]
  simp [List.getD_eq_getElem?_getD, List.getElem?_eq_getElem h]
theorem all_false_of (p : S36 → Bool) (l : List S36) (k : Nat) (h : k < l.length) (hp : p (l.getD k z36) = false) : l.all p = false := by
  rw [List.all_eq_false]
  exact ⟨l[k], List.getElem_mem h, by rw [List.getD_eq_getElem?_getD, List.getElem?_eq_getElem h] at hp; simpa using hp⟩
theorem sym_law9 : Maps.Keyed Try.prog 9 := Maps.string_keyed Try.underlying9
theorem sym_zero3 (w : World) : (zeroValue 3).run Try.prog w = .ok (.int .i64 0) w := by kernel_rfl
theorem sym_grown {w W W1 : World} {b : Nat} (hg : W.grownBy W1 (some b)) (hb : w.heap.size ≤ b) (h : Below w.heap.size w W) : Below w.heap.size w W1 := h.grown hg h.size (fun j hj => by cases hj; exact hb)
theorem sym_bad {l0 : List S36} {a1 a2 : Int} {r : Bool} (h : objf_symbols.f l0 a1 a2 = some r) (k : Nat) (hk : k < l0.length) (hp : symGood a1 a2 (l0.getD k z36) = false) : r = false := by
  unfold objf_symbols.f at h
  rw [all_false_of _ _ k hk hp] at h
  simpa using h.symm
theorem sym_end {l0 : List S36} {a1 a2 : Int} {r : Bool} (h : objf_symbols.f l0 a1 a2 = some r) (hg : l0.all (symGood a1 a2) = true) : r = (decide (distinct (symNames l0) = l0.length) && decide (l0.length ≤ 1000)) := by
  unfold objf_symbols.f at h
  rw [hg] at h
  simpa using h.symm
set_option maxHeartbeats 8000000 in
set_option maxRecDepth 100000 in
theorem objf_symbols.calls (A0 : Option Addr) (c0 : Nat) (l0 : List (S36)) (a1 : Int) (a2 : Int) (r : Bool) (w : World) (hr0 : Kd.C k36 w A0 l0.length l0) (hc0 : l0.length ≤ c0) (h : objf_symbols.f l0 a1 a2 = some r) :
    Calls Try.prog 33 #[.slice A0 l0.length c0, .int .i64 a1, .int .i64 a2] w fun e w' => e = .returned (.bool r) ∧ Below w.heap.size w w' := by
  have hlm : l0.length ≤ 9223372036854775807 := by have := hr0.2.1; simpa [maxLen] using this
  have HR0 := Aside0.mk hr0
  have H := Aside0.mk h
  have hmm := @run_makeMap Try.prog
  clear hr0 h
  go_enter Try.func33, Try.ntmps33
  go_wp2
  go_loopw [14] (fun v wr => ∃ k : Nat, k ≤ l0.length ∧ v = .int .i64 k ∧ Aside0 ((l0.take k).all (symGood a1 a2) = true) ∧ (∃ D : SymD, Aside0 (wr.ownsMap Try.prog 9 (plainElem Try.prog 3) w.heap.size k D) ∧ Aside0 (Named D (symNames (l0.take k)))) ∧ Aside0 (Below w.heap.size w wr)) (fun v _ => l0.length - (intOf v).toNat)
  case atStart => exact ⟨0, Nat.zero_le _, rfl, ⟨rfl⟩, ⟨_, ⟨World.ownsMap_made _ _ _ _⟩, ⟨named_nil⟩⟩, ⟨(Below.refl _ _).alloc (Nat.le_refl _) _⟩⟩
  case round =>
    obtain ⟨k, hk, rfl, HG, ⟨D, HO, HN⟩, HB⟩ := hrel
    by_cases hlt : k < l0.length
    case neg =>
      obtain rfl : k = l0.length := by omega
      have hend := sym_end H.out (by simpa using HG.out)
      have hsz : Maps.size D = distinct (symNames l0) := by have := HN.out.2; simpa using this
      by_cases e1 : distinct (symNames l0) = l0.length
      · have e2 : ((distinct (symNames l0) : Int) == (l0.length : Int)) = true := by simp [e1]
        have e3 : (distinct (symNames l0) == l0.length) = true := by simp [e1]
        have e4 : r = decide (l0.length ≤ 1000) := by rw [hend]; simp [e1]
        rw [← hsz] at e2 e3
        subst e4
        clear hend e1 hsz H hmm
        go_wp2_with (first | (at_len; refine wpList_len_own _ rfl _ 77 rfl 9 3 Try.underlying77 _ w.heap.size _ _ rfl HO.out ?_))
        go_ret
        exact ⟨by first | rfl | (simp; done) | (simp; omega), by repeat (first | exact HB.out | apply Below.drew)⟩
      · have e2 : ((distinct (symNames l0) : Int) == (l0.length : Int)) = false := by simp; omega
        have e3 : (distinct (symNames l0) == l0.length) = false := by simp [e1]
        have e4 : r = false := by rw [hend]; simp [e1]
        rw [← hsz] at e2 e3
        subst e4
        clear hend e1 hsz H hmm
        go_wp2_with (first | (at_len; refine wpList_len_own _ rfl _ 77 rfl 9 3 Try.underlying77 _ w.heap.size _ _ rfl HO.out ?_))
        go_ret
        exact ⟨by first | rfl | (simp; done), by repeat (first | exact HB.out | apply Below.drew)⟩
    case pos =>
      obtain ⟨ad, he, hx0, hx1, hx2⟩ := at_T36 HR0.out (k : Int) (by omega) (by omega)
      cases he
      have hbad := fun hp => sym_bad H.out k hlt hp
      have hgood := fun (hp : symGood a1 a2 (l0.getD k z36) = true) => (show (l0.take (k + 1)).all (symGood a1 a2) = true by rw [all_snoc _ _ k hlt, HG.out, hp]; rfl)
      have hnm := symNames_snoc l0 k hlt
      have hrd : rd_T36 l0 (k : Int) = l0.getD k z36 := by simp [rd_T36]
      rw [hrd] at hx0 hx1 hx2
      clear hrd
      generalize l0.getD k z36 = s at hx0 hx1 hx2 hbad hgood hnm
      obtain ⟨s0, s1, s2⟩ := s
      replace hx0 := (HB.out.cell (World.block_lt_of_cell? w _ hx0)).trans hx0
      replace hx1 := (HB.out.cell (World.block_lt_of_cell? w _ hx1)).trans hx1
      replace hx2 := (HB.out.cell (World.block_lt_of_cell? w _ hx2)).trans hx2
      have hk1 : wrap64 ((k : Int) + 1) = ((k + 1 : Nat) : Int) := by unfold wrap64; omega
      simp only [Int.toNat_natCast] at hx0 hx1 hx2
      have HBAD := Aside0.mk hbad
      have HGOOD := Aside0.mk hgood
      have HNM := Aside0.mk hnm
      clear hbad hgood hnm H
      try dsimp only at hx0 hx1 hx2
      by_cases e2 : s1 = 2
      case pos =>
        subst e2
        by_cases hn : 0 < s0.size ∧ s0.size ≤ 28
        case neg =>
          have in1 : objf_isName.f s0 = some false := by unfold objf_isName.f; by_cases q : (s0.size : Int) > 0 <;> simp [q] <;> omega
          obtain rfl := HBAD.out (by simp [symGood, hn])
          go_wp2_with (first | (go_at_call 38; (with_reducible refine (objf_isName.calls s0 false _ in1).mono ?_); rintro e w1 ⟨rfl, ⟨n1, rfl⟩⟩))
          all_goals go_ret
          all_goals exact ⟨rfl, by (repeat (first | exact HB.out | apply Below.drew | apply pw_below_drewN | (refine Below.setCell ?_ (below_size HB.out) _) | (refine Below.alloc ?_ (below_size HB.out) _)))⟩
        case pos =>
          have in1 : objf_isName.f s0 = some true := by unfold objf_isName.f; rw [if_pos (by omega)]; simp; omega
          by_cases h0 : s2 < 0
          · have d0 : decide (s2 < 0) = true := decide_eq_true h0
            obtain rfl := HBAD.out (by simp [symGood, show ¬ (0 ≤ s2) by omega])
            go_wp2_with (first | (go_at_call 38; (with_reducible refine (objf_isName.calls s0 true _ in1).mono ?_); rintro e w1 ⟨rfl, ⟨n1, rfl⟩⟩))
            all_goals go_ret
            all_goals exact ⟨rfl, by (repeat (first | exact HB.out | apply Below.drew | apply pw_below_drewN | (refine Below.setCell ?_ (below_size HB.out) _) | (refine Below.alloc ?_ (below_size HB.out) _)))⟩
          have d0 : decide (s2 < 0) = false := decide_eq_false h0
          by_cases h1 : a2 ≤ s2
          · have d1 : decide (a2 ≤ s2) = true := decide_eq_true h1
            obtain rfl := HBAD.out (by simp [symGood, show ¬ (s2 < a2) by omega])
            go_wp2_with (first | (go_at_call 38; (with_reducible refine (objf_isName.calls s0 true _ in1).mono ?_); rintro e w1 ⟨rfl, ⟨n1, rfl⟩⟩))
            all_goals go_ret
            all_goals exact ⟨rfl, by (repeat (first | exact HB.out | apply Below.drew | apply pw_below_drewN | (refine Below.setCell ?_ (below_size HB.out) _) | (refine Below.alloc ?_ (below_size HB.out) _)))⟩
          have d1 : decide (a2 ≤ s2) = false := decide_eq_false h1
          have R1 := Aside0.mk (HGOOD.out (by simp [symGood, hn, show 0 ≤ s2 by omega, show s2 < a2 by omega]))
          have hkey : keyOf Try.prog 9 (.string s0) = some (.string s0.data.toList) := WideMaps.keyOf_string_mk Try.underlying9 (by unfold maxLen; omega)
          clear h0 h1 hn HBAD HGOOD
          go_wp2_with (first | (go_at_call 38; (with_reducible refine (objf_isName.calls s0 true _ in1).mono ?_); rintro e w1 ⟨rfl, ⟨n1, rfl⟩⟩) | (at_lookup; refine wpList_lookup_own_int _ rfl _ _ 77 rfl 9 3 .i64 sym_law9 Try.underlying77 Try.underlying3 (sym_zero3 _) w.heap.size k _ rfl (by repeat (first | exact HO.out | apply World.ownsMap.drew | apply World.ownsMap.alloc | (refine World.ownsMap.setCell ?_ (by have := HO.out.lt; simp; omega) _))) _ _ rfl hkey ?_; intro c hat hwc) | (at_mapUpdate; refine wpList_mapUpdate_own _ rfl _ _ _ 77 rfl 9 3 sym_law9 Try.underlying77 _ w.heap.size k _ rfl (by repeat (first | exact HO.out | apply World.ownsMap.drew | apply World.ownsMap.alloc | (refine World.ownsMap.setCell ?_ (by have := HO.out.lt; simp; omega) _))) (by unfold maxLen; omega) _ _ _ rfl rfl hkey _ [] (plainElem_int Try.underlying3 (wrap64_wf _)) ?_; intro w2 hown2 hgrow2; have HO2 := Aside0.mk hown2; have HB2 := Aside0.mk (sym_grown (w := w) hgrow2 (Nat.le_refl _) (by repeat (first | exact HB.out | apply Below.drew | apply pw_below_drewN | (refine Below.setCell ?_ (below_size HB.out) _) | (refine Below.alloc ?_ (below_size HB.out) _)))); clear hown2 hgrow2))
          go_roundw
          case rel => exact ⟨k + 1, by omega, by first | rfl | go_num, R1, ⟨_, HO2, ⟨by rw [HNM.out]; exact named_put HN.out (HO.out.tidy sym_law9) _ _⟩⟩, HB2⟩
          case measure => simp [intOf]; omega
      case neg =>
        have t2 : (s1 == 2) = false := beq_eq_false_iff_ne.mpr e2
        by_cases e1 : s1 = 1
        case pos =>
          subst e1
          clear t2 e2
          by_cases hn : 0 < s0.size ∧ s0.size ≤ 28
          case neg =>
            have in1 : objf_isName.f s0 = some false := by unfold objf_isName.f; by_cases q : (s0.size : Int) > 0 <;> simp [q] <;> omega
            obtain rfl := HBAD.out (by simp [symGood, hn])
            go_wp2_with (first | (go_at_call 38; (with_reducible refine (objf_isName.calls s0 false _ in1).mono ?_); rintro e w1 ⟨rfl, ⟨n1, rfl⟩⟩))
            all_goals go_ret
            all_goals exact ⟨rfl, by (repeat (first | exact HB.out | apply Below.drew | apply pw_below_drewN | (refine Below.setCell ?_ (below_size HB.out) _) | (refine Below.alloc ?_ (below_size HB.out) _)))⟩
          case pos =>
            have in1 : objf_isName.f s0 = some true := by unfold objf_isName.f; rw [if_pos (by omega)]; simp; omega
            by_cases h0 : s2 < 0
            · have d0 : decide (s2 < 0) = true := decide_eq_true h0
              obtain rfl := HBAD.out (by simp [symGood, show ¬ (0 ≤ s2) by omega])
              go_wp2_with (first | (go_at_call 38; (with_reducible refine (objf_isName.calls s0 true _ in1).mono ?_); rintro e w1 ⟨rfl, ⟨n1, rfl⟩⟩))
              all_goals go_ret
              all_goals exact ⟨rfl, by (repeat (first | exact HB.out | apply Below.drew | apply pw_below_drewN | (refine Below.setCell ?_ (below_size HB.out) _) | (refine Below.alloc ?_ (below_size HB.out) _)))⟩
            have d0 : decide (s2 < 0) = false := decide_eq_false h0
            by_cases h1 : a1 ≤ s2
            · have d1 : decide (a1 ≤ s2) = true := decide_eq_true h1
              obtain rfl := HBAD.out (by simp [symGood, show ¬ (s2 < a1) by omega])
              go_wp2_with (first | (go_at_call 38; (with_reducible refine (objf_isName.calls s0 true _ in1).mono ?_); rintro e w1 ⟨rfl, ⟨n1, rfl⟩⟩))
              all_goals go_ret
              all_goals exact ⟨rfl, by (repeat (first | exact HB.out | apply Below.drew | apply pw_below_drewN | (refine Below.setCell ?_ (below_size HB.out) _) | (refine Below.alloc ?_ (below_size HB.out) _)))⟩
            have d1 : decide (a1 ≤ s2) = false := decide_eq_false h1
            have R1 := Aside0.mk (HGOOD.out (by simp [symGood, hn, show 0 ≤ s2 by omega, show s2 < a1 by omega]))
            have hkey : keyOf Try.prog 9 (.string s0) = some (.string s0.data.toList) := WideMaps.keyOf_string_mk Try.underlying9 (by unfold maxLen; omega)
            clear h0 h1 hn HBAD HGOOD
            go_wp2_with (first | (go_at_call 38; (with_reducible refine (objf_isName.calls s0 true _ in1).mono ?_); rintro e w1 ⟨rfl, ⟨n1, rfl⟩⟩) | (at_lookup; refine wpList_lookup_own_int _ rfl _ _ 77 rfl 9 3 .i64 sym_law9 Try.underlying77 Try.underlying3 (sym_zero3 _) w.heap.size k _ rfl (by repeat (first | exact HO.out | apply World.ownsMap.drew | apply World.ownsMap.alloc | (refine World.ownsMap.setCell ?_ (by have := HO.out.lt; simp; omega) _))) _ _ rfl hkey ?_; intro c hat hwc) | (at_mapUpdate; refine wpList_mapUpdate_own _ rfl _ _ _ 77 rfl 9 3 sym_law9 Try.underlying77 _ w.heap.size k _ rfl (by repeat (first | exact HO.out | apply World.ownsMap.drew | apply World.ownsMap.alloc | (refine World.ownsMap.setCell ?_ (by have := HO.out.lt; simp; omega) _))) (by unfold maxLen; omega) _ _ _ rfl rfl hkey _ [] (plainElem_int Try.underlying3 (wrap64_wf _)) ?_; intro w2 hown2 hgrow2; have HO2 := Aside0.mk hown2; have HB2 := Aside0.mk (sym_grown (w := w) hgrow2 (Nat.le_refl _) (by repeat (first | exact HB.out | apply Below.drew | apply pw_below_drewN | (refine Below.setCell ?_ (below_size HB.out) _) | (refine Below.alloc ?_ (below_size HB.out) _)))); clear hown2 hgrow2))
            go_roundw
            case rel => exact ⟨k + 1, by omega, by first | rfl | go_num, R1, ⟨_, HO2, ⟨by rw [HNM.out]; exact named_put HN.out (HO.out.tidy sym_law9) _ _⟩⟩, HB2⟩
            case measure => simp [intOf]; omega
        case neg =>
          have t1 : (s1 == 1) = false := beq_eq_false_iff_ne.mpr e1
          by_cases e3 : s1 = 3
          case pos =>
            subst e3
            clear t2 e2 t1 e1
            by_cases hn : 0 < s0.size ∧ s0.size ≤ 28
            case neg =>
              have in1 : objf_isName.f s0 = some false := by unfold objf_isName.f; by_cases q : (s0.size : Int) > 0 <;> simp [q] <;> omega
              obtain rfl := HBAD.out (by simp [symGood, hn])
              go_wp2_with (first | (go_at_call 38; (with_reducible refine (objf_isName.calls s0 false _ in1).mono ?_); rintro e w1 ⟨rfl, ⟨n1, rfl⟩⟩))
              all_goals go_ret
              all_goals exact ⟨rfl, by (repeat (first | exact HB.out | apply Below.drew | apply pw_below_drewN | (refine Below.setCell ?_ (below_size HB.out) _) | (refine Below.alloc ?_ (below_size HB.out) _)))⟩
            case pos =>
              have in1 : objf_isName.f s0 = some true := by unfold objf_isName.f; rw [if_pos (by omega)]; simp; omega
              by_cases h0 : s2 < 0
              · have d0 : decide (s2 < 0) = true := decide_eq_true h0
                obtain rfl := HBAD.out (by simp [symGood, show ¬ (0 ≤ s2) by omega])
                go_wp2_with (first | (go_at_call 38; (with_reducible refine (objf_isName.calls s0 true _ in1).mono ?_); rintro e w1 ⟨rfl, ⟨n1, rfl⟩⟩))
                all_goals go_ret
                all_goals exact ⟨rfl, by (repeat (first | exact HB.out | apply Below.drew | apply pw_below_drewN | (refine Below.setCell ?_ (below_size HB.out) _) | (refine Below.alloc ?_ (below_size HB.out) _)))⟩
              have d0 : decide (s2 < 0) = false := decide_eq_false h0
              by_cases h1 : a1 ≤ s2
              · have d1 : decide (a1 ≤ s2) = true := decide_eq_true h1
                obtain rfl := HBAD.out (by simp [symGood, show ¬ (s2 < a1) by omega])
                go_wp2_with (first | (go_at_call 38; (with_reducible refine (objf_isName.calls s0 true _ in1).mono ?_); rintro e w1 ⟨rfl, ⟨n1, rfl⟩⟩))
                all_goals go_ret
                all_goals exact ⟨rfl, by (repeat (first | exact HB.out | apply Below.drew | apply pw_below_drewN | (refine Below.setCell ?_ (below_size HB.out) _) | (refine Below.alloc ?_ (below_size HB.out) _)))⟩
              have d1 : decide (a1 ≤ s2) = false := decide_eq_false h1
              have R1 := Aside0.mk (HGOOD.out (by simp [symGood, hn, show 0 ≤ s2 by omega, show s2 < a1 by omega]))
              have hkey : keyOf Try.prog 9 (.string s0) = some (.string s0.data.toList) := WideMaps.keyOf_string_mk Try.underlying9 (by unfold maxLen; omega)
              clear h0 h1 hn HBAD HGOOD
              go_wp2_with (first | (go_at_call 38; (with_reducible refine (objf_isName.calls s0 true _ in1).mono ?_); rintro e w1 ⟨rfl, ⟨n1, rfl⟩⟩) | (at_lookup; refine wpList_lookup_own_int _ rfl _ _ 77 rfl 9 3 .i64 sym_law9 Try.underlying77 Try.underlying3 (sym_zero3 _) w.heap.size k _ rfl (by repeat (first | exact HO.out | apply World.ownsMap.drew | apply World.ownsMap.alloc | (refine World.ownsMap.setCell ?_ (by have := HO.out.lt; simp; omega) _))) _ _ rfl hkey ?_; intro c hat hwc) | (at_mapUpdate; refine wpList_mapUpdate_own _ rfl _ _ _ 77 rfl 9 3 sym_law9 Try.underlying77 _ w.heap.size k _ rfl (by repeat (first | exact HO.out | apply World.ownsMap.drew | apply World.ownsMap.alloc | (refine World.ownsMap.setCell ?_ (by have := HO.out.lt; simp; omega) _))) (by unfold maxLen; omega) _ _ _ rfl rfl hkey _ [] (plainElem_int Try.underlying3 (wrap64_wf _)) ?_; intro w2 hown2 hgrow2; have HO2 := Aside0.mk hown2; have HB2 := Aside0.mk (sym_grown (w := w) hgrow2 (Nat.le_refl _) (by repeat (first | exact HB.out | apply Below.drew | apply pw_below_drewN | (refine Below.setCell ?_ (below_size HB.out) _) | (refine Below.alloc ?_ (below_size HB.out) _)))); clear hown2 hgrow2))
              go_roundw
              case rel => exact ⟨k + 1, by omega, by first | rfl | go_num, R1, ⟨_, HO2, ⟨by rw [HNM.out]; exact named_put HN.out (HO.out.tidy sym_law9) _ _⟩⟩, HB2⟩
              case measure => simp [intOf]; omega
          case neg =>
            have t3 : (s1 == 3) = false := beq_eq_false_iff_ne.mpr e3
            obtain rfl := HBAD.out (by simp [symGood, e1, e2, e3])
            go_wp2_with (fail)
            all_goals go_ret
            all_goals exact ⟨rfl, by (repeat (first | exact HB.out | apply Below.drew | apply pw_below_drewN | (refine Below.setCell ?_ (below_size HB.out) _) | (refine Below.alloc ?_ (below_size HB.out) _)))⟩

end Go.Proofs.Yteaealmnmmcbpaa.M

-- Written by a program of this session (wip/ownprint.py) over the translation. Lean checks it.
namespace Go.Proofs.Yteaealmnmmcbpaa.M
open Go.RowKit Go.Proofs.YteaealmnmmcbpaaW.PrintWords Go.Proofs.YteaealmnmmcbpaaW.PrintLast
set_option linter.unusedVariables false
set_option linter.unusedSimpArgs false

/-! ### objf_relocations: function 34 -/
mutual
def objf_relocations.l0 : Nat → List (S45) → Int → Int → List (S45) → Int → Int → Option (Bool)
  | 0, _, _, _, _, _, _ => none
  | k + 1, x0, x1, x5, x8, x9, x10 => if x10 < x9 then (if 0 ≤ x10 then (if x10 < (x8.length : Int) then ((objf_isName.f ((rd_T45 x8 x10).f2)).bind fun t103 => (if t103 = true then (if ((rd_T45 x8 x10).f0) < x5 then (objf_relocations.j1 k x0 x1 x8 x9 x10 true ((rd_T45 x8 x10).f0) ((rd_T45 x8 x10).f1) ((rd_T45 x8 x10).f2) ((rd_T45 x8 x10).f3)) else (objf_relocations.j1 k x0 x1 x8 x9 x10 (decide (((rd_T45 x8 x10).f0) > (wrap64 (x1 - 4)))) ((rd_T45 x8 x10).f0) ((rd_T45 x8 x10).f1) ((rd_T45 x8 x10).f2) ((rd_T45 x8 x10).f3))) else (objf_relocations.j1 k x0 x1 x8 x9 x10 true ((rd_T45 x8 x10).f0) ((rd_T45 x8 x10).f1) ((rd_T45 x8 x10).f2) ((rd_T45 x8 x10).f3)))) else (none)) else (none)) else (some (decide ((x0.length : Int) ≤ 8000)))
def objf_relocations.j1 : Nat → List (S45) → Int → List (S45) → Int → Int → Bool → Int → Int → ByteArray → Int → Option (Bool)
  | 0, _, _, _, _, _, _, _, _, _, _ => none
  | k + 1, x0, x1, x8, x9, x10, x30, x103000, x103001, x103002, x103003 => if x30 = true then (some false) else (if x103001 = 1 then (if x103003 = 0 then (objf_relocations.l0 k x0 x1 (wrap64 (x103000 + 4)) x8 x9 (wrap64 (x10 + 1))) else (some false)) else (if x103001 = 2 then (if x103003 < (-2147483648) then (some false) else (if x103003 > 2147483647 then (some false) else (objf_relocations.l0 k x0 x1 (wrap64 (x103000 + 4)) x8 x9 (wrap64 (x10 + 1))))) else (some false)))
end
def objf_relocations.f (k : Nat) (l0 : List (S45)) (a1 : Int) : Option (Bool) := objf_relocations.l0 k l0 a1 0 l0 (l0.length : Int) 0
set_option maxHeartbeats 8000000 in
set_option maxRecDepth 100000 in
theorem objf_relocations.calls (k : Nat) (A0 : Option Addr) (c0 : Nat) (l0 : List (S45)) (a1 : Int) (r : Bool) (w : World) (hr0 : Kd.C k45 w A0 l0.length l0) (hc0 : l0.length ≤ c0) (h : objf_relocations.f k l0 a1 = some r) :
    Calls Try.prog 34 #[.slice A0 l0.length c0, .int .i64 a1] w fun e w' => e = .returned (.bool r) ∧ Below w.heap.size w w' := by
  have hu45 := Try.underlying45
  have HR0 := Aside0.mk hr0
  have HC0 := Aside0.mk hc0
  clear hr0 hc0
  have HB := Aside0.mk (Below.refl w.heap.size w)
  have H : (objf_relocations.l0 k l0 a1 0 l0 (l0.length : Int) 0) = some r := h
  clear h
  have H' := Aside0.mk H
  clear H
  go_enter Try.func34, Try.ntmps34
  go_wp2
  go_loopg [5, 10] k (fun kq v5 v10 w' => ∃ (x5_1 : Int) (x10_1 : Int), v5 = .int .i64 x5_1 ∧ v10 = .int .i64 x10_1 ∧ Aside0 (objf_relocations.l0 kq l0 a1 x5_1 l0 (l0.length : Int) x10_1 = some r) ∧ Aside0 (kq ≤ k) ∧ Aside0 (Below w.heap.size w w'))
  case atStart => exact ⟨(0), (0), (by first | rfl | (simp; done) | (simp [*]; done)), (by first | rfl | (simp; done) | (simp [*]; done)), H', ⟨Nat.le_refl _⟩, ⟨by repeat (first | (with_reducible first | exact HB.out | apply below_alloc | apply pw_below_drewN | apply below_drew1) | exact HB.out)⟩⟩
  case round =>
    clear H'
    try clear p2
    obtain ⟨x5_1, x10_1, rfl, rfl, HA, HK1, HB⟩ := hrel
    cases gk with
    | zero => exact absurd HA.out (by simp [objf_relocations.l0])
    | succ k1 =>
      have H := HA.out
      clear HA
      simp only [objf_relocations.l0] at H
      by_cases c3 : x10_1 < (l0.length : Int)
      · rw [if_pos c3] at H
        have c3b0 : decide (x10_1 < (l0.length : Int)) = true := decide_eq_true c3
        clear c3
        by_cases c4 : 0 ≤ x10_1
        · rw [if_pos c4] at H
          have c4b0 : decide (0 ≤ x10_1) = true := decide_eq_true c4
          clear c4
          by_cases c5 : x10_1 < (l0.length : Int)
          · rw [if_pos c5] at H
            have c5b0 : decide (x10_1 < (l0.length : Int)) = true := decide_eq_true c5
            clear c5
            have HC6 := Aside0.mk H
            clear H
            have p101 : 0 ≤ (x10_1 : Int) := of_decide_eq_true (by first | (with_reducible assumption) | assumption)
            have q101 : x10_1 < (l0.length : Int) := of_decide_eq_true (by first | (with_reducible assumption) | assumption)
            obtain ⟨ad101, e101, hx101_0, hx101_1, hx101_2, hx101_3⟩ := at_T45 HR0.out x10_1 p101 q101
            cases e101
            replace hx101_0 := (HB.out.cell (World.block_lt_of_cell? w _ hx101_0)).trans hx101_0
            replace hx101_1 := (HB.out.cell (World.block_lt_of_cell? w _ hx101_1)).trans hx101_1
            replace hx101_2 := (HB.out.cell (World.block_lt_of_cell? w _ hx101_2)).trans hx101_2
            replace hx101_3 := (HB.out.cell (World.block_lt_of_cell? w _ hx101_3)).trans hx101_3
            replace p101 := eq_true p101
            replace q101 := eq_true q101
            go_upto_region 5 with (first | ((with_reducible refine gate_dst (N := 7) rfl ?_); refine box_event ?hg (N := 7) ?hd (cs := #[.int .i64 0, .int .i64 0, .string (⟨#[]⟩ : ByteArray), .int .i64 0]) (t := 45) ?hr ?_; (case hd => rfl); (case hg => rfl); (case hr => first | (go_simp; done) | (go_simp; rfl)); intro gb102 hg w7 hbox hb; have n0_ := Aside0.mk (below_step (by repeat (first | (with_reducible first | exact HB.out | apply below_alloc | apply pw_below_drewN | apply below_drew1) | exact HB.out)) hb); have n1_ := Aside0.mk (hbox); have n2_ := Aside0.mk ((by rw [hg]; exact (below_size (by repeat (first | (with_reducible first | exact HB.out | apply below_alloc | apply pw_below_drewN | apply below_drew1) | exact HB.out))) : w.heap.size ≤ gb102)); have n3_ := Aside0.mk ((by rw [hg]; exact (below_size (by repeat (first | (with_reducible first | exact HB.out | apply below_alloc | apply pw_below_drewN | apply below_drew1) | exact HB.out))) : w.heap.size ≤ gb102)); clear HB; have HB := n0_; have BK102 := n1_; have GW102 := n2_; have GE102 := n3_; clear n0_ n1_ n2_ n3_; clear hb hbox hg; have hcz8_0 : w7.cell? ⟨gb102, 0, none⟩ = some (.int .i64 0) := (blk_cell BK102.out 0).trans rfl; have hcz8_1 : w7.cell? ⟨gb102, 1, none⟩ = some (.int .i64 0) := (blk_cell BK102.out 1).trans rfl; have hcz8_2 : w7.cell? ⟨gb102, 2, none⟩ = some (.string (⟨#[]⟩ : ByteArray)) := (blk_cell BK102.out 2).trans rfl; have hcz8_3 : w7.cell? ⟨gb102, 3, none⟩ = some (.int .i64 0) := (blk_cell BK102.out 3).trans rfl; have hfz8_0 := blk_frozen BK102.out 0; have hfz8_1 := blk_frozen BK102.out 1; have hfz8_2 := blk_frozen BK102.out 2; have hfz8_3 := blk_frozen BK102.out 3))
            (try simp only [Act.put, List.setIfInBounds_toArray, List.set_cons_zero, List.set_cons_succ])
            go_cut [30] (fun v30 wc => ∃ (kq : Nat) (x30_5 : Bool), v30 = .bool x30_5 ∧ Aside0 (objf_relocations.j1 kq l0 a1 l0 (l0.length : Int) x10_1 x30_5 ((rd_T45 l0 x10_1).f0) ((rd_T45 l0 x10_1).f1) ((rd_T45 l0 x10_1).f2) ((rd_T45 l0 x10_1).f3) = some r) ∧ Aside0 (kq ≤ k1) ∧ Aside0 (wc.heap[gb102]? = some (.cells #[.int .i64 ((rd_T45 l0 x10_1).f0), .int .i64 ((rd_T45 l0 x10_1).f1), .string ((rd_T45 l0 x10_1).f2), .int .i64 ((rd_T45 l0 x10_1).f3)] 45 (0, 0))) ∧ Aside0 (Below w.heap.size w wc))
            case first =>
              have H := HC6.out
              clear HC6
              replace H := Option.bind_eq_some_iff.mp H
              obtain ⟨t103, A90, H⟩ := H
              replace H : (if t103 = true then (if ((rd_T45 l0 x10_1).f0) < x5_1 then (objf_relocations.j1 k1 l0 a1 l0 (l0.length : Int) x10_1 true ((rd_T45 l0 x10_1).f0) ((rd_T45 l0 x10_1).f1) ((rd_T45 l0 x10_1).f2) ((rd_T45 l0 x10_1).f3)) else (objf_relocations.j1 k1 l0 a1 l0 (l0.length : Int) x10_1 (decide (((rd_T45 l0 x10_1).f0) > (wrap64 (a1 - 4)))) ((rd_T45 l0 x10_1).f0) ((rd_T45 l0 x10_1).f1) ((rd_T45 l0 x10_1).f2) ((rd_T45 l0 x10_1).f3))) else (objf_relocations.j1 k1 l0 a1 l0 (l0.length : Int) x10_1 true ((rd_T45 l0 x10_1).f0) ((rd_T45 l0 x10_1).f1) ((rd_T45 l0 x10_1).f2) ((rd_T45 l0 x10_1).f3))) = some r := H
              have A9 := Aside0.mk A90
              clear A90
              by_cases c10 : t103 = true
              · subst c10
                have H1 : (if ((rd_T45 l0 x10_1).f0) < x5_1 then (objf_relocations.j1 k1 l0 a1 l0 (l0.length : Int) x10_1 true ((rd_T45 l0 x10_1).f0) ((rd_T45 l0 x10_1).f1) ((rd_T45 l0 x10_1).f2) ((rd_T45 l0 x10_1).f3)) else (objf_relocations.j1 k1 l0 a1 l0 (l0.length : Int) x10_1 (decide (((rd_T45 l0 x10_1).f0) > (wrap64 (a1 - 4)))) ((rd_T45 l0 x10_1).f0) ((rd_T45 l0 x10_1).f1) ((rd_T45 l0 x10_1).f2) ((rd_T45 l0 x10_1).f3))) = some r := by rw [if_pos rfl] at H; exact H
                clear H
                have H := H1
                clear H1
                by_cases c11 : ((rd_T45 l0 x10_1).f0) < x5_1
                · rw [if_pos c11] at H
                  have c11b0 : decide (((rd_T45 l0 x10_1).f0) < x5_1) = true := decide_eq_true c11
                  clear c11
                  (first | rw [c11b0] | (simp only [i64_w, i32_w]; rw [c11b0]) | skip)
                  have H' := Aside0.mk H
                  clear H
                  have hcz12_0 : w7.cell? ⟨gb102, 0, none⟩ = some (.int .i64 0) := (blk_cell BK102.out 0).trans rfl
                  have hcz12_1 : w7.cell? ⟨gb102, 1, none⟩ = some (.int .i64 0) := (blk_cell BK102.out 1).trans rfl
                  have hcz12_2 : w7.cell? ⟨gb102, 2, none⟩ = some (.string (⟨#[]⟩ : ByteArray)) := (blk_cell BK102.out 2).trans rfl
                  have hcz12_3 : w7.cell? ⟨gb102, 3, none⟩ = some (.int .i64 0) := (blk_cell BK102.out 3).trans rfl
                  have hfz12_0 := blk_frozen BK102.out 0
                  have hfz12_1 := blk_frozen BK102.out 1
                  have hfz12_2 := blk_frozen BK102.out 2
                  have hfz12_3 := blk_frozen BK102.out 3
                  go_wp2_with (first | ((with_reducible refine gate_callee (f := 38) rfl ?_); refine goesL_ (some 16) rfl rfl Try.func38 (by kernel_rfl) rfl #[.string ((rd_T45 l0 x10_1).f2)] rfl (by (try simp only [List.map_toArray, List.map_cons, List.map_nil]); first | done | rfl | (simp only [List.length_drop, List.length_take]; rfl)) ?_; (with_reducible refine (objf_isName.calls ((rd_T45 l0 x10_1).f2) true _ A9.out).mono ?_); rintro e w' ⟨rfl, ⟨nd, rfl⟩⟩; refine ⟨_, rfl, ?_⟩))
                  go_meet
                  case rel => exact ⟨_, (true), (by first | rfl | (simp; done) | (simp [*]; done)), H', ⟨by have := HK1.out; first | omega | exact Nat.le_refl _⟩, ⟨by (with_reducible repeat (first | refine blk_drewN ?_ _ | refine blk_drew ?_ | refine blk_alloc ?_ _)); refine blk_put (cs := #[.int .i64 ((rd_T45 l0 x10_1).f0), .int .i64 ((rd_T45 l0 x10_1).f1), .string ((rd_T45 l0 x10_1).f2), .int .i64 0]) ?_ 3 _ rfl; (with_reducible repeat (first | refine blk_drewN ?_ _ | refine blk_drew ?_ | refine blk_alloc ?_ _)); refine blk_put (cs := #[.int .i64 ((rd_T45 l0 x10_1).f0), .int .i64 ((rd_T45 l0 x10_1).f1), .string (⟨#[]⟩ : ByteArray), .int .i64 0]) ?_ 2 _ rfl; (with_reducible repeat (first | refine blk_drewN ?_ _ | refine blk_drew ?_ | refine blk_alloc ?_ _)); refine blk_put (cs := #[.int .i64 ((rd_T45 l0 x10_1).f0), .int .i64 0, .string (⟨#[]⟩ : ByteArray), .int .i64 0]) ?_ 1 _ rfl; (with_reducible repeat (first | refine blk_drewN ?_ _ | refine blk_drew ?_ | refine blk_alloc ?_ _)); refine blk_put (cs := #[.int .i64 0, .int .i64 0, .string (⟨#[]⟩ : ByteArray), .int .i64 0]) ?_ 0 _ rfl; (with_reducible repeat (first | refine blk_drewN ?_ _ | refine blk_drew ?_ | refine blk_alloc ?_ _)); exact BK102.out⟩, ⟨by repeat (first | (with_reducible first | exact HB.out | apply below_alloc | apply pw_below_drewN | apply below_drew1 | refine below_set ?_ GE102.out) | exact HB.out)⟩⟩
                · rw [if_neg c11] at H
                  have c11b0 : decide (((rd_T45 l0 x10_1).f0) < x5_1) = false := decide_eq_false c11
                  clear c11
                  (first | rw [c11b0] | (simp only [i64_w, i32_w]; rw [c11b0]) | skip)
                  have H' := Aside0.mk H
                  clear H
                  have hcz13_0 : w7.cell? ⟨gb102, 0, none⟩ = some (.int .i64 0) := (blk_cell BK102.out 0).trans rfl
                  have hcz13_1 : w7.cell? ⟨gb102, 1, none⟩ = some (.int .i64 0) := (blk_cell BK102.out 1).trans rfl
                  have hcz13_2 : w7.cell? ⟨gb102, 2, none⟩ = some (.string (⟨#[]⟩ : ByteArray)) := (blk_cell BK102.out 2).trans rfl
                  have hcz13_3 : w7.cell? ⟨gb102, 3, none⟩ = some (.int .i64 0) := (blk_cell BK102.out 3).trans rfl
                  have hfz13_0 := blk_frozen BK102.out 0
                  have hfz13_1 := blk_frozen BK102.out 1
                  have hfz13_2 := blk_frozen BK102.out 2
                  have hfz13_3 := blk_frozen BK102.out 3
                  go_wp2_with (first | ((with_reducible refine gate_callee (f := 38) rfl ?_); refine goesL_ (some 16) rfl rfl Try.func38 (by kernel_rfl) rfl #[.string ((rd_T45 l0 x10_1).f2)] rfl (by (try simp only [List.map_toArray, List.map_cons, List.map_nil]); first | done | rfl | (simp only [List.length_drop, List.length_take]; rfl)) ?_; (with_reducible refine (objf_isName.calls ((rd_T45 l0 x10_1).f2) true _ A9.out).mono ?_); rintro e w' ⟨rfl, ⟨nd, rfl⟩⟩; refine ⟨_, rfl, ?_⟩))
                  go_meet
                  case rel => exact ⟨_, (decide (((rd_T45 l0 x10_1).f0) > (wrap64 (a1 - 4)))), (by first | rfl | (simp; done) | (simp [*]; done)), H', ⟨by have := HK1.out; first | omega | exact Nat.le_refl _⟩, ⟨by (with_reducible repeat (first | refine blk_drewN ?_ _ | refine blk_drew ?_ | refine blk_alloc ?_ _)); refine blk_put (cs := #[.int .i64 ((rd_T45 l0 x10_1).f0), .int .i64 ((rd_T45 l0 x10_1).f1), .string ((rd_T45 l0 x10_1).f2), .int .i64 0]) ?_ 3 _ rfl; (with_reducible repeat (first | refine blk_drewN ?_ _ | refine blk_drew ?_ | refine blk_alloc ?_ _)); refine blk_put (cs := #[.int .i64 ((rd_T45 l0 x10_1).f0), .int .i64 ((rd_T45 l0 x10_1).f1), .string (⟨#[]⟩ : ByteArray), .int .i64 0]) ?_ 2 _ rfl; (with_reducible repeat (first | refine blk_drewN ?_ _ | refine blk_drew ?_ | refine blk_alloc ?_ _)); refine blk_put (cs := #[.int .i64 ((rd_T45 l0 x10_1).f0), .int .i64 0, .string (⟨#[]⟩ : ByteArray), .int .i64 0]) ?_ 1 _ rfl; (with_reducible repeat (first | refine blk_drewN ?_ _ | refine blk_drew ?_ | refine blk_alloc ?_ _)); refine blk_put (cs := #[.int .i64 0, .int .i64 0, .string (⟨#[]⟩ : ByteArray), .int .i64 0]) ?_ 0 _ rfl; (with_reducible repeat (first | refine blk_drewN ?_ _ | refine blk_drew ?_ | refine blk_alloc ?_ _)); exact BK102.out⟩, ⟨by repeat (first | (with_reducible first | exact HB.out | apply below_alloc | apply pw_below_drewN | apply below_drew1 | refine below_set ?_ GE102.out) | exact HB.out)⟩⟩
              · replace c10 := Bool.eq_false_iff.mpr c10
                subst c10
                have H1 : (objf_relocations.j1 k1 l0 a1 l0 (l0.length : Int) x10_1 true ((rd_T45 l0 x10_1).f0) ((rd_T45 l0 x10_1).f1) ((rd_T45 l0 x10_1).f2) ((rd_T45 l0 x10_1).f3)) = some r := by rw [if_neg (show ¬ (false = true) by decide)] at H; exact H
                clear H
                have H := H1
                clear H1
                have H' := Aside0.mk H
                clear H
                have hcz14_0 : w7.cell? ⟨gb102, 0, none⟩ = some (.int .i64 0) := (blk_cell BK102.out 0).trans rfl
                have hcz14_1 : w7.cell? ⟨gb102, 1, none⟩ = some (.int .i64 0) := (blk_cell BK102.out 1).trans rfl
                have hcz14_2 : w7.cell? ⟨gb102, 2, none⟩ = some (.string (⟨#[]⟩ : ByteArray)) := (blk_cell BK102.out 2).trans rfl
                have hcz14_3 : w7.cell? ⟨gb102, 3, none⟩ = some (.int .i64 0) := (blk_cell BK102.out 3).trans rfl
                have hfz14_0 := blk_frozen BK102.out 0
                have hfz14_1 := blk_frozen BK102.out 1
                have hfz14_2 := blk_frozen BK102.out 2
                have hfz14_3 := blk_frozen BK102.out 3
                go_wp2_with (first | ((with_reducible refine gate_callee (f := 38) rfl ?_); refine goesL_ (some 16) rfl rfl Try.func38 (by kernel_rfl) rfl #[.string ((rd_T45 l0 x10_1).f2)] rfl (by (try simp only [List.map_toArray, List.map_cons, List.map_nil]); first | done | rfl | (simp only [List.length_drop, List.length_take]; rfl)) ?_; (with_reducible refine (objf_isName.calls ((rd_T45 l0 x10_1).f2) false _ A9.out).mono ?_); rintro e w' ⟨rfl, ⟨nd, rfl⟩⟩; refine ⟨_, rfl, ?_⟩))
                go_meet
                case rel => exact ⟨_, (true), (by first | rfl | (simp; done) | (simp [*]; done)), H', ⟨by have := HK1.out; first | omega | exact Nat.le_refl _⟩, ⟨by (with_reducible repeat (first | refine blk_drewN ?_ _ | refine blk_drew ?_ | refine blk_alloc ?_ _)); refine blk_put (cs := #[.int .i64 ((rd_T45 l0 x10_1).f0), .int .i64 ((rd_T45 l0 x10_1).f1), .string ((rd_T45 l0 x10_1).f2), .int .i64 0]) ?_ 3 _ rfl; (with_reducible repeat (first | refine blk_drewN ?_ _ | refine blk_drew ?_ | refine blk_alloc ?_ _)); refine blk_put (cs := #[.int .i64 ((rd_T45 l0 x10_1).f0), .int .i64 ((rd_T45 l0 x10_1).f1), .string (⟨#[]⟩ : ByteArray), .int .i64 0]) ?_ 2 _ rfl; (with_reducible repeat (first | refine blk_drewN ?_ _ | refine blk_drew ?_ | refine blk_alloc ?_ _)); refine blk_put (cs := #[.int .i64 ((rd_T45 l0 x10_1).f0), .int .i64 0, .string (⟨#[]⟩ : ByteArray), .int .i64 0]) ?_ 1 _ rfl; (with_reducible repeat (first | refine blk_drewN ?_ _ | refine blk_drew ?_ | refine blk_alloc ?_ _)); refine blk_put (cs := #[.int .i64 0, .int .i64 0, .string (⟨#[]⟩ : ByteArray), .int .i64 0]) ?_ 0 _ rfl; (with_reducible repeat (first | refine blk_drewN ?_ _ | refine blk_drew ?_ | refine blk_alloc ?_ _)); exact BK102.out⟩, ⟨by repeat (first | (with_reducible first | exact HB.out | apply below_alloc | apply pw_below_drewN | apply below_drew1 | refine below_set ?_ GE102.out) | exact HB.out)⟩⟩
            case rest =>
              clear HC6
              try clear c1
              try clear p1
              try clear q1
              try clear hx1
              try clear p2
              try clear c3
              try clear c3b0
              try clear c4
              try clear c4b0
              try clear c5
              try clear c5b0
              try clear p6
              try clear c10
              try clear p10
              try clear q10
              try clear hx10
              try clear c11
              try clear c11b0
              try clear hcz12_0
              try clear hcz12_1
              try clear hcz12_2
              try clear hcz12_3
              try clear hcz13_0
              try clear hcz13_1
              try clear hcz13_2
              try clear hcz13_3
              try clear hcz14_0
              try clear hcz14_1
              try clear hcz14_2
              try clear hcz14_3
              try clear hcz8_0
              try clear hcz8_1
              try clear hcz8_2
              try clear hcz8_3
              try clear hfz12_0
              try clear hfz12_1
              try clear hfz12_2
              try clear hfz12_3
              try clear hfz13_0
              try clear hfz13_1
              try clear hfz13_2
              try clear hfz13_3
              try clear hfz14_0
              try clear hfz14_1
              try clear hfz14_2
              try clear hfz14_3
              try clear hfz8_0
              try clear hfz8_1
              try clear hfz8_2
              try clear hfz8_3
              try clear hx101_0
              try clear hx101_1
              try clear hx101_2
              try clear hx101_3
              try clear p101
              try clear p2
              try clear q101
              obtain ⟨kq, x30_5, rfl, HA, HJ5, BK102, HB⟩ := hcut
              cases kq with
              | zero => exact absurd HA.out (by simp [objf_relocations.j1])
              | succ kj5 =>
                have H := HA.out
                clear HA
                simp only [objf_relocations.j1] at H
                by_cases c15 : x30_5 = true
                · subst c15
                  have H1 : (some false) = some r := by rw [if_pos rfl] at H; exact H
                  clear H
                  have H := H1
                  clear H1
                  obtain rfl := Option.some.inj H
                  go_wp2
                  go_ret
                  exact ⟨by first | rfl | (simp [errW_none, errW_some] <;> rfl) | (simp [*, errW_none, errW_some] <;> rfl), by repeat (first | (with_reducible first | exact HB.out | apply below_alloc | apply pw_below_drewN | apply below_drew1 | refine below_set ?_ GE102.out) | exact HB.out)⟩
                · replace c15 := Bool.eq_false_iff.mpr c15
                  subst c15
                  have H1 : (if ((rd_T45 l0 x10_1).f1) = 1 then (if ((rd_T45 l0 x10_1).f3) = 0 then (objf_relocations.l0 kj5 l0 a1 (wrap64 (((rd_T45 l0 x10_1).f0) + 4)) l0 (l0.length : Int) (wrap64 (x10_1 + 1))) else (some false)) else (if ((rd_T45 l0 x10_1).f1) = 2 then (if ((rd_T45 l0 x10_1).f3) < (-2147483648) then (some false) else (if ((rd_T45 l0 x10_1).f3) > 2147483647 then (some false) else (objf_relocations.l0 kj5 l0 a1 (wrap64 (((rd_T45 l0 x10_1).f0) + 4)) l0 (l0.length : Int) (wrap64 (x10_1 + 1))))) else (some false))) = some r := by rw [if_neg (show ¬ (false = true) by decide)] at H; exact H
                  clear H
                  have H := H1
                  clear H1
                  by_cases c16 : ((rd_T45 l0 x10_1).f1) = 1
                  · rw [if_pos c16] at H
                    have c16b0 : (((rd_T45 l0 x10_1).f1) == 1) = true := beq_iff_eq.mpr c16
                    have c16b1 : (((rd_T45 l0 x10_1).f1) != 1) = false := bne_eq_false_iff_eq.mpr c16
                    clear c16
                    by_cases c17 : ((rd_T45 l0 x10_1).f3) = 0
                    · rw [if_pos c17] at H
                      have c17b0 : (((rd_T45 l0 x10_1).f3) == 0) = true := beq_iff_eq.mpr c17
                      have c17b1 : (((rd_T45 l0 x10_1).f3) != 0) = false := bne_eq_false_iff_eq.mpr c17
                      clear c17
                      have H' := Aside0.mk H
                      clear H
                      have hcz18_0 : wc.cell? ⟨gb102, 0, none⟩ = some (.int .i64 ((rd_T45 l0 x10_1).f0)) := (blk_cell BK102.out 0).trans rfl
                      have hcz18_1 : wc.cell? ⟨gb102, 1, none⟩ = some (.int .i64 ((rd_T45 l0 x10_1).f1)) := (blk_cell BK102.out 1).trans rfl
                      have hcz18_2 : wc.cell? ⟨gb102, 2, none⟩ = some (.string ((rd_T45 l0 x10_1).f2)) := (blk_cell BK102.out 2).trans rfl
                      have hcz18_3 : wc.cell? ⟨gb102, 3, none⟩ = some (.int .i64 ((rd_T45 l0 x10_1).f3)) := (blk_cell BK102.out 3).trans rfl
                      have hfz18_0 := blk_frozen BK102.out 0
                      have hfz18_1 := blk_frozen BK102.out 1
                      have hfz18_2 := blk_frozen BK102.out 2
                      have hfz18_3 := blk_frozen BK102.out 3
                      go_wp2
                      go_roundg kj5
                      case measure => have := HK1.out; have := HJ5.out; omega
                      case rel => exact ⟨(wrap64 (((rd_T45 l0 x10_1).f0) + 4)), (wrap64 (x10_1 + 1)), (by first | rfl | (simp; done) | (simp [*]; done)), (by first | rfl | (simp; done) | (simp [*]; done)), H', ⟨by have := HK1.out; have := HJ5.out; omega⟩, ⟨by repeat (first | (with_reducible first | exact HB.out | apply below_alloc | apply pw_below_drewN | apply below_drew1 | refine below_set ?_ GE102.out) | exact HB.out)⟩⟩
                    · rw [if_neg c17] at H
                      have c17b0 : (((rd_T45 l0 x10_1).f3) == 0) = false := beq_eq_false_iff_ne.mpr c17
                      have c17b1 : (((rd_T45 l0 x10_1).f3) != 0) = true := bne_iff_ne.mpr c17
                      obtain rfl := Option.some.inj H
                      have hcz19_0 : wc.cell? ⟨gb102, 0, none⟩ = some (.int .i64 ((rd_T45 l0 x10_1).f0)) := (blk_cell BK102.out 0).trans rfl
                      have hcz19_1 : wc.cell? ⟨gb102, 1, none⟩ = some (.int .i64 ((rd_T45 l0 x10_1).f1)) := (blk_cell BK102.out 1).trans rfl
                      have hcz19_2 : wc.cell? ⟨gb102, 2, none⟩ = some (.string ((rd_T45 l0 x10_1).f2)) := (blk_cell BK102.out 2).trans rfl
                      have hcz19_3 : wc.cell? ⟨gb102, 3, none⟩ = some (.int .i64 ((rd_T45 l0 x10_1).f3)) := (blk_cell BK102.out 3).trans rfl
                      have hfz19_0 := blk_frozen BK102.out 0
                      have hfz19_1 := blk_frozen BK102.out 1
                      have hfz19_2 := blk_frozen BK102.out 2
                      have hfz19_3 := blk_frozen BK102.out 3
                      go_wp2
                      go_ret
                      exact ⟨by first | rfl | (simp [errW_none, errW_some] <;> rfl) | (simp [*, errW_none, errW_some] <;> rfl), by repeat (first | (with_reducible first | exact HB.out | apply below_alloc | apply pw_below_drewN | apply below_drew1 | refine below_set ?_ GE102.out) | exact HB.out)⟩
                  · rw [if_neg c16] at H
                    have c16b0 : (((rd_T45 l0 x10_1).f1) == 1) = false := beq_eq_false_iff_ne.mpr c16
                    have c16b1 : (((rd_T45 l0 x10_1).f1) != 1) = true := bne_iff_ne.mpr c16
                    by_cases c20 : ((rd_T45 l0 x10_1).f1) = 2
                    · rw [if_pos c20] at H
                      have c20b0 : (((rd_T45 l0 x10_1).f1) == 2) = true := beq_iff_eq.mpr c20
                      have c20b1 : (((rd_T45 l0 x10_1).f1) != 2) = false := bne_eq_false_iff_eq.mpr c20
                      clear c20
                      by_cases c21 : ((rd_T45 l0 x10_1).f3) < (-2147483648)
                      · rw [if_pos c21] at H
                        have c21b0 : decide (((rd_T45 l0 x10_1).f3) < (-2147483648)) = true := decide_eq_true c21
                        clear c21
                        obtain rfl := Option.some.inj H
                        have hcz22_0 : wc.cell? ⟨gb102, 0, none⟩ = some (.int .i64 ((rd_T45 l0 x10_1).f0)) := (blk_cell BK102.out 0).trans rfl
                        have hcz22_1 : wc.cell? ⟨gb102, 1, none⟩ = some (.int .i64 ((rd_T45 l0 x10_1).f1)) := (blk_cell BK102.out 1).trans rfl
                        have hcz22_2 : wc.cell? ⟨gb102, 2, none⟩ = some (.string ((rd_T45 l0 x10_1).f2)) := (blk_cell BK102.out 2).trans rfl
                        have hcz22_3 : wc.cell? ⟨gb102, 3, none⟩ = some (.int .i64 ((rd_T45 l0 x10_1).f3)) := (blk_cell BK102.out 3).trans rfl
                        have hfz22_0 := blk_frozen BK102.out 0
                        have hfz22_1 := blk_frozen BK102.out 1
                        have hfz22_2 := blk_frozen BK102.out 2
                        have hfz22_3 := blk_frozen BK102.out 3
                        go_wp2
                        go_ret
                        exact ⟨by first | rfl | (simp [errW_none, errW_some] <;> rfl) | (simp [*, errW_none, errW_some] <;> rfl), by repeat (first | (with_reducible first | exact HB.out | apply below_alloc | apply pw_below_drewN | apply below_drew1 | refine below_set ?_ GE102.out) | exact HB.out)⟩
                      · rw [if_neg c21] at H
                        have c21b0 : decide (((rd_T45 l0 x10_1).f3) < (-2147483648)) = false := decide_eq_false c21
                        clear c21
                        by_cases c23 : ((rd_T45 l0 x10_1).f3) > 2147483647
                        · rw [if_pos c23] at H
                          have c23b0 : decide (2147483647 < ((rd_T45 l0 x10_1).f3)) = true := decide_eq_true c23
                          clear c23
                          obtain rfl := Option.some.inj H
                          have hcz24_0 : wc.cell? ⟨gb102, 0, none⟩ = some (.int .i64 ((rd_T45 l0 x10_1).f0)) := (blk_cell BK102.out 0).trans rfl
                          have hcz24_1 : wc.cell? ⟨gb102, 1, none⟩ = some (.int .i64 ((rd_T45 l0 x10_1).f1)) := (blk_cell BK102.out 1).trans rfl
                          have hcz24_2 : wc.cell? ⟨gb102, 2, none⟩ = some (.string ((rd_T45 l0 x10_1).f2)) := (blk_cell BK102.out 2).trans rfl
                          have hcz24_3 : wc.cell? ⟨gb102, 3, none⟩ = some (.int .i64 ((rd_T45 l0 x10_1).f3)) := (blk_cell BK102.out 3).trans rfl
                          have hfz24_0 := blk_frozen BK102.out 0
                          have hfz24_1 := blk_frozen BK102.out 1
                          have hfz24_2 := blk_frozen BK102.out 2
                          have hfz24_3 := blk_frozen BK102.out 3
                          go_wp2
                          go_ret
                          exact ⟨by first | rfl | (simp [errW_none, errW_some] <;> rfl) | (simp [*, errW_none, errW_some] <;> rfl), by repeat (first | (with_reducible first | exact HB.out | apply below_alloc | apply pw_below_drewN | apply below_drew1 | refine below_set ?_ GE102.out) | exact HB.out)⟩
                        · rw [if_neg c23] at H
                          have c23b0 : decide (2147483647 < ((rd_T45 l0 x10_1).f3)) = false := decide_eq_false c23
                          clear c23
                          have H' := Aside0.mk H
                          clear H
                          have hcz25_0 : wc.cell? ⟨gb102, 0, none⟩ = some (.int .i64 ((rd_T45 l0 x10_1).f0)) := (blk_cell BK102.out 0).trans rfl
                          have hcz25_1 : wc.cell? ⟨gb102, 1, none⟩ = some (.int .i64 ((rd_T45 l0 x10_1).f1)) := (blk_cell BK102.out 1).trans rfl
                          have hcz25_2 : wc.cell? ⟨gb102, 2, none⟩ = some (.string ((rd_T45 l0 x10_1).f2)) := (blk_cell BK102.out 2).trans rfl
                          have hcz25_3 : wc.cell? ⟨gb102, 3, none⟩ = some (.int .i64 ((rd_T45 l0 x10_1).f3)) := (blk_cell BK102.out 3).trans rfl
                          have hfz25_0 := blk_frozen BK102.out 0
                          have hfz25_1 := blk_frozen BK102.out 1
                          have hfz25_2 := blk_frozen BK102.out 2
                          have hfz25_3 := blk_frozen BK102.out 3
                          go_wp2
                          go_roundg kj5
                          case measure => have := HK1.out; have := HJ5.out; omega
                          case rel => exact ⟨(wrap64 (((rd_T45 l0 x10_1).f0) + 4)), (wrap64 (x10_1 + 1)), (by first | rfl | (simp; done) | (simp [*]; done)), (by first | rfl | (simp; done) | (simp [*]; done)), H', ⟨by have := HK1.out; have := HJ5.out; omega⟩, ⟨by repeat (first | (with_reducible first | exact HB.out | apply below_alloc | apply pw_below_drewN | apply below_drew1 | refine below_set ?_ GE102.out) | exact HB.out)⟩⟩
                    · rw [if_neg c20] at H
                      have c20b0 : (((rd_T45 l0 x10_1).f1) == 2) = false := beq_eq_false_iff_ne.mpr c20
                      have c20b1 : (((rd_T45 l0 x10_1).f1) != 2) = true := bne_iff_ne.mpr c20
                      obtain rfl := Option.some.inj H
                      have hcz26_0 : wc.cell? ⟨gb102, 0, none⟩ = some (.int .i64 ((rd_T45 l0 x10_1).f0)) := (blk_cell BK102.out 0).trans rfl
                      have hcz26_1 : wc.cell? ⟨gb102, 1, none⟩ = some (.int .i64 ((rd_T45 l0 x10_1).f1)) := (blk_cell BK102.out 1).trans rfl
                      have hcz26_2 : wc.cell? ⟨gb102, 2, none⟩ = some (.string ((rd_T45 l0 x10_1).f2)) := (blk_cell BK102.out 2).trans rfl
                      have hcz26_3 : wc.cell? ⟨gb102, 3, none⟩ = some (.int .i64 ((rd_T45 l0 x10_1).f3)) := (blk_cell BK102.out 3).trans rfl
                      have hfz26_0 := blk_frozen BK102.out 0
                      have hfz26_1 := blk_frozen BK102.out 1
                      have hfz26_2 := blk_frozen BK102.out 2
                      have hfz26_3 := blk_frozen BK102.out 3
                      go_wp2
                      go_ret
                      exact ⟨by first | rfl | (simp [errW_none, errW_some] <;> rfl) | (simp [*, errW_none, errW_some] <;> rfl), by repeat (first | (with_reducible first | exact HB.out | apply below_alloc | apply pw_below_drewN | apply below_drew1 | refine below_set ?_ GE102.out) | exact HB.out)⟩
          · rw [if_neg c5] at H
            exact absurd H (by simp)
        · rw [if_neg c4] at H
          exact absurd H (by simp)
      · rw [if_neg c3] at H
        have c3b0 : decide (x10_1 < (l0.length : Int)) = false := decide_eq_false c3
        clear c3
        obtain rfl := Option.some.inj H
        go_wp2
        go_ret
        exact ⟨by first | rfl | (simp [errW_none, errW_some] <;> rfl) | (simp [*, errW_none, errW_some] <;> rfl), by repeat (first | (with_reducible first | exact HB.out | apply below_alloc | apply pw_below_drewN | apply below_drew1) | exact HB.out)⟩

/-! ### objf_Check: function 20 -/
def objf_Check.f (k : Nat) (a0_0 : ByteArray) (l0_1 : List Int) (l0_2 : List (S36)) (l0_3 : List (S45)) : Option (Int) := if (a0_0.size : Int) > 65536 then (some 1) else (if (l0_1.length : Int) > 4096 then (some 1) else ((objf_symbols.f l0_2 (a0_0.size : Int) (l0_1.length : Int)).bind fun t105 => (if t105 = true then ((objf_relocations.f k l0_3 (a0_0.size : Int)).bind fun t106 => (if t106 = true then (some 0) else (some 1))) else (some 1))))
set_option maxHeartbeats 8000000 in
set_option maxRecDepth 100000 in
theorem objf_Check.calls (k : Nat) (a0_0 : ByteArray) (A0_1 : Option Addr) (c0_1 : Nat) (l0_1 : List Int) (A0_2 : Option Addr) (c0_2 : Nat) (l0_2 : List (S36)) (A0_3 : Option Addr) (c0_3 : Nat) (l0_3 : List (S45)) (r : Int) (w : World) (hr0_1 : Kd.C (Kd.int .i64) w A0_1 l0_1.length l0_1) (hc0_1 : l0_1.length ≤ c0_1) (hr0_2 : Kd.C k36 w A0_2 l0_2.length l0_2) (hc0_2 : l0_2.length ≤ c0_2) (hr0_3 : Kd.C k45 w A0_3 l0_3.length l0_3) (hc0_3 : l0_3.length ≤ c0_3) (h : objf_Check.f k a0_0 l0_1 l0_2 l0_3 = some r) :
    Calls Try.prog 20 #[.agg #[.string a0_0, .slice A0_1 l0_1.length c0_1, .slice A0_2 l0_2.length c0_2, .slice A0_3 l0_3.length c0_3]] w fun e w' => e = .returned (.int .i64 r) ∧ Below w.heap.size w w' := by
  have hu40 := Try.underlying40
  have HR0_1 := Aside0.mk hr0_1
  have HC0_1 := Aside0.mk hc0_1
  clear hr0_1 hc0_1
  have HR0_2 := Aside0.mk hr0_2
  have HC0_2 := Aside0.mk hc0_2
  clear hr0_2 hc0_2
  have HR0_3 := Aside0.mk hr0_3
  have HC0_3 := Aside0.mk hc0_3
  clear hr0_3 hc0_3
  have HB := Aside0.mk (Below.refl w.heap.size w)
  have H : (if (a0_0.size : Int) > 65536 then (some 1) else (if (l0_1.length : Int) > 4096 then (some 1) else ((objf_symbols.f l0_2 (a0_0.size : Int) (l0_1.length : Int)).bind fun t105 => (if t105 = true then ((objf_relocations.f k l0_3 (a0_0.size : Int)).bind fun t106 => (if t106 = true then (some 0) else (some 1))) else (some 1))))) = some r := h
  clear h
  by_cases c2 : (a0_0.size : Int) > 65536
  · rw [if_pos c2] at H
    have c2b0 : decide (65536 < (a0_0.size : Int)) = true := decide_eq_true c2
    have c2b1 : decide (65536 < a0_0.size) = true := decide_eq_true (by omega)
    clear c2
    obtain rfl := Option.some.inj H
    go_enter Try.func20, Try.ntmps20
    go_wp2_with (first | ((with_reducible refine gate_dst (N := 1) rfl ?_); (try (refine gate_guard (by rfl) ?_; dsimp only)); refine box_event ?hg (N := 1) ?hd (cs := #[.string a0_0, .slice A0_1 l0_1.length c0_1, .slice A0_2 l0_2.length c0_2, .slice A0_3 l0_3.length c0_3]) (t := 40) ?hr ?_; (case hd => rfl); (case hg => rfl); (case hr => first | (go_simp; done) | (go_simp; rfl)); intro gb104 hg w3 hbox hb; have n0_ := Aside0.mk (below_step (by repeat (first | (with_reducible first | exact HB.out | apply below_alloc | apply pw_below_drewN | apply below_drew1) | exact HB.out)) hb); have n1_ := Aside0.mk (hbox); have n2_ := Aside0.mk ((by rw [hg]; exact (below_size (by repeat (first | (with_reducible first | exact HB.out | apply below_alloc | apply pw_below_drewN | apply below_drew1) | exact HB.out))) : w.heap.size ≤ gb104)); have n3_ := Aside0.mk ((by rw [hg]; exact (below_size (by repeat (first | (with_reducible first | exact HB.out | apply below_alloc | apply pw_below_drewN | apply below_drew1) | exact HB.out))) : w.heap.size ≤ gb104)); clear HB; have HB := n0_; have BK104 := n1_; have GW104 := n2_; have GE104 := n3_; clear n0_ n1_ n2_ n3_; clear hb hbox hg; have hcz4_0 : w3.cell? ⟨gb104, 0, none⟩ = some (.string a0_0) := (blk_cell BK104.out 0).trans rfl; have hcz4_1 : w3.cell? ⟨gb104, 1, none⟩ = some (.slice A0_1 l0_1.length c0_1) := (blk_cell BK104.out 1).trans rfl; have hcz4_2 : w3.cell? ⟨gb104, 2, none⟩ = some (.slice A0_2 l0_2.length c0_2) := (blk_cell BK104.out 2).trans rfl; have hcz4_3 : w3.cell? ⟨gb104, 3, none⟩ = some (.slice A0_3 l0_3.length c0_3) := (blk_cell BK104.out 3).trans rfl; have hfz4_0 := blk_frozen BK104.out 0; have hfz4_1 := blk_frozen BK104.out 1; have hfz4_2 := blk_frozen BK104.out 2; have hfz4_3 := blk_frozen BK104.out 3))
    go_ret
    exact ⟨by first | rfl | (simp [errW_none, errW_some] <;> rfl) | (simp [*, errW_none, errW_some] <;> rfl), by repeat (first | (with_reducible first | exact HB.out | apply below_alloc | apply pw_below_drewN | apply below_drew1 | refine below_set ?_ GE104.out) | exact HB.out)⟩
  · rw [if_neg c2] at H
    have c2b0 : decide (65536 < (a0_0.size : Int)) = false := decide_eq_false c2
    have c2b1 : decide (65536 < a0_0.size) = false := decide_eq_false (by omega)
    clear c2
    by_cases c5 : (l0_1.length : Int) > 4096
    · rw [if_pos c5] at H
      have c5b0 : decide (4096 < (l0_1.length : Int)) = true := decide_eq_true c5
      have c5b1 : decide (4096 < l0_1.length) = true := decide_eq_true (by omega)
      clear c5
      obtain rfl := Option.some.inj H
      go_enter Try.func20, Try.ntmps20
      go_wp2_with (first | ((with_reducible refine gate_dst (N := 1) rfl ?_); (try (refine gate_guard (by rfl) ?_; dsimp only)); refine box_event ?hg (N := 1) ?hd (cs := #[.string a0_0, .slice A0_1 l0_1.length c0_1, .slice A0_2 l0_2.length c0_2, .slice A0_3 l0_3.length c0_3]) (t := 40) ?hr ?_; (case hd => rfl); (case hg => rfl); (case hr => first | (go_simp; done) | (go_simp; rfl)); intro gb104 hg w6 hbox hb; have n0_ := Aside0.mk (below_step (by repeat (first | (with_reducible first | exact HB.out | apply below_alloc | apply pw_below_drewN | apply below_drew1) | exact HB.out)) hb); have n1_ := Aside0.mk (hbox); have n2_ := Aside0.mk ((by rw [hg]; exact (below_size (by repeat (first | (with_reducible first | exact HB.out | apply below_alloc | apply pw_below_drewN | apply below_drew1) | exact HB.out))) : w.heap.size ≤ gb104)); have n3_ := Aside0.mk ((by rw [hg]; exact (below_size (by repeat (first | (with_reducible first | exact HB.out | apply below_alloc | apply pw_below_drewN | apply below_drew1) | exact HB.out))) : w.heap.size ≤ gb104)); clear HB; have HB := n0_; have BK104 := n1_; have GW104 := n2_; have GE104 := n3_; clear n0_ n1_ n2_ n3_; clear hb hbox hg; have hcz7_0 : w6.cell? ⟨gb104, 0, none⟩ = some (.string a0_0) := (blk_cell BK104.out 0).trans rfl; have hcz7_1 : w6.cell? ⟨gb104, 1, none⟩ = some (.slice A0_1 l0_1.length c0_1) := (blk_cell BK104.out 1).trans rfl; have hcz7_2 : w6.cell? ⟨gb104, 2, none⟩ = some (.slice A0_2 l0_2.length c0_2) := (blk_cell BK104.out 2).trans rfl; have hcz7_3 : w6.cell? ⟨gb104, 3, none⟩ = some (.slice A0_3 l0_3.length c0_3) := (blk_cell BK104.out 3).trans rfl; have hfz7_0 := blk_frozen BK104.out 0; have hfz7_1 := blk_frozen BK104.out 1; have hfz7_2 := blk_frozen BK104.out 2; have hfz7_3 := blk_frozen BK104.out 3))
      go_ret
      exact ⟨by first | rfl | (simp [errW_none, errW_some] <;> rfl) | (simp [*, errW_none, errW_some] <;> rfl), by repeat (first | (with_reducible first | exact HB.out | apply below_alloc | apply pw_below_drewN | apply below_drew1 | refine below_set ?_ GE104.out) | exact HB.out)⟩
    · rw [if_neg c5] at H
      have c5b0 : decide (4096 < (l0_1.length : Int)) = false := decide_eq_false c5
      have c5b1 : decide (4096 < l0_1.length) = false := decide_eq_false (by omega)
      clear c5
      replace H := Option.bind_eq_some_iff.mp H
      obtain ⟨t105, A80, H⟩ := H
      replace H : (if t105 = true then ((objf_relocations.f k l0_3 (a0_0.size : Int)).bind fun t106 => (if t106 = true then (some 0) else (some 1))) else (some 1)) = some r := H
      have A8 := Aside0.mk A80
      clear A80
      by_cases c9 : t105 = true
      · subst c9
        have H1 : ((objf_relocations.f k l0_3 (a0_0.size : Int)).bind fun t106 => (if t106 = true then (some 0) else (some 1))) = some r := by rw [if_pos rfl] at H; exact H
        clear H
        have H := H1
        clear H1
        replace H := Option.bind_eq_some_iff.mp H
        obtain ⟨t106, A100, H⟩ := H
        replace H : (if t106 = true then (some 0) else (some 1)) = some r := H
        have A10 := Aside0.mk A100
        clear A100
        by_cases c11 : t106 = true
        · subst c11
          have H1 : (some 0) = some r := by rw [if_pos rfl] at H; exact H
          clear H
          have H := H1
          clear H1
          obtain rfl := Option.some.inj H
          go_enter Try.func20, Try.ntmps20
          go_wp2_with (first | ((with_reducible refine gate_dst (N := 1) rfl ?_); (try (refine gate_guard (by rfl) ?_; dsimp only)); refine box_event ?hg (N := 1) ?hd (cs := #[.string a0_0, .slice A0_1 l0_1.length c0_1, .slice A0_2 l0_2.length c0_2, .slice A0_3 l0_3.length c0_3]) (t := 40) ?hr ?_; (case hd => rfl); (case hg => rfl); (case hr => first | (go_simp; done) | (go_simp; rfl)); intro gb104 hg w12 hbox hb; have n0_ := Aside0.mk (below_step (by repeat (first | (with_reducible first | exact HB.out | apply below_alloc | apply pw_below_drewN | apply below_drew1) | exact HB.out)) hb); have n1_ := Aside0.mk (hbox); have n2_ := Aside0.mk ((by rw [hg]; exact (below_size (by repeat (first | (with_reducible first | exact HB.out | apply below_alloc | apply pw_below_drewN | apply below_drew1) | exact HB.out))) : w.heap.size ≤ gb104)); have n3_ := Aside0.mk ((by rw [hg]; exact (below_size (by repeat (first | (with_reducible first | exact HB.out | apply below_alloc | apply pw_below_drewN | apply below_drew1) | exact HB.out))) : w.heap.size ≤ gb104)); clear HB; have HB := n0_; have BK104 := n1_; have GW104 := n2_; have GE104 := n3_; clear n0_ n1_ n2_ n3_; clear hb hbox hg; have hcz13_0 : w12.cell? ⟨gb104, 0, none⟩ = some (.string a0_0) := (blk_cell BK104.out 0).trans rfl; have hcz13_1 : w12.cell? ⟨gb104, 1, none⟩ = some (.slice A0_1 l0_1.length c0_1) := (blk_cell BK104.out 1).trans rfl; have hcz13_2 : w12.cell? ⟨gb104, 2, none⟩ = some (.slice A0_2 l0_2.length c0_2) := (blk_cell BK104.out 2).trans rfl; have hcz13_3 : w12.cell? ⟨gb104, 3, none⟩ = some (.slice A0_3 l0_3.length c0_3) := (blk_cell BK104.out 3).trans rfl; have hfz13_0 := blk_frozen BK104.out 0; have hfz13_1 := blk_frozen BK104.out 1; have hfz13_2 := blk_frozen BK104.out 2; have hfz13_3 := blk_frozen BK104.out 3) | (go_at_call 33; (with_reducible refine (objf_symbols.calls _ _ l0_2 (a0_0.size : Int) (l0_1.length : Int) true _ ?side1 ?side2 A8.out).mono ?_); (case side1 => repeat (first | exact (Kd.C_below HR0_2.out HB.out) | (with_reducible refine Kd.C_alloc ?_ _) | (with_reducible refine Kd.C_drewN ?_ _) | (with_reducible refine Kd.C_drew ?_))); (case side2 => exact HC0_2.out); rintro e w14 ⟨rfl, hb⟩; have n0_ := Aside0.mk (blk_below (g := gb104) (o := .cells #[.string a0_0, .slice A0_1 l0_1.length c0_1, .slice A0_2 l0_2.length c0_2, .slice A0_3 l0_3.length c0_3] 40 (0, 0)) (by (with_reducible repeat (first | refine blk_drewN ?_ _ | refine blk_drew ?_ | refine blk_alloc ?_ _)); exact BK104.out) hb); have n1_ := Aside0.mk (below_step (by repeat (first | (with_reducible first | exact HB.out | apply below_alloc | apply pw_below_drewN | apply below_drew1 | refine below_set ?_ GE104.out) | exact HB.out)) hb); clear BK104; clear HB; have BK104 := n0_; have HB := n1_; clear n0_ n1_; (try clear hb); (try clear hb2); (try clear hk); (try clear hi); have hcz15_0 : w14.cell? ⟨gb104, 0, none⟩ = some (.string a0_0) := (blk_cell BK104.out 0).trans rfl; have hcz15_1 : w14.cell? ⟨gb104, 1, none⟩ = some (.slice A0_1 l0_1.length c0_1) := (blk_cell BK104.out 1).trans rfl; have hcz15_2 : w14.cell? ⟨gb104, 2, none⟩ = some (.slice A0_2 l0_2.length c0_2) := (blk_cell BK104.out 2).trans rfl; have hcz15_3 : w14.cell? ⟨gb104, 3, none⟩ = some (.slice A0_3 l0_3.length c0_3) := (blk_cell BK104.out 3).trans rfl; have hfz15_0 := blk_frozen BK104.out 0; have hfz15_1 := blk_frozen BK104.out 1; have hfz15_2 := blk_frozen BK104.out 2; have hfz15_3 := blk_frozen BK104.out 3) | (go_at_call 34; (with_reducible refine (objf_relocations.calls k _ _ l0_3 (a0_0.size : Int) true _ ?side1 ?side2 A10.out).mono ?_); (case side1 => repeat (first | exact (Kd.C_below HR0_3.out HB.out) | (with_reducible refine Kd.C_alloc ?_ _) | (with_reducible refine Kd.C_drewN ?_ _) | (with_reducible refine Kd.C_drew ?_))); (case side2 => exact HC0_3.out); rintro e w16 ⟨rfl, hb⟩; have n0_ := Aside0.mk (blk_below (g := gb104) (o := .cells #[.string a0_0, .slice A0_1 l0_1.length c0_1, .slice A0_2 l0_2.length c0_2, .slice A0_3 l0_3.length c0_3] 40 (0, 0)) (by (with_reducible repeat (first | refine blk_drewN ?_ _ | refine blk_drew ?_ | refine blk_alloc ?_ _)); exact BK104.out) hb); have n1_ := Aside0.mk (below_step (by repeat (first | (with_reducible first | exact HB.out | apply below_alloc | apply pw_below_drewN | apply below_drew1 | refine below_set ?_ GE104.out) | exact HB.out)) hb); clear BK104; clear HB; have BK104 := n0_; have HB := n1_; clear n0_ n1_; (try clear hb); (try clear hb2); (try clear hk); (try clear hi)))
          go_ret
          exact ⟨by first | rfl | (simp [errW_none, errW_some] <;> rfl) | (simp [*, errW_none, errW_some] <;> rfl), by repeat (first | (with_reducible first | exact HB.out | apply below_alloc | apply pw_below_drewN | apply below_drew1 | refine below_set ?_ GE104.out) | exact HB.out)⟩
        · replace c11 := Bool.eq_false_iff.mpr c11
          subst c11
          have H1 : (some 1) = some r := by rw [if_neg (show ¬ (false = true) by decide)] at H; exact H
          clear H
          have H := H1
          clear H1
          obtain rfl := Option.some.inj H
          go_enter Try.func20, Try.ntmps20
          go_wp2_with (first | ((with_reducible refine gate_dst (N := 1) rfl ?_); (try (refine gate_guard (by rfl) ?_; dsimp only)); refine box_event ?hg (N := 1) ?hd (cs := #[.string a0_0, .slice A0_1 l0_1.length c0_1, .slice A0_2 l0_2.length c0_2, .slice A0_3 l0_3.length c0_3]) (t := 40) ?hr ?_; (case hd => rfl); (case hg => rfl); (case hr => first | (go_simp; done) | (go_simp; rfl)); intro gb104 hg w17 hbox hb; have n0_ := Aside0.mk (below_step (by repeat (first | (with_reducible first | exact HB.out | apply below_alloc | apply pw_below_drewN | apply below_drew1) | exact HB.out)) hb); have n1_ := Aside0.mk (hbox); have n2_ := Aside0.mk ((by rw [hg]; exact (below_size (by repeat (first | (with_reducible first | exact HB.out | apply below_alloc | apply pw_below_drewN | apply below_drew1) | exact HB.out))) : w.heap.size ≤ gb104)); have n3_ := Aside0.mk ((by rw [hg]; exact (below_size (by repeat (first | (with_reducible first | exact HB.out | apply below_alloc | apply pw_below_drewN | apply below_drew1) | exact HB.out))) : w.heap.size ≤ gb104)); clear HB; have HB := n0_; have BK104 := n1_; have GW104 := n2_; have GE104 := n3_; clear n0_ n1_ n2_ n3_; clear hb hbox hg; have hcz18_0 : w17.cell? ⟨gb104, 0, none⟩ = some (.string a0_0) := (blk_cell BK104.out 0).trans rfl; have hcz18_1 : w17.cell? ⟨gb104, 1, none⟩ = some (.slice A0_1 l0_1.length c0_1) := (blk_cell BK104.out 1).trans rfl; have hcz18_2 : w17.cell? ⟨gb104, 2, none⟩ = some (.slice A0_2 l0_2.length c0_2) := (blk_cell BK104.out 2).trans rfl; have hcz18_3 : w17.cell? ⟨gb104, 3, none⟩ = some (.slice A0_3 l0_3.length c0_3) := (blk_cell BK104.out 3).trans rfl; have hfz18_0 := blk_frozen BK104.out 0; have hfz18_1 := blk_frozen BK104.out 1; have hfz18_2 := blk_frozen BK104.out 2; have hfz18_3 := blk_frozen BK104.out 3) | (go_at_call 33; (with_reducible refine (objf_symbols.calls _ _ l0_2 (a0_0.size : Int) (l0_1.length : Int) true _ ?side1 ?side2 A8.out).mono ?_); (case side1 => repeat (first | exact (Kd.C_below HR0_2.out HB.out) | (with_reducible refine Kd.C_alloc ?_ _) | (with_reducible refine Kd.C_drewN ?_ _) | (with_reducible refine Kd.C_drew ?_))); (case side2 => exact HC0_2.out); rintro e w19 ⟨rfl, hb⟩; have n0_ := Aside0.mk (blk_below (g := gb104) (o := .cells #[.string a0_0, .slice A0_1 l0_1.length c0_1, .slice A0_2 l0_2.length c0_2, .slice A0_3 l0_3.length c0_3] 40 (0, 0)) (by (with_reducible repeat (first | refine blk_drewN ?_ _ | refine blk_drew ?_ | refine blk_alloc ?_ _)); exact BK104.out) hb); have n1_ := Aside0.mk (below_step (by repeat (first | (with_reducible first | exact HB.out | apply below_alloc | apply pw_below_drewN | apply below_drew1 | refine below_set ?_ GE104.out) | exact HB.out)) hb); clear BK104; clear HB; have BK104 := n0_; have HB := n1_; clear n0_ n1_; (try clear hb); (try clear hb2); (try clear hk); (try clear hi); have hcz20_0 : w19.cell? ⟨gb104, 0, none⟩ = some (.string a0_0) := (blk_cell BK104.out 0).trans rfl; have hcz20_1 : w19.cell? ⟨gb104, 1, none⟩ = some (.slice A0_1 l0_1.length c0_1) := (blk_cell BK104.out 1).trans rfl; have hcz20_2 : w19.cell? ⟨gb104, 2, none⟩ = some (.slice A0_2 l0_2.length c0_2) := (blk_cell BK104.out 2).trans rfl; have hcz20_3 : w19.cell? ⟨gb104, 3, none⟩ = some (.slice A0_3 l0_3.length c0_3) := (blk_cell BK104.out 3).trans rfl; have hfz20_0 := blk_frozen BK104.out 0; have hfz20_1 := blk_frozen BK104.out 1; have hfz20_2 := blk_frozen BK104.out 2; have hfz20_3 := blk_frozen BK104.out 3) | (go_at_call 34; (with_reducible refine (objf_relocations.calls k _ _ l0_3 (a0_0.size : Int) false _ ?side1 ?side2 A10.out).mono ?_); (case side1 => repeat (first | exact (Kd.C_below HR0_3.out HB.out) | (with_reducible refine Kd.C_alloc ?_ _) | (with_reducible refine Kd.C_drewN ?_ _) | (with_reducible refine Kd.C_drew ?_))); (case side2 => exact HC0_3.out); rintro e w21 ⟨rfl, hb⟩; have n0_ := Aside0.mk (blk_below (g := gb104) (o := .cells #[.string a0_0, .slice A0_1 l0_1.length c0_1, .slice A0_2 l0_2.length c0_2, .slice A0_3 l0_3.length c0_3] 40 (0, 0)) (by (with_reducible repeat (first | refine blk_drewN ?_ _ | refine blk_drew ?_ | refine blk_alloc ?_ _)); exact BK104.out) hb); have n1_ := Aside0.mk (below_step (by repeat (first | (with_reducible first | exact HB.out | apply below_alloc | apply pw_below_drewN | apply below_drew1 | refine below_set ?_ GE104.out) | exact HB.out)) hb); clear BK104; clear HB; have BK104 := n0_; have HB := n1_; clear n0_ n1_; (try clear hb); (try clear hb2); (try clear hk); (try clear hi)))
          go_ret
          exact ⟨by first | rfl | (simp [errW_none, errW_some] <;> rfl) | (simp [*, errW_none, errW_some] <;> rfl), by repeat (first | (with_reducible first | exact HB.out | apply below_alloc | apply pw_below_drewN | apply below_drew1 | refine below_set ?_ GE104.out) | exact HB.out)⟩
      · replace c9 := Bool.eq_false_iff.mpr c9
        subst c9
        have H1 : (some 1) = some r := by rw [if_neg (show ¬ (false = true) by decide)] at H; exact H
        clear H
        have H := H1
        clear H1
        obtain rfl := Option.some.inj H
        go_enter Try.func20, Try.ntmps20
        go_wp2_with (first | ((with_reducible refine gate_dst (N := 1) rfl ?_); (try (refine gate_guard (by rfl) ?_; dsimp only)); refine box_event ?hg (N := 1) ?hd (cs := #[.string a0_0, .slice A0_1 l0_1.length c0_1, .slice A0_2 l0_2.length c0_2, .slice A0_3 l0_3.length c0_3]) (t := 40) ?hr ?_; (case hd => rfl); (case hg => rfl); (case hr => first | (go_simp; done) | (go_simp; rfl)); intro gb104 hg w22 hbox hb; have n0_ := Aside0.mk (below_step (by repeat (first | (with_reducible first | exact HB.out | apply below_alloc | apply pw_below_drewN | apply below_drew1) | exact HB.out)) hb); have n1_ := Aside0.mk (hbox); have n2_ := Aside0.mk ((by rw [hg]; exact (below_size (by repeat (first | (with_reducible first | exact HB.out | apply below_alloc | apply pw_below_drewN | apply below_drew1) | exact HB.out))) : w.heap.size ≤ gb104)); have n3_ := Aside0.mk ((by rw [hg]; exact (below_size (by repeat (first | (with_reducible first | exact HB.out | apply below_alloc | apply pw_below_drewN | apply below_drew1) | exact HB.out))) : w.heap.size ≤ gb104)); clear HB; have HB := n0_; have BK104 := n1_; have GW104 := n2_; have GE104 := n3_; clear n0_ n1_ n2_ n3_; clear hb hbox hg; have hcz23_0 : w22.cell? ⟨gb104, 0, none⟩ = some (.string a0_0) := (blk_cell BK104.out 0).trans rfl; have hcz23_1 : w22.cell? ⟨gb104, 1, none⟩ = some (.slice A0_1 l0_1.length c0_1) := (blk_cell BK104.out 1).trans rfl; have hcz23_2 : w22.cell? ⟨gb104, 2, none⟩ = some (.slice A0_2 l0_2.length c0_2) := (blk_cell BK104.out 2).trans rfl; have hcz23_3 : w22.cell? ⟨gb104, 3, none⟩ = some (.slice A0_3 l0_3.length c0_3) := (blk_cell BK104.out 3).trans rfl; have hfz23_0 := blk_frozen BK104.out 0; have hfz23_1 := blk_frozen BK104.out 1; have hfz23_2 := blk_frozen BK104.out 2; have hfz23_3 := blk_frozen BK104.out 3) | (go_at_call 33; (with_reducible refine (objf_symbols.calls _ _ l0_2 (a0_0.size : Int) (l0_1.length : Int) false _ ?side1 ?side2 A8.out).mono ?_); (case side1 => repeat (first | exact (Kd.C_below HR0_2.out HB.out) | (with_reducible refine Kd.C_alloc ?_ _) | (with_reducible refine Kd.C_drewN ?_ _) | (with_reducible refine Kd.C_drew ?_))); (case side2 => exact HC0_2.out); rintro e w24 ⟨rfl, hb⟩; have n0_ := Aside0.mk (blk_below (g := gb104) (o := .cells #[.string a0_0, .slice A0_1 l0_1.length c0_1, .slice A0_2 l0_2.length c0_2, .slice A0_3 l0_3.length c0_3] 40 (0, 0)) (by (with_reducible repeat (first | refine blk_drewN ?_ _ | refine blk_drew ?_ | refine blk_alloc ?_ _)); exact BK104.out) hb); have n1_ := Aside0.mk (below_step (by repeat (first | (with_reducible first | exact HB.out | apply below_alloc | apply pw_below_drewN | apply below_drew1 | refine below_set ?_ GE104.out) | exact HB.out)) hb); clear BK104; clear HB; have BK104 := n0_; have HB := n1_; clear n0_ n1_; (try clear hb); (try clear hb2); (try clear hk); (try clear hi)))
        go_ret
        exact ⟨by first | rfl | (simp [errW_none, errW_some] <;> rfl) | (simp [*, errW_none, errW_some] <;> rfl), by repeat (first | (with_reducible first | exact HB.out | apply below_alloc | apply pw_below_drewN | apply below_drew1 | refine below_set ?_ GE104.out) | exact HB.out)⟩

end Go.Proofs.Yteaealmnmmcbpaa.M

/-
  Plain lemmas on Go's whole numbers (wraps, bit operations, shifts), without any program. No condition.
-/
namespace Go.Proofs.Yteaealmnmmcbpaa.Num
open Go.RowKit Go.Proofs.YteaealmnmmcbpaaW.PrintWords

theorem wf_i64 {a : Int} (h : (Lit.int .i64 a).wf = true) : -9223372036854775808 ≤ a ∧ a < 9223372036854775808 := by
  simp [Lit.wf, IntKind.min, IntKind.max, IntKind.signed, IntKind.bits] at h; omega
theorem wrap64_id {n : Int} (h : -9223372036854775808 ≤ n) (h' : n < 9223372036854775808) : wrap64 n = n := by
  unfold wrap64; omega
theorem wrap_u64 (n : Int) : IntKind.u64.wrap n = n % 18446744073709551616 := by simp [IntKind.wrap, IntKind.bits, IntKind.signed]
theorem wrap_i8 (n : Int) : IntKind.i8.wrap n = (n + 128) % 256 - 128 := by
  simp [IntKind.wrap, IntKind.bits, IntKind.signed]
  split <;> omega
theorem wrap_i64 (n : Int) : IntKind.i64.wrap n = wrap64 n := by rw [IntKind.wrap_i64]; unfold wrap64; rfl
theorem wrap_u64_id {n : Int} (h : 0 ≤ n) (h' : n < 18446744073709551616) : IntKind.u64.wrap n = n := by
  rw [wrap_u64]; omega

end Go.Proofs.Yteaealmnmmcbpaa.Num

/-
  Layer 7: a map of names to symbols, read as a list of symbols whose names are unlike. No condition.
-/
namespace Go.Proofs.Yteaealmnmmcbpaa.M
open Go.RowKit Go.Proofs.YteaealmnmmcbpaaW.PrintWords Go.Proofs.YteaealmnmmcbpaaW.PrintLast Go.Proofs.Yteaealmnmmcbpaa.Num
set_option linter.unusedVariables false
set_option linter.unusedSimpArgs false
def symV (s : S36) : Value := .agg #[.string s.f0, .int .i64 s.f1, .int .i64 s.f2]
def symT (s : S36) : SymD := .agg [.lit (.string s.f0.data.toList), .lit (.int .i64 s.f1), .lit (.int .i64 s.f2)]
/-- How a symbol in the map reads. -/
def RSym : Value → Option (SymD × List MemPlace)
  | .agg cs => match cs.toList with
    | [.string s, .int .i64 a, .int .i64 b] => some (.agg [.lit (.string s.data.toList), .lit (.int .i64 a), .lit (.int .i64 b)], [])
    | _ => none
  | _ => none
theorem RSym_sym (s : S36) : RSym (symV s) = some (symT s, []) := rfl
theorem str_data_inj {a b : ByteArray} (h : a.data.toList = b.data.toList) : a = b := ByteArray.ext (Array.toList_inj.mp h)
theorem RSym_inj {v : Value} {s : S36} {ps : List MemPlace} (h : RSym v = some (symT s, ps)) : v = symV s := by
  unfold RSym at h
  split at h
  · rename_i cs
    split at h
    · rename_i t a b hl
      simp only [symT, Option.some.injEq, Prod.mk.injEq, DataW.agg.injEq, List.cons.injEq, DataW.lit.injEq, Lit.string.injEq, Lit.int.injEq, true_and, and_true] at h
      obtain ⟨⟨h1, h2, h3⟩, _⟩ := h
      obtain rfl : cs = #[.string t, .int .i64 a, .int .i64 b] := Array.toList_inj.mp hl
      rw [str_data_inj h1, h2, h3]
      rfl
    · cases h
  · cases h
/-- The map reads as these symbols. -/
def Fnd (D : SymD) (l : List S36) : Prop := Maps.Tidy D ∧ ∀ t : ByteArray, Maps.has D (symKey t) = (l.any fun s => decide (s.f0 = t)) ∧ D.atKey (symKey t) (symT z36) = symT ((l.find? fun s => decide (s.f0 = t)).getD z36)
theorem symKey_inj {s t : ByteArray} (h : symKey s = symKey t) : s = t := by
  unfold symKey at h
  exact str_data_inj (by injection h)
theorem symKey_lit (s : ByteArray) : WideAt.IsKeyLit (symKey s) := by simp [symKey, WideAt.IsKeyLit]
theorem fnd_nil : Fnd (.map []) [] := ⟨Maps.tidy_empty, fun t => ⟨by simp [Maps.has], by rfl⟩⟩
theorem fnd_put {D : SymD} {l : List S36} {s : S36} (h : Fnd D l) (hn : (l.any fun x => decide (x.f0 = s.f0)) = false) : Fnd (D.put (symKey s.f0) (symT s)) (l ++ [s]) := by
  obtain ⟨ht, hf⟩ := h
  refine ⟨ht.put (symKey_lit _) _, fun t => ?_⟩
  obtain ⟨h1, h2⟩ := hf t
  rw [List.any_append, List.find?_append]
  by_cases e : t = s.f0
  · subst e
    rw [Maps.has_put_same ht.isMap (symKey_lit _), Maps.atKey_put_same ht.isMap (symKey_lit _)]
    have hnone : (l.find? fun x => decide (x.f0 = s.f0)) = none := by
      rw [List.find?_eq_none]
      intro x hx hx2
      have := List.any_eq_false.1 hn x hx
      exact this hx2
    rw [hnone]
    simp
  · have hne : symKey t ≠ symKey s.f0 := fun h => e (symKey_inj h)
    rw [Maps.has_put_other hne, Maps.atKey_put_other hne, h1, h2]
    have e2 : ¬ s.f0 = t := fun h => e h.symm
    simp [e2]
theorem map_zero (w : World) : (zeroValue 36).run Try.prog w = .ok (symV z36) w := by kernel_rfl
/-- A look-up, as the walk meets it. -/
theorem map_look {w : World} {b n : Nat} {D : SymD} {l : List S36} (h : w.ownsMap Try.prog 9 RSym b n D) (hf : Fnd D l) (t : ByteArray) (ht : t.size ≤ maxLen) :
    (Instr.lookup 54 (.map (some b)) (.string t) true).run Try.prog w = .ok (.tuple #[symV ((l.find? fun s => decide (s.f0 = t)).getD z36), .bool (l.any fun s => decide (s.f0 = t))]) w ∧
    (Instr.lookup 54 (.map (some b)) (.string t) false).run Try.prog w = .ok (symV ((l.find? fun s => decide (s.f0 = t)).getD z36)) w := by
  obtain ⟨h1, h2⟩ := hf.2 t
  constructor
  · obtain ⟨v, ps, hrun, hv⟩ := h.look_ok sym_law9 Try.underlying54 (map_zero w) (RSym_sym z36) (key := .string t) (kl := symKey t) (WideMaps.keyOf_string_mk Try.underlying9 ht)
    rw [h2] at hv
    rw [hrun, RSym_inj hv, h1]
  · obtain ⟨v, ps, hrun, hv⟩ := h.lookup sym_law9 Try.underlying54 (map_zero w) (RSym_sym z36) (key := .string t) (kl := symKey t) (WideMaps.keyOf_string_mk Try.underlying9 ht)
    rw [h2] at hv
    rw [hrun, RSym_inj hv]
end Go.Proofs.Yteaealmnmmcbpaa.M

/-
  Layer 7: the memory of a linking under way: the linker's block, its rows, its map. No condition.
-/
namespace Go.Proofs.Yteaealmnmmcbpaa.M
open Go.RowKit Go.Proofs.YteaealmnmmcbpaaW.PrintWords Go.Proofs.YteaealmnmmcbpaaW.PrintLast Go.Proofs.Yteaealmnmmcbpaa.Num
set_option linter.unusedVariables false
set_option linter.unusedSimpArgs false
/-- What a linker holds: sizes, code, data, symbols, threads. -/
structure LkS where
  nc : Int
  nd : Int
  code : List Int
  data : List Int
  syms : List S36
  th : Int
def LkS.empty : LkS := ⟨0, 0, [], [], [], 0⟩
/-- Its block's cells, vc v1 v2 its rows, mb its map. -/
def lkCells (x : LkS) (vc v1 v2 : Value) (mb : Nat) : Array Value := #[.int .i64 x.nc, .int .i64 x.nd, vc, .string ⟨#[]⟩, v1, v2, .map (some mb), .int .i64 x.th]
structure Lk (w W : World) (B b mb : Nat) (x : LkS) (vc v1 v2 : Value) (l : List S36) : Prop where
  below : Below w.heap.size w W
  obj : W.heap[b]? = some (.cells (lkCells x vc v1 v2 mb) 59 (0, 0))
  rc : Kd.R (Kd.int .u8) 5 W w.heap.size (fun k => k < B) vc x.code
  r1 : Kd.R (Kd.int .i64) 2 W w.heap.size (fun k => k < B) v1 x.data
  r2 : Kd.R k36 36 W w.heap.size (fun k => k < B) v2 x.syms
  mp : ∃ n D, W.ownsMap (H := Unit) Try.prog 9 RSym mb n D ∧ Fnd D l ∧ n = l.length
  lt : B ≤ W.heap.size
  hh : w.heap.size ≤ b ∧ b < B ∧ w.heap.size ≤ mb ∧ mb < B
theorem below_in {w w1 w2 : World} (h : Below w.heap.size w w1) (k : Below w1.heap.size w1 w2) : Below w.heap.size w w2 := below_then h h.size k
theorem mem_one {t q : Nat} {l : List Nat} (hl : l = []) (h : q ∈ t :: l) : q = t := by subst hl; simpa using h
theorem R_in {α : Type} {k : Kd α} {e base : Nat} {W : World} {ok : Nat → Prop} {v : Value} {l : List α} (h : k.R e W base ok v l) : k.R e W base (fun k => k < W.heap.size) v l := Kd.R_mono (Kd.R_bound h) (fun _ h => h.2.2.1)
theorem R_all {α : Type} {k : Kd α} {e base : Nat} {W : World} {ok : Nat → Prop} {v : Value} {l : List α} (h : k.R e W base ok v l) : k.R e W base (fun _ => True) v l := Kd.R_mono h (fun _ _ => trivial)
/-- A map's block is none of a row's. -/
theorem R_map {α : Type} {k : Kd α} {e base : Nat} {W W' : World} {ok : Nat → Prop} {v : Value} {l : List α} {mb n : Nat} {D : SymD} {R : Value → Option (SymD × List MemPlace)} {q : TypeId} (h : k.R e W base ok v l) (hm : W.ownsMap Try.prog q R mb n D) (hg : W.grownBy W' (some mb)) : k.R e W' base ok v l := by
  refine Kd.R_mono (Kd.R_grown (Kd.R_bound h) hg (fun k hk => ?_)) (fun _ h => h.1)
  obtain ⟨_, _, _, q', _, cells, hc⟩ := hk
  intro e
  obtain ⟨es, clock, hb, _⟩ := hm
  injection e with e
  subst e
  rw [hc] at hb
  cases hb
section
variable {w W W' : World} {B b mb : Nat} {x : LkS} {vc v1 v2 : Value} {l : List S36}
theorem Lk.next (H : Lk w W B b mb x vc v1 v2 l) (hb : Below W.heap.size W W') : Lk w W' B b mb x vc v1 v2 l where
  below := below_then H.below H.below.size hb
  obj := blk_below H.obj hb
  rc := Kd.R_below H.rc hb
  r1 := Kd.R_below H.r1 hb
  r2 := Kd.R_below H.r2 hb
  mp := by
    obtain ⟨n, D, hm, hf, hn⟩ := H.mp
    obtain ⟨es, clock, hb', r⟩ := hm
    exact ⟨n, D, ⟨es, clock, (hb.block mb (Array.getElem?_eq_some_iff.1 hb').1).trans hb', r⟩, hf, hn⟩
  lt := Nat.le_trans H.lt hb.size
  hh := H.hh
theorem Lk.alloc (H : Lk w W B b mb x vc v1 v2 l) (o : Obj) : Lk w (W.alloc o) B b mb x vc v1 v2 l := H.next (below_alloc (Below.refl W.heap.size W) o)
theorem Lk.up (H : Lk w W B b mb x vc v1 v2 l) {B' : Nat} (hB : B ≤ B') (hB' : B' ≤ W.heap.size) : Lk w W B' b mb x vc v1 v2 l where
  below := H.below
  obj := H.obj
  rc := Kd.R_mono H.rc (fun k hk => by omega)
  r1 := Kd.R_mono H.r1 (fun k hk => by omega)
  r2 := Kd.R_mono H.r2 (fun k hk => by omega)
  mp := H.mp
  lt := hB'
  hh := by have := H.hh; omega
/-- A store into a block behind B. -/
theorem Lk.far (H : Lk w W B b mb x vc v1 v2 l) {p : Addr} (hp : B ≤ p.block) (u : Value) : Lk w (W.setCell p u) B b mb x vc v1 v2 l where
  below := Below.setCell H.below (by have := H.hh; omega) u
  obj := blk_far H.obj (by have := H.hh; omega) u
  rc := Kd.R_far H.rc (fun k hk => by omega) u
  r1 := Kd.R_far H.r1 (fun k hk => by omega) u
  r2 := Kd.R_far H.r2 (fun k hk => by omega) u
  mp := by
    obtain ⟨n, D, hm, hf, hn⟩ := H.mp
    exact ⟨n, D, hm.setCell (by have := H.hh; omega) u, hf, hn⟩
  lt := by have := H.lt; simpa [World.setCell] using this
  hh := H.hh
/-- A store into the linker's own block. -/
theorem Lk.put (H : Lk w W B b mb x vc v1 v2 l) {x' : LkS} (i : Nat) (u : Value) (e : (lkCells x vc v1 v2 mb).setIfInBounds i u = lkCells x' vc v1 v2 mb) (ec : x'.code = x.code) (ed : x'.data = x.data) (es : x'.syms = x.syms) : Lk w (W.setCell ⟨b, i, none⟩ u) B b mb x' vc v1 v2 l where
  below := Below.setCell H.below (by have := H.hh; simp; omega) u
  obj := blk_put H.obj i u e
  rc := by rw [ec]; exact Kd.R_mono (Kd.R_far (Kd.R_types H.rc H.obj (fun q hq => by rw [mem_one rfl hq]; decide)) (fun _ h => h.2) u) (fun _ h => h.1)
  r1 := by rw [ed]; exact Kd.R_mono (Kd.R_far (Kd.R_types H.r1 H.obj (fun q hq => by rw [mem_one rfl hq]; decide)) (fun _ h => h.2) u) (fun _ h => h.1)
  r2 := by rw [es]; exact Kd.R_mono (Kd.R_far (Kd.R_types H.r2 H.obj (fun q hq => by rw [mem_one rfl hq]; decide)) (fun _ h => h.2) u) (fun _ h => h.1)
  mp := by
    obtain ⟨n, D, hm, hf, hn⟩ := H.mp
    refine ⟨n, D, hm.setCell ?_ u, hf, hn⟩
    intro e
    obtain ⟨es, clock, hb', _⟩ := hm
    have := H.obj
    simp only at e
    rw [← e, hb'] at this
    cases this
  lt := by have := H.lt; simpa [World.setCell] using this
  hh := H.hh
/-- A symbol goes into the map. -/
theorem Lk.store (H : Lk w W B b mb x vc v1 v2 l) {s : S36} (hn : (l.any fun y => decide (y.f0 = s.f0)) = false) {n : Nat} {D : SymD} (hm : W.ownsMap (H := Unit) Try.prog 9 RSym mb n D) (hf : Fnd D l) (hl : n = l.length) (hm' : W'.ownsMap (H := Unit) Try.prog 9 RSym mb (n + 1) (D.put (symKey s.f0) (symT s))) (hg : W.grownBy W' (some mb)) : Lk w W' B b mb x vc v1 v2 (l ++ [s]) where
  below := H.below.grown hg H.below.size (fun j hj => by cases hj; exact H.hh.2.2.1)
  obj := blk_grown H.obj hg (by
    intro e
    injection e with e
    obtain ⟨es, clock, hb', _⟩ := hm
    have := H.obj
    rw [e, hb'] at this
    cases this)
  rc := R_map H.rc hm hg
  r1 := R_map H.r1 hm hg
  r2 := R_map H.r2 hm hg
  mp := ⟨n + 1, _, hm', fnd_put hf hn, by rw [List.length_append, hl]; rfl⟩
  lt := Nat.le_trans H.lt hg.size
  hh := H.hh
/-- One more symbol in the row (the new row isn't in the linker yet). -/
theorem Lk.more2 (H : Lk w W B b mb x vc v1 v2 l) {v2' : Value} {y : List S36} {ok : Nat → Prop} (hR : Kd.R k36 36 W' w.heap.size ok v2' y) (hb : Below w.heap.size w W') (hg : W.grownBy W' v2.ownBlock) :
    Below w.heap.size w W' ∧ W'.heap[b]? = some (.cells (lkCells x vc v1 v2 mb) 59 (0, 0)) ∧ Kd.R (Kd.int .u8) 5 W' w.heap.size (fun k => k < W'.heap.size) vc x.code ∧ Kd.R (Kd.int .i64) 2 W' w.heap.size (fun k => k < W'.heap.size) v1 x.data ∧ Kd.R k36 36 W' w.heap.size (fun k => k < W'.heap.size) v2' y ∧ (∃ n D, W'.ownsMap (H := Unit) Try.prog 9 RSym mb n D ∧ Fnd D l ∧ n = l.length) := by
  refine ⟨hb, blk_grown H.obj hg (Kd.R_ne H.r2 H.obj (by decide)), R_in (Kd.R_over' H.rc (Kd.R_typed H.r2) (fun q hq => by rw [mem_one rfl hq]; decide) hg), R_in (Kd.R_over' H.r1 (Kd.R_typed H.r2) (fun q hq => by rw [mem_one rfl hq]; decide) hg), R_in hR, ?_⟩
  obtain ⟨n, D, hm, hf, hn⟩ := H.mp
  refine ⟨n, D, hm.kept hg ?_, hf, hn⟩
  intro e
  obtain ⟨cells, hc⟩ := Kd.R_typed H.r2 mb e.symm
  obtain ⟨es, clock, hb', _⟩ := hm
  rw [hc] at hb'
  cases hb'
/-- A byte of the code is overwritten. -/
theorem Lk.poke (H : Lk w W B b mb x vc v1 v2 l) {g n cap : Nat} (hv : vc = .slice (some ⟨g, 0, none⟩) n cap) (i : Nat) (u : Int) : Lk w (W.setCell ⟨g, i, none⟩ (.int .u8 u)) B b mb { x with code := x.code.set i u } vc v1 v2 l := by
  subst hv
  have hrc := H.rc
  obtain ⟨A', c', e, _, _⟩ := Kd.R_reads hrc
  injection e with e1 e2 e3
  subst e2
  have hbk : Value.ownBlock (.slice (some ⟨g, 0, none⟩) x.code.length cap) = some g := rfl
  obtain ⟨cells, hgc⟩ := Kd.R_typed hrc g hbk
  have hgB : g < B := hrc.1 g hbk
  have hbase : w.heap.size ≤ g := own_base (Kd.own_of_R hrc) g rfl
  have hp := Kd.R_put (enc := Value.int .u8) (h1 := fun _ => rfl) hrc (i : Int) u
  simp only [Int.toNat_natCast] at hp
  refine ⟨H.below.setCell hbase _, blk_far H.obj (by simpa using blk_ne H.obj hgc (by decide)) _, ?_, Kd.R_mono (Kd.R_far (Kd.R_types H.r1 hgc (fun q hq => by rw [mem_one rfl hq]; decide)) (fun _ h => h.2) _) (fun _ h => h.1), Kd.R_mono (Kd.R_far (Kd.R_types H.r2 hgc (fun q hq => by rw [mem_one rfl hq]; decide)) (fun _ h => h.2) _) (fun _ h => h.1), ?_, by have := H.lt; simpa [World.setCell] using this, H.hh⟩
  · exact hp.1
  · obtain ⟨n, D, hm, hf, hn⟩ := H.mp
    refine ⟨n, D, hm.setCell ?_ _, hf, hn⟩
    intro e
    obtain ⟨es, clock, hb', _⟩ := hm
    simp only at e
    rw [e, hgc] at hb'
    cases hb'
/-- Some bytes, one behind the other. -/
def pokes (code : List Int) (at_ : Nat) : List Int → List Int
  | [] => code
  | u :: us => pokes (code.set at_ u) (at_ + 1) us
theorem pokes_length : ∀ (us : List Int) (code : List Int) (at_ : Nat), (pokes code at_ us).length = code.length
  | [], _, _ => rfl
  | u :: us, code, at_ => by rw [pokes, pokes_length us]; simp
/-- W' is W but for the blocks made since, and the row of code. -/
def Keeps (W W' : World) (vc : Value) : Prop := W.heap.size ≤ W'.heap.size ∧ ∀ k, k < W.heap.size → some k ≠ vc.ownBlock → W'.heap[k]? = W.heap[k]?
theorem Keeps.of_below {vc : Value} (h : Below W.heap.size W W') : Keeps W W' vc := ⟨h.size, fun k hk _ => h.block k hk⟩
theorem Keeps.trans {W1 : World} {vc : Value} (h : Keeps W W' vc) (k : Keeps W' W1 vc) : Keeps W W1 vc := ⟨Nat.le_trans h.1 k.1, fun i hi hne => (k.2 i (Nat.lt_of_lt_of_le hi h.1) hne).trans (h.2 i hi hne)⟩
theorem Lk.pokes (H : Lk w W B b mb x vc v1 v2 l) {g n cap : Nat} (hv : vc = .slice (some ⟨g, 0, none⟩) n cap) : ∀ (us : List Int) (at_ : Nat), Lk w (W.setCells g at_ (nums .u8 us)) B b mb { x with code := pokes x.code at_ us } vc v1 v2 l ∧ Keeps W (W.setCells g at_ (nums .u8 us)) vc := by
  intro us
  induction us generalizing W x with
  | nil => exact fun _ => ⟨H, Nat.le_refl _, fun _ _ _ => rfl⟩
  | cons u us ih =>
    intro at_
    obtain ⟨h1, h2⟩ := ih (H.poke hv at_ u) (at_ + 1)
    refine ⟨h1, Keeps.trans ⟨by simp [World.setCell], fun k hk hne => Below.heap_setCell W _ _ _ ?_⟩ h2⟩
    intro e
    exact hne (by rw [hv, e]; rfl)
end
end Go.Proofs.Yteaealmnmmcbpaa.M

/-
  Layer 7: an object laid behind all others: plain, and the steps of its walk (a text's bytes appended, an entry of the map stored, in a region that draws its order). Conditions: those told at each.
-/
namespace Go.Proofs.Yteaealmnmmcbpaa.M
open Go.RowKit Go.Proofs.YteaealmnmmcbpaaW.PrintWords Go.Proofs.YteaealmnmmcbpaaW.PrintLast Go.Proofs.Yteaealmnmmcbpaa.Num
set_option linter.unusedVariables false
set_option linter.unusedSimpArgs false
section
variable {P : Program} {ops : Array Oper} {o : Oper} {a : Act} {Q : Exit → Act → World → Prop} {K : Act → World → Prop}
theorem str_step {w0 W : World} (base : Nat) (hw : Region.wanted o (yielded ops a.tmps) = true) (s x : Operand) (t u e : TypeId)
    (ho : o.op = .call { callee := .builtin .append, args := #[s, x], argTypes := #[t, u] })
    (ht : P.underlying t = some (.slice e)) (hu : P.underlying u = some .string) (hinfo : (P.info? e).map (fun i => (i.zero, i.size, i.bytes)) = some (some (.int .u8 0), 1, 1))
    (v : Value) (xs : List Int) (y : ByteArray) {ok : Nat → Prop} (hs : a.eval s = v) (hx : a.eval x = .string y)
    (HO : Kd.R (Kd.int .u8) e W base ok v xs) (HB : Below base w0 W) (hbase : base ≤ W.heap.size) (hl : xs.length + y.size ≤ 140737488355328)
    (h : ∀ v1 w1, Kd.R (Kd.int .u8) e w1 base (fun _ => True) v1 (xs ++ bytesOf y) → Below base w0 w1 → W.grownBy w1 v.ownBlock → K (a.put o.dst v1) w1) :
    if Region.wanted o (yielded ops a.tmps) = true then Oper.wp P o a W K Q else K (a.put o.dst undef) W := by
  obtain ⟨i0, hi, hzz⟩ := Option.map_eq_some_iff.1 hinfo
  simp only [Prod.mk.injEq] at hzz
  obtain ⟨hz0, hz1, hz2⟩ := hzz
  rw [if_pos hw]
  have hown := Kd.own_of_R HO
  obtain ⟨v1, w1, hr, hown1, hg, _⟩ := Lib.run_append_own_string (P := P) W base t u o.type e i0 ht hu hi hz0 hz1 hz2 v xs.length _ hown y (by simp only [maxLen]; omega) hl hbase
  unfold Oper.wp execOp
  simp only [ho, resolve, invoke, builtin, Sem.run_bind, Sem.run_pure, Result.andThen_ok, List.map_toArray, List.map_cons, List.map_nil, hs, hx, hr]
  have hc : encs (Value.int .u8) xs ++ Lib.strCells y = encs (Value.int .u8) (xs ++ bytesOf y) := by
    simp [encs, bytesOf, Lib.strCells]
  refine h v1 w1 (Kd.R_of_own ?_ (fun _ _ => trivial)) (HB.grown hg hbase (own_base hown)) hg
  rw [List.length_append, bytesOf_length, ← hc]
  exact hown1
theorem map_step {W : World} {kt : TypeId} {R : Value → Option (SymD × List MemPlace)} {b n : Nat} {D : SymD} (hw : Region.wanted o (yielded ops a.tmps) = true) (m x v : Operand) (t e : TypeId) (hop : o.op = Op.mapUpdate t m x v) (hd : o.dst = none)
    (KK : Maps.Keyed P kt) (ht : P.underlying t = some (.map kt e)) (hm : a.eval m = .map (some b)) (hown : W.ownsMap P kt R b n D) (hn : n < maxLen) {key val : Value} {kl : Lit} (hx : a.eval x = key) (hv : a.eval v = val) (hkey : keyOf P kt key = some kl)
    {d : SymD} {ps : List MemPlace} (hval : R val = some (d, ps)) (h : ∀ w', w'.ownsMap P kt R b (n + 1) (D.put kl d) → W.grownBy w' (some b) → K a w') :
    if Region.wanted o (yielded ops a.tmps) = true then Oper.wp P o a W K Q else K (a.put o.dst undef) W := by
  rw [if_pos hw]
  obtain ⟨w', hrun, r1, r2⟩ := hown.update KK ht hn hkey hval
  have hK := h w' r1 r2
  unfold Oper.wp
  simp [execOp, hop, hm, hx, hv, hrun, Result.andThen]
  show K (a.put o.dst undef) w'
  rw [show a.put o.dst undef = a from by rw [hd]; rfl]
  exact hK
end
/-- The cells of any type but the linker's own rows and blocks stand. -/
def KeepQ (w w' : World) : Prop := w.heap.size ≤ w'.heap.size ∧ ∀ (i : Nat) (cs : Array Value) (t : TypeId) (fr : Nat × Nat), w.heap[i]? = some (.cells cs t fr) → t ≠ 5 ∧ t ≠ 2 ∧ t ≠ 36 ∧ t ≠ 59 → w'.heap[i]? = some (.cells cs t fr)
theorem KeepQ.refl (w : World) : KeepQ w w := ⟨Nat.le_refl _, fun _ _ _ _ h _ => h⟩
theorem KeepQ.trans {w w1 w2 : World} (h : KeepQ w w1) (k : KeepQ w1 w2) : KeepQ w w2 := ⟨Nat.le_trans h.1 k.1, fun i cs t fr hi ht => k.2 i cs t fr (h.2 i cs t fr hi ht) ht⟩
theorem KeepQ.of_below {w w1 : World} (h : Below w.heap.size w w1) : KeepQ w w1 := ⟨h.size, fun i cs t fr hi _ => blk_below hi h⟩
theorem KeepQ.of_grown {α : Type} {k : Kd α} {e base : Nat} {w w1 : World} {ok : Nat → Prop} {v : Value} {xs : List α} (ho : k.R e w base ok v xs) (h : w.grownBy w1 v.ownBlock) (he : e = 5 ∨ e = 2 ∨ e = 36 ∨ e = 59) : KeepQ w w1 := by
  refine ⟨h.size, fun i cs t fr hi ht => blk_grown hi h ?_⟩
  intro e'
  obtain ⟨cells, hc⟩ := Kd.R_typed ho i e'.symm
  rw [hi] at hc
  injection hc with hc
  injection hc with _ hc
  rcases he with rfl | rfl | rfl | rfl
  · exact ht.1 hc
  · exact ht.2.1 hc
  · exact ht.2.2.1 hc
  · exact ht.2.2.2 hc
theorem KeepQ.of_map {w w1 : World} {q : TypeId} {R : Value → Option (SymD × List MemPlace)} {mb n : Nat} {D : SymD} (hm : w.ownsMap Try.prog q R mb n D) (h : w.grownBy w1 (some mb)) : KeepQ w w1 := by
  refine ⟨h.size, fun i cs t fr hi ht => blk_grown hi h ?_⟩
  intro e
  injection e with e
  subst e
  obtain ⟨es, clock, hb, _⟩ := hm
  rw [hi] at hb
  cases hb
theorem KeepQ.put {w : World} {g t : Nat} {cs : Array Value} (hb : w.heap[g]? = some (.cells cs t (0, 0))) (ht : t = 5 ∨ t = 2 ∨ t = 36 ∨ t = 59) (i : Nat) (u : Value) : KeepQ w (w.setCell ⟨g, i, none⟩ u) := by
  refine ⟨by simp [World.setCell], fun j cs' t' fr hj ht' => (Below.heap_setCell w _ u j ?_).trans hj⟩
  intro ej
  replace hj : w.heap[g]? = some (.cells cs' t' fr) := by
    rw [show g = j from ej.symm]
    exact hj
  rw [hb] at hj
  injection hj with hj
  injection hj with _ hj _
  subst hj
  rcases ht with rfl | rfl | rfl | rfl
  · exact ht'.1 rfl
  · exact ht'.2.1 rfl
  · exact ht'.2.2.1 rfl
  · exact ht'.2.2.2 rfl
theorem KeepQ.alloc {w : World} (o : Obj) : KeepQ w (w.alloc o) := KeepQ.of_below (below_alloc (Below.refl w.heap.size w) o)
theorem KeepQ.drew {w w1 : World} (h : KeepQ w w1) : KeepQ w w1.drew := h
/-- A linker whose block gets a new row. -/
theorem Lk.build {w W : World} {b mb : Nat} {x x' : LkS} {vc v1 v2 vc' v1' v2' : Value} {l : List S36} (hb : Below w.heap.size w W) (hobj : W.heap[b]? = some (.cells (lkCells x vc v1 v2 mb) 59 (0, 0)))
    (hc : Kd.R (Kd.int .u8) 5 W w.heap.size (fun k => k < W.heap.size) vc' x'.code) (h1 : Kd.R (Kd.int .i64) 2 W w.heap.size (fun k => k < W.heap.size) v1' x'.data) (h2 : Kd.R k36 36 W w.heap.size (fun k => k < W.heap.size) v2' x'.syms)
    (hm : ∃ n D, W.ownsMap (H := Unit) Try.prog 9 RSym mb n D ∧ Fnd D l ∧ n = l.length) (hwb : w.heap.size ≤ b) (hwm : w.heap.size ≤ mb) (i : Nat) (u : Value) (e : (lkCells x vc v1 v2 mb).setIfInBounds i u = lkCells x' vc' v1' v2' mb) :
    Lk w (W.setCell ⟨b, i, none⟩ u) W.heap.size b mb x' vc' v1' v2' l where
  below := Below.setCell hb hwb u
  obj := blk_put hobj i u e
  rc := Kd.R_mono (Kd.R_far (Kd.R_types hc hobj (fun q hq => by rw [mem_one rfl hq]; decide)) (fun _ h => h.2) u) (fun _ h => h.1)
  r1 := Kd.R_mono (Kd.R_far (Kd.R_types h1 hobj (fun q hq => by rw [mem_one rfl hq]; decide)) (fun _ h => h.2) u) (fun _ h => h.1)
  r2 := Kd.R_mono (Kd.R_far (Kd.R_types h2 hobj (fun q hq => by rw [mem_one rfl hq]; decide)) (fun _ h => h.2) u) (fun _ h => h.1)
  mp := by
    obtain ⟨n, D, hm, hf, hn⟩ := hm
    refine ⟨n, D, hm.setCell ?_ u, hf, hn⟩
    intro e
    obtain ⟨es, clock, hb', _⟩ := hm
    simp only at e
    rw [← e, hb'] at hobj
    cases hobj
  lt := by simp [World.setCell]
  hh := ⟨hwb, blk_lt hobj, hwm, by obtain ⟨n, D, hm, _⟩ := hm; exact hm.lt⟩
theorem Lk.moreC {w W W' : World} {B b mb : Nat} {x : LkS} {vc v1 v2 vc' : Value} {l : List S36} {ys : List Int} {ok : Nat → Prop} (H : Lk w W B b mb x vc v1 v2 l) (hR : Kd.R (Kd.int .u8) 5 W' w.heap.size ok vc' ys) (hb : Below w.heap.size w W') (hg : W.grownBy W' vc.ownBlock) :
    Below w.heap.size w W' ∧ W'.heap[b]? = some (.cells (lkCells x vc v1 v2 mb) 59 (0, 0)) ∧ Kd.R (Kd.int .u8) 5 W' w.heap.size (fun k => k < W'.heap.size) vc' ys ∧ Kd.R (Kd.int .i64) 2 W' w.heap.size (fun k => k < W'.heap.size) v1 x.data ∧ Kd.R k36 36 W' w.heap.size (fun k => k < W'.heap.size) v2 x.syms ∧ (∃ n D, W'.ownsMap (H := Unit) Try.prog 9 RSym mb n D ∧ Fnd D l ∧ n = l.length) := by
  refine ⟨hb, blk_grown H.obj hg (Kd.R_ne H.rc H.obj (by decide)), R_in hR, R_in (Kd.R_over' H.r1 (Kd.R_typed H.rc) (fun q hq => by rw [mem_one rfl hq]; decide) hg), R_in (Kd.R_over' H.r2 (Kd.R_typed H.rc) (fun q hq => by rw [mem_one rfl hq]; decide) hg), ?_⟩
  obtain ⟨n, D, hm, hf, hn⟩ := H.mp
  refine ⟨n, D, hm.kept hg ?_, hf, hn⟩
  intro e
  obtain ⟨cells, hc⟩ := Kd.R_typed H.rc mb e.symm
  obtain ⟨es, clock, hb', _⟩ := hm
  rw [hc] at hb'
  cases hb'
theorem Lk.more1 {w W W' : World} {B b mb : Nat} {x : LkS} {vc v1 v2 v1' : Value} {l : List S36} {ys : List Int} {ok : Nat → Prop} (H : Lk w W B b mb x vc v1 v2 l) (hR : Kd.R (Kd.int .i64) 2 W' w.heap.size ok v1' ys) (hb : Below w.heap.size w W') (hg : W.grownBy W' v1.ownBlock) :
    Below w.heap.size w W' ∧ W'.heap[b]? = some (.cells (lkCells x vc v1 v2 mb) 59 (0, 0)) ∧ Kd.R (Kd.int .u8) 5 W' w.heap.size (fun k => k < W'.heap.size) vc x.code ∧ Kd.R (Kd.int .i64) 2 W' w.heap.size (fun k => k < W'.heap.size) v1' ys ∧ Kd.R k36 36 W' w.heap.size (fun k => k < W'.heap.size) v2 x.syms ∧ (∃ n D, W'.ownsMap (H := Unit) Try.prog 9 RSym mb n D ∧ Fnd D l ∧ n = l.length) := by
  refine ⟨hb, blk_grown H.obj hg (Kd.R_ne H.r1 H.obj (by decide)), R_in (Kd.R_over' H.rc (Kd.R_typed H.r1) (fun q hq => by rw [mem_one rfl hq]; decide) hg), R_in hR, R_in (Kd.R_over' H.r2 (Kd.R_typed H.r1) (fun q hq => by rw [mem_one rfl hq]; decide) hg), ?_⟩
  obtain ⟨n, D, hm, hf, hn⟩ := H.mp
  refine ⟨n, D, hm.kept hg ?_, hf, hn⟩
  intro e
  obtain ⟨cells, hc⟩ := Kd.R_typed H.r1 mb e.symm
  obtain ⟨es, clock, hb', _⟩ := hm
  rw [hc] at hb'
  cases hb'
/-! ### Plain -/
def layOne (x : LkS) (s : S36) : S36 := ⟨s.f0, s.f1, if s.f1 = 2 then s.f2 + x.nd else s.f2 + x.nc⟩
def laySyms (x : LkS) : List S36 → Option LkS
  | [] => some x
  | s :: ss => if (x.syms.any fun y => decide (y.f0 = s.f0)) = true then none else laySyms { x with syms := x.syms ++ [layOne x s], th := if s.f1 = 3 then x.th + 1 else x.th } ss
/-- An object laid behind all others; none: a name is there already. -/
def layO (x : LkS) (o : S40) : Option LkS := (laySyms x o.f2).map fun y => { y with code := y.code ++ bytesOf o.f0, data := y.data ++ o.f1, nc := (y.code.length : Int) + o.f0.size, nd := (y.data.length : Int) + o.f1.length }
end Go.Proofs.Yteaealmnmmcbpaa.M

/-
  Layer 7: a relocation's symbol (fits, and the closure that asks it), a place filled in (fill): the walks. Conditions: those told at each.
-/
namespace Go.Proofs.Yteaealmnmmcbpaa.M
open Go.RowKit Go.Proofs.YteaealmnmmcbpaaW.PrintWords Go.Proofs.YteaealmnmmcbpaaW.PrintLast Go.Proofs.Yteaealmnmmcbpaa.Num
set_option linter.unusedVariables false
set_option linter.unusedSimpArgs false
def fitsF (l : List S36) (r : S45) : Int := match l.find? (fun s => decide (s.f0 = r.f2)) with | none => 6 | some s => if decide (s.f1 = 2) = decide (r.f1 = 2) then 0 else 3
theorem any_find {l : List S36} {t : ByteArray} : (l.any fun s => decide (s.f0 = t)) = (l.find? fun s => decide (s.f0 = t)).isSome := by
  induction l with
  | nil => rfl
  | cons y l ih =>
    rw [List.any_cons, List.find?_cons, ih]
    cases decide (y.f0 = t) <;> simp
set_option maxHeartbeats 8000000 in
set_option maxRecDepth 100000 in
theorem fits_c {w W : World} {B b mb : Nat} {x : LkS} {vc v1 v2 : Value} {l : List S36} (H : Lk w W B b mb x vc v1 v2 l) (r : S45) (hn : r.f2.size ≤ maxLen) :
    Calls Try.prog 24 #[.pointer (some ⟨b, 0, none⟩), .agg #[.int .i64 r.f0, .int .i64 r.f1, .string r.f2, .int .i64 r.f3]] W fun e w' => e = .returned (.int .i64 (fitsF l r)) ∧ Below W.heap.size W w' := by
  obtain ⟨n, D, hm, hf, hln⟩ := H.mp
  have LO := Aside0.mk (fun (W' : World) (h : W'.ownsMap (H := Unit) Try.prog 9 RSym mb n D) => (map_look h hf r.f2 hn).1)
  have HM := Aside0.mk (hm.alloc (.cells #[.int .i64 r.f0, .int .i64 r.f1, .string r.f2, .int .i64 r.f3] 45))
  have BO := Aside0.mk (blk_alloc H.obj (.cells #[.int .i64 r.f0, .int .i64 r.f1, .string r.f2, .int .i64 r.f3] 45))
  have BR := Aside0.mk (blk_new W (.cells #[.int .i64 r.f0, .int .i64 r.f1, .string r.f2, .int .i64 r.f3] 45))
  have hu := Try.underlying54
  have FB := Aside0.mk (any_find (l := l) (t := r.f2))
  obtain ⟨sv, hsv⟩ : ∃ sv, sv = (l.find? fun s => decide (s.f0 = r.f2)).getD z36 := ⟨_, rfl⟩
  obtain ⟨fb, hfb⟩ : ∃ fb, fb = (l.any fun s => decide (s.f0 = r.f2)) := ⟨_, rfl⟩
  have FF := Aside0.mk (show fitsF l r = if fb = true then (if decide (sv.f1 = 2) = decide (r.f1 = 2) then 0 else 3) else 6 by
    unfold fitsF
    rw [hfb, any_find, hsv]
    cases l.find? (fun s => decide (s.f0 = r.f2)) <;> simp)
  rw [← hsv, ← hfb] at LO
  rw [FF.out]
  obtain ⟨s0, s1, s2⟩ := sv
  obtain ⟨r0, r1, r2, r3⟩ := r
  dsimp only at *
  simp only [symV] at LO
  clear hm hf hln H hsv hfb FF FB
  go_enter Try.func24, Try.ntmps24
  go_wp2
  refine start_ (n := 13) (S := fun w' => w'.cell? ⟨b, 6, none⟩ = some (.map (some mb)) ∧ w'.cell? ⟨W.heap.size, 2, none⟩ = some (.string r2) ∧ (Instr.lookup 54 (.map (some mb)) (.string r2) true).run Try.prog w' = .ok (.tuple #[.agg #[.string s0, .int .i64 s1, .int .i64 s2], .bool fb]) w') (ds := [11]) #[false, false, false, false, false, false, false, false, false, false, false, false, false] (by kernel_rfl) rfl rfl ⟨(blk_cell (blk_drew BO.out) 6).trans rfl, (blk_cell (blk_drew BR.out) 2).trans rfl, LO.out _ (HM.out.drew)⟩ (fun hHeld => ?_)
  refine pure_ (i := 0) (N := some 8) (v := ?_) (a' := ?_) #[true, false, false, false, false, false, false, false, false, false, false, false, false] rfl rfl (by kernel_rfl) (fun _ _ _ h => h) (Or.inl ⟨by rfl, ?_⟩) ?_ ?_
  rotate_left
  · intro w'
    go_simp
    with_reducible rfl
  rotate_left
  · simp only [Act.put, List.setIfInBounds_toArray, List.set_cons_zero, List.set_cons_succ, i64_w, i32_w]
    rfl
  refine pure_ (i := 1) (N := some 9) (v := ?_) (a' := ?_) #[true, true, false, false, false, false, false, false, false, false, false, false, false] rfl rfl (by kernel_rfl) (fun _ _ _ h => h) (Or.inl ⟨by rfl, ?_⟩) ?_ ?_
  rotate_left
  · intro w'
    go_simp
    with_reducible rfl
  rotate_left
  · simp only [Act.put, List.setIfInBounds_toArray, List.set_cons_zero, List.set_cons_succ, i64_w, i32_w]
    rfl
  refine pure_ (i := 2) (N := some 10) (v := ?_) (a' := ?_) #[true, true, true, false, false, false, false, false, false, false, false, false, false] rfl rfl (by kernel_rfl) (fun _ _ _ h => h) (Or.inl ⟨by rfl, ?_⟩) ?_ ?_
  rotate_left
  · intro w'
    go_simp
    with_reducible rfl
  rotate_left
  · simp only [Act.put, List.setIfInBounds_toArray, List.set_cons_zero, List.set_cons_succ, i64_w, i32_w]
    rfl
  refine pure_ (i := 4) (N := some 12) (v := ?_) (a' := ?_) #[true, true, true, false, true, false, false, false, false, false, false, false, false] rfl rfl (by kernel_rfl) (fun _ _ _ h => h) (Or.inl ⟨by rfl, ?_⟩) ?_ ?_
  rotate_left
  · intro w'
    go_simp
    with_reducible rfl
  rotate_left
  · simp only [Act.put, List.setIfInBounds_toArray, List.set_cons_zero, List.set_cons_succ, i64_w, i32_w]
    rfl
  refine take_ (i := 3) (N := some 11) (v := ?_) (a' := ?_) #[true, true, true, true, true, false, false, false, false, false, false, false, false] rfl rfl (by kernel_rfl) (fun _ _ _ h => h) (Or.inl ⟨by rfl, ?_⟩) hHeld ?_ ?_
  rotate_left
  · rintro w' ⟨s0, s1, s2⟩
    go_simp
    with_reducible rfl
  rotate_left
  · simp only [Act.put, List.setIfInBounds_toArray, List.set_cons_zero, List.set_cons_succ, i64_w, i32_w]
    rfl
  refine take_ (i := 5) (N := some 13) (v := ?_) (a' := ?_) #[true, true, true, true, true, true, false, false, false, false, false, false, false] rfl rfl (by kernel_rfl) (fun _ _ _ h => h) (Or.inl ⟨by rfl, ?_⟩) hHeld ?_ ?_
  rotate_left
  · rintro w' ⟨s0, s1, s2⟩
    go_simp
    with_reducible rfl
  rotate_left
  · simp only [Act.put, List.setIfInBounds_toArray, List.set_cons_zero, List.set_cons_succ, i64_w, i32_w]
    rfl
  refine take_ (i := 6) (N := some 14) (v := ?_) (a' := ?_) #[true, true, true, true, true, true, true, false, false, false, false, false, false] rfl rfl (by kernel_rfl) (fun _ _ _ h => h) (Or.inl ⟨by rfl, ?_⟩) hHeld ?_ ?_
  rotate_left
  · rintro w' ⟨s0, s1, s2⟩
    go_simp
    with_reducible rfl
  rotate_left
  · simp only [Act.put, List.setIfInBounds_toArray, List.set_cons_zero, List.set_cons_succ, i64_w, i32_w]
    rfl
  refine pure_ (i := 7) (N := some 7) (v := ?_) (a' := ?_) #[true, true, true, true, true, true, true, true, false, false, false, false, false] rfl rfl (by kernel_rfl) (fun _ _ _ h => h) (Or.inl ⟨by rfl, ?_⟩) ?_ ?_
  rotate_left
  · intro w'
    go_simp
    with_reducible rfl
  rotate_left
  · simp only [Act.put, List.setIfInBounds_toArray, List.set_cons_zero, List.set_cons_succ, i64_w, i32_w]
    rfl
  refine pure_ (i := 8) (N := some 15) (v := ?_) (a' := ?_) #[true, true, true, true, true, true, true, true, true, false, false, false, false] rfl rfl (by kernel_rfl) (fun _ _ _ h => h) (Or.inl ⟨by rfl, ?_⟩) ?_ ?_
  rotate_left
  · intro w'
    go_simp
    with_reducible rfl
  rotate_left
  · simp only [Act.put, List.setIfInBounds_toArray, List.set_cons_zero, List.set_cons_succ, i64_w, i32_w]
    rfl
  refine pure_ (i := 9) (N := some 16) (v := ?_) (a' := ?_) #[true, true, true, true, true, true, true, true, true, true, false, false, false] rfl rfl (by kernel_rfl) (fun _ _ _ h => h) (Or.inl ⟨by rfl, ?_⟩) ?_ ?_
  rotate_left
  · intro w'
    go_simp
    with_reducible rfl
  rotate_left
  · simp only [Act.put, List.setIfInBounds_toArray, List.set_cons_zero, List.set_cons_succ, i64_w, i32_w]
    rfl
  refine one_ (i := 10) (N := some 5) #[true, true, true, true, true, true, true, true, true, true, true, false, false] rfl rfl (by kernel_rfl) (by decide) (fun K hK => ?_)
  refine value_ (w1 := ?_) (v := ?_) (by rfl) rfl ?_ ?_
  rotate_left 2
  · go_simp
    constructor
    · rfl
    · rfl
  have HBA := Aside0.mk (below_alloc (below_drew1 (Below.refl (W.alloc (.cells #[.int .i64 r0, .int .i64 r1, .string r2, .int .i64 r3] 45)).heap.size _)) (.cells #[.string ⟨#[]⟩, .int .i64 0, .int .i64 0] 36))
  refine hK.out _ _ ⟨(blk_cell (blk_alloc (blk_drew BO.out) _) 6).trans rfl, (blk_cell (blk_alloc (blk_drew BR.out) _) 2).trans rfl, LO.out _ ((HM.out.drew).alloc _)⟩ (fun hHeld => ?_)
  clear hK K
  refine norm_ (a' := ?_) ?_ ?_
  rotate_left
  · show Act.put _ (some 5) _ = _
    simp only [Act.put, List.setIfInBounds_toArray, List.set_cons_zero, List.set_cons_succ, i64_w, i32_w]
    rfl
  refine last_ (i := 11) (N := none) #[true, true, true, true, true, true, true, true, true, true, true, true, false] rfl rfl (by kernel_rfl) (by decide) (fun K hK => ?_)
  refine skip_ (w1 := ?_) (by rfl) rfl ?_ ?_
  rotate_left
  · go_simp
    rfl
  refine hK.out _ _ ?_
  clear hK K
  refine pure_ (i := 12) (N := some 6) (v := ?_) (a' := ?_) #[true, true, true, true, true, true, true, true, true, true, true, true, true] rfl rfl (by kernel_rfl) (fun _ _ _ h => h) (Or.inl ⟨by rfl, ?_⟩) ?_ ?_
  rotate_left
  · intro w'
    go_simp
    with_reducible rfl
  rotate_left
  · simp only [Act.put, List.setIfInBounds_toArray, List.set_cons_zero, List.set_cons_succ, i64_w, i32_w]
    rfl
  refine done_ (by kernel_rfl) ?_
  have HE := Aside0.mk (below_drew1 (below_alloc (below_alloc (Below.refl W.heap.size W) (.cells #[.int .i64 r0, .int .i64 r1, .string r2, .int .i64 r3] 45)) (.cells #[.string s0, .int .i64 s1, .int .i64 s2] 36)))
  clear hHeld LO HM BO BR HBA
  cases fb with
  | false =>
    go_wp2
    go_ret
    exact ⟨rfl, HE.out⟩
  | true =>
    by_cases h1 : s1 = 2
    · by_cases h2 : r1 = 2
      · subst h1 h2
        go_wp2
        go_ret
        exact ⟨rfl, HE.out⟩
      · subst h1
        have e2 : (r1 == (2 : Int)) = false := by simp [h2]
        go_wp2
        go_ret
        exact ⟨by simp [h2], HE.out⟩
    · by_cases h2 : r1 = 2
      · subst h2
        have e2 : (s1 == (2 : Int)) = false := by simp [h1]
        go_wp2
        go_ret
        exact ⟨by simp [h1], HE.out⟩
      · have e1 : (s1 == (2 : Int)) = false := by simp [h1]
        have e2 : (r1 == (2 : Int)) = false := by simp [h2]
        go_wp2
        go_ret
        exact ⟨by simp [h1, h2], HE.out⟩
set_option maxHeartbeats 8000000 in
set_option maxRecDepth 100000 in
theorem asks_c {w W : World} {B b mb pb : Nat} {x : LkS} {vc v1 v2 : Value} {l : List S36} (H : Lk w W B b mb x vc v1 v2 l) (hp : W.cell? ⟨pb, 0, none⟩ = some (.pointer (some ⟨b, 0, none⟩))) (r : S45) (hn : r.f2.size ≤ maxLen) (at_ : Int) :
    Calls Try.prog 23 #[.int .i64 at_, .agg #[.int .i64 r.f0, .int .i64 r.f1, .string r.f2, .int .i64 r.f3], .pointer (some ⟨pb, 0, none⟩)] W fun e w' => e = .returned (.int .i64 (fitsF l r)) ∧ Below W.heap.size W w' := by
  have F := Aside0.mk (fits_c (H.alloc (.cells #[.int .i64 r.f0, .int .i64 r.f1, .string r.f2, .int .i64 r.f3] 45)) r hn)
  have hlt := World.block_lt_of_cell? W _ hp
  clear H
  go_enter Try.func23, Try.ntmps23
  go_wp2_with (first | (go_at_call 24; (with_reducible refine F.out.mono ?_); rintro e w1 ⟨rfl, hb⟩; have HB1 := Aside0.mk (below_in (below_alloc (Below.refl W.heap.size W) _) hb); clear hb))
  go_ret
  exact ⟨rfl, HB1.out⟩
end Go.Proofs.Yteaealmnmmcbpaa.M

/-
  Plain lemmas: numbers in groups of seven bits, numbers as bytes, texts made of numbers; no program in sight. No condition.
-/
namespace Go.Proofs.Yteaealmnmmcbpaa.Seven
open Go.RowKit Go.Proofs.Yteaealmnmmcbpaa.Num Go.Proofs.YteaealmnmmcbpaaW.PrintWords

/-- All of them are bytes. -/
def Bs (l : List Int) : Prop := ∀ x ∈ l, 0 ≤ x ∧ x < 256

theorem Bs.nil : Bs [] := fun _ h => by cases h
theorem Bs.cons {b : Int} {l : List Int} (h0 : 0 ≤ b) (h1 : b < 256) (h : Bs l) : Bs (b :: l) := by
  intro x hx
  rcases List.mem_cons.1 hx with rfl | hx
  · exact ⟨h0, h1⟩
  · exact h x hx
theorem Bs.append {a b : List Int} (ha : Bs a) (hb : Bs b) : Bs (a ++ b) := by
  intro x hx
  rcases List.mem_append.1 hx with hx | hx
  · exact ha x hx
  · exact hb x hx
theorem Bs.left {a b : List Int} (h : Bs (a ++ b)) : Bs a := fun x hx => h x (List.mem_append_left _ hx)
theorem Bs.drop {a : List Int} (h : Bs a) (n : Nat) : Bs (a.drop n) := fun x hx => h x (List.mem_of_mem_drop hx)
theorem Bs.take {a : List Int} (h : Bs a) (n : Nat) : Bs (a.take n) := fun x hx => h x (List.mem_of_mem_take hx)

theorem bytesOf_Bs (s : ByteArray) : Bs (bytesOf s) := by
  intro x hx
  obtain ⟨b, _, rfl⟩ := List.mem_map.1 hx
  have := b.toNat_lt
  omega

theorem ofNat_toNat {x : Int} (h0 : 0 ≤ x) (h1 : x < 256) : ((UInt8.ofNat x.toNat).toNat : Int) = x := by
  rw [UInt8.toNat_ofNat']
  omega

theorem bytesOf_str {l : List Int} (h : Bs l) : bytesOf (strOfNums l) = l := by
  unfold bytesOf
  rw [strOfNums_data, List.map_map]
  conv => rhs; rw [← List.map_id l]
  refine List.map_congr_left fun x hx => ?_
  exact ofNat_toNat (h x hx).1 (h x hx).2

theorem str_bytesOf (s : ByteArray) : strOfNums (bytesOf s) = s := by
  have h : (strOfNums (bytesOf s)).data.toList = s.data.toList := by
    rw [strOfNums_data, bytesOf, List.map_map]
    conv => rhs; rw [← List.map_id s.data.toList]
    refine List.map_congr_left fun x _ => ?_
    simp
  have h2 : (strOfNums (bytesOf s)).data = s.data := Array.toList_inj.1 h
  cases s
  cases hs : strOfNums (bytesOf _)
  rw [hs] at h2
  simp only at h2
  rw [h2]

theorem bytesOf_inj {s t : ByteArray} (h : bytesOf s = bytesOf t) : s = t := by
  rw [← str_bytesOf s, h, str_bytesOf]

theorem bytesOf_append (s t : ByteArray) : bytesOf (s ++ t) = bytesOf s ++ bytesOf t := by
  unfold bytesOf
  rw [ByteArray.data_append, Array.toList_append, List.map_append]

/-! ### groups of seven bits -/
/-! ### numbers as bytes, the lowest first -/
def leL : Int → Nat → List Int
  | _, 0 => []
  | n, s + 1 => n % 256 :: leL (n / 256) s
theorem leL_len (n : Int) (s : Nat) : (leL n s).length = s := by
  induction s generalizing n with
  | zero => rfl
  | succ s ih => simp [leL, ih]
theorem leL_bs (n : Int) (s : Nat) : Bs (leL n s) := by
  induction s generalizing n with
  | zero => exact Bs.nil
  | succ s ih => exact (ih _).cons (by omega) (by omega)
theorem leL_snoc (n : Int) (s : Nat) : leL n (s + 1) = leL n s ++ [n / 256 ^ s % 256] := by
  induction s generalizing n with
  | zero => simp [leL]
  | succ s ih =>
    rw [leL, ih (n / 256), leL]
    simp only [List.cons_append, List.cons.injEq, true_and, List.append_cancel_left_eq, and_true]
    rw [Int.pow_succ', Int.ediv_ediv_of_nonneg (by decide)]
theorem pow256_pos (s : Nat) : (0 : Int) < 256 ^ s := by
  have h1 : 0 < 256 ^ s := Nat.pow_pos (by decide)
  have h2 : ((256 ^ s : Nat) : Int) = (256 : Int) ^ s := by simp
  omega
theorem leL_mod (n : Int) (s t : Nat) (h : s ≤ t) : leL (n % 256 ^ t) s = leL n s := by
  induction s generalizing n t with
  | zero => rfl
  | succ s ih =>
    cases t with
    | zero => omega
    | succ t =>
      have hp := pow256_pos t
      simp only [leL]
      have e1 : n % 256 ^ (t + 1) % 256 = n % 256 := by
        rw [Int.pow_succ']
        exact Int.emod_emod_of_dvd n (Int.dvd_mul_right _ _)
      have e2 : n % 256 ^ (t + 1) / 256 = n / 256 % 256 ^ t := by
        rw [Int.pow_succ']
        generalize (256 : Int) ^ t = P at *
        have h1 := Int.emod_add_mul_ediv (n / 256) P
        have h2 := Int.emod_nonneg (n / 256) (show P ≠ 0 by omega)
        have h3 := Int.emod_lt_of_pos (n / 256) hp
        have h4 : n = 256 * (n / 256 % P) + n % 256 + 256 * P * (n / 256 / P) := by rw [Int.mul_assoc]; omega
        have h5 : n % (256 * P) = 256 * (n / 256 % P) + n % 256 := by
          conv => lhs; rw [h4]
          rw [Int.add_mul_emod_self_left]
          exact Int.emod_eq_of_lt (by omega) (by omega)
        rw [h5]
        omega
      rw [e1, e2, ih _ _ (by omega)]
theorem leL_mod' (n : Int) (s : Nat) (h : s ≤ 8) : leL (n % 18446744073709551616) s = leL n s := by
  have e8 : (256 : Int) ^ 8 = 18446744073709551616 := by decide
  rw [← e8]
  exact leL_mod n s 8 h
end Go.Proofs.Yteaealmnmmcbpaa.Seven

