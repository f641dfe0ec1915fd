/-
  Texts of the proofs of LinkNames, cut to what the proofs reach and packed by a program of this session (wip/packs.py). Each part begins with what it says; conditions: those told there.
-/
import Derived.Test.YteaealmnmmcbpaaPIB5n2
/-
  Layer 7: LinkNames says yes, plain: a name that nobody has, in another one's place, changes nothing else. Condition: the objects' lengths are some machine's.
-/
namespace Go.Proofs.Yteaealmnmmcbpaa.M
open Go.RowKit Go.Proofs.YteaealmnmmcbpaaW.PrintWords Go.Proofs.YteaealmnmmcbpaaW.PrintLast Go.Proofs.Yteaealmnmmcbpaa.Num Go.Proofs.Yteaealmnmmcbpaa.Seven Go.Proofs.Yteaealmnmmcbpaa.Obj Go.Proofs.Yteaealmnmmcbpaa.Word1
set_option linter.unusedVariables false
set_option linter.unusedSimpArgs false
section
variable (old new : ByteArray)
/-- The new name in the old one's place. -/
def ren (t : ByteArray) : ByteArray := if t = old then new else t
def renS (s : S36) : S36 := ⟨ren old new s.f0, s.f1, s.f2⟩
def renR (r : S45) : S45 := ⟨r.f0, r.f1, ren old new r.f2, r.f3⟩
def renO (o : S40) : S40 := ⟨o.f0, o.f1, o.f2.map (renS old new), o.f3.map (renR old new)⟩
def renX (x : LkS) : LkS := { x with syms := x.syms.map (renS old new) }
end
variable {old new : ByteArray}
theorem ren_inj {t u : ByteArray} (ht : t ≠ new) (hu : u ≠ new) : ren old new t = ren old new u ↔ t = u := by
  unfold ren
  by_cases h1 : t = old
  · by_cases h2 : u = old
    · rw [if_pos h1, if_pos h2, h1, h2]; exact ⟨fun _ => rfl, fun _ => rfl⟩
    · rw [if_pos h1, if_neg h2, h1]
      exact ⟨fun e => absurd e.symm hu, fun e => absurd e.symm h2⟩
  · by_cases h2 : u = old
    · rw [if_neg h1, if_pos h2, h2]
      exact ⟨fun e => absurd e ht, fun e => absurd e h1⟩
    · rw [if_neg h1, if_neg h2]
theorem any_mem {α : Type} {p q : α → Bool} : ∀ {l : List α}, (∀ x ∈ l, p x = q x) → l.any p = l.any q
  | [], _ => rfl
  | x :: l, h => by rw [List.any_cons, List.any_cons, h x (by simp), any_mem fun y hy => h y (by simp [hy])]
theorem all_mem {α : Type} {p q : α → Bool} : ∀ {l : List α}, (∀ x ∈ l, p x = q x) → l.all p = l.all q
  | [], _ => rfl
  | x :: l, h => by rw [List.all_cons, List.all_cons, h x (by simp), all_mem fun y hy => h y (by simp [hy])]
theorem find_mem {α : Type} {p q : α → Bool} : ∀ {l : List α}, (∀ x ∈ l, p x = q x) → l.find? p = l.find? q
  | [], _ => rfl
  | x :: l, h => by rw [List.find?_cons, List.find?_cons, h x (by simp), find_mem fun y hy => h y (by simp [hy])]
theorem laySyms_ren : ∀ (ss : List S36) (x : LkS), (∀ s ∈ x.syms, s.f0 ≠ new) → (∀ s ∈ ss, s.f0 ≠ new) → laySyms (renX old new x) (ss.map (renS old new)) = (laySyms x ss).map (renX old new)
  | [], x, _, _ => rfl
  | s :: ss, x, hx, hs => by
    rw [List.map_cons, laySyms, laySyms]
    have e : ((renX old new x).syms.any fun y => decide (y.f0 = (renS old new s).f0)) = x.syms.any fun y => decide (y.f0 = s.f0) := by
      unfold renX
      dsimp only
      rw [List.any_map]
      exact any_mem fun y hy => decide_eq_decide.2 (ren_inj (hx y hy) (hs s (by simp)))
    rw [e]
    split
    · rfl
    · refine Eq.trans ?_ (laySyms_ren ss _ ?_ fun s hs' => hs s (by simp [hs']))
      · unfold renX
        simp only [List.map_append, List.map_cons, List.map_nil]
        rfl
      · intro y hy
        dsimp only at hy
        rcases List.mem_append.1 hy with hy | hy
        · exact hx y hy
        · obtain rfl : y = layOne x s := by simpa using hy
          exact hs s (by simp)
theorem laySyms_has : ∀ (ss : List S36) (x y : LkS), laySyms x ss = some y → (∀ s ∈ x.syms, s.f0 ≠ new) → (∀ s ∈ ss, s.f0 ≠ new) → ∀ s ∈ y.syms, s.f0 ≠ new
  | [], x, y, h, hx, _ => by obtain rfl := Option.some.inj h; exact hx
  | s :: ss, x, y, h, hx, hs => by
    unfold laySyms at h
    split at h
    · cases h
    · refine laySyms_has ss _ y h ?_ fun s hs' => hs s (by simp [hs'])
      intro z hz
      dsimp only at hz
      rcases List.mem_append.1 hz with hz | hz
      · exact hx z hz
      · obtain rfl : z = layOne x s := by simpa using hz
        exact hs s (by simp)
theorem layO_ren {x : LkS} {o : S40} (hx : ∀ s ∈ x.syms, s.f0 ≠ new) (ho : ∀ s ∈ o.f2, s.f0 ≠ new) : layO (renX old new x) (renO old new o) = (layO x o).map (renX old new) := by
  unfold layO
  rw [show (renO old new o).f2 = o.f2.map (renS old new) from rfl, laySyms_ren _ _ hx ho]
  cases laySyms x o.f2 <;> rfl
theorem layAll_ren : ∀ (os : List S40) (x : LkS), (∀ s ∈ x.syms, s.f0 ≠ new) → (∀ o ∈ os, ∀ s ∈ o.f2, s.f0 ≠ new) → layAll (renX old new x) (os.map (renO old new)) = (layAll x os).map (renX old new)
  | [], x, _, _ => rfl
  | o :: os, x, hx, ho => by
    rw [List.map_cons, layAll, layAll, layO_ren hx (ho o (by simp))]
    cases h : layO x o with
    | none => rfl
    | some y =>
      simp only [Option.map_some, Option.bind_some]
      refine layAll_ren os y ?_ fun o ho' => ho o (by simp [ho'])
      unfold layO at h
      obtain ⟨z, hz, rfl⟩ := Option.map_eq_some_iff.1 h
      have := laySyms_has _ _ _ hz hx (ho o (by simp))
      exact this
theorem layAll_has : ∀ (os : List S40) (x y : LkS), layAll x os = some y → (∀ s ∈ x.syms, s.f0 ≠ new) → (∀ o ∈ os, ∀ s ∈ o.f2, s.f0 ≠ new) → ∀ s ∈ y.syms, s.f0 ≠ new
  | [], x, y, h, hx, _ => by obtain rfl := Option.some.inj h; exact hx
  | o :: os, x, y, h, hx, ho => by
    unfold layAll at h
    obtain ⟨z, hz, h⟩ := Option.bind_eq_some_iff.1 h
    unfold layO at hz
    obtain ⟨u, hu, rfl⟩ := Option.map_eq_some_iff.1 hz
    have g := laySyms_has _ _ _ hu hx (ho o (by simp))
    exact layAll_has os _ y h g fun o ho' => ho o (by simp [ho'])
theorem find_ren {l : List S36} (hl : ∀ s ∈ l, s.f0 ≠ new) {t : ByteArray} (ht : t ≠ new) : ((l.map (renS old new)).find? fun s => decide (s.f0 = ren old new t)) = (l.find? fun s => decide (s.f0 = t)).map (renS old new) := by
  rw [List.find?_map]
  congr 1
  exact find_mem fun y hy => decide_eq_decide.2 (ren_inj (hl y hy) ht)
theorem fitsF_ren {l : List S36} (hl : ∀ s ∈ l, s.f0 ≠ new) {r : S45} (hr : r.f2 ≠ new) : fitsF (l.map (renS old new)) (renR old new r) = fitsF l r := by
  unfold fitsF
  rw [show (renR old new r).f2 = ren old new r.f2 from rfl, find_ren hl hr]
  cases l.find? fun s => decide (s.f0 = r.f2) <;> rfl
theorem fitsAll_ren {l : List S36} (hl : ∀ s ∈ l, s.f0 ≠ new) : ∀ {rs : List S45}, (∀ r ∈ rs, r.f2 ≠ new) → fitsAll (l.map (renS old new)) (rs.map (renR old new)) = fitsAll l rs
  | [], _ => rfl
  | r :: rs, h => by
    rw [List.map_cons, fitsAll, fitsAll, fitsF_ren hl (h r (by simp)), fitsAll_ren hl fun r hr => h r (by simp [hr])]
theorem fillN_ren {l : List S36} (hl : ∀ s ∈ l, s.f0 ≠ new) {r : S45} (hr : r.f2 ≠ new) (p : Nat) : fillN (l.map (renS old new)) p (renR old new r) = fillN l p r := by
  unfold fillN
  rw [show (renR old new r).f2 = ren old new r.f2 from rfl, find_ren hl hr]
  cases l.find? fun s => decide (s.f0 = r.f2) <;> rfl
theorem fillAll_ren {l : List S36} (hl : ∀ s ∈ l, s.f0 ≠ new) : ∀ (qs : List (Nat × S45)) (code : List Int), (∀ q ∈ qs, q.2.f2 ≠ new) → fillAll (l.map (renS old new)) code (qs.map fun q => (q.1, renR old new q.2)) = fillAll l code qs
  | [], code, _ => rfl
  | q :: qs, code, h => by
    rw [List.map_cons, fillAll, fillAll]
    have e : fillF (l.map (renS old new)) code q.1 (renR old new q.2) = fillF l code q.1 q.2 := by
      unfold fillF
      rw [fillN_ren hl (h q (by simp))]
      rfl
    dsimp only
    rw [e]
    cases fillF l code q.1 q.2 with
    | none => rfl
    | some c => exact fillAll_ren hl qs c fun q hq => h q (by simp [hq])
theorem relsAt_ren : ∀ (os : List S40) (p : Nat), relsAt p (os.map (renO old new)) = (relsAt p os).map fun q => (q.1, renR old new q.2)
  | [], p => rfl
  | o :: os, p => by
    rw [List.map_cons, relsAt, relsAt, List.map_append, relsAt_ren os]
    congr 1
    unfold renO
    dsimp only
    rw [List.map_map, List.map_map]
    rfl
theorem rels_ren (os : List S40) : (os.map (renO old new)).flatMap (·.f3) = (os.flatMap (·.f3)).map (renR old new) := by
  induction os with
  | nil => rfl
  | cons o os ih => rw [List.map_cons, List.flatMap_cons, List.flatMap_cons, List.map_append, ih]; rfl
theorem relsAt_has : ∀ (os : List S40) (p : Nat), (∀ o ∈ os, ∀ r ∈ o.f3, r.f2 ≠ new) → ∀ q ∈ relsAt p os, q.2.f2 ≠ new
  | [], _, _, q, hq => by cases hq
  | o :: os, p, h, q, hq => by
    rw [relsAt] at hq
    rcases List.mem_append.1 hq with hq | hq
    · obtain ⟨r, hr, rfl⟩ := List.mem_map.1 hq
      exact h o (by simp) r hr
    · exact relsAt_has os _ (fun o ho => h o (by simp [ho])) q hq
/-! ### Whether an object may be -/
theorem distinct_map {α : Type} (f g : α → List UInt8) : ∀ (l : List α), (∀ a ∈ l, ∀ b ∈ l, f a = f b ↔ g a = g b) → distinct (l.map f) = distinct (l.map g)
  | [], _ => rfl
  | x :: l, h => by
    rw [List.map_cons, List.map_cons, distinct_cons, distinct_cons, distinct_map f g l fun a ha b hb => h a (by simp [ha]) b (by simp [hb])]
    congr 1
    have e : f x ∈ l.map f ↔ g x ∈ l.map g := by
      rw [List.mem_map, List.mem_map]
      exact ⟨fun ⟨a, ha, e⟩ => ⟨a, ha, (h a (by simp [ha]) x (by simp)).1 e⟩, fun ⟨a, ha, e⟩ => ⟨a, ha, (h a (by simp [ha]) x (by simp)).2 e⟩⟩
    by_cases hx : f x ∈ l.map f
    · rw [if_pos hx, if_pos (e.1 hx)]
    · rw [if_neg hx, if_neg (fun hy => hx (e.2 hy))]
theorem data_inj {s t : ByteArray} : s.data.toList = t.data.toList ↔ s = t :=
  ⟨fun h => by cases s; cases t; rw [ByteArray.mk.injEq]; exact Array.toList_inj.1 h, fun h => by rw [h]⟩
theorem named_ren (h1 : named old) (h2 : named new) (t : ByteArray) : named (ren old new t) ↔ named t := by
  unfold ren
  split
  · rename_i e; rw [e]; exact ⟨fun _ => h1, fun _ => h2⟩
  · exact Iff.rfl
theorem relsOk_ren (h1 : named old) (h2 : named new) (code : Int) : ∀ (rs : List S45) (free : Int), relsOk code free (rs.map (renR old new)) = relsOk code free rs
  | [], _ => rfl
  | r :: rs, free => by
    rw [List.map_cons, relsOk, relsOk, show (renR old new r).f0 = r.f0 from rfl, relsOk_ren h1 h2 code rs]
    congr 1
    refine decide_eq_decide.2 ?_
    unfold relGood
    rw [show (renR old new r).f2 = ren old new r.f2 from rfl, named_ren h1 h2]
    rfl
theorem may_ren (h1 : named old) (h2 : named new) {o : S40} (ho : ∀ s ∈ o.f2, s.f0 ≠ new) : mayO (renO old new o) = mayO o := by
  unfold mayO may renO
  dsimp only
  rw [relsOk_ren h1 h2, List.length_map]
  congr 3
  unfold symsOk
  rw [List.length_map, List.all_map]
  have e1 : (o.f2.all (symGood o.f0.size o.f1.length ∘ renS old new)) = o.f2.all (symGood o.f0.size o.f1.length) := all_mem fun s _ => by
    have e := named_ren h1 h2 s.f0
    unfold named at e
    show symGood _ _ (renS old new s) = symGood _ _ s
    unfold symGood
    rw [Bool.eq_iff_iff]
    simp only [Bool.and_eq_true, decide_eq_true_eq]
    exact and_congr (and_congr (and_congr Iff.rfl e) Iff.rfl) Iff.rfl
  have e2 : distinct (symNames (o.f2.map (renS old new))) = distinct (symNames o.f2) := by
    unfold symNames
    rw [List.map_map, ← List.map_reverse, ← List.map_reverse]
    refine distinct_map _ _ _ fun a ha b hb => ?_
    simp only [Function.comp, renS]
    rw [data_inj, data_inj, ren_inj (ho a (by simpa using ha)) (ho b (by simpa using hb))]
  rw [e1, e2]
/-! ### The link -/
theorem linkE_ren (e : Int) : linkE e = (((linkE e).1.1, (linkE e).1.2.1, (linkE e).1.2.2.map (renS old new)), (linkE e).2) := rfl
theorem linkL_ren {os : List S40} {x : LkS} (hx : ∀ s ∈ x.syms, s.f0 ≠ new) (hr : ∀ o ∈ os, ∀ r ∈ o.f3, r.f2 ≠ new) :
    linkL (os.map (renO old new)) (renX old new x) = (((linkL os x).1.1, (linkL os x).1.2.1, (linkL os x).1.2.2.map (renS old new)), (linkL os x).2) := by
  unfold linkL
  rw [rels_ren, show (renX old new x).syms = x.syms.map (renS old new) from rfl, fitsAll_ren hx (fun r h => by
    obtain ⟨o, ho, h⟩ := List.mem_flatMap.1 h
    exact hr o ho r h), List.length_map, relsAt_ren, fillAll_ren hx _ _ (relsAt_has os 0 hr)]
  split
  · exact linkE_ren _
  · rw [show (renX old new x).code = x.code from rfl, show (renX old new x).data = x.data from rfl, show (renX old new x).th = x.th from rfl]
    split
    · exact linkE_ren _
    · cases fillAll x.syms x.code (relsAt 0 os) with
      | none => exact linkE_ren _
      | some c => rfl
theorem linkF_ren (h1 : named old) (h2 : named new) {os : List S40} (hs : ∀ o ∈ os, ∀ s ∈ o.f2, s.f0 ≠ new) (hr : ∀ o ∈ os, ∀ r ∈ o.f3, r.f2 ≠ new) :
    linkF (os.map (renO old new)) = (((linkF os).1.1, (linkF os).1.2.1, (linkF os).1.2.2.map (renS old new)), (linkF os).2) := by
  unfold linkF
  rw [List.length_map, List.all_map, show (os.all (mayO ∘ renO old new)) = os.all mayO from all_mem fun o ho => may_ren h1 h2 (hs o ho)]
  split
  · exact linkE_ren _
  · split
    · exact linkE_ren _
    · have e := layAll_ren (old := old) os LkS.empty (by simp [LkS.empty]) hs
      rw [show renX old new LkS.empty = LkS.empty from rfl] at e
      rw [e]
      cases h : layAll LkS.empty os with
      | none => exact linkE_ren _
      | some x => exact linkL_ren (layAll_has _ _ _ h (by simp [LkS.empty]) hs) hr
/-! ### The loops -/
theorem small_few {k : Nat} {l0 : List S40} (h : cotterlaw07_small.f k l0 = some true) : l0.length ≤ 20 := by
  unfold cotterlaw07_small.f at h
  split at h
  · cases h
  · omega
def Fits7 (o : S40) : Prop := o.f1.length * 8 ≤ 140737488351232 ∧ o.f2.length * 32 ≤ 140737488351232 ∧ o.f3.length * 40 ≤ 140737488351232
theorem copies_ev {l0 : List S40} (h20 : l0.length ≤ 20) (h : ∀ o ∈ l0, Fits7 o) : Ev fun k => cotterlaw07_copies.f k l0 = some l0 := by
  have key : ∀ (d i : Nat), l0.length - i = d → i ≤ l0.length → Ev fun k => cotterlaw07_copies.l0 k l0 (l0.take i) i = some l0 := by
    intro d
    induction d with
    | zero =>
      intro i hd hi
      refine .step (.of fun k => ?_)
      simp only [cotterlaw07_copies.l0]
      rw [if_neg (by omega), List.take_of_length_le (by omega)]
    | succ d ih =>
      intro i hd hi
      have hlt : i < l0.length := by omega
      have ho := h _ (List.getElem_mem hlt)
      unfold Fits7 at ho
      refine .step ((ih (i + 1) (by omega) (by omega)).mono fun k hk => ?_)
      simp only [cotterlaw07_copies.l0]
      rw [if_pos (by omega), if_pos (by omega), rd_SO hlt]
      unfold cotterref06_Copy.f
      rw [if_pos (by rw [List.length_nil]; omega), if_pos (by rw [List.length_nil]; omega), if_pos (by rw [List.length_nil]; omega)]
      simp only [Option.bind_some, List.nil_append]
      rw [if_pos (by rw [List.length_take]; omega), wrap64_id (by omega) (by omega), show ((i : Int) + 1) = ((i + 1 : Nat) : Int) by omega]
      rw [List.take_succ_eq_append_getElem hlt] at hk
      exact hk
  exact (key l0.length 0 (by omega) (by omega)).mono fun k hk => by
    unfold cotterlaw07_copies.f
    exact hk
section
variable {L : List S40} {a1 a2 : ByteArray}
theorem rd_mid {A B : List S40} {y : S40} : rd_T40 (A ++ y :: B) (A.length : Int) = y := by simp [rd_T40, List.getD_eq_getElem?_getD]
theorem rd_mid2 {A B : List S36} {y : S36} : rd_T36 (A ++ y :: B) (A.length : Int) = y := by simp [rd_T36, List.getD_eq_getElem?_getD]
theorem rd_mid3 {A B : List S45} {y : S45} : rd_T45 (A ++ y :: B) (A.length : Int) = y := by simp [rd_T45, List.getD_eq_getElem?_getD]
theorem set_mid {α : Type} {A B : List α} {y z : α} : (A ++ y :: B).set A.length z = A ++ z :: B := by rw [List.set_append_right _ _ (Nat.le_refl _), Nat.sub_self, List.set_cons_zero]
theorem names_l1 {A B : List S40} {c : ByteArray} {d : List Int} {R : List S45} : ∀ (Q P : List S36), P.length + Q.length ≤ 35184372088832 →
    ((∀ s ∈ Q, s.f0 ≠ a2) → Ev fun k => LNa.l2 k L a1 a2 (A ++ ⟨c, d, P ++ Q.map (renS a1 a2), R⟩ :: B) A.length 0 = some true) →
    Ev fun k => LNa.l1 k L a1 a2 (A ++ ⟨c, d, P ++ Q, R⟩ :: B) A.length P.length = some true
  | [], P, hl, hnext => by
    refine .step ((hnext (by simp)).mono fun k hk => ?_)
    simp only [LNa.l1]
    rw [if_pos (by omega), if_pos (by simp only [List.length_append, List.length_cons]; omega), rd_mid, if_neg (by simp)]
    exact hk
  | s :: Q, P, hl, hnext => by
    rw [List.length_cons] at hl
    have ew : wrap64 ((P.length : Int) + 1) = ((P ++ [renS a1 a2 s]).length : Int) := by rw [wrap64_id (by omega) (by omega)]; simp
    have e0 : ∀ k, LNa.l1 (k + 1) L a1 a2 (A ++ ⟨c, d, P ++ s :: Q, R⟩ :: B) A.length P.length = if s.f0.toList = a2.toList then some true else if s.f0.toList = a1.toList then LNa.l1 k L a1 a2 (A ++ ⟨c, d, P ++ ⟨a2, s.f1, s.f2⟩ :: Q, R⟩ :: B) A.length (wrap64 ((P.length : Int) + 1)) else LNa.l1 k L a1 a2 (A ++ ⟨c, d, P ++ s :: Q, R⟩ :: B) A.length (wrap64 ((P.length : Int) + 1)) := by
      intro k
      simp only [LNa.l1]
      rw [if_pos (by omega), if_pos (by simp only [List.length_append, List.length_cons]; omega), rd_mid, if_pos (by simp only [List.length_append, List.length_cons]; omega), if_pos (by omega), rd_mid2, live_bind]
      simp only [Int.toNat_natCast, set_mid]
    by_cases hn : s.f0 = a2
    · exact .step (.of fun k => by rw [e0, if_pos (by rw [hn])])
    · have ih := names_l1 (A := A) (B := B) (c := c) (d := d) (R := R) Q (P ++ [renS a1 a2 s]) (by simp only [List.length_append, List.length_cons, List.length_nil]; omega) (fun hq => by
        have := hnext (by
          intro t ht
          rcases List.mem_cons.1 ht with rfl | ht
          · exact hn
          · exact hq t ht)
        rw [List.append_assoc]
        exact this)
      refine .step (ih.mono fun k hk => ?_)
      rw [e0, if_neg (fun e => hn (toList_inj e)), ew]
      rw [List.append_assoc] at hk
      by_cases ho : s.f0 = a1
      · rw [if_pos (by rw [ho])]
        rw [show renS a1 a2 s = ⟨a2, s.f1, s.f2⟩ by unfold renS ren; rw [if_pos ho]] at hk ⊢
        exact hk
      · rw [if_neg (fun e => ho (toList_inj e))]
        rw [show renS a1 a2 s = s by unfold renS ren; rw [if_neg ho]] at hk ⊢
        exact hk
theorem names_l2 {A B : List S40} {c : ByteArray} {d : List Int} {S : List S36} : ∀ (Q P : List S45), P.length + Q.length ≤ 35184372088832 →
    ((∀ r ∈ Q, r.f2 ≠ a2) → Ev fun k => LNa.l0 k L a1 a2 (A ++ ⟨c, d, S, P ++ Q.map (renR a1 a2)⟩ :: B) (wrap64 ((A.length : Int) + 1)) = some true) →
    Ev fun k => LNa.l2 k L a1 a2 (A ++ ⟨c, d, S, P ++ Q⟩ :: B) A.length P.length = some true
  | [], P, hl, hnext => by
    refine .step ((hnext (by simp)).mono fun k hk => ?_)
    simp only [LNa.l2]
    rw [if_pos (by omega), if_pos (by simp only [List.length_append, List.length_cons]; omega), rd_mid, if_neg (by simp)]
    exact hk
  | s :: Q, P, hl, hnext => by
    rw [List.length_cons] at hl
    have ew : wrap64 ((P.length : Int) + 1) = ((P ++ [renR a1 a2 s]).length : Int) := by rw [wrap64_id (by omega) (by omega)]; simp
    have e0 : ∀ k, LNa.l2 (k + 1) L a1 a2 (A ++ ⟨c, d, S, P ++ s :: Q⟩ :: B) A.length P.length = if s.f2.toList = a2.toList then some true else if s.f2.toList = a1.toList then LNa.l2 k L a1 a2 (A ++ ⟨c, d, S, P ++ ⟨s.f0, s.f1, a2, s.f3⟩ :: Q⟩ :: B) A.length (wrap64 ((P.length : Int) + 1)) else LNa.l2 k L a1 a2 (A ++ ⟨c, d, S, P ++ s :: Q⟩ :: B) A.length (wrap64 ((P.length : Int) + 1)) := by
      intro k
      simp only [LNa.l2]
      rw [if_pos (by omega), if_pos (by simp only [List.length_append, List.length_cons]; omega), rd_mid, if_pos (by simp only [List.length_append, List.length_cons]; omega), if_pos (by omega), rd_mid3, live_bind]
      simp only [Int.toNat_natCast, set_mid]
    by_cases hn : s.f2 = a2
    · exact .step (.of fun k => by rw [e0, if_pos (by rw [hn])])
    · have ih := names_l2 (A := A) (B := B) (c := c) (d := d) (S := S) Q (P ++ [renR a1 a2 s]) (by simp only [List.length_append, List.length_cons, List.length_nil]; omega) (fun hq => by
        have := hnext (by
          intro t ht
          rcases List.mem_cons.1 ht with rfl | ht
          · exact hn
          · exact hq t ht)
        rw [List.append_assoc]
        exact this)
      refine .step (ih.mono fun k hk => ?_)
      rw [e0, if_neg (fun e => hn (toList_inj e)), ew]
      rw [List.append_assoc] at hk
      by_cases ho : s.f2 = a1
      · rw [if_pos (by rw [ho])]
        rw [show renR a1 a2 s = ⟨s.f0, s.f1, a2, s.f3⟩ by unfold renR ren; rw [if_pos ho]] at hk ⊢
        exact hk
      · rw [if_neg (fun e => ho (toList_inj e))]
        rw [show renR a1 a2 s = s by unfold renR ren; rw [if_neg ho]] at hk ⊢
        exact hk
theorem names_l0 : ∀ (B A : List S40), A.length + B.length ≤ 20 → (∀ o ∈ B, Fits7 o) →
    ((∀ o ∈ B, (∀ s ∈ o.f2, s.f0 ≠ a2) ∧ ∀ r ∈ o.f3, r.f2 ≠ a2) → Ev fun k => LNa.l0 k L a1 a2 (A ++ B.map (renO a1 a2)) ((A.length + B.length : Nat) : Int) = some true) →
    Ev fun k => LNa.l0 k L a1 a2 (A ++ B) A.length = some true
  | [], A, hl, hf, hend => by
    have := hend (by simp)
    simpa using this
  | o :: B, A, hl, hf, hend => by
    rw [List.length_cons] at hl
    have ho := hf o (by simp)
    unfold Fits7 at ho
    have h2 := names_l1 (L := L) (a1 := a1) (a2 := a2) (A := A) (B := B) (c := o.f0) (d := o.f1) (R := o.f3) o.f2 [] (by rw [List.length_nil]; omega) (fun hs => by
      refine names_l2 (S := [] ++ o.f2.map (renS a1 a2)) o.f3 [] (by rw [List.length_nil]; omega) (fun hr => ?_)
      have ih := names_l0 B (A ++ [renO a1 a2 o]) (by simp only [List.length_append, List.length_cons, List.length_nil]; omega) (fun o ho => hf o (by simp [ho])) (fun hb => by
        have := hend (by
          intro z hz
          rcases List.mem_cons.1 hz with rfl | hz
          · exact ⟨hs, hr⟩
          · exact hb z hz)
        rw [List.append_assoc, List.length_append, show A.length + [renO a1 a2 o].length + B.length = A.length + (o :: B).length by simp only [List.length_cons, List.length_nil]; omega]
        exact this)
      have ew : wrap64 ((A.length : Int) + 1) = ((A ++ [renO a1 a2 o]).length : Int) := by rw [wrap64_id (by omega) (by omega)]; simp
      rw [ew]
      rw [List.append_assoc] at ih
      exact ih)
    refine .step (h2.mono fun k hk => ?_)
    simp only [LNa.l0]
    rw [if_pos (by simp only [List.length_append, List.length_cons]; omega)]
    exact hk
theorem names_l3 {ca cb : ByteArray} {da db : List Int} {s : List S36} (hl : s.length ≤ 1000) : ∀ (d i : Nat), s.length - i = d → i ≤ s.length → Ev fun k => LNa.l3 k a1 i ca da s cb db (s.map (renS a1 a2)) = some true := by
  have hrd : ∀ (l : List S36) (q : Nat) (hq : q < l.length), rd_T36 l (q : Int) = l[q] := fun l q hq => by simp [rd_T36, List.getD_eq_getElem?_getD, List.getElem?_eq_getElem hq]
  intro d
  induction d with
  | zero =>
    intro i hd hi
    refine .step (.of fun k => ?_)
    simp only [LNa.l3]
    rw [if_neg (by omega), live_bind]
  | succ d ih =>
    intro i hd hi
    have hlt : i < s.length := by omega
    have hlt2 : i < (s.map (renS a1 a2)).length := by rw [List.length_map]; exact hlt
    have ew : wrap64 ((i : Int) + 1) = ((i + 1 : Nat) : Int) := by rw [wrap64_id (by omega) (by omega)]; omega
    refine .step ((ih (i + 1) (by omega) (by omega)).mono fun k hk => ?_)
    simp only [LNa.l3]
    rw [if_pos (by omega), if_pos (by omega), if_pos (by omega), hrd s i hlt, hrd _ i hlt2, List.getElem_map, ew]
    rw [if_pos (by rfl), if_pos (by rfl)]
    by_cases ho : (s[i]).f0 = a1
    · rw [if_pos (show (s[i]).f0.toList = a1.toList by rw [ho])]
      split <;> exact hk
    · rw [if_pos (by unfold renS ren; rw [if_neg ho])]
      exact hk
/-- The end: both links. -/
theorem names_end (h1 : named a1) (h2 : named a2) (h20 : L.length ≤ 20) (hs : ∀ o ∈ L, (∀ s ∈ o.f2, s.f0 ≠ a2) ∧ ∀ r ∈ o.f3, r.f2 ≠ a2) : Ev fun k => LNa.l0 k L a1 a2 (L.map (renO a1 a2)) (L.length : Int) = some true := by
  have e := linkF_ren h1 h2 (fun o ho => (hs o ho).1) (fun o ho => (hs o ho).2)
  have key : ∀ a d s e, linkF L = ((a, d, s), e) → d.length ≤ 4096 → s.length ≤ 1000 → Ev fun k => LNa.l0 k L a1 a2 (L.map (renO a1 a2)) (L.length : Int) = some true := by
    intro a d s e' h hd hl
    rw [h] at e
    have v1 : link_Link.f L = some (a, d, s, e') := by unfold link_Link.f; rw [h]
    have v2 : link_Link.f (L.map (renO a1 a2)) = some (a, d, s.map (renS a1 a2), e') := by unfold link_Link.f; rw [e]
    have j4 : Ev fun k => LNa.j4 k a1 false a d s a d (s.map (renS a1 a2)) = some true := .step ((names_l3 hl s.length 0 (by omega) (by omega)).mono fun k hk => by
      simp only [LNa.j4]
      rw [if_neg (by simp)]
      exact hk)
    refine .step ((j4.and (sameData_ev d (by omega))).mono fun k hk => ?_)
    simp only [LNa.l0]
    rw [if_neg (by rw [List.length_map]; omega), if_neg (by unfold named at h1; omega), v1, v2]
    simp only [Option.bind_some]
    rw [if_pos trivial, if_pos trivial, hk.2]
    simp only [Option.bind_some]
    rw [if_pos trivial, List.length_map, show ((s.length : Int) != (s.length : Int)) = false by simp]
    exact hk.1
  rcases link_cases L with ⟨x, c, G⟩ | ⟨e, he, hL⟩
  · exact key _ _ _ _ G.is G.room.2.1 G.room.2.2.1
  · exact key _ _ _ _ hL (by simp) (by simp)
theorem names_l0_long (h : (a1.size : Int) > 28) (x7 : List S40) : Ev fun k => LNa.l0 k L a1 a2 x7 (x7.length : Int) = some true := .step (.of fun k => by
  simp only [LNa.l0]
  rw [if_neg (by omega), if_pos h, live_bind])
end
theorem size_list (s : ByteArray) : s.toList.length = s.size := by rw [ByteArray.toList_eq]; rfl
theorem names_f {l0 : List S40} {a1 a2 : ByteArray} (h : Lens l0) (hf : ∀ o ∈ l0, Fits7 o) : ∃ k, LNa.f k l0 a1 a2 = some true := by
  obtain ⟨b, hb⟩ := small_ev h
  apply Ev.get
  have stop : Ev fun k => LNa.j0 k l0 a1 a2 true = some true := .step (.of fun k => by
    simp only [LNa.j0]
    rw [if_pos trivial, live_bind])
  cases b with
  | false =>
    refine (hb.and stop).mono fun k hk => ?_
    unfold LNa.f
    rw [hk.1]
    simp only [Option.bind_some]
    rw [if_neg (by simp)]
    exact hk.2
  | true =>
    obtain ⟨k0, hk0⟩ := hb.get
    have h20 := small_few hk0
    by_cases e1 : a2.toList = ([] : List UInt8)
    · refine (hb.and stop).mono fun k hk => ?_
      unfold LNa.f
      rw [hk.1]
      simp only [Option.bind_some]
      rw [if_pos trivial, if_pos e1]
      exact hk.2
    by_cases e2 : (a2.size : Int) > 28
    · refine (hb.and stop).mono fun k hk => ?_
      unfold LNa.f
      rw [hk.1]
      simp only [Option.bind_some]
      rw [if_pos trivial, if_neg e1, if_pos e2]
      exact hk.2
    by_cases e3 : a1.toList = ([] : List UInt8)
    · refine (hb.and stop).mono fun k hk => ?_
      unfold LNa.f
      rw [hk.1]
      simp only [Option.bind_some]
      rw [if_pos trivial, if_neg e1, if_neg e2, e3]
      exact hk.2
    have p2 : 0 < a2.size := by rw [← size_list]; exact List.length_pos_iff.2 e1
    have p1 : 0 < a1.size := by rw [← size_list]; exact List.length_pos_iff.2 e3
    have go : Ev fun k => LNa.l0 k l0 a1 a2 l0 0 = some true := by
      have := names_l0 (L := l0) (a1 := a1) (a2 := a2) l0 [] (by rw [List.length_nil]; omega) hf (fun hs => by
        rw [List.nil_append, List.length_nil, Nat.zero_add]
        by_cases hlong : (a1.size : Int) > 28
        · have := names_l0_long (L := l0) (a2 := a2) hlong (l0.map (renO a1 a2))
          rwa [List.length_map] at this
        · exact names_end ⟨p1, by omega⟩ ⟨p2, by omega⟩ h20 hs)
      simpa using this
    have j0 : Ev fun k => LNa.j0 k l0 a1 a2 false = some true := .step ((go.and (copies_ev h20 hf)).mono fun k hk => by
      simp only [LNa.j0]
      rw [if_neg (by simp), hk.2]
      simp only [Option.bind_some]
      exact hk.1)
    refine (hb.and j0).mono fun k hk => ?_
    unfold LNa.f
    rw [hk.1]
    simp only [Option.bind_some]
    rw [if_pos trivial, if_neg e1, if_neg e2, show (a1.toList == ([] : List UInt8)) = false from beq_eq_false_iff_ne.2 e3]
    exact hk.2
end Go.Proofs.Yteaealmnmmcbpaa.M

