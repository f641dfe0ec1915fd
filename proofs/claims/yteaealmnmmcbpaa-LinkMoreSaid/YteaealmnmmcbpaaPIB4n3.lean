/-
  Texts of the proofs of LinkMore, cut to what the proofs reach and packed by a program of this session (wip/packs.py). Each part begins with what it says; conditions: those told there.
-/
import Derived.Test.YteaealmnmmcbpaaPIB4n2
/-
  Layer 7: LinkMore says yes, plain. Condition: the objects' lengths are some machine's.
-/
namespace Go.Proofs.Yteaealmnmmcbpaa.M
open Go.RowKit Go.Proofs.YteaealmnmmcbpaaW.PrintWords Go.Proofs.YteaealmnmmcbpaaW.PrintLast Go.Proofs.Yteaealmnmmcbpaa.Num Go.Proofs.Yteaealmnmmcbpaa.Seven Go.Proofs.Yteaealmnmmcbpaa.Obj Go.Proofs.Yteaealmnmmcbpaa.Word1
set_option linter.unusedVariables false
set_option linter.unusedSimpArgs false
theorem layAll_append : ∀ (a b : List S40) (x : LkS), layAll x (a ++ b) = (layAll x a).bind fun y => layAll y b
  | [], b, x => rfl
  | o :: a, b, x => by
    rw [List.cons_append, layAll, layAll]
    cases layO x o with
    | none => rfl
    | some y => exact layAll_append a b y
theorem laySyms_pre : ∀ (ss : List S36) (x y : LkS), laySyms x ss = some y → ∃ t, y.syms = x.syms ++ t
  | [], x, y, h => by obtain rfl := Option.some.inj h; exact ⟨[], by simp⟩
  | s :: ss, x, y, h => by
    unfold laySyms at h
    split at h
    · cases h
    · obtain ⟨t, ht⟩ := laySyms_pre ss _ y h
      exact ⟨[layOne x s] ++ t, by rw [ht]; simp⟩
theorem layAll_pre : ∀ (os : List S40) (x y : LkS), layAll x os = some y → ∃ t, y.syms = x.syms ++ t
  | [], x, y, h => by obtain rfl := Option.some.inj h; exact ⟨[], by simp⟩
  | o :: os, x, y, h => by
    unfold layAll at h
    obtain ⟨z, hz, h⟩ := Option.bind_eq_some_iff.1 h
    unfold layO at hz
    obtain ⟨u, hu, rfl⟩ := Option.map_eq_some_iff.1 hz
    obtain ⟨t, ht⟩ := layAll_pre os _ y h
    obtain ⟨t', ht'⟩ := laySyms_pre _ _ _ hu
    exact ⟨t' ++ t, by rw [ht]; dsimp only; rw [ht', List.append_assoc]⟩
theorem relsAt_rel : ∀ (os : List S40) (p : Nat), ∀ q ∈ relsAt p os, q.2 ∈ os.flatMap (·.f3)
  | [], _, q, hq => by cases hq
  | o :: os, p, q, hq => by
    rw [relsAt] at hq
    rw [List.flatMap_cons]
    rcases List.mem_append.1 hq with hq | hq
    · obtain ⟨r, hr, rfl⟩ := List.mem_map.1 hq
      exact List.mem_append_left _ hr
    · exact List.mem_append_right _ (relsAt_rel os _ q hq)
theorem fillAll_append (l : List S36) : ∀ (a b : List (Nat × S45)) (code : List Int), fillAll l code (a ++ b) = (fillAll l code a).bind fun c => fillAll l c b
  | [], b, code => rfl
  | q :: a, b, code => by
    rw [List.cons_append, fillAll, fillAll]
    cases fillF l code q.1 q.2 with
    | none => rfl
    | some c => exact fillAll_append l a b c
theorem pokes_append : ∀ (us code z : List Int) (a : Nat), a + us.length ≤ code.length → pokes (code ++ z) a us = pokes code a us ++ z
  | [], code, z, a, _ => rfl
  | u :: us, code, z, a, h => by
    rw [List.length_cons] at h
    rw [pokes, pokes, List.set_append_left _ _ (by omega), pokes_append us _ z (a + 1) (by rw [List.length_set]; omega)]
/-- With more symbols and more code behind, the same places are filled in the same way. -/
theorem fillAll_pre {l t : List S36} {z : List Int} : ∀ (qs : List (Nat × S45)) (code c : List Int), (∀ q ∈ qs, ∃ s, (l.find? fun s => decide (s.f0 = q.2.f2)) = some s) → (∀ q ∈ qs, q.1 + 4 ≤ code.length) → fillAll l code qs = some c → fillAll (l ++ t) (code ++ z) qs = some (c ++ z)
  | [], code, c, _, _, h => by obtain rfl := Option.some.inj h; rfl
  | q :: qs, code, c, hs, hl, h => by
    rw [fillAll] at h ⊢
    obtain ⟨d, hd, h⟩ := Option.bind_eq_some_iff.1 h
    obtain ⟨s, hf⟩ := hs q (by simp)
    have e : fillN (l ++ t) q.1 q.2 = fillN l q.1 q.2 := by
      unfold fillN
      rw [List.find?_append, hf]
      rfl
    have hq := hl q (by simp)
    have e2 : fillF (l ++ t) (code ++ z) q.1 q.2 = some (d ++ z) := by
      unfold fillF at hd ⊢
      rw [e]
      split at hd
      · cases hd
      · rename_i hc
        rw [if_neg hc]
        obtain rfl := Option.some.inj hd
        rw [pokes_append _ _ _ _ (by rw [leL_len]; omega)]
    rw [e2]
    exact fillAll_pre qs d c (fun q hq => hs q (by simp [hq])) (fun q hq' => by rw [fillF_len hd]; exact hl q (by simp [hq'])) h
/-- What an object more changes: nothing of what stands ahead. -/
theorem more_plain {l0 : List S40} {o : S40} {x y : LkS} {c d : List Int} (G : Goes l0 x c) (G2 : Goes (l0 ++ [o]) y d) :
    d.length = c.length + o.f0.size ∧ d.take c.length = c ∧ y.data.take x.data.length = x.data ∧ y.syms.take x.syms.length = x.syms ∧ x.data.length ≤ y.data.length ∧ x.syms.length ≤ y.syms.length := by
  have hlay := G2.lay
  rw [layAll_append, G.lay, Option.bind_some] at hlay
  obtain ⟨t, ht⟩ := layAll_pre _ _ _ hlay
  obtain ⟨hc, hd⟩ := layAll_both _ _ _ hlay
  have hlen : x.code.length = codeLen l0 := by rw [G.code, codeAll_length]
  have hcl := G.clen
  have hf := G2.fill
  rw [relsAt_append, fillAll_append, ht, hc, fillAll_pre (relsAt 0 l0) x.code c (fun q hq => by
    obtain ⟨s, hs, _⟩ := fitsAll_yes G.fits q.2 (relsAt_rel _ _ q hq)
    exact ⟨s, hs⟩) (fun q hq => by
    have := relsAt_range l0 0 G.may q hq
    omega) G.fill, Option.bind_some] at hf
  have hfar : ∀ p, p < c.length → d[p]? = c[p]? := by
    intro p hp
    rw [(fillAll_far _ _ _ hf (fun q hq => by
      have := relsAt_range [o] (0 + codeLen l0) (fun z hz => G2.may z (by simp_all)) q hq
      omega)).1, List.getElem?_append_left hp]
  have hdl : d.length = c.length + o.f0.size := by rw [G2.clen, codeLen_append, hcl]; simp [codeLen]
  refine ⟨hdl, ?_, ?_, ?_, ?_, ?_⟩
  · apply List.ext_getElem?
    intro p
    rw [List.getElem?_take]
    split
    · rename_i hp; exact hfar p hp
    · rename_i hp; rw [List.getElem?_eq_none (by omega)]
  · rw [hd]; simp
  · rw [ht]; simp
  · rw [hd]; simp
  · rw [ht]; simp
theorem cut_str {c d : List Int} (hc : Bs c) (hd : Bs d) (h : d.take c.length = c) : (strOfNums d).extract 0 c.length = strOfNums c := by
  refine bytesOf_inj ?_
  rw [bytesOf_str hc]
  conv => rhs; rw [← h, ← bytesOf_str hd]
  unfold bytesOf
  rw [ByteArray.data_extract, Array.toList_extract, ← List.map_take]
  simp [List.extract]
theorem more_ok {l0 : List S40} {o : S40} {x y : LkS} {c d : List Int} (G : Goes l0 x c) (G2 : Goes (l0 ++ [o]) y d) :
    Ev fun k => LMo.j0 k false o.f0 o.f1 o.f2 o.f3 (strOfNums c) x.data x.syms (strOfNums d) y.data y.syms = some true := by
  obtain ⟨h1, h2, h3, h4, h5, h6⟩ := more_plain G G2
  have hr := G.room
  have hcl := G.clen
  have hlen : x.code.length = codeLen l0 := by rw [G.code, codeAll_length]
  have hr2 := G2.room
  have hcl2 := G2.clen
  have hlen2 : y.code.length = codeLen (l0 ++ [o]) := by rw [G2.code, codeAll_length]
  refine .step (((sameData_ev x.data (by omega)).and (sameSyms_ev x.syms (by omega))).mono fun k hk => ?_)
  have e1 : ((strOfNums d).size : Int) = wrap64 (((strOfNums c).size : Int) + (o.f0.size : Int)) := by
    rw [strOfNums_size, strOfNums_size, wrap64_id (by omega) (by omega)]; omega
  simp only [LMo.j0]
  rw [if_neg (by simp), if_pos e1, if_pos (by omega), if_pos (by rw [strOfNums_size, strOfNums_size]; omega), if_pos (by
    rw [Int.toNat_natCast, strOfNums_size, cut_str G.bs G2.bs h2]), if_pos (by omega), if_pos (by omega), Int.toNat_natCast, h3, hk.1]
  simp only [Option.bind_some, if_true]
  rw [if_pos (by omega), if_pos (by omega), Int.toNat_natCast, h4, hk.2]
  rfl
theorem more_live (b : Bool) (o0 : ByteArray) (o1 : List Int) (o2 : List S36) (o3 : List S45) (a c : ByteArray) (a1 c1 : List Int) (a2 c2 : List S36) : Ev fun k => LMo.j0 k true o0 o1 o2 o3 a a1 a2 c c1 c2 = some true :=
  .ge 0 fun k hk => by
    obtain ⟨k, rfl⟩ : ∃ m, k = m + 1 := ⟨k - 1, by omega⟩
    simp only [LMo.j0]
    rw [if_pos trivial, live_bind]
theorem link_val {l0 : List S40} {a : ByteArray} {d : List Int} {s : List S36} {e : Int} (h : linkF l0 = ((a, d, s), e)) : link_Link.f l0 = some (a, d, s, e) := by
  unfold link_Link.f
  rw [h]
theorem more_f {l0 : List S40} {o : S40} (hl : l0.length ≤ 1599289640399) (h : Lens (l0 ++ [o])) : ∃ k, LMo.f k l0 o.f0 o.f1 o.f2 o.f3 = some true := by
  obtain ⟨b, hb⟩ := small_ev h
  apply Ev.get
  have start : ∀ k, cotterlaw07_small.f k (l0 ++ [o]) = some b → LMo.f k l0 o.f0 o.f1 o.f2 o.f3 = if b = true then ((link_Link.f l0).bind fun bt349 => ((link_Link.f (l0 ++ [o])).bind fun bt358 => (if bt349.2.2.2 = 0 then (LMo.j0 k (bt358.2.2.2 != 0) o.f0 o.f1 o.f2 o.f3 bt349.1 bt349.2.1 bt349.2.2.1 bt358.1 bt358.2.1 bt358.2.2.1) else (LMo.j0 k true o.f0 o.f1 o.f2 o.f3 bt349.1 bt349.2.1 bt349.2.2.1 bt358.1 bt358.2.1 bt358.2.2.1)))) else some true := by
    intro k hk
    unfold LMo.f
    rw [if_pos (by rw [List.length_nil]; omega)]
    simp only [List.nil_append, Option.bind_some]
    rw [if_pos (by omega), hk]
    simp only [Option.bind_some, live_bind]
  cases b with
  | false => exact hb.mono fun k hk => by rw [start k hk, if_neg (by simp)]
  | true =>
    rcases link_cases l0 with ⟨x, c, G⟩ | ⟨e, he, hL⟩
    · rcases link_cases (l0 ++ [o]) with ⟨y, d, G2⟩ | ⟨e, he, hL⟩
      · refine (hb.and (more_ok G G2)).mono fun k hk => ?_
        rw [start k hk.1, if_pos rfl, link_val G.is, link_val G2.is]
        simp only [Option.bind_some]
        rw [if_pos trivial]
        exact hk.2
      · refine (hb.and (more_live true o.f0 o.f1 o.f2 o.f3 (strOfNums c) ⟨#[]⟩ x.data [] x.syms [])).mono fun k hk => ?_
        rw [start k hk.1, if_pos rfl, link_val G.is, link_val hL]
        simp only [Option.bind_some]
        rw [if_pos trivial, show (e != 0) = true by simpa using he]
        exact hk.2
    · cases hL2 : linkF (l0 ++ [o]) with
      | mk p e2 =>
        obtain ⟨p1, p2, p3⟩ := p
        refine (hb.and (more_live true o.f0 o.f1 o.f2 o.f3 ⟨#[]⟩ p1 [] p2 [] p3)).mono fun k hk => ?_
        rw [start k hk.1, if_pos rfl, link_val hL, link_val hL2]
        simp only [Option.bind_some]
        rw [if_neg he]
        exact hk.2
end Go.Proofs.Yteaealmnmmcbpaa.M

/-
  Layer 7: an argument that is an object, opened. Condition: its weights are within what a machine holds.
-/
namespace Go.Proofs.Yteaealmnmmcbpaa.M
open Go.RowKit Go.Proofs.YteaealmnmmcbpaaW.PrintWords Go.Proofs.Yteaealmnmmcbpaa.Num Go.Proofs.Yteaealmnmmcbpaa.Flat
open Go.ChangeShapes Go.WideShapes Go.Deep
set_option linter.unusedVariables false
theorem open_one {H : Type} {enc : TypeId × Value → H} {W : World} {spare : Nat → Bool} {held : Bool} {r : Reach} {b0 : Nat} {v : Value} {d : DataW H} {p : List MemPlace} (hv : Value.okWide Try.prog W r b0 40 v) (h : DataW.Trod enc Try.prog W 0 spare held 40 v d p)
    (hz : ∀ z ∈ d.weights Try.prog 40, z ≤ reachBytes) : ∃ (s : ByteArray) (A1 : Option Addr) (c1 : Nat) (l1 : List Int) (A2 : Option Addr) (c2 : Nat) (l2 : List S36) (A3 : Option Addr) (c3 : Nat) (l3 : List S45),
      v = .agg #[.string s, .slice A1 l1.length c1, .slice A2 l2.length c2, .slice A3 l3.length c3] ∧ Kd.C (Kd.int .i64) W A1 l1.length l1 ∧ l1.length ≤ c1 ∧ Kd.C k36 W A2 l2.length l2 ∧ l2.length ≤ c2 ∧ Kd.C k45 W A3 l3.length l3 ∧ l3.length ≤ c3 ∧
      l1.length * 8 ≤ 140737488351232 ∧ l2.length * 32 ≤ 140737488351232 ∧ l3.length * 40 ≤ 140737488351232 := by
  obtain ⟨v0, v1, v2, v3, y0, y1, y2, y3, n, rfl, rfl, _, h0, h1, h2, h3⟩ := Go.Joins.open_agg4 Try.underlying40 (by kernel_rfl) (by kernel_rfl) hv h
  obtain ⟨s, hs, _, _⟩ := DataW.trod_string Try.underlying9 h0
  obtain rfl : v0 = .string s := by simpa using hs
  have hw : ∀ z, z ∈ y1.1.weights Try.prog 26 ∨ z ∈ y2.1.weights Try.prog 27 ∨ z ∈ y3.1.weights Try.prog 38 → z ≤ reachBytes := by
    intro z hzz
    apply hz
    simp only [DataW.weights, Try.underlying40, DataW.weightsEach, List.map, List.mem_append]
    rcases hzz with h | h | h
    · exact .inr (.inl h)
    · exact .inr (.inr (.inl h))
    · exact .inr (.inr (.inr (.inl h)))
  obtain ⟨A1, c1, l1, rfl, k1, m1, q1, b1⟩ := open_rowG (k := Kd.int .i64) (Q := fun x _ => True) Try.underlying26 (e := 2) (by kernel_rfl) (fun n' cs z _ hz => by
    obtain ⟨v, vs, rfl, ⟨x, rfl, hx⟩, hr⟩ := (leaves_ok 1 2 [.int .i64] (by kernel_rfl) n' cs _ hz).cons
    obtain rfl := hr.nil
    exact ⟨x, rfl, trivial⟩) h1
  obtain ⟨A2, c2, l2, rfl, k2, m2, _, b2⟩ := open_rowG (k := k36) (Q := fun _ _ => True) Try.underlying27 (e := 36) (by kernel_rfl) (fun n' cs z _ hz => by
    obtain ⟨u0, vs0, rfl, ⟨x0, rfl, _⟩, hr0⟩ := (leaves_ok 2 36 [.str, .int .i64, .int .i64] (by kernel_rfl) n' cs _ hz).cons
    obtain ⟨u1, vs1, rfl, ⟨x1, rfl, _⟩, hr1⟩ := hr0.cons
    obtain ⟨u2, vs2, rfl, ⟨x2, rfl, _⟩, hr2⟩ := hr1.cons
    obtain rfl := hr2.nil
    exact ⟨⟨x0, x1, x2⟩, ⟨_, _, rfl, rfl, ⟨_, _, rfl, rfl, rfl⟩⟩, trivial⟩) h2
  obtain ⟨A3, c3, l3, rfl, k3, m3, _, b3⟩ := open_rowG (k := k45) (Q := fun _ _ => True) Try.underlying38 (e := 45) (by kernel_rfl) (fun n' cs z _ hz => by
    obtain ⟨u0, vs0, rfl, ⟨x0, rfl, _⟩, hr0⟩ := (leaves_ok 2 45 [.int .i64, .int .i64, .str, .int .i64] (by kernel_rfl) n' cs _ hz).cons
    obtain ⟨u1, vs1, rfl, ⟨x1, rfl, _⟩, hr1⟩ := hr0.cons
    obtain ⟨u2, vs2, rfl, ⟨x2, rfl, _⟩, hr2⟩ := hr1.cons
    obtain ⟨u3, vs3, rfl, ⟨x3, rfl, _⟩, hr3⟩ := hr2.cons
    obtain rfl := hr3.nil
    exact ⟨⟨x0, x1, x2, x3⟩, ⟨_, _, rfl, rfl, ⟨_, _, rfl, rfl, ⟨_, _, rfl, rfl, rfl⟩⟩⟩, trivial⟩) h3
  exact ⟨s, A1, c1, l1, A2, c2, l2, A3, c3, l3, rfl, k1, m1, k2, m2, k3, m3, b1 (fun z hzz => hw z (.inl hzz)), b2 (fun z hzz => hw z (.inr (.inl hzz))), b3 (fun z hzz => hw z (.inr (.inr hzz)))⟩
end Go.Proofs.Yteaealmnmmcbpaa.M

