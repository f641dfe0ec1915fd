/-
  Texts of the proofs of LinkOrder, cut to what the proofs reach and packed by a program of this session (wip/packs.py). Each part begins with what it says; conditions: those told there.
-/
import Derived.Test.YteaealmnmmcbpaaPIB3n2
/-
  Layer 7: LinkOrder says yes, plain: whether objects go together hangs on no order. Condition: the objects' lengths are some machine's.
-/
namespace Go.Proofs.Yteaealmnmmcbpaa.M
open Go.RowKit Go.Proofs.YteaealmnmmcbpaaW.PrintWords Go.Proofs.YteaealmnmmcbpaaW.PrintLast Go.Proofs.Yteaealmnmmcbpaa.Num Go.Proofs.Yteaealmnmmcbpaa.Seven Go.Proofs.Yteaealmnmmcbpaa.Obj Go.Proofs.Yteaealmnmmcbpaa.Word1
set_option linter.unusedVariables false
set_option linter.unusedSimpArgs false
theorem kinds_flat : ∀ os : List S40, kinds os = os.flatMap fun o => o.f2.map fun s => (s.f0, s.f1)
  | [] => rfl
  | o :: os => by rw [kinds, List.flatMap_cons, kinds_flat os]
theorem kinds_perm {a b : List S40} (h : a.Perm b) : (kinds a).Perm (kinds b) := by
  rw [kinds_flat, kinds_flat]
  exact h.flatMap_right _
theorem Can.perm {a b : List S40} (h : a.Perm b) (C : Can a) : Can b where
  few := by rw [← h.length_eq]; exact C.few
  may := fun o ho => C.may o (h.mem_iff.2 ho)
  names := (((kinds_perm h).map _).nodup_iff).1 C.names
  fits := fun r hr => by
    obtain ⟨p, hp, g⟩ := C.fits r ((h.flatMap_right _).mem_iff.2 hr)
    exact ⟨p, (kinds_perm h).mem_iff.1 hp, g⟩
  room := by
    have h1 := (h.flatMap_right fun o => bytesOf o.f0).length_eq
    have h2 := (h.flatMap_right (·.f1)).length_eq
    have h3 := (kinds_perm h).length_eq
    have h4 := (kinds_perm h).countP_eq fun p => decide (p.2 = 3)
    have := C.room
    unfold codeAll dataAll ths at this ⊢
    rw [← h1, ← h2, ← h3, ← h4]
    exact this
theorem Goes.can {l0 : List S40} {x : LkS} {c : List Int} (G : Goes l0 x c) : Can l0 where
  few := G.few
  may := G.may
  names := by rw [← G.kinds.1, pairs_names]; exact G.nodup
  fits := fun r hr => by
    obtain ⟨s, hs, hk⟩ := fitsAll_yes G.fits r hr
    refine ⟨(s.f0, s.f1), ?_, ?_, hk⟩
    · rw [← G.kinds.1]; exact List.mem_map.2 ⟨s, List.mem_of_find?_eq_some hs, rfl⟩
    · have := List.find?_some hs; exact of_decide_eq_true this
  room := by
    have h1 := G.kinds
    have h2 := G.room
    have h3 : x.syms.length = (M.kinds l0).length := by rw [← h1.1]; simp [pairs]
    rw [← G.code, ← G.data, ← h3]
    have := h1.2
    exact ⟨h2.1, h2.2.1, h2.2.2.1, by omega, by omega⟩
/-! ### The loops -/
theorem small_le {k : Nat} {l0 : List S40} (h : cotterlaw07_small.f k l0 = some true) : l0.length ≤ 20 := by
  unfold cotterlaw07_small.f at h
  split at h
  · cases h
  · omega
section
variable {ca cb : ByteArray} {da db : List Int} {sa sb : List S36}
theorem order_l1 (hb : sb.length ≤ 1000) {i : Nat} (hi : i < sa.length) (hnext : Ev fun k => cotterlaw07_LinkOrder.l0 k (wrap64 ((i : Int) + 1)) ca da sa cb db sb = some true) :
    ∀ (d j : Nat) (b : Bool), sb.length - j = d → j ≤ sb.length → (b = true ∨ ∃ m, j ≤ m ∧ ∃ hm : m < sb.length, (sb[m]).f0 = (sa[i]).f0 ∧ (sb[m]).f1 = (sa[i]).f1) →
      Ev fun k => cotterlaw07_LinkOrder.l1 k i b j ca da sa cb db sb = some true := by
  intro d
  induction d with
  | zero =>
    intro j b hd hj h
    refine .step (hnext.mono fun k hk => ?_)
    have hbt : b = true := by
      rcases h with h | ⟨m, h1, h2, _⟩
      · exact h
      · omega
    simp only [cotterlaw07_LinkOrder.l1]
    rw [if_neg (by omega), if_pos hbt]
    exact hk
  | succ d ih =>
    intro j b hd hj h
    have ew : wrap64 ((j : Int) + 1) = ((j + 1 : Nat) : Int) := by rw [wrap64_id (by omega) (by omega)]; omega
    by_cases hbt : b = true
    · refine .step ((ih (j + 1) true (by omega) (by omega) (.inl rfl)).mono fun k hk => ?_)
      simp only [cotterlaw07_LinkOrder.l1]
      rw [if_pos (by omega), if_pos hbt, ew]
      exact hk
    · have hj' : j < sb.length := by omega
      obtain ⟨m, h1, h2, h3, h4⟩ := h.resolve_left hbt
      have hrd : ∀ (l : List S36) (q : Nat) (hq : q < l.length), rd_T36 l (q : Int) = l[q] := fun l q hq => by simp [rd_T36, List.getD_eq_getElem?_getD, List.getElem?_eq_getElem hq]
      by_cases hn : (sb[j]).f0 = (sa[i]).f0
      · by_cases hk1 : (sb[j]).f1 = (sa[i]).f1
        · refine .step ((ih (j + 1) true (by omega) (by omega) (.inl rfl)).mono fun k hk => ?_)
          simp only [cotterlaw07_LinkOrder.l1]
          rw [if_pos (by omega), if_neg hbt, if_pos (by omega), if_pos (by omega), if_pos (by omega), hrd sb j hj', hrd sa i hi, if_pos (by rw [hn]), ew, hk1, beq_self_eq_true]
          exact hk
        · refine .step ((ih (j + 1) false (by omega) (by omega) (.inr ⟨m, ?_, h2, h3, h4⟩)).mono fun k hk => ?_)
          · rcases Nat.lt_or_ge j m with h | h
            · exact h
            · obtain rfl : m = j := by omega
              exact absurd h4 hk1
          simp only [cotterlaw07_LinkOrder.l1]
          rw [if_pos (by omega), if_neg hbt, if_pos (by omega), if_pos (by omega), if_pos (by omega), hrd sb j hj', hrd sa i hi, if_pos (by rw [hn]), ew, beq_eq_false_iff_ne.2 hk1]
          exact hk
      · refine .step ((ih (j + 1) false (by omega) (by omega) (.inr ⟨m, ?_, h2, h3, h4⟩)).mono fun k hk => ?_)
        · rcases Nat.lt_or_ge j m with h | h
          · exact h
          · obtain rfl : m = j := by omega
            exact absurd h3 hn
        simp only [cotterlaw07_LinkOrder.l1]
        rw [if_pos (by omega), if_neg hbt, if_pos (by omega), if_pos (by omega), if_pos (by omega), hrd sb j hj', hrd sa i hi, if_neg (fun e => hn (toList_inj e)), ew]
        exact hk
theorem order_l0 (ha : sa.length ≤ 1000) (hb : sb.length ≤ 1000) (h : ∀ s ∈ sa, ∃ m, ∃ hm : m < sb.length, (sb[m]).f0 = s.f0 ∧ (sb[m]).f1 = s.f1) :
    ∀ (d i : Nat), sa.length - i = d → i ≤ sa.length → Ev fun k => cotterlaw07_LinkOrder.l0 k i ca da sa cb db sb = some true := by
  intro d
  induction d with
  | zero =>
    intro i hd hi
    refine .step (.of fun k => ?_)
    simp only [cotterlaw07_LinkOrder.l0]
    rw [if_neg (by omega), live_bind]
  | succ d ih =>
    intro i hd hi
    have hlt : i < sa.length := by omega
    have ew : wrap64 ((i : Int) + 1) = ((i + 1 : Nat) : Int) := by rw [wrap64_id (by omega) (by omega)]; omega
    obtain ⟨m, hm, e1, e2⟩ := h _ (List.getElem_mem hlt)
    refine .step ((order_l1 hb hlt (by rw [ew]; exact ih (i + 1) (by omega) (by omega)) sb.length 0 false (by omega) (by omega) (.inr ⟨m, Nat.zero_le _, hm, e1, e2⟩)).mono fun k hk => ?_)
    simp only [cotterlaw07_LinkOrder.l0]
    rw [if_pos (by omega)]
    exact hk
theorem order_j3 (ha : sa.length ≤ 1000) (hb : sb.length ≤ 1000) (h : ∀ s ∈ sa, ∃ m, ∃ hm : m < sb.length, (sb[m]).f0 = s.f0 ∧ (sb[m]).f1 = s.f1) : Ev fun k => cotterlaw07_LinkOrder.j3 k false ca da sa cb db sb = some true :=
  .step ((order_l0 ha hb h sa.length 0 (by omega) (by omega)).mono fun k hk => by
    simp only [cotterlaw07_LinkOrder.j3]
    rw [if_neg (by simp)]
    exact hk)
theorem order_j2 {e f : Int} (hef : (e == 0) = (f == 0)) (hc : ca.size = cb.size) (hd : da.length = db.length) (hs : sa.length = sb.length) (ha : sa.length ≤ 1000) (h : ∀ s ∈ sa, ∃ m, ∃ hm : m < sb.length, (sb[m]).f0 = s.f0 ∧ (sb[m]).f1 = s.f1) :
    Ev fun k => cotterlaw07_LinkOrder.j2 k e f false ca da sa cb db sb = some true :=
  .step ((order_j3 ha (by omega) h).mono fun k hk => by
    simp only [cotterlaw07_LinkOrder.j2]
    rw [if_neg (by simp), hef, if_neg (by simp), if_pos (by omega), if_pos (by omega), show ((sa.length : Int) != (sb.length : Int)) = false by rw [hs]; simp]
    exact hk)
theorem order_live (e f : Int) : Ev fun k => cotterlaw07_LinkOrder.j2 k e f true ca da sa cb db sb = some true :=
  .step (.of fun k => by
    simp only [cotterlaw07_LinkOrder.j2]
    rw [if_pos trivial, live_bind])
end
theorem link_val2 {l0 : List S40} {a : ByteArray} {d : List Int} {s : List S36} {e : Int} (h : linkF l0 = ((a, d, s), e)) : link_Link.f l0 = some (a, d, s, e) := by
  unfold link_Link.f
  rw [h]
/-- Both links, in any two orders. -/
theorem order_both {a b : List S40} (h : a.Perm b) : ∃ ca da sa e cb db sb f, link_Link.f a = some (ca, da, sa, e) ∧ link_Link.f b = some (cb, db, sb, f) ∧
    (e ≠ 7 → f ≠ 7 → Ev fun k => cotterlaw07_LinkOrder.j2 k e f false ca da sa cb db sb = some true) := by
  rcases link_cases a with ⟨x, c, G⟩ | ⟨e, he, hL⟩
  · rcases link_cases b with ⟨y, d, G2⟩ | ⟨f, hf, hL2⟩
    · refine ⟨_, _, _, _, _, _, _, _, link_val2 G.is, link_val2 G2.is, fun _ _ => ?_⟩
      have k1 := G.kinds
      have k2 := G2.kinds
      have hp := kinds_perm h
      have l1 : x.syms.length = (kinds a).length := by rw [← k1.1]; simp [pairs]
      have l2 : y.syms.length = (kinds b).length := by rw [← k2.1]; simp [pairs]
      have h1 : (codeAll a).length = (codeAll b).length := (h.flatMap_right fun (o : S40) => bytesOf o.f0).length_eq
      have h2 : (dataAll a).length = (dataAll b).length := (h.flatMap_right fun (o : S40) => o.f1).length_eq
      have h3 := hp.length_eq
      refine order_j2 rfl ?_ ?_ (by omega) G.room.2.2.1 fun s hs => ?_
      · rw [strOfNums_size, strOfNums_size, G.clen, G2.clen, ← codeAll_length, ← codeAll_length, h1]
      · rw [G.data, G2.data, h2]
      · have hm : (s.f0, s.f1) ∈ pairs x.syms := List.mem_map.2 ⟨s, hs, rfl⟩
        rw [k1.1, hp.mem_iff, ← k2.1] at hm
        obtain ⟨t, ht, e⟩ := List.mem_map.1 hm
        obtain ⟨m, hm, rfl⟩ := List.mem_iff_getElem.1 ht
        injection e with e1 e2
        exact ⟨m, hm, e1, e2⟩
    · refine ⟨_, _, _, _, _, _, _, _, link_val2 G.is, link_val2 hL2, fun _ h7 => ?_⟩
      rcases (G.can.perm h).goes with ⟨y, d, G2⟩ | h8
      · have := G2.is.symm.trans hL2
        exact absurd (congrArg (·.2) this).symm hf
      · have := hL2.symm.trans h8
        exact absurd (congrArg (·.2) this) h7
  · rcases link_cases b with ⟨y, d, G2⟩ | ⟨f, hf, hL2⟩
    · refine ⟨_, _, _, _, _, _, _, _, link_val2 hL, link_val2 G2.is, fun h7 _ => ?_⟩
      rcases (G2.can.perm h.symm).goes with ⟨x, c, G⟩ | h8
      · have := G.is.symm.trans hL
        exact absurd (congrArg (·.2) this).symm he
      · have := hL.symm.trans h8
        exact absurd (congrArg (·.2) this) h7
    · refine ⟨_, _, _, _, _, _, _, _, link_val2 hL, link_val2 hL2, fun _ _ => order_j2 ?_ rfl rfl rfl (by simp) (fun s hs => by cases hs)⟩
      rw [beq_eq_false_iff_ne.2 he, beq_eq_false_iff_ne.2 hf]
theorem order_j1 {l0 : List S40} (h20 : l0.length ≤ 20) (h0 : l0 ≠ []) {b : Int} (hb : 0 ≤ b) : Ev fun k => cotterlaw07_LinkOrder.j1 k l0 b = some true := by
  have hpos : 0 < l0.length := List.length_pos_iff.2 h0
  have m0 : 0 ≤ b.tmod (l0.length : Int) := Int.tmod_nonneg _ hb
  have m1 : b.tmod (l0.length : Int) < (l0.length : Int) := Int.tmod_lt_of_pos b (by omega)
  obtain ⟨m, em⟩ : ∃ m, b.tmod (l0.length : Int) = m := ⟨_, rfl⟩
  rw [em] at m0 m1
  have hperm : l0.Perm (l0.drop m.toNat ++ l0.take m.toNat) := by
    have := (List.perm_append_comm : (l0.drop m.toNat ++ l0.take m.toNat).Perm (l0.take m.toNat ++ l0.drop m.toNat))
    rw [List.take_append_drop] at this
    exact this.symm
  obtain ⟨ca, da, sa, e, cb, db, sb, f, h1, h2, h3⟩ := order_both hperm
  have start : ∀ k, cotterlaw07_LinkOrder.j1 (k + 1) l0 b = if e = 7 then cotterlaw07_LinkOrder.j2 k e f true ca da sa cb db sb else cotterlaw07_LinkOrder.j2 k e f (f == 7) ca da sa cb db sb := by
    intro k
    simp only [cotterlaw07_LinkOrder.j1]
    rw [if_neg (by omega), em, if_pos m0, if_pos (by omega)]
    simp only [Option.bind_some, List.nil_append]
    rw [if_pos (by rw [List.length_nil, List.length_drop]; omega)]
    rw [if_pos (by rw [List.length_drop, List.length_take]; omega), h1]
    simp only [Option.bind_some]
    rw [h2]
    simp only [Option.bind_some]
  by_cases e7 : e = 7
  · refine .step ((order_live (ca := ca) (cb := cb) (da := da) (db := db) (sa := sa) (sb := sb) e f).mono fun k hk => ?_)
    rw [start, if_pos e7]
    exact hk
  · by_cases f7 : f = 7
    · refine .step ((order_live (ca := ca) (cb := cb) (da := da) (db := db) (sa := sa) (sb := sb) e f).mono fun k hk => ?_)
      rw [start, if_neg e7, show (f == 7) = true by rw [f7]; rfl]
      exact hk
    · refine .step ((h3 e7 f7).mono fun k hk => ?_)
      rw [start, if_neg e7, beq_eq_false_iff_ne.2 f7]
      exact hk
theorem order_f {l0 : List S40} (h : Lens l0) {a : Int} (ha : -9223372036854775808 ≤ a) (ha2 : a ≤ 9223372036854775807) : ∃ k, cotterlaw07_LinkOrder.f k l0 a = some true := by
  obtain ⟨b, hb⟩ := small_ev h
  apply Ev.get
  have stop : Ev fun k => cotterlaw07_LinkOrder.j0 k l0 a true = some true := .step (.of fun k => by
    simp only [cotterlaw07_LinkOrder.j0]
    rw [if_pos trivial, live_bind])
  cases b with
  | false =>
    refine (hb.and stop).mono fun k hk => ?_
    unfold cotterlaw07_LinkOrder.f
    rw [hk.1]
    simp only [Option.bind_some]
    rw [if_neg (by simp)]
    exact hk.2
  | true =>
    by_cases h0 : l0 = []
    · refine (hb.and stop).mono fun k hk => ?_
      unfold cotterlaw07_LinkOrder.f
      rw [hk.1]
      simp only [Option.bind_some]
      rw [if_pos trivial, show ((l0.length : Int) == 0) = true by rw [h0]; rfl]
      exact hk.2
    · obtain ⟨k0, hk0⟩ := hb.get
      have h20 := small_le hk0
      have hpos : 0 < l0.length := List.length_pos_iff.2 h0
      have go : Ev fun k => cotterlaw07_LinkOrder.j0 k l0 a false = some true := by
        by_cases hneg : a < 0
        · have e1 : wrap64 (-(wrap64 (a + 1))) = -(a + 1) := by
            have e0 : wrap64 (a + 1) = a + 1 := wrap64_id (by omega) (by omega)
            rw [e0]
            clear e0
            exact wrap64_id (by omega) (by omega)
          refine .step ((order_j1 h20 h0 (b := -(a + 1)) (by clear e1; omega)).mono fun k hk => ?_)
          simp only [cotterlaw07_LinkOrder.j0]
          rw [if_neg (by simp), if_pos hneg, e1]
          exact hk
        · refine .step ((order_j1 h20 h0 (b := a) (by omega)).mono fun k hk => ?_)
          simp only [cotterlaw07_LinkOrder.j0]
          rw [if_neg (by simp), if_neg hneg]
          exact hk
      refine (hb.and go).mono fun k hk => ?_
      unfold cotterlaw07_LinkOrder.f
      rw [hk.1]
      simp only [Option.bind_some]
      rw [if_pos trivial, show ((l0.length : Int) == 0) = false by
        refine beq_eq_false_iff_ne.2 fun e => ?_
        omega]
      exact hk.2
end Go.Proofs.Yteaealmnmmcbpaa.M

