/-
  Texts of the proofs of ImageBack, cut to what the proofs reach and packed by a program of this session (wip/packs.py). Each part begins with what it says; conditions: those told there.
-/
import Derived.Laws.Strings
import Derived.Test.YtimhcpmfhebbhaaDoorPKA8
/-
  Layer 6, plain: whether an object may be, as the document tells it (cotterref06.Syms, May), said by the program's own plain function. Conditions: lengths below 2^63.
-/
namespace Go.Proofs.YtimhcpmfhebbhaaDoor.Obj
set_option maxRecDepth 100000
open Go.RowKit Go.Proofs.YtimhcpmfhebbhaaDoor.M Go.Proofs.YtimhcpmfhebbhaaDoor.Num Go.Proofs.YtimhcpmfhebbhaaDoorW.PrintWords Go.Proofs.YtimhcpmfhebbhaaDoorW.PrintLast
theorem rd_SS (l : List S68) (i : Nat) (h : i < l.length) : rd_T68 l (i : Int) = l[i] := by
  simp [rd_T68, List.getD_eq_getElem?_getD, List.getElem?_eq_getElem h]
set_option linter.unusedSimpArgs false
set_option linter.unusedVariables false
/-- Is a name among the first ones? -/
def seen (l : List S68) (i : Nat) (n : List UInt8) : Prop := ∃ (j : Nat) (_ : j < i) (h : j < l.length), l[j].f0.data.toList = n
end Go.Proofs.YtimhcpmfhebbhaaDoor.Obj

/-
  Layer 8, plain: whether an image may be, as the document tells it (cotterref08.May), and its threads' names. Conditions: lengths that any memory can hold.
-/
namespace Go.Proofs.YtimhcpmfhebbhaaDoor.Obj
set_option maxRecDepth 100000
open Go.RowKit Go.Proofs.YtimhcpmfhebbhaaDoor.M Go.Proofs.YtimhcpmfhebbhaaDoor.Num Go.Proofs.YtimhcpmfhebbhaaDoor.Ins Go.Proofs.YtimhcpmfhebbhaaDoor.Seven Go.Proofs.YtimhcpmfhebbhaaDoorW.PrintWords Go.Proofs.YtimhcpmfhebbhaaDoorW.PrintLast
set_option linter.unusedVariables false
set_option linter.unusedSimpArgs false
def isThread (s : S68) : Bool := decide (s.f1 = 3)
def threadsOf (y : List S68) : List ByteArray := (y.filter isThread).map (·.f0)
theorem threads_cons (s : S68) (y : List S68) : threadsOf (s :: y) = (if s.f1 = 3 then [s.f0] else []) ++ threadsOf y := by
  unfold threadsOf isThread
  by_cases h : s.f1 = 3 <;> simp [h]
theorem ithreads_l0 (y : List S68) (hm : y.length ≤ 4000000000000) : ∀ (d k i : Nat) (acc : List ByteArray), y.length - i = d → i ≤ y.length → acc.length ≤ i → d < k → image_Threads.l0 k acc y (y.length : Int) (i : Int) = some (acc ++ threadsOf (y.drop i))
  | 0, 0, i, acc, hd, hi, ha, hk => by omega
  | 0, k + 1, i, acc, hd, hi, ha, hk => by
    simp only [image_Threads.l0]
    rw [if_neg (by omega), List.drop_eq_nil_of_le (by omega)]
    simp [threadsOf]
  | d + 1, 0, i, acc, hd, hi, ha, hk => by omega
  | d + 1, k + 1, i, acc, hd, hi, ha, hk => by
    have hlt : i < y.length := by omega
    have e1 : wrap64 ((i : Int) + 1) = ((i + 1 : Nat) : Int) := by rw [wrap64_id (by omega) (by omega)]; omega
    simp only [image_Threads.l0]
    rw [if_pos (by omega), if_pos (by omega), if_pos (by omega), rd_SS y i hlt, e1, List.drop_eq_getElem_cons hlt, threads_cons]
    by_cases h : y[i].f1 = 3
    · rw [if_pos h, if_pos h, if_pos (by omega), ithreads_l0 y hm d k (i + 1) _ (by omega) (by omega) (by simp; omega) (by omega)]
      simp
    · rw [if_neg h, if_neg h, ithreads_l0 y hm d k (i + 1) _ (by omega) (by omega) (by omega) (by omega)]
      simp
theorem ithreads_f (s : ByteArray) (d : List Int) (y : List S68) (hm : y.length ≤ 4000000000000) (k : Nat) (hk : y.length < k) : image_Threads.f k s d y = some (threadsOf y) := by
  unfold image_Threads.f
  have := ithreads_l0 y hm y.length k 0 [] (by omega) (by omega) (by simp) hk
  simpa using this
/-- The instructions of a code, if it is one. -/
def insOf (s : ByteArray) : Option (List S79) := (ins_All.f (s.size + 1000) s).bind fun r => if r.2 = 0 then some r.1 else none
theorem code_cases (s : ByteArray) (hs : s.size ≤ 1048576) :
    (∃ is : List S79, bytesOf s = formsS is ∧ (∀ i ∈ is, OkS i) ∧ is.length ≤ s.size ∧ insOf s = some is ∧ ∀ k, s.size + 100 < k → ins_All.f k s = some (is, 0) ∧ cotterref03_All.f k s = some (is, 0)) ∨
      (insOf s = none ∧ ∀ k, s.size + 100 < k → ins_All.f k s = some ([], 9) ∧ cotterref03_All.f k s = some ([], 9)) := by
  have key : (∃ is : List S79, bytesOf s = formsS is ∧ (∀ i ∈ is, OkS i) ∧ is.length ≤ s.size ∧ ∀ k, s.size + 100 < k → ins_All.f k s = some (is, 0) ∧ cotterref03_All.f k s = some (is, 0)) ∨ (∀ k, s.size + 100 < k → ins_All.f k s = some ([], 9) ∧ cotterref03_All.f k s = some ([], 9)) := by
    have uq : ∀ k, s.size + 100 < k → ∃ js e, js.length ≤ s.size ∧ ins_All.f k s = some (js, e) ∧ cotterref03_All.f k s = some (js, e) := fun k hk => rall_same s hs k hk
    by_cases hx : ∃ is : List S79, bytesOf s = formsS is ∧ ∀ i ∈ is, OkS i
    · obtain ⟨is, h1, h2⟩ := hx
      have hl : is.length ≤ s.size := by
        have h3 : ∀ (l : List S79), (∀ i ∈ l, OkS i) → l.length ≤ (formsS l).length := by
          intro l
          induction l with
          | nil => intro _; simp
          | cons a l ih => intro h; have := formS_pos (h a (by simp)); have := ih (fun i hi => h i (by simp [hi])); rw [formsS_cons, List.length_append, List.length_cons]; omega
        have := h3 is h2
        rw [← h1, bytesOf_length] at this
        exact this
      refine .inl ⟨is, h1, h2, hl, fun k hk => ?_⟩
      have e : s = strOfNums (formsS is) := by rw [← h1, str_bytesOf]
      have hz : (formsS is).length = s.size := by rw [← h1, bytesOf_length]
      have ha : ins_All.f k s = some (is, 0) := by
        have := all_forms is h2 (by omega) k (by omega)
        rwa [← e] at this
      obtain ⟨js, e', _, g1, g2⟩ := uq k hk
      rw [ha] at g1
      rw [ha, g2, g1]
      exact ⟨rfl, rfl⟩
    · refine .inr fun k hk => ?_
      obtain ⟨js, e', _, g1, g2⟩ := uq k hk
      have ha : ins_All.f k s = some ([], 9) := by
        rcases all_f s (by omega) k (by omega) with ⟨is, h1, h2, _⟩ | h
        · exact absurd ⟨is, h1, h2⟩ hx
        · exact h
      rw [ha] at g1
      rw [ha, g2, g1]
      exact ⟨rfl, rfl⟩
  rcases key with ⟨is, h1, h2, h3, h4⟩ | h
  · refine .inl ⟨is, h1, h2, h3, ?_, h4⟩
    unfold insOf
    rw [(h4 _ (by omega)).1]
    simp
  · refine .inr ⟨?_, h⟩
    unfold insOf
    rw [(h _ (by omega)).1]
    simp
def symOk (l : List (Int × S79)) (s : S68) : Bool := decide (s.f1 = 2) || l.any fun p => decide (p.1 = s.f2)
/-- May an image be? -/
def mayI (s : ByteArray) (d : List Int) (y : List S68) : Bool :=
  may s d y [] && match insOf s with
    | none => false
    | some is => (places 0 is).all (fun p => landsB (places 0 is) p.1 p.2 d.length) && y.all (symOk (places 0 is)) && decide (1 ≤ (threadsOf y).length ∧ (threadsOf y).length ≤ 4)
end Go.Proofs.YtimhcpmfhebbhaaDoor.Obj

/-
  Layer 8, plain: the document's May is 'mayI'. Conditions: lengths that any memory can hold.
-/
namespace Go.Proofs.YtimhcpmfhebbhaaDoor.Obj
set_option maxRecDepth 100000
open Go.RowKit Go.Proofs.YtimhcpmfhebbhaaDoor.M Go.Proofs.YtimhcpmfhebbhaaDoor.Num Go.Proofs.YtimhcpmfhebbhaaDoor.Ins Go.Proofs.YtimhcpmfhebbhaaDoor.Seven Go.Proofs.YtimhcpmfhebbhaaDoorW.PrintWords Go.Proofs.YtimhcpmfhebbhaaDoorW.PrintLast
set_option linter.unusedVariables false
set_option linter.unusedSimpArgs false
theorem rd_int (l : List Int) (i : Nat) (h : i < l.length) : rd l (i : Int) = l[i] := by
  simp [rd, List.getD_eq_getElem?_getD, List.getElem?_eq_getElem h]
end Go.Proofs.YtimhcpmfhebbhaaDoor.Obj

/-
  Layer 8: image.Check: the walk. Conditions: those told at each; the global table's fact Glob.
-/
namespace Go.Proofs.YtimhcpmfhebbhaaDoor.M
set_option maxRecDepth 100000
open Go.RowKit Go.Proofs.YtimhcpmfhebbhaaDoorW.PrintWords Go.Proofs.YtimhcpmfhebbhaaDoorW.PrintLast Go.Proofs.YtimhcpmfhebbhaaDoor.Num Go.Proofs.YtimhcpmfhebbhaaDoor.Seven Go.Proofs.YtimhcpmfhebbhaaDoor.Ins Go.Proofs.YtimhcpmfhebbhaaDoor.Obj
set_option linter.unusedVariables false
set_option linter.unusedSimpArgs false
theorem places_up : ∀ (is : List S79) (p : Nat), (∀ i ∈ is, OkS i) → (places p is).Pairwise (fun a b => a.1 ≠ b.1)
  | [], _, _ => List.Pairwise.nil
  | i :: is, p, h => by
    have hp := formS_pos (h i (by simp))
    refine List.Pairwise.cons (fun q hq => ?_) (places_up is _ fun j hj => h j (by simp [hj]))
    have := places_lt is _ (fun j hj => h j (by simp [hj])) q hq
    dsimp only
    omega
theorem find_up {β : Type} : ∀ (l : List (Int × β)), l.Pairwise (fun a b => a.1 ≠ b.1) → ∀ p ∈ l, (l.find? fun q => decide (q.1 = p.1)) = some p
  | [], _, p, hp => by cases hp
  | a :: l, h, p, hp => by
    obtain ⟨h1, h2⟩ := List.pairwise_cons.1 h
    rcases List.mem_cons.1 hp with rfl | hp
    · simp
    · rw [List.find?_cons_of_neg (by simpa using h1 p hp)]
      exact find_up l h2 p hp
/-- What a range over the map meets. -/
theorem entry_of {D : SymD} {l : List (Int × S79)} (hf : FndI D l) (hu : l.Pairwise (fun a b => a.1 ≠ b.1)) {x : Int} {c : S79} {y : SymD × List MemPlace} (hx : (l.any fun p => decide (p.1 = x)) = true) (hc : RIns (insV c) = some y) (hat : ∀ zd, D.atKey (insKey x) zd = y.1) : (x, c) ∈ l ∧ ∀ p ∈ l, p.1 = x → p = (x, c) := by
  obtain ⟨p, hp, hpx⟩ := List.any_eq_true.1 hx
  simp only [decide_eq_true_eq] at hpx
  subst hpx
  have h1 := (hf.2 p.1).2
  rw [hat, find_up l hu p hp] at h1
  rw [RIns_ins] at hc
  injection hc with hc
  subst hc
  have := insT_inj h1
  simp only [Option.map_some, Option.getD_some] at this
  subst this
  refine ⟨hp, fun q hq e => ?_⟩
  have h2 := find_up l hu q hq
  have h3 := find_up l hu p hp
  rw [e] at h2
  rw [h3] at h2
  injection h2 with h2
  exact h2.symm
theorem places_ok : ∀ (is : List S79) (p : Nat), (∀ i ∈ is, OkS i) → ∀ q ∈ places p is, OkS q.2
  | [], _, _, q, hq => by cases hq
  | i :: is, p, h, q, hq => by
    rcases List.mem_cons.1 hq with rfl | hq
    · exact h i (by simp)
    · exact places_ok is _ (fun j hj => h j (by simp [hj])) q hq
theorem ranges_below {W W1 : World} {b r n cnt : Nat} {D : SymD} {left : Lit → Bool} (h : W.ranges Tryd.prog 3 RIns b r n D left cnt) (hb : Below W.heap.size W W1) : W1.ranges Tryd.prog 3 RIns b r n D left cnt := by
  have h1 := h.owns.lt
  have h2 := h.lt
  obtain ⟨es, clock, since, seen, c0, hb', F, hs, hD, hr, rest⟩ := h
  exact ⟨es, clock, since, seen, c0, (hb.block _ h1).trans hb', F, hs, hD, (hb.block _ h2).trans hr, rest⟩
section
variable {W : World} (code : ByteArray) (A1 : Option Addr) (c1 : Nat) (l1 : List Int) (A2 : Option Addr) (c2 : Nat) (l2 : List S68)
theorem objCheck_c (hr1 : Kd.C (Kd.int .i64) W A1 l1.length l1) (hc1 : l1.length ≤ c1) (hr2 : Kd.C k68 W A2 l2.length l2) (hc2 : l2.length ≤ c2) :
    Calls Tryd.prog 31 #[.agg #[.string code, .slice A1 l1.length c1, .slice A2 l2.length c2, .slice none 0 0]] W fun e w' => e = .returned (.int .i64 (if may code l1 l2 [] = true then 0 else 1)) ∧ Below W.heap.size W w' := by
  have h := objf_Check.calls 10 code A1 c1 l1 A2 c2 l2 none 0 [] _ W hr1 hc1 hr2 hc2 (Kd.C_nil _ _) (Nat.zero_le _) (check_f code l1 l2 [] (by simp) 10 (by simp))
  refine h.mono ?_
  rintro e w' h
  exact h
set_option maxHeartbeats 8000000 in
theorem icheck_a (hr1 : Kd.C (Kd.int .i64) W A1 l1.length l1) (hc1 : l1.length ≤ c1) (hr2 : Kd.C k68 W A2 l2.length l2) (hc2 : l2.length ≤ c2) (hm : may code l1 l2 [] = false) :
    Calls Tryd.prog 14 #[.agg #[.string code, .slice A1 l1.length c1, .slice A2 l2.length c2]] W fun e w' => e = .returned (.int .i64 9) ∧ Below W.heap.size W w' := by
  have CO := Aside0.mk (objCheck_c (W := W.alloc (.cells #[.string code, .slice A1 l1.length c1, .slice A2 l2.length c2] 25)) code A1 c1 l1 A2 c2 l2 (Kd.C_alloc hr1 _) hc1 (Kd.C_alloc hr2 _) hc2)
  have HB := Aside0.mk (below_alloc (Below.refl W.heap.size W) (.cells #[.string code, .slice A1 l1.length c1, .slice A2 l2.length c2] 25))
  rw [hm] at CO
  clear hm hr1 hc1 hr2 hc2
  go_enter Tryd.func14, Tryd.ntmps14
  go_wp2_with (first | (go_at_call 31; (with_reducible refine CO.out.mono ?_); rintro e w3 ⟨rfl, hb⟩; have HB3 := Aside0.mk (below_inL HB.out hb); clear hb))
  go_ret
  exact ⟨rfl, HB3.out⟩
set_option maxHeartbeats 8000000 in
theorem icheck_b (hG : Glob W) (hr1 : Kd.C (Kd.int .i64) W A1 l1.length l1) (hc1 : l1.length ≤ c1) (hr2 : Kd.C k68 W A2 l2.length l2) (hc2 : l2.length ≤ c2) (hm : may code l1 l2 [] = true) {k : Nat} (hall : ins_All.f k code = some ([], 9)) :
    Calls Tryd.prog 14 #[.agg #[.string code, .slice A1 l1.length c1, .slice A2 l2.length c2]] W fun e w' => e = .returned (.int .i64 9) ∧ Below W.heap.size W w' := by
  have CO := Aside0.mk (objCheck_c (W := W.alloc (.cells #[.string code, .slice A1 l1.length c1, .slice A2 l2.length c2] 25)) code A1 c1 l1 A2 c2 l2 (Kd.C_alloc hr1 _) hc1 (Kd.C_alloc hr2 _) hc2)
  have HB := Aside0.mk (below_alloc (Below.refl W.heap.size W) (.cells #[.string code, .slice A1 l1.length c1, .slice A2 l2.length c2] 25))
  have BO := Aside0.mk (blk_new W (.cells #[.string code, .slice A1 l1.length c1, .slice A2 l2.length c2] 25))
  have HG := Aside0.mk hG
  have ST := Aside0.mk (fun (w : World) (h : Glob w) => starts_no (w := w) h hall)
  rw [hm] at CO
  clear hm hr1 hc1 hr2 hc2 hG hall
  go_enter Tryd.func14, Tryd.ntmps14
  go_wp2_with (first
    | (go_at_call 31; (with_reducible refine CO.out.mono ?_); rintro e w3 ⟨rfl, hb⟩; have HB3 := Aside0.mk (below_inL HB.out hb); have BO3 := Aside0.mk (blk_below BO.out hb); have hk0 : w3.cell? ⟨W.heap.size, 0, none⟩ = some (.string code) := (blk_cell BO3.out 0).trans rfl; clear hb)
    | (go_at_call 32; (with_reducible refine (ST.out _ (HG.out.below HB3.out rfl)).mono ?_); rintro e w4 ⟨rfl, hb⟩; have HB4 := Aside0.mk (below_inL HB3.out hb); clear hb))
  go_ret
  exact ⟨rfl, HB4.out⟩
set_option maxHeartbeats 16000000 in
theorem icheck_c (hG : Glob W) (hr1 : Kd.C (Kd.int .i64) W A1 l1.length l1) (hc1 : l1.length ≤ c1) (hr2 : Kd.C k68 W A2 l2.length l2) (hc2 : l2.length ≤ c2) (hm : may code l1 l2 [] = true) {is : List S79} {k : Nat} (hall : ins_All.f k code = some (is, 0)) (hok : ∀ i ∈ is, OkS i) (hlen : is.length ≤ 1000000)
    (hpl : ∀ p ∈ places 0 is, 0 ≤ p.1 ∧ p.1 ≤ 1000000) (hdl : l1.length ≤ 1000000) (hyl : l2.length ≤ 1000000) (hsy : ∀ s ∈ l2, 0 ≤ s.f2 ∧ s.f2 ≤ 1000000) {r : Int}
    (h1 : ∀ p ∈ places 0 is, landsB (places 0 is) p.1 p.2 l1.length = false → r = 9) (h2 : ∀ s ∈ l2, symOk (places 0 is) s = false → r = 9)
    (h3 : (∀ p ∈ places 0 is, landsB (places 0 is) p.1 p.2 l1.length = true) → (∀ s ∈ l2, symOk (places 0 is) s = true) → r = if 1 ≤ (threadsOf l2).length ∧ (threadsOf l2).length ≤ 4 then 0 else 9) :
    Calls Tryd.prog 14 #[.agg #[.string code, .slice A1 l1.length c1, .slice A2 l2.length c2]] W fun e w' => e = .returned (.int .i64 r) ∧ Below W.heap.size W w' := by
  have CO := Aside0.mk (objCheck_c (W := W.alloc (.cells #[.string code, .slice A1 l1.length c1, .slice A2 l2.length c2] 25)) code A1 c1 l1 A2 c2 l2 (Kd.C_alloc hr1 _) hc1 (Kd.C_alloc hr2 _) hc2)
  have HB := Aside0.mk (below_alloc (Below.refl W.heap.size W) (.cells #[.string code, .slice A1 l1.length c1, .slice A2 l2.length c2] 25))
  have BO := Aside0.mk (blk_new W (.cells #[.string code, .slice A1 l1.length c1, .slice A2 l2.length c2] 25))
  have HG := Aside0.mk hG
  have ST := Aside0.mk (fun (w : World) (h : Glob w) => starts_yes (w := w) h hall hok hlen)
  have TH := Aside0.mk (fun (w : World) (h : Below W.heap.size W w) => image_Threads.calls (l2.length + 1) code A1 c1 l1 A2 c2 l2 _ w (Kd.C_below hr1 h) hc1 (Kd.C_below hr2 h) hc2 (ithreads_f code l1 l2 (by omega) (l2.length + 1) (by omega)))
  have UP := Aside0.mk (places_up is 0 hok)
  have OB := Aside0.mk (fun (p : Int × S79) (hp : p ∈ places 0 is) => hpl p hp)
  have OK := Aside0.mk (places_ok is 0 hok)
  have HR2 := Aside0.mk hr2
  have HSY := Aside0.mk hsy
  have H1 := Aside0.mk h1
  have H2 := Aside0.mk h2
  have H3 := Aside0.mk h3
  rw [hm] at CO
  clear hm hr1 hc1 hr2 hc2 hG hall hsy h1 h2 h3 hpl hok
  go_enter Tryd.func14, Tryd.ntmps14
  go_wp2_with (first
    | (go_at_call 31; (with_reducible refine CO.out.mono ?_); rintro e w3 ⟨rfl, hb⟩; have HB3 := Aside0.mk (below_inL HB.out hb); have BO3 := Aside0.mk (blk_below BO.out hb); have hk0 : w3.cell? ⟨W.heap.size, 0, none⟩ = some (.string code) := (blk_cell BO3.out 0).trans rfl; clear hb)
    | (go_at_call 32; (with_reducible refine (ST.out _ (HG.out.below HB3.out rfl)).mono ?_); rintro e w4 ⟨mb, n, D, rfl, hown, hf, hn, -, hb⟩; have HB4 := Aside0.mk (below_inL HB3.out hb); have BO4 := Aside0.mk (blk_below BO3.out hb); have HM4 := Aside0.mk hown; have HF := Aside0.mk hf; clear hb hown hf hk0)
    | (at_range; refine wpList_range_own _ rfl _ 75 rfl 3 79 ins_law Tryd.underlying75 _ mb n _ rfl HM4.out ?_; intro w5 hrg5 hg5 hs5; have HB5 := Aside0.mk (HB4.out.grown hg5 HB4.out.size (fun j hj => by cases hj)); have BO5 := Aside0.mk (blk_grown BO4.out hg5 (by simp)); have RG5 := Aside0.mk hrg5; clear hrg5 hg5 hs5))
  go_frame
  have HRI := Aside0.mk (blk_lt BO4.out)
  generalize w4.heap.size = ri at *
  clear HB HB3 HB4 BO BO3 BO4 HM4 CO ST
  go_loopw [] (fun wr => ∃ (left : Lit → Bool) (cnt : Nat), Aside0 (wr.ranges Tryd.prog 3 RIns mb ri n D left cnt) ∧ Aside0 (∀ t, left (insKey t) = true → ((places 0 is).any fun p => decide (p.1 = t)) = true) ∧ Aside0 (∀ p ∈ places 0 is, left (insKey p.1) = false → landsB (places 0 is) p.1 p.2 l1.length = true) ∧ Aside0 (wr.heap[W.heap.size]? = some (.cells #[.string code, .slice A1 l1.length c1, .slice A2 l2.length c2] 25 (0, 0))) ∧ Aside0 (Below W.heap.size W wr)) (fun wr => wr.rangeLeft mb ri)
  case atStart =>
    exact ⟨_, _, RG5, ⟨fun t ht => by rw [← (HF.out.2 t).1]; exact ht⟩, ⟨fun p hp hl => by
      have := (HF.out.2 p.1).1
      rw [hl] at this
      exact absurd this.symm (by simp only [Bool.not_eq_false]; exact List.any_eq_true.2 ⟨p, hp, by simp⟩)⟩, BO5, HB5⟩
  case round =>
    clear HB5 BO5 RG5
    obtain ⟨left, cnt, RG, HL, HD, BO, HB⟩ := hrel
    have hk1 : wr.cell? ⟨W.heap.size, 1, none⟩ = some (.slice A1 l1.length c1) := (blk_cell BO.out 1).trans rfl
    have hk2 : wr.cell? ⟨W.heap.size, 2, none⟩ = some (.slice A2 l2.length c2) := (blk_cell BO.out 2).trans rfl
    go_wp2_with (first
      | (at_next; refine wpList_next_ranges _ rfl _ rfl 3 ins_law RIns (Value.int .i64) insV (fun key kl hkey => by obtain ⟨x, rfl, _⟩ := Maps.keyOf_int_inv Tryd.underlying3 hkey; exact ⟨x, rfl⟩) (fun v y hv => by obtain ⟨c, rfl, _⟩ := RIns_shape hv; exact ⟨c, rfl⟩) mb ri n D left cnt rfl RG.out ?_ ?_)
      | go_in)
    case _ =>
      intro hc0 hl0
      have HA := Aside0.mk (fun p (hp : p ∈ places 0 is) => HD.out p hp (hl0 _))
      have HM := Aside0.mk RG.out.owns
      clear HD HL hc0 hl0 RG
      go_wp2
      clear HRI hn
      go_loopw [47] (fun v47 ws => ∃ j : Nat, j ≤ l2.length ∧ v47 = .int .i64 j ∧ Aside0 (∀ s ∈ l2.take j, symOk (places 0 is) s = true) ∧ Aside0 (ws.ownsMap Tryd.prog 3 RIns mb n D) ∧ Aside0 (ws.heap[W.heap.size]? = some (.cells #[.string code, .slice A1 l1.length c1, .slice A2 l2.length c2] 25 (0, 0))) ∧ Aside0 (Below W.heap.size W ws)) (fun v47 _ => l2.length - (intOf v47).toNat)
      case atStart => exact ⟨0, Nat.zero_le _, rfl, ⟨by simp⟩, HM, BO, HB⟩
      case round =>
        clear hk1 hk2 HB BO HM
        obtain ⟨j, hj, rfl, HS, HM, BO, HB⟩ := hrel
        by_cases hlt : j < l2.length
        case pos =>
          obtain ⟨ad, rfl, hx0, hx1, hx2⟩ := at_T68 HR2.out (j : Int) (by omega) (by omega)
          rw [rd_SS l2 j hlt] at hx0 hx1 hx2
          have SB := HSY.out _ (List.getElem_mem hlt)
          have HX := Aside0.mk (fun (h : symOk (places 0 is) l2[j] = false) => H2.out _ (List.getElem_mem hlt) h)
          have HN := Aside0.mk (fun (h : symOk (places 0 is) l2[j] = true) => (by
            intro s hs
            rw [List.take_succ_eq_append_getElem hlt] at hs
            rcases List.mem_append.1 hs with hs | hs
            · exact HS.out s hs
            · simp only [List.mem_singleton] at hs
              subst hs
              exact h : ∀ s ∈ l2.take (j + 1), symOk (places 0 is) s = true))
          replace hx0 := (HB.out.cell (World.block_lt_of_cell? W _ hx0)).trans hx0
          replace hx1 := (HB.out.cell (World.block_lt_of_cell? W _ hx1)).trans hx1
          replace hx2 := (HB.out.cell (World.block_lt_of_cell? W _ hx2)).trans hx2
          simp only [Int.toNat_natCast] at hx0 hx1 hx2
          have e2 := Aside0.mk (show wrap64 ((j : Int) + 1) = ((j + 1 : Nat) : Int) by rw [wrap64_id (by omega) (by omega)]; omega)
          generalize l2[j] = s at *
          obtain ⟨s0, s1, s2⟩ := s
          dsimp only at hx0 hx1 hx2 SB
          have hlk := ins_look (HM.out.alloc (.cells #[.string s0, .int .i64 s1, .int .i64 s2] 68)) HF.out s2 (by omega) (by omega)
          generalize ((List.find? (fun p => decide (p.1 = s2)) (places 0 is)).map (·.2)).getD zIns = iv at hlk
          obtain ⟨i0, i1, i2, i3⟩ := iv
          simp only [insV] at hlk
          have hv : symOk (places 0 is) ⟨s0, s1, s2⟩ = (decide (s1 = 2) || (places 0 is).any fun p => decide (p.1 = s2)) := rfl
          rw [hv] at HX HN
          clear hv
          generalize ((places 0 is).any fun p => decide (p.1 = s2)) = fb at *
          have hjl : (j : Int) < (l2.length : Int) := by omega
          have BS := Aside0.mk (blk_new wr (.cells #[.string s0, .int .i64 s1, .int .i64 s2] 68))
          have HM1 := Aside0.mk (HM.out.alloc (.cells #[.string s0, .int .i64 s1, .int .i64 s2] 68))
          cases fb
          all_goals go_wp2
          all_goals first
            | (refine ⟨⟨j + 1, by omega, by first | rfl | (rw [e2.out]) | (simp; done), ⟨HN.out (by simp [*])⟩, ⟨(HM.out.alloc _).alloc _⟩, ⟨blk_alloc (blk_alloc BO.out _) _⟩, ⟨below_alloc (below_alloc HB.out _) _⟩⟩, ?_⟩
               first | (rw [e2.out]; simp [intOf]; omega) | (simp [intOf]; omega))
            | (obtain rfl := HX.out (by simp [*])
               go_ret
               exact ⟨rfl, below_alloc (below_alloc HB.out _) _⟩)
        case neg =>
          obtain rfl : j = l2.length := by omega
          rw [List.take_length] at HS
          have HV := Aside0.mk (H3.out HA.out HS.out)
          have hk0 : wr.cell? ⟨W.heap.size, 0, none⟩ = some (.string code) := (blk_cell BO.out 0).trans rfl
          have hk1 : wr.cell? ⟨W.heap.size, 1, none⟩ = some (.slice A1 l1.length c1) := (blk_cell BO.out 1).trans rfl
          have hk2 : wr.cell? ⟨W.heap.size, 2, none⟩ = some (.slice A2 l2.length c2) := (blk_cell BO.out 2).trans rfl
          go_wp2_with (first | (go_at_call 12; (with_reducible refine (TH.out _ HB.out).mono ?_); rintro e w8 ⟨v0, rfl, ho, hb⟩; obtain ⟨A3, c3, rfl⟩ := Kd.R_slice ho; have HB8 := Aside0.mk (below_inL HB.out hb); clear ho hb))
          all_goals go_ret
          all_goals first
            | (obtain rfl : r = 9 := by rw [HV.out, if_neg (by omega)]
               exact ⟨rfl, HB8.out⟩)
            | (obtain rfl : r = 0 := by rw [HV.out, if_pos (by omega)]
               exact ⟨rfl, HB8.out⟩)
    case _ =>
      intro x c kl ya yb w6 cnt6 hkey hlk hy hat hrg6 hlt hg6 hs6 hen
      obtain ⟨x', ex, rfl, hwx⟩ := Maps.keyOf_int_inv Tryd.underlying3 hkey
      cases ex
      obtain ⟨hin, huq⟩ := entry_of HF.out UP.out (HL.out x hlk) hy hat
      have hxb := OB.out _ hin
      have hok := OK.out _ hin
      have RG6 := Aside0.mk hrg6
      have HB6 := Aside0.mk (sym_grown (w := W) hg6 (Nat.le_of_lt HRI.out) HB.out)
      have BO6 := Aside0.mk (blk_grown BO.out hg6 (fun e => by have := HRI.out; injection e with e; omega))
      have LC := Aside0.mk (fun (w' : World) (hg : Glob w') (hm : w'.ownsMap Tryd.prog 3 RIns mb n D) => lands_c hg hm HF.out x c (l1.length : Int) hxb.1 hxb.2 ⟨by omega, by omega⟩ (ok_bound hok))
      have HL6 := Aside0.mk (fun t (ht : (left (insKey t) && !(insKey t).sameKey (.int .i64 x)) = true) => HL.out t (by simp only [Bool.and_eq_true] at ht; exact ht.1))
      have HD6 := Aside0.mk (fun (hl : landsB (places 0 is) x c l1.length = true) (p : Int × S79) (hp : p ∈ places 0 is) (hq : (left (insKey p.1) && !(insKey p.1).sameKey (.int .i64 x)) = false) => (by
        cases hlp : left (insKey p.1)
        · exact HD.out p hp hlp
        · rw [hlp] at hq
          simp only [Bool.true_and, Bool.not_eq_false'] at hq
          have e := insKey_inj (WideAt.sameKey_eq hq)
          have e2 := huq p hp e
          rw [e2]
          exact hl : landsB (places 0 is) p.1 p.2 l1.length = true))
      have H16 := Aside0.mk (fun (hl : landsB (places 0 is) x c l1.length = false) => H1.out _ hin hl)
      have hk16 : w6.cell? ⟨W.heap.size, 1, none⟩ = some (.slice A1 l1.length c1) := (blk_cell BO6.out 1).trans rfl
      have HLT := Aside0.mk (And.intro hlt RG.out.left_eq)
      clear hk1 hk2 HL HD hat hlk hy hin huq hok hxb hg6 hs6 hrg6 hkey hwx HB BO hlt RG
      obtain ⟨i0, i1, i2, i3⟩ := c
      simp only [insV] at hen ⊢
      have BI := Aside0.mk (blk_new w6 (.cells #[.int .i64 i0, .int .i64 i1, .int .i64 i2, .int .i64 i3] 79))
      have hk17 : (w6.alloc (.cells #[.int .i64 i0, .int .i64 i1, .int .i64 i2, .int .i64 i3] 79)).cell? ⟨W.heap.size, 1, none⟩ = some (.slice A1 l1.length c1) := (blk_cell (blk_alloc BO6.out _) 1).trans rfl
      clear hk16
      generalize hlv : landsB (places 0 is) x ⟨i0, i1, i2, i3⟩ (l1.length : Int) = lv at *
      cases lv
      case false =>
        have R9 := Aside0.mk (H16.out rfl)
        clear H16 HD6
        go_wp2_with (first | (go_at_call 33; (with_reducible refine (LC.out _ (HG.out.below (below_alloc HB6.out _) rfl) (RG6.out.owns.alloc _)).mono ?_); rintro e w7 ⟨rfl, hb⟩; have HB7 := Aside0.mk (below_inL (below_alloc HB6.out _) hb); have BO7 := Aside0.mk (blk_below (blk_alloc BO6.out _) hb); have RG7 := Aside0.mk (ranges_below (RG6.out.alloc _) hb); clear hb))
        obtain rfl := R9.out
        go_ret
        exact ⟨rfl, HB7.out⟩
      case true =>
        have HD7 := Aside0.mk (HD6.out rfl)
        clear H16 HD6
        go_wp2_with (first | (go_at_call 33; (with_reducible refine (LC.out _ (HG.out.below (below_alloc HB6.out _) rfl) (RG6.out.owns.alloc _)).mono ?_); rintro e w7 ⟨rfl, hb⟩; have HB7 := Aside0.mk (below_inL (below_alloc HB6.out _) hb); have BO7 := Aside0.mk (blk_below (blk_alloc BO6.out _) hb); have RG7 := Aside0.mk (ranges_below (RG6.out.alloc _) hb); clear hb))
        refine ⟨⟨_, cnt6, RG7, HL6, HD7, BO7, HB7⟩, ?_⟩
        rw [HLT.out.2, RG7.out.left_eq]
        exact HLT.out.1
/-- image.Check tells whether an image may be. -/
theorem image_Check_c (hG : Glob W) (hr1 : Kd.C (Kd.int .i64) W A1 l1.length l1) (hc1 : l1.length ≤ c1) (hr2 : Kd.C k68 W A2 l2.length l2) (hc2 : l2.length ≤ c2) :
    Calls Tryd.prog 14 #[.agg #[.string code, .slice A1 l1.length c1, .slice A2 l2.length c2]] W fun e w' => e = .returned (.int .i64 (if mayI code l1 l2 = true then 0 else 9)) ∧ Below W.heap.size W w' := by
  cases hm : may code l1 l2 []
  · have e : mayI code l1 l2 = false := by unfold mayI; rw [hm]; rfl
    rw [e]
    exact icheck_a code A1 c1 l1 A2 c2 l2 hr1 hc1 hr2 hc2 hm
  · have hm2 := hm
    unfold may at hm2
    simp only [Bool.and_eq_true, decide_eq_true_eq] at hm2
    obtain ⟨⟨⟨⟨q1, q2⟩, q3⟩, -⟩, -⟩ := hm2
    unfold symsOk at q3
    simp only [Bool.and_eq_true, decide_eq_true_eq] at q3
    obtain ⟨⟨q4, -⟩, q5⟩ := q3
    rcases code_cases code (by omega) with ⟨is, g1, g2, g3, g4, g5⟩ | ⟨g4, g5⟩
    · have e : mayI code l1 l2 = ((places 0 is).all (fun p => landsB (places 0 is) p.1 p.2 l1.length) && l2.all (symOk (places 0 is)) && decide (1 ≤ (threadsOf l2).length ∧ (threadsOf l2).length ≤ 4)) := by unfold mayI; rw [hm, g4]; rfl
      have hz : (formsS is).length = code.size := by rw [← g1, bytesOf_length]
      refine icheck_c code A1 c1 l1 A2 c2 l2 hG hr1 hc1 hr2 hc2 hm (g5 (code.size + 1000) (by omega)).1 g2 (by omega) (fun p hp => ?_) (by omega) (by omega) (fun s hs => ?_) (fun p hp hl => ?_) (fun s hs hl => ?_) (fun a1 a2 => ?_)
      · have := places_lt is 0 g2 p hp
        omega
      · have := List.all_eq_true.1 q4 s hs
        have := symGood_named this
        obtain ⟨-, t1, t2, -⟩ := this
        refine ⟨t1, ?_⟩
        split at t2 <;> omega
      · rw [if_neg]
        rw [e, Bool.and_eq_true, Bool.and_eq_true]
        intro h
        have := List.all_eq_true.1 h.1.1 p hp
        rw [hl] at this
        cases this
      · rw [if_neg]
        rw [e, Bool.and_eq_true, Bool.and_eq_true]
        intro h
        have := List.all_eq_true.1 h.1.2 s hs
        rw [hl] at this
        cases this
      · rw [e, List.all_eq_true.2 a1, List.all_eq_true.2 a2, Bool.true_and, Bool.true_and]
        simp only [decide_eq_true_eq]
    · have e : mayI code l1 l2 = false := by unfold mayI; rw [hm, g4]; rfl
      rw [e]
      exact icheck_b code A1 c1 l1 A2 c2 l2 hG hr1 hc1 hr2 hc2 hm (g5 (code.size + 1000) (by omega)).1
end
end Go.Proofs.YtimhcpmfhebbhaaDoor.M

