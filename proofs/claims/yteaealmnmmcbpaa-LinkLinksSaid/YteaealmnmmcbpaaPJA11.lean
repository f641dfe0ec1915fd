/-
  Texts of the proofs of LinkLinks, cut to what the proofs reach and packed by a program of this session (wip/packs.py). Each part begins with what it says; conditions: those told there.
-/
import Derived.Test.YteaealmnmmcbpaaPJA10
-- Written by a program of this session (wip/ownprint.py) over the translation. Lean checks it.
namespace Go.Proofs.Yteaealmnmmcbpaa.M
open Go.RowKit Go.Proofs.YteaealmnmmcbpaaW.PrintWords Go.Proofs.YteaealmnmmcbpaaW.PrintLast
set_option linter.unusedVariables false
set_option linter.unusedSimpArgs false

/-! ### cotterlaw07_LinkLinks: function 3 -/
mutual
def cotterlaw07_LinkLinks.j0 : Nat → List (S40) → List (S40) → Bool → ByteArray → List Int → List (S36) → Option (Bool)
  | 0, _, _, _, _, _, _ => none
  | k + 1, x0, x3, x36, x214000, x214001, x214002 => if x36 = true then (some false) else (cotterlaw07_LinkLinks.l0 k x0 x3 0 x214000 x214001 x214002)
def cotterlaw07_LinkLinks.l0 : Nat → List (S40) → List (S40) → Int → ByteArray → List Int → List (S36) → Option (Bool)
  | 0, _, _, _, _, _, _ => none
  | k + 1, x0, x3, x8, x214000, x214001, x214002 => if x8 < (x214001.length : Int) then (if 0 ≤ x8 then (cotterlaw07_LinkLinks.l0 k x0 x3 (wrap64 (x8 + 1)) x214000 (x214001.set (x8 : Int).toNat (-7)) x214002) else (none)) else (cotterlaw07_LinkLinks.l1 k x0 x3 0 x214000 x214001 x214002)
def cotterlaw07_LinkLinks.l1 : Nat → List (S40) → List (S40) → Int → ByteArray → List Int → List (S36) → Option (Bool)
  | 0, _, _, _, _, _, _ => none
  | k + 1, x0, x3, x9, x214000, x214001, x214002 => if x9 < (x214002.length : Int) then (if 0 ≤ x9 then (cotterlaw07_LinkLinks.l1 k x0 x3 (wrap64 (x9 + 1)) x214000 x214001 (x214002.set (x9 : Int).toNat (⟨(rd_T36 x214002 x9).f0, (rd_T36 x214002 x9).f1, (-7)⟩ : S36))) else (none)) else (cotterlaw07_LinkLinks.l2 k x0 x3 0)
def cotterlaw07_LinkLinks.l2 : Nat → List (S40) → List (S40) → Int → Option (Bool)
  | 0, _, _, _ => none
  | k + 1, x0, x3, x10 => if x10 < (x0.length : Int) then (if 0 ≤ x10 then (if x10 < (x3.length : Int) then ((cotterref06_Same.f k ((rd_T40 x3 x10).f0) ((rd_T40 x3 x10).f1) ((rd_T40 x3 x10).f2) ((rd_T40 x3 x10).f3) ((rd_T40 x0 x10).f0) ((rd_T40 x0 x10).f1) ((rd_T40 x0 x10).f2) ((rd_T40 x0 x10).f3)).bind fun t228 => (if t228 = true then (cotterlaw07_LinkLinks.l2 k x0 x3 (wrap64 (x10 + 1))) else (some false))) else (none)) else (none)) else ((cotterlaw07_live.f).bind fun t229 => (some t229))
end
def cotterlaw07_LinkLinks.f (k : Nat) (l0 : List (S40)) : Option (Bool) := (cotterlaw07_small.f k l0).bind fun t200 => (if t200 = true then ((cotterlaw07_copies.f k l0).bind fun t202 => ((link_Link.f t202).bind fun bt205 => ((cotterref07_Link.f l0).bind fun bt214 => (if bt205.2.2.2 = bt214.2.2.2 then ((cotterref07_Same.f k bt205.1 bt205.2.1 bt205.2.2.1 bt214.1 bt214.2.1 bt214.2.2.1).bind fun t223 => (cotterlaw07_LinkLinks.j0 k l0 t202 (!t223) bt205.1 bt205.2.1 bt205.2.2.1)) else (cotterlaw07_LinkLinks.j0 k l0 t202 true bt205.1 bt205.2.1 bt205.2.2.1))))) else ((cotterlaw07_live.f).bind fun t201 => (some t201)))
def cotterlaw07_LinkLinks.T19 : Bool × List (List Nat × List Nat) := (true, [([], []), ([], []), ([0, 1], [0, 1]), ([2], [2]), ([], []), ([], []), ([4, 5], [4, 5]), ([6], [6]), ([3, 7], [3, 7]), ([8, 8, 0, 1, 2, 3, 4, 5, 6, 7, 8], [8])])
def cotterlaw07_LinkLinks.B19 : List Nat := [0, 0, 3, 7, 0, 0, 48, 112, 255, 511]
theorem cotterlaw07_LinkLinks.tab19 : rtab .any (opsOf Try.f3 19) = cotterlaw07_LinkLinks.T19 := by kernel_rfl
theorem cotterlaw07_LinkLinks.bits19 : waitsOk cotterlaw07_LinkLinks.T19.2 cotterlaw07_LinkLinks.B19 = true := by kernel_rfl
set_option maxHeartbeats 8000000 in
set_option maxRecDepth 100000 in
theorem cotterlaw07_LinkLinks.calls (k : Nat) (A0 : Option Addr) (c0 : Nat) (l0 : List (S40)) (r : Bool) (w : World) (hr0 : Kd.C k40 w A0 l0.length l0) (hc0 : l0.length ≤ c0) (h : cotterlaw07_LinkLinks.f k l0 = some r) :
    Calls Try.prog 3 #[.slice A0 l0.length c0] w fun e w' => e = .returned (.bool r) ∧ Below w.heap.size w w' := by
  have hu29 := Try.underlying29
  have hu40 := Try.underlying40
  have HR0 := Aside0.mk hr0
  have HC0 := Aside0.mk hc0
  clear hr0 hc0
  have HB := Aside0.mk (Below.refl w.heap.size w)
  have H : ((cotterlaw07_small.f k l0).bind fun t200 => (if t200 = true then ((cotterlaw07_copies.f k l0).bind fun t202 => ((link_Link.f t202).bind fun bt205 => ((cotterref07_Link.f l0).bind fun bt214 => (if bt205.2.2.2 = bt214.2.2.2 then ((cotterref07_Same.f k bt205.1 bt205.2.1 bt205.2.2.1 bt214.1 bt214.2.1 bt214.2.2.1).bind fun t223 => (cotterlaw07_LinkLinks.j0 k l0 t202 (!t223) bt205.1 bt205.2.1 bt205.2.2.1)) else (cotterlaw07_LinkLinks.j0 k l0 t202 true bt205.1 bt205.2.1 bt205.2.2.1))))) else ((cotterlaw07_live.f).bind fun t201 => (some t201)))) = some r := h
  clear h
  replace H := Option.bind_eq_some_iff.mp H
  obtain ⟨t200, A20, H⟩ := H
  replace H : (if t200 = true then ((cotterlaw07_copies.f k l0).bind fun t202 => ((link_Link.f t202).bind fun bt205 => ((cotterref07_Link.f l0).bind fun bt214 => (if bt205.2.2.2 = bt214.2.2.2 then ((cotterref07_Same.f k bt205.1 bt205.2.1 bt205.2.2.1 bt214.1 bt214.2.1 bt214.2.2.1).bind fun t223 => (cotterlaw07_LinkLinks.j0 k l0 t202 (!t223) bt205.1 bt205.2.1 bt205.2.2.1)) else (cotterlaw07_LinkLinks.j0 k l0 t202 true bt205.1 bt205.2.1 bt205.2.2.1))))) else ((cotterlaw07_live.f).bind fun t201 => (some t201))) = some r := H
  have A2 := Aside0.mk A20
  clear A20
  by_cases c3 : t200 = true
  · subst c3
    have H1 : ((cotterlaw07_copies.f k l0).bind fun t202 => ((link_Link.f t202).bind fun bt205 => ((cotterref07_Link.f l0).bind fun bt214 => (if bt205.2.2.2 = bt214.2.2.2 then ((cotterref07_Same.f k bt205.1 bt205.2.1 bt205.2.2.1 bt214.1 bt214.2.1 bt214.2.2.1).bind fun t223 => (cotterlaw07_LinkLinks.j0 k l0 t202 (!t223) bt205.1 bt205.2.1 bt205.2.2.1)) else (cotterlaw07_LinkLinks.j0 k l0 t202 true bt205.1 bt205.2.1 bt205.2.2.1))))) = some r := by rw [if_pos rfl] at H; exact H
    clear H
    have H := H1
    clear H1
    replace H := Option.bind_eq_some_iff.mp H
    obtain ⟨t202, A40, H⟩ := H
    replace H : ((link_Link.f t202).bind fun bt205 => ((cotterref07_Link.f l0).bind fun bt214 => (if bt205.2.2.2 = bt214.2.2.2 then ((cotterref07_Same.f k bt205.1 bt205.2.1 bt205.2.2.1 bt214.1 bt214.2.1 bt214.2.2.1).bind fun t223 => (cotterlaw07_LinkLinks.j0 k l0 t202 (!t223) bt205.1 bt205.2.1 bt205.2.2.1)) else (cotterlaw07_LinkLinks.j0 k l0 t202 true bt205.1 bt205.2.1 bt205.2.2.1)))) = some r := H
    have A4 := Aside0.mk A40
    clear A40
    replace H := Option.bind_eq_some_iff.mp H
    obtain ⟨⟨t205, t206, t209, t212⟩, A50, H⟩ := H
    replace H : ((cotterref07_Link.f l0).bind fun bt214 => (if t212 = bt214.2.2.2 then ((cotterref07_Same.f k t205 t206 t209 bt214.1 bt214.2.1 bt214.2.2.1).bind fun t223 => (cotterlaw07_LinkLinks.j0 k l0 t202 (!t223) t205 t206 t209)) else (cotterlaw07_LinkLinks.j0 k l0 t202 true t205 t206 t209))) = some r := H
    have A5 := Aside0.mk A50
    clear A50
    replace H := Option.bind_eq_some_iff.mp H
    obtain ⟨⟨t214, t215, t218, t221⟩, A60, H⟩ := H
    replace H : (if t212 = t221 then ((cotterref07_Same.f k t205 t206 t209 t214 t215 t218).bind fun t223 => (cotterlaw07_LinkLinks.j0 k l0 t202 (!t223) t205 t206 t209)) else (cotterlaw07_LinkLinks.j0 k l0 t202 true t205 t206 t209)) = some r := H
    have A6 := Aside0.mk A60
    clear A60
    have HC7 := Aside0.mk H
    clear H
    go_enter Try.func3, Try.ntmps3
    go_upto_region 6 with (first | ((with_reducible refine gate_callee (f := 9) rfl ?_); refine goesL_ (some 13) rfl rfl Try.func9 (by kernel_rfl) rfl #[.slice A0 l0.length c0] rfl (by (try simp only [List.map_toArray, List.map_cons, List.map_nil]); first | done | rfl | (simp only [List.length_drop, List.length_take]; rfl)) ?_; (with_reducible refine (cotterlaw07_small.calls k _ _ l0 true _ ?side1 ?side2 A2.out).mono ?_); (case side1 => repeat (first | exact HR0.out | (with_reducible refine Kd.C_alloc ?_ _) | (with_reducible refine Kd.C_drewN ?_ _) | (with_reducible refine Kd.C_drew ?_))); (case side2 => exact HC0.out); rintro e w' ⟨rfl, ⟨nd, rfl⟩⟩; refine ⟨_, rfl, ?_⟩) | ((with_reducible refine gate_callee (f := 11) rfl ?_); refine goesL_ (some 17) rfl rfl Try.func11 (by kernel_rfl) rfl #[.slice A0 l0.length c0] rfl (by (try simp only [List.map_toArray, List.map_cons, List.map_nil]); first | done | rfl | (simp only [List.length_drop, List.length_take]; rfl)) ?_; (with_reducible refine (cotterlaw07_copies.calls k _ _ l0 t202 _ ?side1 ?side2 A4.out).mono ?_); (case side1 => repeat (first | exact HR0.out | (with_reducible refine Kd.C_alloc ?_ _) | (with_reducible refine Kd.C_drewN ?_ _) | (with_reducible refine Kd.C_drew ?_))); (case side2 => exact HC0.out); rintro e w8 ⟨v203, rfl, ho0, hb⟩; refine ⟨_, rfl, ?_⟩; have n0_ := Aside0.mk (Kd.S_lower ho0 (below_size (by repeat (first | (with_reducible first | exact HB.out | apply below_alloc | apply pw_below_drewN | apply below_drew1) | exact HB.out)))); have n1_ := Aside0.mk (below_step (by repeat (first | (with_reducible first | exact HB.out | apply below_alloc | apply pw_below_drewN | apply below_drew1) | exact HB.out)) hb); clear HB; have HO204 := n0_; have HB := n1_; clear n0_ n1_; (try clear hb); (try clear hb2); (try clear hk); (try clear hi); (try clear ho0); obtain ⟨Ao9, co9, eo9⟩ := Kd.S_slice HO204.out; subst eo9) | ((with_reducible refine gate_callee (f := 12) rfl ?_); refine goesL_ (some 20) rfl rfl Try.func12 (by kernel_rfl) rfl #[.slice Ao9 t202.length co9] rfl (by (try simp only [List.map_toArray, List.map_cons, List.map_nil]); first | done | rfl | (simp only [List.length_drop, List.length_take]; rfl)) ?_; (with_reducible refine (link_Link.calls _ _ t202 t205 t206 t209 t212 _ ?side1 ?side2 A5.out).mono ?_); (case side1 => repeat (first | exact (Kd.S_reads' HO204.out).2.2 | (with_reducible refine Kd.C_alloc ?_ _) | (with_reducible refine Kd.C_drewN ?_ _) | (with_reducible refine Kd.C_drew ?_))); (case side2 => exact (Kd.S_reads' HO204.out).2.1); rintro e w10 ⟨v207, v210, rfl, ho0, ho1, hb⟩; refine ⟨_, rfl, ?_⟩; have n0_ := Aside0.mk (Kd.S_mono (Kd.S_told (Kd.S_told (Kd.S_old (by (with_reducible repeat (first | apply Kd.S_alloc | apply Kd.S_drewN | apply Kd.S_drew)); exact HO204.out) hb) (Kd.R_base ho0)) (Kd.R_base ho1)) (fun _ h_ => h_.1)); have n1_ := Aside0.mk (Kd.R_lower ho0 (below_size (by repeat (first | (with_reducible first | exact HB.out | apply below_alloc | apply pw_below_drewN | apply below_drew1) | exact HB.out)))); have n2_ := Aside0.mk (Kd.R_lower ho1 (below_size (by repeat (first | (with_reducible first | exact HB.out | apply below_alloc | apply pw_below_drewN | apply below_drew1) | exact HB.out)))); have n3_ := Aside0.mk (below_step (by repeat (first | (with_reducible first | exact HB.out | apply below_alloc | apply pw_below_drewN | apply below_drew1) | exact HB.out)) hb); clear HO204; clear HB; have HO204 := n0_; have HO208 := n1_; have HO211 := n2_; have HB := n3_; clear n0_ n1_ n2_ n3_; (try clear hb); (try clear hb2); (try clear hk); (try clear hi); (try clear ho0); (try clear ho1)) | ((with_reducible refine gate_dst (N := 4) rfl ?_); refine box_event ?hg (N := 4) ?hd (cs := #[.string (⟨#[]⟩ : ByteArray), .slice none 0 0, .slice none 0 0]) (t := 29) ?hr ?_; (case hd => rfl); (case hg => rfl); (case hr => first | (go_simp; done) | (go_simp; rfl)); intro gb213 hg w11 hbox hb; have n0_ := Aside0.mk (Kd.S_below (by (with_reducible repeat (first | apply Kd.S_alloc | apply Kd.S_drewN | apply Kd.S_drew)); exact HO204.out) hb); have n1_ := Aside0.mk (Kd.R_below (by (with_reducible repeat (first | apply Kd.R_alloc | apply Kd.R_drewN | apply Kd.R_drew)); exact HO208.out) hb); have n2_ := Aside0.mk (Kd.R_below (by (with_reducible repeat (first | apply Kd.R_alloc | apply Kd.R_drewN | apply Kd.R_drew)); exact HO211.out) hb); have n3_ := Aside0.mk (below_step (by repeat (first | (with_reducible first | exact HB.out | apply below_alloc | apply pw_below_drewN | apply below_drew1) | exact HB.out)) hb); have n4_ := Aside0.mk (hbox); have n5_ := Aside0.mk ((by rw [hg]; exact (below_size (by repeat (first | (with_reducible first | exact HB.out | apply below_alloc | apply pw_below_drewN | apply below_drew1) | exact HB.out))) : w.heap.size ≤ gb213)); have n6_ := Aside0.mk ((by rw [hg]; exact (below_size (by repeat (first | (with_reducible first | exact HB.out | apply below_alloc | apply pw_below_drewN | apply below_drew1) | exact HB.out))) : w.heap.size ≤ gb213)); clear HO204; clear HO208; clear HO211; clear HB; have HO204 := n0_; have HO208 := n1_; have HO211 := n2_; have HB := n3_; have BK213 := n4_; have GW213 := n5_; have GE213 := n6_; clear n0_ n1_ n2_ n3_ n4_ n5_ n6_; clear hb hbox hg; have hcz12_0 : w11.cell? ⟨gb213, 0, none⟩ = some (.string (⟨#[]⟩ : ByteArray)) := (blk_cell BK213.out 0).trans rfl; have hcz12_1 : w11.cell? ⟨gb213, 1, none⟩ = some (.slice none 0 0) := (blk_cell BK213.out 1).trans rfl; have hcz12_2 : w11.cell? ⟨gb213, 2, none⟩ = some (.slice none 0 0) := (blk_cell BK213.out 2).trans rfl; have hfz12_0 := blk_frozen BK213.out 0; have hfz12_1 := blk_frozen BK213.out 1; have hfz12_2 := blk_frozen BK213.out 2; obtain ⟨Ao13, co13, eo13⟩ := Kd.R_slice HO208.out; subst eo13; obtain ⟨Ao14, co14, eo14⟩ := Kd.R_slice HO211.out; subst eo14) | ((with_reducible refine gate_callee (f := 13) rfl ?_); refine goesL_ (some 25) rfl rfl Try.func13 (by kernel_rfl) rfl #[.slice A0 l0.length c0] rfl (by (try simp only [List.map_toArray, List.map_cons, List.map_nil]); first | done | rfl | (simp only [List.length_drop, List.length_take]; rfl)) ?_; (with_reducible refine (cotterref07_Link.calls _ _ l0 t214 t215 t218 t221 _ ?side1 ?side2 A6.out).mono ?_); (case side1 => exact Kd.C_below HR0.out (by repeat (first | (with_reducible first | exact HB.out | apply below_alloc | apply pw_below_drewN | apply below_drew1 | refine below_set ?_ GE213.out) | exact HB.out))); (case side2 => exact HC0.out); rintro e w15 ⟨v216, v219, rfl, ho0, ho1, hb⟩; refine ⟨_, rfl, ?_⟩; have n0_ := Aside0.mk (Kd.S_mono (Kd.S_told (Kd.S_told (Kd.S_old (by (with_reducible repeat (first | apply Kd.S_alloc | apply Kd.S_drewN | apply Kd.S_drew)); exact (Kd.S_mono (Kd.S_far (p := ⟨gb213, 2, none⟩) (Kd.S_far (p := ⟨gb213, 1, none⟩) (Kd.S_far (p := ⟨gb213, 0, none⟩) (Kd.S_types HO204.out BK213.out (by decide)) (fun _ hk => hk.2) (.string t205)) (fun _ hk => hk.2) (.slice Ao13 t206.length co13)) (fun _ hk => hk.2) (.slice Ao14 t209.length co14)) (fun _ h_ => h_.1))) hb) (Kd.R_base ho0)) (Kd.R_base ho1)) (fun _ h_ => h_.1)); have n1_ := Aside0.mk (Kd.R_elder' (by (with_reducible repeat (first | apply Kd.R_alloc | apply Kd.R_drewN | apply Kd.R_drew)); exact (Kd.R_mono (Kd.R_far (p := ⟨gb213, 2, none⟩) (Kd.R_far (p := ⟨gb213, 1, none⟩) (Kd.R_far (p := ⟨gb213, 0, none⟩) (Kd.R_types HO208.out BK213.out (by decide)) (fun _ hk => hk.2) (.string t205)) (fun _ hk => hk.2) (.slice Ao13 t206.length co13)) (fun _ hk => hk.2) (.slice Ao14 t209.length co14)) (fun _ h_ => h_.1))) (Kd.R_base ho0) hb); have n2_ := Aside0.mk (Kd.R_elder' (by (with_reducible repeat (first | apply Kd.R_alloc | apply Kd.R_drewN | apply Kd.R_drew)); exact (Kd.R_mono (Kd.R_far (p := ⟨gb213, 2, none⟩) (Kd.R_far (p := ⟨gb213, 1, none⟩) (Kd.R_far (p := ⟨gb213, 0, none⟩) (Kd.R_types HO211.out BK213.out (by decide)) (fun _ hk => hk.2) (.string t205)) (fun _ hk => hk.2) (.slice Ao13 t206.length co13)) (fun _ hk => hk.2) (.slice Ao14 t209.length co14)) (fun _ h_ => h_.1))) (Kd.R_base ho1) hb); have n3_ := Aside0.mk (Kd.R_lower (Kd.R_new' ho0 (Kd.R_lt (by (with_reducible repeat (first | apply Kd.R_alloc | apply Kd.R_drewN | apply Kd.R_drew)); exact (Kd.R_mono (Kd.R_far (p := ⟨gb213, 2, none⟩) (Kd.R_far (p := ⟨gb213, 1, none⟩) (Kd.R_far (p := ⟨gb213, 0, none⟩) (Kd.R_types HO208.out BK213.out (by decide)) (fun _ hk => hk.2) (.string t205)) (fun _ hk => hk.2) (.slice Ao13 t206.length co13)) (fun _ hk => hk.2) (.slice Ao14 t209.length co14)) (fun _ h_ => h_.1))))) (below_size (by repeat (first | (with_reducible first | exact HB.out | apply below_alloc | apply pw_below_drewN | apply below_drew1 | refine below_set ?_ GE213.out) | exact HB.out)))); have n4_ := Aside0.mk (Kd.R_lower (Kd.R_new' ho1 (Kd.R_lt (by (with_reducible repeat (first | apply Kd.R_alloc | apply Kd.R_drewN | apply Kd.R_drew)); exact (Kd.R_mono (Kd.R_far (p := ⟨gb213, 2, none⟩) (Kd.R_far (p := ⟨gb213, 1, none⟩) (Kd.R_far (p := ⟨gb213, 0, none⟩) (Kd.R_types HO211.out BK213.out (by decide)) (fun _ hk => hk.2) (.string t205)) (fun _ hk => hk.2) (.slice Ao13 t206.length co13)) (fun _ hk => hk.2) (.slice Ao14 t209.length co14)) (fun _ h_ => h_.1))))) (below_size (by repeat (first | (with_reducible first | exact HB.out | apply below_alloc | apply pw_below_drewN | apply below_drew1 | refine below_set ?_ GE213.out) | exact HB.out)))); have n5_ := Aside0.mk (blk_below (g := gb213) (o := .cells #[.string t205, .slice Ao13 t206.length co13, .slice Ao14 t209.length co14] 29 (0, 0)) (by (with_reducible repeat (first | refine blk_drewN ?_ _ | refine blk_drew ?_ | refine blk_alloc ?_ _)); refine blk_put (cs := #[.string t205, .slice Ao13 t206.length co13, .slice none 0 0]) ?_ 2 _ rfl; (with_reducible repeat (first | refine blk_drewN ?_ _ | refine blk_drew ?_ | refine blk_alloc ?_ _)); refine blk_put (cs := #[.string t205, .slice none 0 0, .slice none 0 0]) ?_ 1 _ rfl; (with_reducible repeat (first | refine blk_drewN ?_ _ | refine blk_drew ?_ | refine blk_alloc ?_ _)); refine blk_put (cs := #[.string (⟨#[]⟩ : ByteArray), .slice none 0 0, .slice none 0 0]) ?_ 0 _ rfl; (with_reducible repeat (first | refine blk_drewN ?_ _ | refine blk_drew ?_ | refine blk_alloc ?_ _)); exact BK213.out) hb); have n6_ := Aside0.mk (below_step (by repeat (first | (with_reducible first | exact HB.out | apply below_alloc | apply pw_below_drewN | apply below_drew1 | refine below_set ?_ GE213.out) | exact HB.out)) hb); clear HO204; clear HO208; clear HO211; clear BK213; clear HB; have HO204 := n0_; have HO208 := n1_; have HO211 := n2_; have HO217 := n3_; have HO220 := n4_; have BK213 := n5_; have HB := n6_; clear n0_ n1_ n2_ n3_ n4_ n5_ n6_; (try clear hb); (try clear hb2); (try clear hk); (try clear hi); (try clear ho0); (try clear ho1)) | ((with_reducible refine gate_dst (N := 6) rfl ?_); refine box_event ?hg (N := 6) ?hd (cs := #[.string (⟨#[]⟩ : ByteArray), .slice none 0 0, .slice none 0 0]) (t := 29) ?hr ?_; (case hd => rfl); (case hg => rfl); (case hr => first | (go_simp; done) | (go_simp; rfl)); intro gb222 hg w16 hbox hb; have n0_ := Aside0.mk (Kd.S_below (by (with_reducible repeat (first | apply Kd.S_alloc | apply Kd.S_drewN | apply Kd.S_drew)); exact HO204.out) hb); have n1_ := Aside0.mk (Kd.R_below (by (with_reducible repeat (first | apply Kd.R_alloc | apply Kd.R_drewN | apply Kd.R_drew)); exact HO208.out) hb); have n2_ := Aside0.mk (Kd.R_below (by (with_reducible repeat (first | apply Kd.R_alloc | apply Kd.R_drewN | apply Kd.R_drew)); exact HO211.out) hb); have n3_ := Aside0.mk (Kd.R_below (by (with_reducible repeat (first | apply Kd.R_alloc | apply Kd.R_drewN | apply Kd.R_drew)); exact HO217.out) hb); have n4_ := Aside0.mk (Kd.R_below (by (with_reducible repeat (first | apply Kd.R_alloc | apply Kd.R_drewN | apply Kd.R_drew)); exact HO220.out) hb); have n5_ := Aside0.mk (blk_below (g := gb213) (o := .cells #[.string t205, .slice Ao13 t206.length co13, .slice Ao14 t209.length co14] 29 (0, 0)) (by (with_reducible repeat (first | refine blk_drewN ?_ _ | refine blk_drew ?_ | refine blk_alloc ?_ _)); exact BK213.out) hb); have n6_ := Aside0.mk (below_step (by repeat (first | (with_reducible first | exact HB.out | apply below_alloc | apply pw_below_drewN | apply below_drew1 | refine below_set ?_ GE213.out) | exact HB.out)) hb); have n7_ := Aside0.mk (hbox); have n8_ := Aside0.mk ((by rw [hg]; exact (below_size (by repeat (first | (with_reducible first | exact HB.out | apply below_alloc | apply pw_below_drewN | apply below_drew1 | refine below_set ?_ GE213.out) | exact HB.out))) : w.heap.size ≤ gb222)); have n9_ := Aside0.mk ((by rw [hg]; exact (below_size (by repeat (first | (with_reducible first | exact HB.out | apply below_alloc | apply pw_below_drewN | apply below_drew1 | refine below_set ?_ GE213.out) | exact HB.out))) : w.heap.size ≤ gb222)); have n10_ := Aside0.mk ((by rw [hg]; exact Nat.ne_of_lt (blk_lt (g := gb213) (o := .cells #[.string t205, .slice Ao13 t206.length co13, .slice Ao14 t209.length co14] 29 (0, 0)) (by (with_reducible repeat (first | refine blk_drewN ?_ _ | refine blk_drew ?_ | refine blk_alloc ?_ _)); exact BK213.out)) : gb213 ≠ gb222)); have n11_ := Aside0.mk ((by rw [hg]; exact Nat.ne_of_gt (blk_lt (g := gb213) (o := .cells #[.string t205, .slice Ao13 t206.length co13, .slice Ao14 t209.length co14] 29 (0, 0)) (by (with_reducible repeat (first | refine blk_drewN ?_ _ | refine blk_drew ?_ | refine blk_alloc ?_ _)); exact BK213.out)) : gb222 ≠ gb213)); clear HO204; clear HO208; clear HO211; clear HO217; clear HO220; clear BK213; clear HB; have HO204 := n0_; have HO208 := n1_; have HO211 := n2_; have HO217 := n3_; have HO220 := n4_; have BK213 := n5_; have HB := n6_; have BK222 := n7_; have GW222 := n8_; have GE222 := n9_; have NB213_222 := n10_; have NB222_213 := n11_; clear n0_ n1_ n2_ n3_ n4_ n5_ n6_ n7_ n8_ n9_ n10_ n11_; clear hb hbox hg; have hnb17 := NB222_213.out; have hnc17 := NB213_222.out; have hcz18_0 : w16.cell? ⟨gb222, 0, none⟩ = some (.string (⟨#[]⟩ : ByteArray)) := (blk_cell BK222.out 0).trans rfl; have hcz18_1 : w16.cell? ⟨gb222, 1, none⟩ = some (.slice none 0 0) := (blk_cell BK222.out 1).trans rfl; have hcz18_2 : w16.cell? ⟨gb222, 2, none⟩ = some (.slice none 0 0) := (blk_cell BK222.out 2).trans rfl; have hfz18_0 := blk_frozen BK222.out 0; have hfz18_1 := blk_frozen BK222.out 1; have hfz18_2 := blk_frozen BK222.out 2; obtain ⟨Ao19, co19, eo19⟩ := Kd.R_slice HO217.out; subst eo19; obtain ⟨Ao20, co20, eo20⟩ := Kd.R_slice HO220.out; subst eo20))
    (try simp only [Act.put, List.setIfInBounds_toArray, List.set_cons_zero, List.set_cons_succ])
    go_cut [36] (fun v36 wc => ∃ (kq : Nat) (x36_6 : Bool), v36 = .bool x36_6 ∧ Aside0 (cotterlaw07_LinkLinks.j0 kq l0 t202 x36_6 t205 t206 t209 = some r) ∧ Aside0 (kq ≤ k) ∧ Aside0 (Kd.S k40 40 wc w.heap.size (fun k_ => some k_ ≠ ((.slice Ao13 t206.length co13) : Value).ownBlock ∧ some k_ ≠ ((.slice Ao14 t209.length co14) : Value).ownBlock ∧ some k_ ≠ ((.slice Ao19 t215.length co19) : Value).ownBlock ∧ some k_ ≠ ((.slice Ao20 t218.length co20) : Value).ownBlock) (.slice Ao9 t202.length co9) t202) ∧ Aside0 (Kd.R (Kd.int .i64) 2 wc w.heap.size (fun k_ => some k_ ≠ ((.slice Ao19 t215.length co19) : Value).ownBlock) (.slice Ao13 t206.length co13) t206) ∧ Aside0 (Kd.R k36 36 wc w.heap.size (fun k_ => some k_ ≠ ((.slice Ao20 t218.length co20) : Value).ownBlock) (.slice Ao14 t209.length co14) t209) ∧ Aside0 (Kd.R (Kd.int .i64) 2 wc w.heap.size (fun k_ => some k_ ≠ ((.slice Ao13 t206.length co13) : Value).ownBlock) (.slice Ao19 t215.length co19) t215) ∧ Aside0 (Kd.R k36 36 wc w.heap.size (fun k_ => some k_ ≠ ((.slice Ao14 t209.length co14) : Value).ownBlock) (.slice Ao20 t218.length co20) t218) ∧ Aside0 (wc.heap[gb213]? = some (.cells #[.string t205, (.slice Ao13 t206.length co13), (.slice Ao14 t209.length co14)] 29 (0, 0))) ∧ Aside0 (wc.heap[gb222]? = some (.cells #[.string t214, (.slice Ao19 t215.length co19), (.slice Ao20 t218.length co20)] 29 (0, 0))) ∧ Aside0 (Below w.heap.size w wc))
    case first =>
      have H := HC7.out
      clear HC7
      by_cases c21 : t212 = t221
      · rw [if_pos c21] at H
        have c21b0 : (t212 == t221) = true := beq_iff_eq.mpr c21
        have c21b1 : (t212 != t221) = false := bne_eq_false_iff_eq.mpr c21
        clear c21
        (first | rw [c21b0] | (simp only [i64_w, i32_w]; rw [c21b0]) | skip)
        replace H := Option.bind_eq_some_iff.mp H
        obtain ⟨t223, A220, H⟩ := H
        replace H : (cotterlaw07_LinkLinks.j0 k l0 t202 (!t223) t205 t206 t209) = some r := H
        have A22 := Aside0.mk A220
        clear A220
        have H' := Aside0.mk H
        clear H
        have hnb23 := NB213_222.out
        have hnc23 := NB222_213.out
        have hcz24_0 : w16.cell? ⟨gb213, 0, none⟩ = some (.string t205) := (blk_cell BK213.out 0).trans rfl
        have hcz24_1 : w16.cell? ⟨gb213, 1, none⟩ = some (.slice Ao13 t206.length co13) := (blk_cell BK213.out 1).trans rfl
        have hcz24_2 : w16.cell? ⟨gb213, 2, none⟩ = some (.slice Ao14 t209.length co14) := (blk_cell BK213.out 2).trans rfl
        have hfz24_0 := blk_frozen BK213.out 0
        have hfz24_1 := blk_frozen BK213.out 1
        have hfz24_2 := blk_frozen BK213.out 2
        have hcz25_0 : w16.cell? ⟨gb222, 0, none⟩ = some (.string (⟨#[]⟩ : ByteArray)) := (blk_cell BK222.out 0).trans rfl
        have hcz25_1 : w16.cell? ⟨gb222, 1, none⟩ = some (.slice none 0 0) := (blk_cell BK222.out 1).trans rfl
        have hcz25_2 : w16.cell? ⟨gb222, 2, none⟩ = some (.slice none 0 0) := (blk_cell BK222.out 2).trans rfl
        have hfz25_0 := blk_frozen BK222.out 0
        have hfz25_1 := blk_frozen BK222.out 1
        have hfz25_2 := blk_frozen BK222.out 2
        go_wp2_with (first | (go_at_call 14; (with_reducible refine (cotterref07_Same.calls k t205 _ _ t206 _ _ t209 t214 _ _ t215 _ _ t218 t223 _ ?side1 ?side2 ?side3 ?side4 ?side5 ?side6 ?side7 ?side8 A22.out).mono ?_); (case side1 => refine (Kd.R_reads' (e := 2) (base := w.heap.size) (ok := fun k_ => (True ∧ some k_ ≠ (.slice Ao19 t215.length co19 : Value).ownBlock)) (n := t206.length) (c := co13) ?_).2.2; exact (by (with_reducible repeat (first | apply Kd.R_alloc | apply Kd.R_drewN | apply Kd.R_drew)); exact (Kd.R_mono (Kd.R_far (p := ⟨gb222, 2, none⟩) (Kd.R_far (p := ⟨gb222, 1, none⟩) (Kd.R_far (p := ⟨gb222, 0, none⟩) (Kd.R_types HO208.out BK222.out (by decide)) (fun _ hk => hk.2) (.string t214)) (fun _ hk => hk.2) (.slice Ao19 t215.length co19)) (fun _ hk => hk.2) (.slice Ao20 t218.length co20)) (fun _ h_ => h_.1)))); (case side2 => exact (Kd.R_reads' HO208.out).2.1); (case side3 => refine (Kd.R_reads' (e := 36) (base := w.heap.size) (ok := fun k_ => (True ∧ some k_ ≠ (.slice Ao20 t218.length co20 : Value).ownBlock)) (n := t209.length) (c := co14) ?_).2.2; exact (by (with_reducible repeat (first | apply Kd.R_alloc | apply Kd.R_drewN | apply Kd.R_drew)); exact (Kd.R_mono (Kd.R_far (p := ⟨gb222, 2, none⟩) (Kd.R_far (p := ⟨gb222, 1, none⟩) (Kd.R_far (p := ⟨gb222, 0, none⟩) (Kd.R_types HO211.out BK222.out (by decide)) (fun _ hk => hk.2) (.string t214)) (fun _ hk => hk.2) (.slice Ao19 t215.length co19)) (fun _ hk => hk.2) (.slice Ao20 t218.length co20)) (fun _ h_ => h_.1)))); (case side4 => exact (Kd.R_reads' HO211.out).2.1); (case side5 => refine (Kd.R_reads' (e := 2) (base := w.heap.size) (ok := fun k_ => (True ∧ some k_ ≠ (.slice Ao13 t206.length co13 : Value).ownBlock)) (n := t215.length) (c := co19) ?_).2.2; exact (by (with_reducible repeat (first | apply Kd.R_alloc | apply Kd.R_drewN | apply Kd.R_drew)); exact (Kd.R_mono (Kd.R_far (p := ⟨gb222, 2, none⟩) (Kd.R_far (p := ⟨gb222, 1, none⟩) (Kd.R_far (p := ⟨gb222, 0, none⟩) (Kd.R_types HO217.out BK222.out (by decide)) (fun _ hk => hk.2) (.string t214)) (fun _ hk => hk.2) (.slice Ao19 t215.length co19)) (fun _ hk => hk.2) (.slice Ao20 t218.length co20)) (fun _ h_ => h_.1)))); (case side6 => exact (Kd.R_reads' HO217.out).2.1); (case side7 => refine (Kd.R_reads' (e := 36) (base := w.heap.size) (ok := fun k_ => (True ∧ some k_ ≠ (.slice Ao14 t209.length co14 : Value).ownBlock)) (n := t218.length) (c := co20) ?_).2.2; exact (by (with_reducible repeat (first | apply Kd.R_alloc | apply Kd.R_drewN | apply Kd.R_drew)); exact (Kd.R_mono (Kd.R_far (p := ⟨gb222, 2, none⟩) (Kd.R_far (p := ⟨gb222, 1, none⟩) (Kd.R_far (p := ⟨gb222, 0, none⟩) (Kd.R_types HO220.out BK222.out (by decide)) (fun _ hk => hk.2) (.string t214)) (fun _ hk => hk.2) (.slice Ao19 t215.length co19)) (fun _ hk => hk.2) (.slice Ao20 t218.length co20)) (fun _ h_ => h_.1)))); (case side8 => exact (Kd.R_reads' HO220.out).2.1); rintro e w26 ⟨rfl, hb⟩; have n0_ := Aside0.mk (Kd.S_below (by (with_reducible repeat (first | apply Kd.S_alloc | apply Kd.S_drewN | apply Kd.S_drew)); exact (Kd.S_mono (Kd.S_far (p := ⟨gb222, 2, none⟩) (Kd.S_far (p := ⟨gb222, 1, none⟩) (Kd.S_far (p := ⟨gb222, 0, none⟩) (Kd.S_types HO204.out BK222.out (by decide)) (fun _ hk => hk.2) (.string t214)) (fun _ hk => hk.2) (.slice Ao19 t215.length co19)) (fun _ hk => hk.2) (.slice Ao20 t218.length co20)) (fun _ h_ => h_.1))) hb); have n1_ := Aside0.mk (Kd.R_below (by (with_reducible repeat (first | apply Kd.R_alloc | apply Kd.R_drewN | apply Kd.R_drew)); exact (Kd.R_mono (Kd.R_far (p := ⟨gb222, 2, none⟩) (Kd.R_far (p := ⟨gb222, 1, none⟩) (Kd.R_far (p := ⟨gb222, 0, none⟩) (Kd.R_types HO208.out BK222.out (by decide)) (fun _ hk => hk.2) (.string t214)) (fun _ hk => hk.2) (.slice Ao19 t215.length co19)) (fun _ hk => hk.2) (.slice Ao20 t218.length co20)) (fun _ h_ => h_.1))) hb); have n2_ := Aside0.mk (Kd.R_below (by (with_reducible repeat (first | apply Kd.R_alloc | apply Kd.R_drewN | apply Kd.R_drew)); exact (Kd.R_mono (Kd.R_far (p := ⟨gb222, 2, none⟩) (Kd.R_far (p := ⟨gb222, 1, none⟩) (Kd.R_far (p := ⟨gb222, 0, none⟩) (Kd.R_types HO211.out BK222.out (by decide)) (fun _ hk => hk.2) (.string t214)) (fun _ hk => hk.2) (.slice Ao19 t215.length co19)) (fun _ hk => hk.2) (.slice Ao20 t218.length co20)) (fun _ h_ => h_.1))) hb); have n3_ := Aside0.mk (Kd.R_below (by (with_reducible repeat (first | apply Kd.R_alloc | apply Kd.R_drewN | apply Kd.R_drew)); exact (Kd.R_mono (Kd.R_far (p := ⟨gb222, 2, none⟩) (Kd.R_far (p := ⟨gb222, 1, none⟩) (Kd.R_far (p := ⟨gb222, 0, none⟩) (Kd.R_types HO217.out BK222.out (by decide)) (fun _ hk => hk.2) (.string t214)) (fun _ hk => hk.2) (.slice Ao19 t215.length co19)) (fun _ hk => hk.2) (.slice Ao20 t218.length co20)) (fun _ h_ => h_.1))) hb); have n4_ := Aside0.mk (Kd.R_below (by (with_reducible repeat (first | apply Kd.R_alloc | apply Kd.R_drewN | apply Kd.R_drew)); exact (Kd.R_mono (Kd.R_far (p := ⟨gb222, 2, none⟩) (Kd.R_far (p := ⟨gb222, 1, none⟩) (Kd.R_far (p := ⟨gb222, 0, none⟩) (Kd.R_types HO220.out BK222.out (by decide)) (fun _ hk => hk.2) (.string t214)) (fun _ hk => hk.2) (.slice Ao19 t215.length co19)) (fun _ hk => hk.2) (.slice Ao20 t218.length co20)) (fun _ h_ => h_.1))) hb); have n5_ := Aside0.mk (blk_below (g := gb213) (o := .cells #[.string t205, .slice Ao13 t206.length co13, .slice Ao14 t209.length co14] 29 (0, 0)) (by (with_reducible repeat (first | refine blk_drewN ?_ _ | refine blk_drew ?_ | refine blk_alloc ?_ _)); refine blk_far ?_ NB213_222.out _; (with_reducible repeat (first | refine blk_drewN ?_ _ | refine blk_drew ?_ | refine blk_alloc ?_ _)); refine blk_far ?_ NB213_222.out _; (with_reducible repeat (first | refine blk_drewN ?_ _ | refine blk_drew ?_ | refine blk_alloc ?_ _)); refine blk_far ?_ NB213_222.out _; (with_reducible repeat (first | refine blk_drewN ?_ _ | refine blk_drew ?_ | refine blk_alloc ?_ _)); exact BK213.out) hb); have n6_ := Aside0.mk (blk_below (g := gb222) (o := .cells #[.string t214, .slice Ao19 t215.length co19, .slice Ao20 t218.length co20] 29 (0, 0)) (by (with_reducible repeat (first | refine blk_drewN ?_ _ | refine blk_drew ?_ | refine blk_alloc ?_ _)); refine blk_put (cs := #[.string t214, .slice Ao19 t215.length co19, .slice none 0 0]) ?_ 2 _ rfl; (with_reducible repeat (first | refine blk_drewN ?_ _ | refine blk_drew ?_ | refine blk_alloc ?_ _)); refine blk_put (cs := #[.string t214, .slice none 0 0, .slice none 0 0]) ?_ 1 _ rfl; (with_reducible repeat (first | refine blk_drewN ?_ _ | refine blk_drew ?_ | refine blk_alloc ?_ _)); refine blk_put (cs := #[.string (⟨#[]⟩ : ByteArray), .slice none 0 0, .slice none 0 0]) ?_ 0 _ rfl; (with_reducible repeat (first | refine blk_drewN ?_ _ | refine blk_drew ?_ | refine blk_alloc ?_ _)); exact BK222.out) hb); have n7_ := Aside0.mk (below_step (by repeat (first | (with_reducible first | exact HB.out | apply below_alloc | apply pw_below_drewN | apply below_drew1 | refine below_set ?_ GE213.out | refine below_set ?_ GE222.out) | exact HB.out)) hb); clear HO204; clear HO208; clear HO211; clear HO217; clear HO220; clear BK213; clear BK222; clear HB; have HO204 := n0_; have HO208 := n1_; have HO211 := n2_; have HO217 := n3_; have HO220 := n4_; have BK213 := n5_; have BK222 := n6_; have HB := n7_; clear n0_ n1_ n2_ n3_ n4_ n5_ n6_ n7_; (try clear hb); (try clear hb2); (try clear hk); (try clear hi)))
        go_meet
        case rel => exact ⟨_, (!t223), (by first | rfl | (simp; done) | (simp [*]; done)), H', ⟨by first | omega | exact Nat.le_refl _⟩, ⟨by (with_reducible repeat (first | apply Kd.S_alloc | apply Kd.S_drewN | apply Kd.S_drew)); exact Kd.S_mono HO204.out (fun _ hk => ⟨hk.1.1.1.2, ⟨hk.1.1.2, ⟨hk.1.2, hk.2⟩⟩⟩)⟩, ⟨by (with_reducible repeat (first | apply Kd.R_alloc | apply Kd.R_drewN | apply Kd.R_drew)); exact Kd.R_mono HO208.out (fun _ hk => hk.2)⟩, ⟨by (with_reducible repeat (first | apply Kd.R_alloc | apply Kd.R_drewN | apply Kd.R_drew)); exact Kd.R_mono HO211.out (fun _ hk => hk.2)⟩, ⟨by (with_reducible repeat (first | apply Kd.R_alloc | apply Kd.R_drewN | apply Kd.R_drew)); exact Kd.R_mono HO217.out (fun _ hk => hk.2)⟩, ⟨by (with_reducible repeat (first | apply Kd.R_alloc | apply Kd.R_drewN | apply Kd.R_drew)); exact Kd.R_mono HO220.out (fun _ hk => hk.2)⟩, ⟨by (with_reducible repeat (first | refine blk_drewN ?_ _ | refine blk_drew ?_ | refine blk_alloc ?_ _)); exact BK213.out⟩, ⟨by (with_reducible repeat (first | refine blk_drewN ?_ _ | refine blk_drew ?_ | refine blk_alloc ?_ _)); exact BK222.out⟩, ⟨by repeat (first | (with_reducible first | exact HB.out | apply below_alloc | apply pw_below_drewN | apply below_drew1 | refine below_set ?_ GE213.out | refine below_set ?_ GE222.out) | exact HB.out)⟩⟩
      · rw [if_neg c21] at H
        have c21b0 : (t212 == t221) = false := beq_eq_false_iff_ne.mpr c21
        have c21b1 : (t212 != t221) = true := bne_iff_ne.mpr c21
        (first | rw [c21b0] | (simp only [i64_w, i32_w]; rw [c21b0]) | skip)
        have H' := Aside0.mk H
        clear H
        go_wp2
        go_meet
        case rel => exact ⟨_, (true), (by first | rfl | (simp; done) | (simp [*]; done)), H', ⟨by first | omega | exact Nat.le_refl _⟩, ⟨by (with_reducible repeat (first | apply Kd.S_alloc | apply Kd.S_drewN | apply Kd.S_drew)); exact Kd.S_mono (Kd.S_far (p := ⟨gb222, 2, none⟩) (Kd.S_far (p := ⟨gb222, 1, none⟩) (Kd.S_far (p := ⟨gb222, 0, none⟩) (Kd.S_types HO204.out BK222.out (by decide)) (fun _ hk => hk.2) (.string t214)) (fun _ hk => hk.2) (.slice Ao19 t215.length co19)) (fun _ hk => hk.2) (.slice Ao20 t218.length co20)) (fun _ hk => ⟨hk.1.1.1.1.2, ⟨hk.1.1.1.2, ⟨hk.1.1.2, hk.1.2⟩⟩⟩)⟩, ⟨by (with_reducible repeat (first | apply Kd.R_alloc | apply Kd.R_drewN | apply Kd.R_drew)); exact Kd.R_mono (Kd.R_far (p := ⟨gb222, 2, none⟩) (Kd.R_far (p := ⟨gb222, 1, none⟩) (Kd.R_far (p := ⟨gb222, 0, none⟩) (Kd.R_types HO208.out BK222.out (by decide)) (fun _ hk => hk.2) (.string t214)) (fun _ hk => hk.2) (.slice Ao19 t215.length co19)) (fun _ hk => hk.2) (.slice Ao20 t218.length co20)) (fun _ hk => hk.1.2)⟩, ⟨by (with_reducible repeat (first | apply Kd.R_alloc | apply Kd.R_drewN | apply Kd.R_drew)); exact Kd.R_mono (Kd.R_far (p := ⟨gb222, 2, none⟩) (Kd.R_far (p := ⟨gb222, 1, none⟩) (Kd.R_far (p := ⟨gb222, 0, none⟩) (Kd.R_types HO211.out BK222.out (by decide)) (fun _ hk => hk.2) (.string t214)) (fun _ hk => hk.2) (.slice Ao19 t215.length co19)) (fun _ hk => hk.2) (.slice Ao20 t218.length co20)) (fun _ hk => hk.1.2)⟩, ⟨by (with_reducible repeat (first | apply Kd.R_alloc | apply Kd.R_drewN | apply Kd.R_drew)); exact Kd.R_mono (Kd.R_far (p := ⟨gb222, 2, none⟩) (Kd.R_far (p := ⟨gb222, 1, none⟩) (Kd.R_far (p := ⟨gb222, 0, none⟩) (Kd.R_types HO217.out BK222.out (by decide)) (fun _ hk => hk.2) (.string t214)) (fun _ hk => hk.2) (.slice Ao19 t215.length co19)) (fun _ hk => hk.2) (.slice Ao20 t218.length co20)) (fun _ hk => hk.1.2)⟩, ⟨by (with_reducible repeat (first | apply Kd.R_alloc | apply Kd.R_drewN | apply Kd.R_drew)); exact Kd.R_mono (Kd.R_far (p := ⟨gb222, 2, none⟩) (Kd.R_far (p := ⟨gb222, 1, none⟩) (Kd.R_far (p := ⟨gb222, 0, none⟩) (Kd.R_types HO220.out BK222.out (by decide)) (fun _ hk => hk.2) (.string t214)) (fun _ hk => hk.2) (.slice Ao19 t215.length co19)) (fun _ hk => hk.2) (.slice Ao20 t218.length co20)) (fun _ hk => hk.1.2)⟩, ⟨by (with_reducible repeat (first | refine blk_drewN ?_ _ | refine blk_drew ?_ | refine blk_alloc ?_ _)); refine blk_far ?_ NB213_222.out _; (with_reducible repeat (first | refine blk_drewN ?_ _ | refine blk_drew ?_ | refine blk_alloc ?_ _)); refine blk_far ?_ NB213_222.out _; (with_reducible repeat (first | refine blk_drewN ?_ _ | refine blk_drew ?_ | refine blk_alloc ?_ _)); refine blk_far ?_ NB213_222.out _; (with_reducible repeat (first | refine blk_drewN ?_ _ | refine blk_drew ?_ | refine blk_alloc ?_ _)); exact BK213.out⟩, ⟨by (with_reducible repeat (first | refine blk_drewN ?_ _ | refine blk_drew ?_ | refine blk_alloc ?_ _)); refine blk_put (cs := #[.string t214, .slice Ao19 t215.length co19, .slice none 0 0]) ?_ 2 _ rfl; (with_reducible repeat (first | refine blk_drewN ?_ _ | refine blk_drew ?_ | refine blk_alloc ?_ _)); refine blk_put (cs := #[.string t214, .slice none 0 0, .slice none 0 0]) ?_ 1 _ rfl; (with_reducible repeat (first | refine blk_drewN ?_ _ | refine blk_drew ?_ | refine blk_alloc ?_ _)); refine blk_put (cs := #[.string (⟨#[]⟩ : ByteArray), .slice none 0 0, .slice none 0 0]) ?_ 0 _ rfl; (with_reducible repeat (first | refine blk_drewN ?_ _ | refine blk_drew ?_ | refine blk_alloc ?_ _)); exact BK222.out⟩, ⟨by repeat (first | (with_reducible first | exact HB.out | apply below_alloc | apply pw_below_drewN | apply below_drew1 | refine below_set ?_ GE213.out | refine below_set ?_ GE222.out) | exact HB.out)⟩⟩
    case rest =>
      clear HC7
      try clear c1
      try clear c2
      try clear p2
      try clear c3
      try clear c9
      try clear c11
      try clear c12
      try clear c13
      try clear c17
      try clear c21
      try clear c21b0
      try clear c21b1
      try clear c23
      try clear hcz12_0
      try clear hcz12_1
      try clear hcz12_2
      try clear hcz18_0
      try clear hcz18_1
      try clear hcz18_2
      try clear hcz24_0
      try clear hcz24_1
      try clear hcz24_2
      try clear hcz25_0
      try clear hcz25_1
      try clear hcz25_2
      try clear hfz12_0
      try clear hfz12_1
      try clear hfz12_2
      try clear hfz18_0
      try clear hfz18_1
      try clear hfz18_2
      try clear hfz24_0
      try clear hfz24_1
      try clear hfz24_2
      try clear hfz25_0
      try clear hfz25_1
      try clear hfz25_2
      obtain ⟨kq, x36_6, rfl, HA, HJ6, HO_3, HO_214001, HO_214002, HO_223001, HO_223002, BK213, BK222, HB⟩ := hcut
      cases kq with
      | zero => exact absurd HA.out (by simp [cotterlaw07_LinkLinks.j0])
      | succ kj6 =>
        have H := HA.out
        clear HA
        simp only [cotterlaw07_LinkLinks.j0] at H
        by_cases c27 : x36_6 = true
        · subst c27
          have H1 : (some false) = some r := by rw [if_pos rfl] at H; exact H
          clear H
          have H := H1
          clear H1
          obtain rfl := Option.some.inj H
          go_wp2
          go_ret
          exact ⟨by first | rfl | (simp [errW_none, errW_some] <;> rfl) | (simp [*, errW_none, errW_some] <;> rfl), by repeat (first | (with_reducible first | exact HB.out | apply below_alloc | apply pw_below_drewN | apply below_drew1 | refine below_set ?_ GE213.out | refine below_set ?_ GE222.out) | exact HB.out)⟩
        · replace c27 := Bool.eq_false_iff.mpr c27
          subst c27
          have H1 : (cotterlaw07_LinkLinks.l0 kj6 l0 t202 0 t205 t206 t209) = some r := by rw [if_neg (show ¬ (false = true) by decide)] at H; exact H
          clear H
          have H := H1
          clear H1
          have H' := Aside0.mk H
          clear H
          go_wp2
          go_loopg [8] kj6 (fun kq v8 w' => ∃ (x8_2 : Int) (x214001_2 : List Int) (x223001_2 : List Int) (u214001 : Value) (u223001 : Value), v8 = .int .i64 x8_2 ∧ Aside0 (cotterlaw07_LinkLinks.l0 kq l0 t202 x8_2 t205 x214001_2 t209 = some r) ∧ Aside0 (kq ≤ kj6) ∧ Aside0 (Kd.S k40 40 w' w.heap.size (fun k_ => some k_ ≠ (u214001 : Value).ownBlock ∧ some k_ ≠ ((.slice Ao14 t209.length co14) : Value).ownBlock ∧ some k_ ≠ (u223001 : Value).ownBlock ∧ some k_ ≠ ((.slice Ao20 t218.length co20) : Value).ownBlock) (.slice Ao9 t202.length co9) t202) ∧ Aside0 (Kd.R (Kd.int .i64) 2 w' w.heap.size (fun k_ => some k_ ≠ (u223001 : Value).ownBlock) u214001 x214001_2) ∧ Aside0 (Kd.R k36 36 w' w.heap.size (fun k_ => some k_ ≠ ((.slice Ao20 t218.length co20) : Value).ownBlock) (.slice Ao14 t209.length co14) t209) ∧ Aside0 (Kd.R (Kd.int .i64) 2 w' w.heap.size (fun k_ => some k_ ≠ (u214001 : Value).ownBlock) u223001 x223001_2) ∧ Aside0 (Kd.R k36 36 w' w.heap.size (fun k_ => some k_ ≠ ((.slice Ao14 t209.length co14) : Value).ownBlock) (.slice Ao20 t218.length co20) t218) ∧ Aside0 (w'.heap[gb213]? = some (.cells #[.string t205, u214001, (.slice Ao14 t209.length co14)] 29 (0, 0))) ∧ Aside0 (w'.heap[gb222]? = some (.cells #[.string t214, u223001, (.slice Ao20 t218.length co20)] 29 (0, 0))) ∧ Aside0 (Below w.heap.size w w'))
          case atStart => exact ⟨(0), (t206), (t215), (.slice Ao13 t206.length co13), (.slice Ao19 t215.length co19), (by first | rfl | (simp; done) | (simp [*]; done)), H', ⟨Nat.le_refl _⟩, ⟨by (with_reducible repeat (first | apply Kd.S_alloc | apply Kd.S_drewN | apply Kd.S_drew)); exact HO_3.out⟩, ⟨by (with_reducible repeat (first | apply Kd.R_alloc | apply Kd.R_drewN | apply Kd.R_drew)); exact HO_214001.out⟩, ⟨by (with_reducible repeat (first | apply Kd.R_alloc | apply Kd.R_drewN | apply Kd.R_drew)); exact HO_214002.out⟩, ⟨by (with_reducible repeat (first | apply Kd.R_alloc | apply Kd.R_drewN | apply Kd.R_drew)); exact HO_223001.out⟩, ⟨by (with_reducible repeat (first | apply Kd.R_alloc | apply Kd.R_drewN | apply Kd.R_drew)); exact HO_223002.out⟩, ⟨by (with_reducible repeat (first | refine blk_drewN ?_ _ | refine blk_drew ?_ | refine blk_alloc ?_ _)); exact BK213.out⟩, ⟨by (with_reducible repeat (first | refine blk_drewN ?_ _ | refine blk_drew ?_ | refine blk_alloc ?_ _)); exact BK222.out⟩, ⟨by repeat (first | (with_reducible first | exact HB.out | apply below_alloc | apply pw_below_drewN | apply below_drew1 | refine below_set ?_ GE213.out | refine below_set ?_ GE222.out) | exact HB.out)⟩⟩
          case round =>
            clear H'
            try clear c1
            try clear c2
            try clear p2
            try clear c3
            try clear c9
            try clear c11
            try clear c12
            try clear c13
            try clear c17
            try clear c21
            try clear c21b0
            try clear c21b1
            try clear c23
            try clear c27
            try clear hcz12_0
            try clear hcz12_1
            try clear hcz12_2
            try clear hcz18_0
            try clear hcz18_1
            try clear hcz18_2
            try clear hcz24_0
            try clear hcz24_1
            try clear hcz24_2
            try clear hcz25_0
            try clear hcz25_1
            try clear hcz25_2
            try clear hfz12_0
            try clear hfz12_1
            try clear hfz12_2
            try clear hfz18_0
            try clear hfz18_1
            try clear hfz18_2
            try clear hfz24_0
            try clear hfz24_1
            try clear hfz24_2
            try clear hfz25_0
            try clear hfz25_1
            try clear hfz25_2
            try clear p2
            obtain ⟨x8_2, x214001_2, x223001_2, u214001, u223001, rfl, HA, HK2, HO_3, HO_214001, HO_214002, HO_223001, HO_223002, BK213, BK222, HB⟩ := hrel
            cases gk with
            | zero => exact absurd HA.out (by simp [cotterlaw07_LinkLinks.l0])
            | succ k2 =>
              have H := HA.out
              clear HA
              simp only [cotterlaw07_LinkLinks.l0] at H
              by_cases c28 : x8_2 < (x214001_2.length : Int)
              · rw [if_pos c28] at H
                have c28b0 : decide (x8_2 < (x214001_2.length : Int)) = true := decide_eq_true c28
                clear c28
                by_cases c29 : 0 ≤ x8_2
                · rw [if_pos c29] at H
                  have c29b0 : decide (0 ≤ x8_2) = true := decide_eq_true c29
                  clear c29
                  obtain ⟨y224, hy224⟩ : ∃ y_ : List Int, y_ = (x214001_2.set (x8_2 : Int).toNat (-7)) := ⟨_, rfl⟩
                  replace H : (cotterlaw07_LinkLinks.l0 k2 l0 t202 (wrap64 (x8_2 + 1)) t205 y224 t209) = some r := by first | (rw [hy224]; with_reducible exact H) | (have H2_ := (Option.bind_some _ _).symm.trans H; rw [hy224]; with_reducible exact H2_) | (have H2_ := (Option.bind_some _ _).symm.trans H; with_reducible exact H2_) | with_reducible exact H | (rw [hy224]; exact H) | exact H
                  have Ny224 := Aside0.mk hy224
                  clear hy224
                  have H' := Aside0.mk H
                  clear H
                  have hnb31 := NB213_222.out
                  have hnc31 := NB222_213.out
                  have hcz32_0 : wr.cell? ⟨gb213, 0, none⟩ = some (.string t205) := (blk_cell BK213.out 0).trans rfl
                  have hcz32_1 : wr.cell? ⟨gb213, 1, none⟩ = some (u214001) := (blk_cell BK213.out 1).trans rfl
                  have hcz32_2 : wr.cell? ⟨gb213, 2, none⟩ = some (.slice Ao14 t209.length co14) := (blk_cell BK213.out 2).trans rfl
                  have hfz32_0 := blk_frozen BK213.out 0
                  have hfz32_1 := blk_frozen BK213.out 1
                  have hfz32_2 := blk_frozen BK213.out 2
                  obtain ⟨Ao33, co33, eo33⟩ := Kd.R_slice HO_214001.out
                  subst eo33
                  have p30 : 0 ≤ (x8_2 : Int) := of_decide_eq_true (by first | (with_reducible assumption) | assumption)
                  have q30 : (x8_2 : Int) < ((x214001_2.length : Int) : Int) := of_decide_eq_true (by first | (with_reducible assumption) | assumption)
                  obtain ⟨go30, co30, eo30, gb30, gl30, cl30, HG30⟩ := Kd.R_form HO_214001.out (by omega)
                  (first | cases eo30 | (injection eo30 with ea_ en_ ec_; (first | subst ea_ | (injection ea_ with ea_; subst ea_)); subst ec_; clear en_))
                  have GB30 := Aside0.mk gb30
                  have GG30 := Aside0.mk HG30
                  clear gb30 gl30 HG30
                  obtain ⟨hx30_0, hf30_0⟩ := Kd.R_celln 0 HO_214001.out (x8_2 : Int) p30 q30
                  replace p30 := eq_true p30
                  replace q30 := eq_true q30
                  have HP34 := Kd.R_putg HO_214001.out (x8_2 : Int) (-7)
                  go_wp2_with (first | ((with_reducible refine gate_store (t := 2) (p := 47) rfl ?_); refine store_event (t := 2) (p := 47) (v := ?vo_w35) (w1 := (wr.setCell ⟨go30, (x8_2 : Int).toNat, none⟩ (.int .i64 (-7)))) ?hg ?ho ?hn ?hr ?_; (case ho => rfl); (case hg => rfl); (case hn => rfl); (case hr => first | (go_simp; done) | (go_simp; rfl)); intro w35 hw; have hg : wr.grownBy w35 (some go30) := (by rw [hw]; exact HP34.2); have hp_ : Kd.R (Kd.int .i64) 2 w35 w.heap.size (fun k_ => some k_ ≠ (u223001 : Value).ownBlock) (.slice (some ⟨go30, 0, none⟩) x214001_2.length co33) y224 := (by rw [hw, Ny224.out]; exact HP34.1); clear HP34; have n0_ := Aside0.mk (Kd.S_after (v := (.slice (some ⟨go30, 0, none⟩) x214001_2.length co33)) (v1 := (.slice (some ⟨go30, 0, none⟩) x214001_2.length co33)) (ok := (fun k_ => some k_ ≠ (.slice Ao14 t209.length co14 : Value).ownBlock ∧ some k_ ≠ (u223001 : Value).ownBlock ∧ some k_ ≠ (.slice Ao20 t218.length co20 : Value).ownBlock)) (by (with_reducible repeat (first | apply Kd.S_alloc | apply Kd.S_drewN | apply Kd.S_drew)); exact Kd.S_mono HO_3.out (fun _ hk => ⟨⟨hk.2.1, ⟨hk.2.2.1, hk.2.2.2⟩⟩, hk.1⟩)) hg (.inl rfl)); have n1_ := Aside0.mk (hp_); have n2_ := Aside0.mk (Kd.R_over' (v := (.slice (some ⟨go30, 0, none⟩) x214001_2.length co33)) (by (with_reducible repeat (first | apply Kd.R_alloc | apply Kd.R_drewN | apply Kd.R_drew)); exact HO_214002.out) (Kd.R_typed HO_214001.out) (by decide) hg); have n3_ := Aside0.mk (Kd.R_after (v := (.slice (some ⟨go30, 0, none⟩) x214001_2.length co33)) (v1 := (.slice (some ⟨go30, 0, none⟩) x214001_2.length co33)) (ok := (fun _ => True)) (by (with_reducible repeat (first | apply Kd.R_alloc | apply Kd.R_drewN | apply Kd.R_drew)); exact Kd.R_mono HO_223001.out (fun _ hk => ⟨trivial, hk⟩)) hg (.inl rfl)); have n4_ := Aside0.mk (Kd.R_over' (v := (.slice (some ⟨go30, 0, none⟩) x214001_2.length co33)) (by (with_reducible repeat (first | apply Kd.R_alloc | apply Kd.R_drewN | apply Kd.R_drew)); exact HO_223002.out) (Kd.R_typed HO_214001.out) (by decide) hg); have n5_ := Aside0.mk (blk_grown (g := gb213) (o := .cells #[.string t205, .slice (some ⟨go30, 0, none⟩) x214001_2.length co33, .slice Ao14 t209.length co14] 29 (0, 0)) (by (with_reducible repeat (first | refine blk_drewN ?_ _ | refine blk_drew ?_ | refine blk_alloc ?_ _)); exact BK213.out) hg (Kd.R_ne HO_214001.out BK213.out (by decide))); have n6_ := Aside0.mk (blk_grown (g := gb222) (o := .cells #[.string t214, u223001, .slice Ao20 t218.length co20] 29 (0, 0)) (by (with_reducible repeat (first | refine blk_drewN ?_ _ | refine blk_drew ?_ | refine blk_alloc ?_ _)); exact BK222.out) hg (Kd.R_ne HO_214001.out BK222.out (by decide))); have n7_ := Aside0.mk ((by rw [hw]; exact below_set (HB.out) GB30.out : Below w.heap.size w w35)); clear HO_3; clear HO_214001; clear HO_214002; clear HO_223001; clear HO_223002; clear BK213; clear BK222; clear HB; have HO_3 := n0_; have HO_214001 := n1_; have HO_214002 := n2_; have HO_223001 := n3_; have HO_223002 := n4_; have BK213 := n5_; have BK222 := n6_; have HB := n7_; clear n0_ n1_ n2_ n3_ n4_ n5_ n6_ n7_; clear hg hw hp_))
                  go_roundg k2
                  case measure => have := HJ6.out; have := HK2.out; omega
                  case rel => exact ⟨(wrap64 (x8_2 + 1)), (y224), (x223001_2), (.slice (some ⟨go30, 0, none⟩) x214001_2.length co33), (u223001), (by first | rfl | (simp; done) | (simp [*]; done)), H', ⟨by have := HJ6.out; have := HK2.out; omega⟩, ⟨by (with_reducible repeat (first | apply Kd.S_alloc | apply Kd.S_drewN | apply Kd.S_drew)); exact Kd.S_mono HO_3.out (fun _ hk => ⟨hk.2, ⟨hk.1.1, ⟨hk.1.2.1, hk.1.2.2⟩⟩⟩)⟩, ⟨by (with_reducible repeat (first | apply Kd.R_alloc | apply Kd.R_drewN | apply Kd.R_drew)); exact HO_214001.out⟩, ⟨by (with_reducible repeat (first | apply Kd.R_alloc | apply Kd.R_drewN | apply Kd.R_drew)); exact HO_214002.out⟩, ⟨by (with_reducible repeat (first | apply Kd.R_alloc | apply Kd.R_drewN | apply Kd.R_drew)); exact Kd.R_mono HO_223001.out (fun _ hk => hk.2)⟩, ⟨by (with_reducible repeat (first | apply Kd.R_alloc | apply Kd.R_drewN | apply Kd.R_drew)); exact HO_223002.out⟩, ⟨by (with_reducible repeat (first | refine blk_drewN ?_ _ | refine blk_drew ?_ | refine blk_alloc ?_ _)); exact BK213.out⟩, ⟨by (with_reducible repeat (first | refine blk_drewN ?_ _ | refine blk_drew ?_ | refine blk_alloc ?_ _)); exact BK222.out⟩, ⟨by repeat (first | (with_reducible first | exact HB.out | apply below_alloc | apply pw_below_drewN | apply below_drew1 | refine below_set ?_ GE213.out | refine below_set ?_ GE222.out) | exact HB.out)⟩⟩
                · rw [if_neg c29] at H
                  exact absurd H (by simp)
              · rw [if_neg c28] at H
                have c28b0 : decide (x8_2 < (x214001_2.length : Int)) = false := decide_eq_false c28
                clear c28
                have H' := Aside0.mk H
                clear H
                have hnb36 := NB213_222.out
                have hnc36 := NB222_213.out
                have hcz37_0 : wr.cell? ⟨gb213, 0, none⟩ = some (.string t205) := (blk_cell BK213.out 0).trans rfl
                have hcz37_1 : wr.cell? ⟨gb213, 1, none⟩ = some (u214001) := (blk_cell BK213.out 1).trans rfl
                have hcz37_2 : wr.cell? ⟨gb213, 2, none⟩ = some (.slice Ao14 t209.length co14) := (blk_cell BK213.out 2).trans rfl
                have hfz37_0 := blk_frozen BK213.out 0
                have hfz37_1 := blk_frozen BK213.out 1
                have hfz37_2 := blk_frozen BK213.out 2
                obtain ⟨Ao38, co38, eo38⟩ := Kd.R_slice HO_214001.out
                subst eo38
                go_wp2
                go_loopg [9] k2 (fun kq v9 w' => ∃ (x9_3 : Int) (x214002_3 : List (S36)) (x223002_3 : List (S36)) (u214002 : Value) (u223002 : Value), v9 = .int .i64 x9_3 ∧ Aside0 (cotterlaw07_LinkLinks.l1 kq l0 t202 x9_3 t205 x214001_2 x214002_3 = some r) ∧ Aside0 (kq ≤ k2) ∧ Aside0 (Kd.S k40 40 w' w.heap.size (fun k_ => some k_ ≠ ((.slice Ao38 x214001_2.length co38) : Value).ownBlock ∧ some k_ ≠ (u214002 : Value).ownBlock ∧ some k_ ≠ (u223001 : Value).ownBlock ∧ some k_ ≠ (u223002 : Value).ownBlock) (.slice Ao9 t202.length co9) t202) ∧ Aside0 (Kd.R (Kd.int .i64) 2 w' w.heap.size (fun k_ => some k_ ≠ (u223001 : Value).ownBlock) (.slice Ao38 x214001_2.length co38) x214001_2) ∧ Aside0 (Kd.R k36 36 w' w.heap.size (fun k_ => some k_ ≠ (u223002 : Value).ownBlock) u214002 x214002_3) ∧ Aside0 (Kd.R (Kd.int .i64) 2 w' w.heap.size (fun k_ => some k_ ≠ ((.slice Ao38 x214001_2.length co38) : Value).ownBlock) u223001 x223001_2) ∧ Aside0 (Kd.R k36 36 w' w.heap.size (fun k_ => some k_ ≠ (u214002 : Value).ownBlock) u223002 x223002_3) ∧ Aside0 (w'.heap[gb213]? = some (.cells #[.string t205, (.slice Ao38 x214001_2.length co38), u214002] 29 (0, 0))) ∧ Aside0 (w'.heap[gb222]? = some (.cells #[.string t214, u223001, u223002] 29 (0, 0))) ∧ Aside0 (Below w.heap.size w w'))
                case atStart => exact ⟨(0), (t209), (t218), (.slice Ao14 t209.length co14), (.slice Ao20 t218.length co20), (by first | rfl | (simp; done) | (simp [*]; done)), H', ⟨Nat.le_refl _⟩, ⟨by (with_reducible repeat (first | apply Kd.S_alloc | apply Kd.S_drewN | apply Kd.S_drew)); exact HO_3.out⟩, ⟨by (with_reducible repeat (first | apply Kd.R_alloc | apply Kd.R_drewN | apply Kd.R_drew)); exact HO_214001.out⟩, ⟨by (with_reducible repeat (first | apply Kd.R_alloc | apply Kd.R_drewN | apply Kd.R_drew)); exact HO_214002.out⟩, ⟨by (with_reducible repeat (first | apply Kd.R_alloc | apply Kd.R_drewN | apply Kd.R_drew)); exact HO_223001.out⟩, ⟨by (with_reducible repeat (first | apply Kd.R_alloc | apply Kd.R_drewN | apply Kd.R_drew)); exact HO_223002.out⟩, ⟨by (with_reducible repeat (first | refine blk_drewN ?_ _ | refine blk_drew ?_ | refine blk_alloc ?_ _)); exact BK213.out⟩, ⟨by (with_reducible repeat (first | refine blk_drewN ?_ _ | refine blk_drew ?_ | refine blk_alloc ?_ _)); exact BK222.out⟩, ⟨by repeat (first | (with_reducible first | exact HB.out | apply below_alloc | apply pw_below_drewN | apply below_drew1 | refine below_set ?_ GE213.out | refine below_set ?_ GE222.out) | exact HB.out)⟩⟩
                case round =>
                  clear H'
                  try clear c1
                  try clear c2
                  try clear p2
                  try clear c3
                  try clear p3
                  try clear q3
                  try clear hx3
                  try clear hf3
                  try clear p6
                  try clear c9
                  try clear c11
                  try clear c12
                  try clear c13
                  try clear c17
                  try clear c21
                  try clear c21b0
                  try clear c21b1
                  try clear c23
                  try clear c27
                  try clear c28
                  try clear c28b0
                  try clear c29
                  try clear c29b0
                  try clear p30
                  try clear q30
                  try clear hx30
                  try clear hf30
                  try clear c31
                  try clear c36
                  try clear hcz12_0
                  try clear hcz12_1
                  try clear hcz12_2
                  try clear hcz18_0
                  try clear hcz18_1
                  try clear hcz18_2
                  try clear hcz24_0
                  try clear hcz24_1
                  try clear hcz24_2
                  try clear hcz25_0
                  try clear hcz25_1
                  try clear hcz25_2
                  try clear hcz32_0
                  try clear hcz32_1
                  try clear hcz32_2
                  try clear hcz37_0
                  try clear hcz37_1
                  try clear hcz37_2
                  try clear hfz12_0
                  try clear hfz12_1
                  try clear hfz12_2
                  try clear hfz18_0
                  try clear hfz18_1
                  try clear hfz18_2
                  try clear hfz24_0
                  try clear hfz24_1
                  try clear hfz24_2
                  try clear hfz25_0
                  try clear hfz25_1
                  try clear hfz25_2
                  try clear hfz32_0
                  try clear hfz32_1
                  try clear hfz32_2
                  try clear hfz37_0
                  try clear hfz37_1
                  try clear hfz37_2
                  try clear hx30_0
                  try clear p2
                  try clear p30
                  try clear q30
                  obtain ⟨x9_3, x214002_3, x223002_3, u214002, u223002, rfl, HA, HK3, HO_3, HO_214001, HO_214002, HO_223001, HO_223002, BK213, BK222, HB⟩ := hrel
                  cases gk with
                  | zero => exact absurd HA.out (by simp [cotterlaw07_LinkLinks.l1])
                  | succ k3 =>
                    have H := HA.out
                    clear HA
                    simp only [cotterlaw07_LinkLinks.l1] at H
                    by_cases c39 : x9_3 < (x214002_3.length : Int)
                    · rw [if_pos c39] at H
                      have c39b0 : decide (x9_3 < (x214002_3.length : Int)) = true := decide_eq_true c39
                      clear c39
                      by_cases c40 : 0 ≤ x9_3
                      · rw [if_pos c40] at H
                        have c40b0 : decide (0 ≤ x9_3) = true := decide_eq_true c40
                        clear c40
                        obtain ⟨y225, hy225⟩ : ∃ y_ : List (S36), y_ = (x214002_3.set (x9_3 : Int).toNat (⟨(rd_T36 x214002_3 x9_3).f0, (rd_T36 x214002_3 x9_3).f1, (-7)⟩ : S36)) := ⟨_, rfl⟩
                        replace H : (cotterlaw07_LinkLinks.l1 k3 l0 t202 (wrap64 (x9_3 + 1)) t205 x214001_2 y225) = some r := by first | (rw [hy225]; with_reducible exact H) | (have H2_ := (Option.bind_some _ _).symm.trans H; rw [hy225]; with_reducible exact H2_) | (have H2_ := (Option.bind_some _ _).symm.trans H; with_reducible exact H2_) | with_reducible exact H | (rw [hy225]; exact H) | exact H
                        have Ny225 := Aside0.mk hy225
                        clear hy225
                        have H' := Aside0.mk H
                        clear H
                        have hnb42 := NB213_222.out
                        have hnc42 := NB222_213.out
                        have hcz43_0 : wr.cell? ⟨gb213, 0, none⟩ = some (.string t205) := (blk_cell BK213.out 0).trans rfl
                        have hcz43_1 : wr.cell? ⟨gb213, 1, none⟩ = some (.slice Ao38 x214001_2.length co38) := (blk_cell BK213.out 1).trans rfl
                        have hcz43_2 : wr.cell? ⟨gb213, 2, none⟩ = some (u214002) := (blk_cell BK213.out 2).trans rfl
                        have hfz43_0 := blk_frozen BK213.out 0
                        have hfz43_1 := blk_frozen BK213.out 1
                        have hfz43_2 := blk_frozen BK213.out 2
                        obtain ⟨Ao44, co44, eo44⟩ := Kd.R_slice HO_214002.out
                        subst eo44
                        have p41 : 0 ≤ (x9_3 : Int) := of_decide_eq_true (by first | (with_reducible assumption) | assumption)
                        have q41 : (x9_3 : Int) < ((x214002_3.length : Int) : Int) := of_decide_eq_true (by first | (with_reducible assumption) | assumption)
                        obtain ⟨go41, co41, eo41, gb41, gl41, cl41, HG41⟩ := Kd.R_form HO_214002.out (by omega)
                        (first | cases eo41 | (injection eo41 with ea_ en_ ec_; (first | subst ea_ | (injection ea_ with ea_; subst ea_)); subst ec_; clear en_))
                        have GB41 := Aside0.mk gb41
                        have GG41 := Aside0.mk HG41
                        clear gb41 gl41 HG41
                        obtain ⟨ce41, hcl41, hM41, hcc41, hfr41⟩ := Kd.R_elem HO_214002.out z36 (x9_3 : Int) p41 q41
                        obtain rfl := k36_openM hM41
                        have hx41_0 : wr.cell? ⟨go41, (x9_3 : Int).toNat * 3, none⟩ = some (.string ((rd_T36 x214002_3 x9_3).f0)) := hcc41 0 _ rfl
                        have hx41_1 : wr.cell? ⟨go41, (x9_3 : Int).toNat * 3 + 1, none⟩ = some (.int .i64 ((rd_T36 x214002_3 x9_3).f1)) := hcc41 1 _ rfl
                        have hx41_2 : wr.cell? ⟨go41, (x9_3 : Int).toNat * 3 + 2, none⟩ = some (.int .i64 ((rd_T36 x214002_3 x9_3).f2)) := hcc41 2 _ rfl
                        have hf41_0 : wr.frozen? ⟨go41, (x9_3 : Int).toNat * 3, none⟩ = false := hfr41 0
                        have hf41_1 : wr.frozen? ⟨go41, (x9_3 : Int).toNat * 3 + 1, none⟩ = false := hfr41 1
                        have hf41_2 : wr.frozen? ⟨go41, (x9_3 : Int).toNat * 3 + 2, none⟩ = false := hfr41 2
                        clear hcl41 hcc41 hfr41 hM41
                        replace p41 := eq_true p41
                        replace q41 := eq_true q41
                        have HX45 := Aside0.mk (show Kd.R k36 36 wr w.heap.size (fun k_ => some k_ ≠ (u223002 : Value).ownBlock) (.slice (some ⟨go41, 0, none⟩) x214002_3.length co44) x214002_3 from (by (with_reducible repeat (first | apply Kd.R_alloc | apply Kd.R_drewN | apply Kd.R_drew)); exact HO_214002.out))
                        obtain ⟨ce45, hcl45, hM45, hcc45, hfr45⟩ := Kd.R_elem HX45.out z36 (x9_3 : Int) (of_decide_eq_true (by first | (with_reducible assumption) | assumption)) (by have h_ : (x9_3 : Int) < ((x214002_3.length : Int) : Int) := of_decide_eq_true (by first | (with_reducible assumption) | assumption); first | exact h_ | (have e_ := (Kd.R_reads' HO_214002.out).1; omega) | simpa using h_)
                        obtain rfl := k36_openM hM45
                        have HP45 := Kd.R_seg HX45.out (x9_3 : Int) (of_decide_eq_true (by first | (with_reducible assumption) | assumption)) (by have h_ : (x9_3 : Int) < ((x214002_3.length : Int) : Int) := of_decide_eq_true (by first | (with_reducible assumption) | assumption); first | exact h_ | (have e_ := (Kd.R_reads' HO_214002.out).1; omega) | simpa using h_) (seg := [.int .i64 (-7)]) (j := 2) hcl45 hcc45 (show 3 ≤ 3 from by decide) (x' := (⟨(rd_T36 x214002_3 x9_3).f0, (rd_T36 x214002_3 x9_3).f1, (-7)⟩ : S36)) (k36_mkM _ _ _ (⟨(rd_T36 x214002_3 x9_3).f0, (rd_T36 x214002_3 x9_3).f1, (-7)⟩ : S36) ) (fun _ hk => hk)
                        have hx45_2 := hcc45 2 _ rfl
                        (try simp only [show (k36).sz = 3 from rfl, Nat.mul_one, Nat.add_zero] at hx45_2)
                        have hf45_2 := hfr45 2
                        (try simp only [show (k36).sz = 3 from rfl, Nat.mul_one, Nat.add_zero] at hf45_2)
                        clear hcl45 hcc45 hfr45 hM45
                        go_wp2_with (first | ((with_reducible refine gate_store (t := 3) (p := 59) rfl ?_); refine store_event (t := 3) (p := 59) (v := ?vo_w46) (w1 := (wr.setCell ⟨go41, (x9_3 : Int).toNat * 3 + 2, none⟩ (.int .i64 (-7)))) ?hg ?ho ?hn ?hr ?_; (case ho => rfl); (case hg => rfl); (case hn => rfl); (case hr => first | (go_simp; done) | (go_simp; rfl)); intro w46 hw; have hg : wr.grownBy w46 (some go41) := (by rw [hw]; exact HP45.2); have hp_ : Kd.R k36 36 w46 w.heap.size (fun k_ => some k_ ≠ (u223002 : Value).ownBlock) (.slice (some ⟨go41, 0, none⟩) x214002_3.length co44) y225 := (by rw [hw, Ny225.out]; exact HP45.1); clear HP45; have n0_ := Aside0.mk (Kd.S_after (v := (.slice (some ⟨go41, 0, none⟩) x214002_3.length co44)) (v1 := (.slice (some ⟨go41, 0, none⟩) x214002_3.length co44)) (ok := (fun k_ => some k_ ≠ (.slice Ao38 x214001_2.length co38 : Value).ownBlock ∧ some k_ ≠ (u223001 : Value).ownBlock ∧ some k_ ≠ (u223002 : Value).ownBlock)) (by (with_reducible repeat (first | apply Kd.S_alloc | apply Kd.S_drewN | apply Kd.S_drew)); exact Kd.S_mono HO_3.out (fun _ hk => ⟨⟨hk.1, ⟨hk.2.2.1, hk.2.2.2⟩⟩, hk.2.1⟩)) hg (.inl rfl)); have n1_ := Aside0.mk (Kd.R_over' (v := (.slice (some ⟨go41, 0, none⟩) x214002_3.length co44)) (by (with_reducible repeat (first | apply Kd.R_alloc | apply Kd.R_drewN | apply Kd.R_drew)); exact HO_214001.out) (Kd.R_typed HO_214002.out) (by decide) hg); have n2_ := Aside0.mk (hp_); have n3_ := Aside0.mk (Kd.R_over' (v := (.slice (some ⟨go41, 0, none⟩) x214002_3.length co44)) (by (with_reducible repeat (first | apply Kd.R_alloc | apply Kd.R_drewN | apply Kd.R_drew)); exact HO_223001.out) (Kd.R_typed HO_214002.out) (by decide) hg); have n4_ := Aside0.mk (Kd.R_after (v := (.slice (some ⟨go41, 0, none⟩) x214002_3.length co44)) (v1 := (.slice (some ⟨go41, 0, none⟩) x214002_3.length co44)) (ok := (fun _ => True)) (by (with_reducible repeat (first | apply Kd.R_alloc | apply Kd.R_drewN | apply Kd.R_drew)); exact Kd.R_mono HO_223002.out (fun _ hk => ⟨trivial, hk⟩)) hg (.inl rfl)); have n5_ := Aside0.mk (blk_grown (g := gb213) (o := .cells #[.string t205, .slice Ao38 x214001_2.length co38, .slice (some ⟨go41, 0, none⟩) x214002_3.length co44] 29 (0, 0)) (by (with_reducible repeat (first | refine blk_drewN ?_ _ | refine blk_drew ?_ | refine blk_alloc ?_ _)); exact BK213.out) hg (Kd.R_ne HO_214002.out BK213.out (by decide))); have n6_ := Aside0.mk (blk_grown (g := gb222) (o := .cells #[.string t214, u223001, u223002] 29 (0, 0)) (by (with_reducible repeat (first | refine blk_drewN ?_ _ | refine blk_drew ?_ | refine blk_alloc ?_ _)); exact BK222.out) hg (Kd.R_ne HO_214002.out BK222.out (by decide))); have n7_ := Aside0.mk ((by rw [hw]; exact below_set (HB.out) GB41.out : Below w.heap.size w w46)); clear HO_3; clear HO_214001; clear HO_214002; clear HO_223001; clear HO_223002; clear BK213; clear BK222; clear HB; have HO_3 := n0_; have HO_214001 := n1_; have HO_214002 := n2_; have HO_223001 := n3_; have HO_223002 := n4_; have BK213 := n5_; have BK222 := n6_; have HB := n7_; clear n0_ n1_ n2_ n3_ n4_ n5_ n6_ n7_; clear hg hw hp_))
                        go_roundg k3
                        case measure => have := HJ6.out; have := HK2.out; have := HK3.out; omega
                        case rel => exact ⟨(wrap64 (x9_3 + 1)), (y225), (x223002_3), (.slice (some ⟨go41, 0, none⟩) x214002_3.length co44), (u223002), (by first | rfl | (simp; done) | (simp [*]; done)), H', ⟨by have := HJ6.out; have := HK2.out; have := HK3.out; omega⟩, ⟨by (with_reducible repeat (first | apply Kd.S_alloc | apply Kd.S_drewN | apply Kd.S_drew)); exact Kd.S_mono HO_3.out (fun _ hk => ⟨hk.1.1, ⟨hk.2, ⟨hk.1.2.1, hk.1.2.2⟩⟩⟩)⟩, ⟨by (with_reducible repeat (first | apply Kd.R_alloc | apply Kd.R_drewN | apply Kd.R_drew)); exact HO_214001.out⟩, ⟨by (with_reducible repeat (first | apply Kd.R_alloc | apply Kd.R_drewN | apply Kd.R_drew)); exact HO_214002.out⟩, ⟨by (with_reducible repeat (first | apply Kd.R_alloc | apply Kd.R_drewN | apply Kd.R_drew)); exact HO_223001.out⟩, ⟨by (with_reducible repeat (first | apply Kd.R_alloc | apply Kd.R_drewN | apply Kd.R_drew)); exact Kd.R_mono HO_223002.out (fun _ hk => hk.2)⟩, ⟨by (with_reducible repeat (first | refine blk_drewN ?_ _ | refine blk_drew ?_ | refine blk_alloc ?_ _)); exact BK213.out⟩, ⟨by (with_reducible repeat (first | refine blk_drewN ?_ _ | refine blk_drew ?_ | refine blk_alloc ?_ _)); exact BK222.out⟩, ⟨by repeat (first | (with_reducible first | exact HB.out | apply below_alloc | apply pw_below_drewN | apply below_drew1 | refine below_set ?_ GE213.out | refine below_set ?_ GE222.out) | exact HB.out)⟩⟩
                      · rw [if_neg c40] at H
                        exact absurd H (by simp)
                    · rw [if_neg c39] at H
                      have c39b0 : decide (x9_3 < (x214002_3.length : Int)) = false := decide_eq_false c39
                      clear c39
                      have H' := Aside0.mk H
                      clear H
                      have hnb47 := NB213_222.out
                      have hnc47 := NB222_213.out
                      have hcz48_0 : wr.cell? ⟨gb213, 0, none⟩ = some (.string t205) := (blk_cell BK213.out 0).trans rfl
                      have hcz48_1 : wr.cell? ⟨gb213, 1, none⟩ = some (.slice Ao38 x214001_2.length co38) := (blk_cell BK213.out 1).trans rfl
                      have hcz48_2 : wr.cell? ⟨gb213, 2, none⟩ = some (u214002) := (blk_cell BK213.out 2).trans rfl
                      have hfz48_0 := blk_frozen BK213.out 0
                      have hfz48_1 := blk_frozen BK213.out 1
                      have hfz48_2 := blk_frozen BK213.out 2
                      obtain ⟨Ao49, co49, eo49⟩ := Kd.R_slice HO_214002.out
                      subst eo49
                      go_wp2
                      go_loopg [10] k3 (fun kq v10 w' => ∃ (x10_4 : Int), v10 = .int .i64 x10_4 ∧ Aside0 (cotterlaw07_LinkLinks.l2 kq l0 t202 x10_4 = some r) ∧ Aside0 (kq ≤ k3) ∧ Aside0 (Kd.S k40 40 w' w.heap.size (fun k_ => some k_ ≠ ((.slice Ao38 x214001_2.length co38) : Value).ownBlock ∧ some k_ ≠ ((.slice Ao49 x214002_3.length co49) : Value).ownBlock ∧ some k_ ≠ (u223001 : Value).ownBlock ∧ some k_ ≠ (u223002 : Value).ownBlock) (.slice Ao9 t202.length co9) t202) ∧ Aside0 (Kd.R (Kd.int .i64) 2 w' w.heap.size (fun k_ => some k_ ≠ (u223001 : Value).ownBlock) (.slice Ao38 x214001_2.length co38) x214001_2) ∧ Aside0 (Kd.R k36 36 w' w.heap.size (fun k_ => some k_ ≠ (u223002 : Value).ownBlock) (.slice Ao49 x214002_3.length co49) x214002_3) ∧ Aside0 (Kd.R (Kd.int .i64) 2 w' w.heap.size (fun k_ => some k_ ≠ ((.slice Ao38 x214001_2.length co38) : Value).ownBlock) u223001 x223001_2) ∧ Aside0 (Kd.R k36 36 w' w.heap.size (fun k_ => some k_ ≠ ((.slice Ao49 x214002_3.length co49) : Value).ownBlock) u223002 x223002_3) ∧ Aside0 (w'.heap[gb213]? = some (.cells #[.string t205, (.slice Ao38 x214001_2.length co38), (.slice Ao49 x214002_3.length co49)] 29 (0, 0))) ∧ Aside0 (w'.heap[gb222]? = some (.cells #[.string t214, u223001, u223002] 29 (0, 0))) ∧ Aside0 (Below w.heap.size w w'))
                      case atStart => exact ⟨(0), (by first | rfl | (simp; done) | (simp [*]; done)), H', ⟨Nat.le_refl _⟩, ⟨by (with_reducible repeat (first | apply Kd.S_alloc | apply Kd.S_drewN | apply Kd.S_drew)); exact HO_3.out⟩, ⟨by (with_reducible repeat (first | apply Kd.R_alloc | apply Kd.R_drewN | apply Kd.R_drew)); exact HO_214001.out⟩, ⟨by (with_reducible repeat (first | apply Kd.R_alloc | apply Kd.R_drewN | apply Kd.R_drew)); exact HO_214002.out⟩, ⟨by (with_reducible repeat (first | apply Kd.R_alloc | apply Kd.R_drewN | apply Kd.R_drew)); exact HO_223001.out⟩, ⟨by (with_reducible repeat (first | apply Kd.R_alloc | apply Kd.R_drewN | apply Kd.R_drew)); exact HO_223002.out⟩, ⟨by (with_reducible repeat (first | refine blk_drewN ?_ _ | refine blk_drew ?_ | refine blk_alloc ?_ _)); exact BK213.out⟩, ⟨by (with_reducible repeat (first | refine blk_drewN ?_ _ | refine blk_drew ?_ | refine blk_alloc ?_ _)); exact BK222.out⟩, ⟨by repeat (first | (with_reducible first | exact HB.out | apply below_alloc | apply pw_below_drewN | apply below_drew1 | refine below_set ?_ GE213.out | refine below_set ?_ GE222.out) | exact HB.out)⟩⟩
                      case round =>
                        clear H'
                        try clear c1
                        try clear c2
                        try clear p2
                        try clear c3
                        try clear p3
                        try clear q3
                        try clear hx3
                        try clear hf3
                        try clear c4
                        try clear p4
                        try clear q4
                        try clear hx4
                        try clear hf4
                        try clear p6
                        try clear c9
                        try clear c11
                        try clear c12
                        try clear c13
                        try clear c17
                        try clear c21
                        try clear c21b0
                        try clear c21b1
                        try clear c23
                        try clear c27
                        try clear c28
                        try clear c28b0
                        try clear c29
                        try clear c29b0
                        try clear p30
                        try clear q30
                        try clear hx30
                        try clear hf30
                        try clear c31
                        try clear c36
                        try clear c39
                        try clear c39b0
                        try clear c40
                        try clear c40b0
                        try clear c41
                        try clear p41
                        try clear q41
                        try clear hx41
                        try clear hf41
                        try clear c42
                        try clear c45
                        try clear hx45
                        try clear hf45
                        try clear c47
                        try clear hcz12_0
                        try clear hcz12_1
                        try clear hcz12_2
                        try clear hcz18_0
                        try clear hcz18_1
                        try clear hcz18_2
                        try clear hcz24_0
                        try clear hcz24_1
                        try clear hcz24_2
                        try clear hcz25_0
                        try clear hcz25_1
                        try clear hcz25_2
                        try clear hcz32_0
                        try clear hcz32_1
                        try clear hcz32_2
                        try clear hcz37_0
                        try clear hcz37_1
                        try clear hcz37_2
                        try clear hcz43_0
                        try clear hcz43_1
                        try clear hcz43_2
                        try clear hcz48_0
                        try clear hcz48_1
                        try clear hcz48_2
                        try clear hfz12_0
                        try clear hfz12_1
                        try clear hfz12_2
                        try clear hfz18_0
                        try clear hfz18_1
                        try clear hfz18_2
                        try clear hfz24_0
                        try clear hfz24_1
                        try clear hfz24_2
                        try clear hfz25_0
                        try clear hfz25_1
                        try clear hfz25_2
                        try clear hfz32_0
                        try clear hfz32_1
                        try clear hfz32_2
                        try clear hfz37_0
                        try clear hfz37_1
                        try clear hfz37_2
                        try clear hfz43_0
                        try clear hfz43_1
                        try clear hfz43_2
                        try clear hfz48_0
                        try clear hfz48_1
                        try clear hfz48_2
                        try clear hx30_0
                        try clear hx41_0
                        try clear hx41_1
                        try clear hx41_2
                        try clear hx45_2
                        try clear p2
                        try clear p3
                        try clear p30
                        try clear p41
                        try clear p6
                        try clear q3
                        try clear q30
                        try clear q41
                        obtain ⟨x10_4, rfl, HA, HK4, HO_3, HO_214001, HO_214002, HO_223001, HO_223002, BK213, BK222, HB⟩ := hrel
                        cases gk with
                        | zero => exact absurd HA.out (by simp [cotterlaw07_LinkLinks.l2])
                        | succ k4 =>
                          have H := HA.out
                          clear HA
                          simp only [cotterlaw07_LinkLinks.l2] at H
                          by_cases c50 : x10_4 < (l0.length : Int)
                          · rw [if_pos c50] at H
                            have c50b0 : decide (x10_4 < (l0.length : Int)) = true := decide_eq_true c50
                            clear c50
                            by_cases c51 : 0 ≤ x10_4
                            · rw [if_pos c51] at H
                              have c51b0 : decide (0 ≤ x10_4) = true := decide_eq_true c51
                              clear c51
                              by_cases c52 : x10_4 < (t202.length : Int)
                              · rw [if_pos c52] at H
                                have c52b0 : decide (x10_4 < (t202.length : Int)) = true := decide_eq_true c52
                                clear c52
                                replace H := Option.bind_eq_some_iff.mp H
                                obtain ⟨t228, A530, H⟩ := H
                                replace H : (if t228 = true then (cotterlaw07_LinkLinks.l2 k4 l0 t202 (wrap64 (x10_4 + 1))) else (some false)) = some r := H
                                have A53 := Aside0.mk A530
                                clear A530
                                by_cases c54 : t228 = true
                                · subst c54
                                  have H1 : (cotterlaw07_LinkLinks.l2 k4 l0 t202 (wrap64 (x10_4 + 1))) = some r := by rw [if_pos rfl] at H; exact H
                                  clear H
                                  have H := H1
                                  clear H1
                                  have H' := Aside0.mk H
                                  clear H
                                  try go_wp2
                                  have o_HO_3 := HO_3
                                  have n0_ := Aside0.mk (Kd.S_drew HO_3.out)
                                  have o_HO_214001 := HO_214001
                                  have n1_ := Aside0.mk (Kd.R_drew HO_214001.out)
                                  have o_HO_214002 := HO_214002
                                  have n2_ := Aside0.mk (Kd.R_drew HO_214002.out)
                                  have o_HO_223001 := HO_223001
                                  have n3_ := Aside0.mk (Kd.R_drew HO_223001.out)
                                  have o_HO_223002 := HO_223002
                                  have n4_ := Aside0.mk (Kd.R_drew HO_223002.out)
                                  have o_BK213 := BK213
                                  have n5_ := Aside0.mk (blk_drew BK213.out)
                                  have o_BK222 := BK222
                                  have n6_ := Aside0.mk (blk_drew BK222.out)
                                  have o_HB := HB
                                  have n7_ := Aside0.mk (below_drew1 HB.out)
                                  clear HO_3
                                  clear HO_214001
                                  clear HO_214002
                                  clear HO_223001
                                  clear HO_223002
                                  clear BK213
                                  clear BK222
                                  clear HB
                                  have HO_3 := n0_
                                  have HO_214001 := n1_
                                  have HO_214002 := n2_
                                  have HO_223001 := n3_
                                  have HO_223002 := n4_
                                  have BK213 := n5_
                                  have BK222 := n6_
                                  have HB := n7_
                                  clear n0_ n1_ n2_ n3_ n4_ n5_ n6_ n7_
                                  have p226 : 0 ≤ (x10_4 : Int) := of_decide_eq_true (by first | (with_reducible assumption) | assumption)
                                  have q226 : x10_4 < (t202.length : Int) := of_decide_eq_true (by first | (with_reducible assumption) | assumption)
                                  obtain ⟨ad226, A226_1, c226_1, A226_2, c226_2, A226_3, c226_3, e226, hx226_0, hx226_1, hx226_2, hx226_3, hl226_1, hi226_1, hl226_2, hi226_2, hl226_3, hi226_3⟩ := at_T40 (Kd.S_reads' HO_3.out).2.2 x10_4 p226 q226
                                  cases e226
                                  obtain ⟨ce226, hce226, hMe226, hcc226⟩ := Kd.S_get HO_3.out z40 x10_4 p226 (by first | exact q226 | exact of_decide_eq_true (by first | (with_reducible assumption) | assumption) | (have e_ := (Kd.S_reads' HO_3.out).1; omega))
                                  obtain ⟨ve226_1, ve226_2, ve226_3, rfl, ge226_1, ge226_2, ge226_3⟩ := k40_openM hMe226
                                  have hv226_1 := hcc226 1 _ rfl
                                  rw [add_field _ _ 1 (by omega)] at hv226_1
                                  replace hv226_1 := Option.some.inj (hv226_1.symm.trans hx226_1)
                                  rw [hv226_1] at ge226_1
                                  have HL226_1 := Aside0.mk (show Kd.R (Kd.int .i64) 2 _ _ _ _ ((rd_T40 t202 x10_4).f1) from ge226_1)
                                  clear hv226_1 ge226_1
                                  have hv226_2 := hcc226 2 _ rfl
                                  rw [add_field _ _ 2 (by omega)] at hv226_2
                                  replace hv226_2 := Option.some.inj (hv226_2.symm.trans hx226_2)
                                  rw [hv226_2] at ge226_2
                                  have HL226_2 := Aside0.mk (show Kd.R k36 36 _ _ _ _ ((rd_T40 t202 x10_4).f2) from ge226_2)
                                  clear hv226_2 ge226_2
                                  have hv226_3 := hcc226 3 _ rfl
                                  rw [add_field _ _ 3 (by omega)] at hv226_3
                                  replace hv226_3 := Option.some.inj (hv226_3.symm.trans hx226_3)
                                  rw [hv226_3] at ge226_3
                                  have HL226_3 := Aside0.mk (show Kd.R k45 45 _ _ _ _ ((rd_T40 t202 x10_4).f3) from ge226_3)
                                  clear hv226_3 ge226_3
                                  clear hcc226 hce226
                                  have HR226_1 := Aside0.mk hi226_1
                                  have HC226_1 := Aside0.mk hl226_1
                                  clear hi226_1 hl226_1
                                  have HR226_2 := Aside0.mk hi226_2
                                  have HC226_2 := Aside0.mk hl226_2
                                  clear hi226_2 hl226_2
                                  have HR226_3 := Aside0.mk hi226_3
                                  have HC226_3 := Aside0.mk hl226_3
                                  clear hi226_3 hl226_3
                                  replace p226 := eq_true p226
                                  replace q226 := eq_true q226
                                  have p227 : 0 ≤ (x10_4 : Int) := of_decide_eq_true (by first | (with_reducible assumption) | assumption)
                                  have q227 : x10_4 < (l0.length : Int) := of_decide_eq_true (by first | (with_reducible assumption) | assumption)
                                  obtain ⟨ad227, A227_1, c227_1, A227_2, c227_2, A227_3, c227_3, e227, hx227_0, hx227_1, hx227_2, hx227_3, hl227_1, hi227_1, hl227_2, hi227_2, hl227_3, hi227_3⟩ := at_T40 HR0.out x10_4 p227 q227
                                  have hw227_3 := hx227_3
                                  have hw227_2 := hx227_2
                                  have hw227_1 := hx227_1
                                  have hw227_0 := hx227_0
                                  cases e227
                                  replace hx227_0 := (HB.out.cell (World.block_lt_of_cell? w _ hx227_0)).trans hx227_0
                                  replace hx227_1 := (HB.out.cell (World.block_lt_of_cell? w _ hx227_1)).trans hx227_1
                                  replace hx227_2 := (HB.out.cell (World.block_lt_of_cell? w _ hx227_2)).trans hx227_2
                                  replace hx227_3 := (HB.out.cell (World.block_lt_of_cell? w _ hx227_3)).trans hx227_3
                                  have HR227_1 := Aside0.mk hi227_1
                                  have HC227_1 := Aside0.mk hl227_1
                                  clear hi227_1 hl227_1
                                  have HR227_2 := Aside0.mk hi227_2
                                  have HC227_2 := Aside0.mk hl227_2
                                  clear hi227_2 hl227_2
                                  have HR227_3 := Aside0.mk hi227_3
                                  have HC227_3 := Aside0.mk hl227_3
                                  clear hi227_3 hl227_3
                                  replace p227 := eq_true p227
                                  replace q227 := eq_true q227
                                  refine start_ (n := 10) (S := fun w' => w'.cell? (ad226.add ((x10_4).toNat * 4)) = some (.string ((rd_T40 t202 x10_4).f0)) ∧ w'.cell? ⟨(ad226.add ((x10_4).toNat * 4)).block, (ad226.add ((x10_4).toNat * 4)).off + 1, none⟩ = some (.slice A226_1 ((rd_T40 t202 x10_4).f1).length c226_1) ∧ w'.cell? ⟨(ad226.add ((x10_4).toNat * 4)).block, (ad226.add ((x10_4).toNat * 4)).off + 2, none⟩ = some (.slice A226_2 ((rd_T40 t202 x10_4).f2).length c226_2) ∧ w'.cell? ⟨(ad226.add ((x10_4).toNat * 4)).block, (ad226.add ((x10_4).toNat * 4)).off + 3, none⟩ = some (.slice A226_3 ((rd_T40 t202 x10_4).f3).length c226_3) ∧ w'.cell? (ad227.add ((x10_4).toNat * 4)) = some (.string ((rd_T40 l0 x10_4).f0)) ∧ w'.cell? ⟨(ad227.add ((x10_4).toNat * 4)).block, (ad227.add ((x10_4).toNat * 4)).off + 1, none⟩ = some (.slice A227_1 ((rd_T40 l0 x10_4).f1).length c227_1) ∧ w'.cell? ⟨(ad227.add ((x10_4).toNat * 4)).block, (ad227.add ((x10_4).toNat * 4)).off + 2, none⟩ = some (.slice A227_2 ((rd_T40 l0 x10_4).f2).length c227_2) ∧ w'.cell? ⟨(ad227.add ((x10_4).toNat * 4)).block, (ad227.add ((x10_4).toNat * 4)).off + 3, none⟩ = some (.slice A227_3 ((rd_T40 l0 x10_4).f3).length c227_3)) (ds := []) #[false, false, false, false, false, false, false, false, false, false] (by kernel_rfl) rfl rfl ⟨hx226_0, hx226_1, hx226_2, hx226_3, ((HB.out.cell (World.block_lt_of_cell? w _ hw227_0)).trans hw227_0), ((HB.out.cell (World.block_lt_of_cell? w _ hw227_1)).trans hw227_1), ((HB.out.cell (World.block_lt_of_cell? w _ hw227_2)).trans hw227_2), ((HB.out.cell (World.block_lt_of_cell? w _ hw227_3)).trans hw227_3)⟩ (fun hHeld => ?_); refine with_tabW cotterlaw07_LinkLinks.tab19 cotterlaw07_LinkLinks.bits19 (fun HT_ HW_ => ?_)
                                  generalize wr.drew = w55 at HO_3 HO_214001 HO_214002 HO_223001 HO_223002 BK213 BK222 HB HL226_1 HL226_2 HL226_3 HR226_1 HR226_2 HR226_3 HR227_1 HR227_2 HR227_3 hx226_0 hx226_1 hx226_2 hx226_3 hx227_0 hx227_1 hx227_2 hx227_3 hHeld ⊢
                                  refine pure_ (i := 0) (N := some 66) (v := ?_) (a' := ?_) #[true, false, false, false, false, false, false, false, false, false] rfl rfl (any_of HT_.out (by kernel_rfl)) (fun _ _ _ h => h) (Or.inl ⟨by rfl, ?_⟩) ?_ ?_
                                  rotate_left
                                  · intro w'
                                    go_simp
                                    with_reducible rfl
                                  rotate_left
                                  · simp only [Act.put, List.setIfInBounds_toArray, List.set_cons_zero, List.set_cons_succ, i64_w, i32_w]
                                    rfl
                                  refine pure_ (i := 1) (N := some 67) (v := ?_) (a' := ?_) #[true, true, false, false, false, false, false, false, false, false] rfl rfl (any_of HT_.out (by kernel_rfl)) (fun _ _ _ h => h) (Or.inl ⟨by rfl, ?_⟩) ?_ ?_
                                  rotate_left
                                  · intro w'
                                    go_simp
                                    with_reducible rfl
                                  rotate_left
                                  · simp only [Act.put, List.setIfInBounds_toArray, List.set_cons_zero, List.set_cons_succ, i64_w, i32_w]
                                    rfl
                                  refine pure_ (i := 2) (N := some 68) (v := ?_) (a' := ?_) #[true, true, true, false, false, false, false, false, false, false] rfl rfl (any_of HT_.out (by kernel_rfl)) (fun _ _ _ h => h) (Or.inl ⟨by rfl, ?_⟩) ?_ ?_
                                  rotate_left
                                  · intro w'
                                    go_simp
                                    with_reducible rfl
                                  rotate_left
                                  · simp only [Act.put, List.setIfInBounds_toArray, List.set_cons_zero, List.set_cons_succ, i64_w, i32_w]
                                    rfl
                                  refine pure_ (i := 4) (N := some 70) (v := ?_) (a' := ?_) #[true, true, true, false, true, false, false, false, false, false] rfl rfl (any_of HT_.out (by kernel_rfl)) (fun _ _ _ h => h) (Or.inl ⟨by rfl, ?_⟩) ?_ ?_
                                  rotate_left
                                  · intro w'
                                    go_simp
                                    with_reducible rfl
                                  rotate_left
                                  · simp only [Act.put, List.setIfInBounds_toArray, List.set_cons_zero, List.set_cons_succ, i64_w, i32_w]
                                    rfl
                                  refine pure_ (i := 5) (N := some 71) (v := ?_) (a' := ?_) #[true, true, true, false, true, true, false, false, false, false] rfl rfl (any_of HT_.out (by kernel_rfl)) (fun _ _ _ h => h) (Or.inl ⟨by rfl, ?_⟩) ?_ ?_
                                  rotate_left
                                  · intro w'
                                    go_simp
                                    with_reducible rfl
                                  rotate_left
                                  · simp only [Act.put, List.setIfInBounds_toArray, List.set_cons_zero, List.set_cons_succ, i64_w, i32_w]
                                    rfl
                                  refine pure_ (i := 6) (N := some 72) (v := ?_) (a' := ?_) #[true, true, true, false, true, true, true, false, false, false] rfl rfl (any_of HT_.out (by kernel_rfl)) (fun _ _ _ h => h) (Or.inl ⟨by rfl, ?_⟩) ?_ ?_
                                  rotate_left
                                  · intro w'
                                    go_simp
                                    with_reducible rfl
                                  rotate_left
                                  · simp only [Act.put, List.setIfInBounds_toArray, List.set_cons_zero, List.set_cons_succ, i64_w, i32_w]
                                    rfl
                                  refine take_ (i := 3) (N := some 69) (v := ?_) (a' := ?_) #[true, true, true, true, true, true, true, false, false, false] rfl rfl (take_ofW HT_.out HW_.out (by kernel_rfl)) (fun _ _ _ h => h) (Or.inl ⟨by rfl, ?_⟩) hHeld ?_ ?_
                                  rotate_left
                                  · rintro w' ⟨s0, s1, s2, s3, s4, s5, s6, s7⟩
                                    go_simp
                                    with_reducible rfl
                                  rotate_left
                                  · simp only [Act.put, List.setIfInBounds_toArray, List.set_cons_zero, List.set_cons_succ, i64_w, i32_w]
                                    rfl
                                  refine take_ (i := 7) (N := some 73) (v := ?_) (a' := ?_) #[true, true, true, true, true, true, true, true, false, false] rfl rfl (take_ofW HT_.out HW_.out (by kernel_rfl)) (fun _ _ _ h => h) (Or.inl ⟨by rfl, ?_⟩) hHeld ?_ ?_
                                  rotate_left
                                  · rintro w' ⟨s0, s1, s2, s3, s4, s5, s6, s7⟩
                                    go_simp
                                    with_reducible rfl
                                  rotate_left
                                  · simp only [Act.put, List.setIfInBounds_toArray, List.set_cons_zero, List.set_cons_succ, i64_w, i32_w]
                                    rfl
                                  refine one_ (i := 8) (N := some 74) #[true, true, true, true, true, true, true, true, true, false] rfl rfl (one_of HT_.out (by kernel_rfl)) (by decide) (fun K hK => ?_)
                                  refine goes_ Try.func15 (by kernel_rfl) rfl #[.agg #[.string ((rd_T40 t202 x10_4).f0), .slice A226_1 ((rd_T40 t202 x10_4).f1).length c226_1, .slice A226_2 ((rd_T40 t202 x10_4).f2).length c226_2, .slice A226_3 ((rd_T40 t202 x10_4).f3).length c226_3], .agg #[.string ((rd_T40 l0 x10_4).f0), .slice A227_1 ((rd_T40 l0 x10_4).f1).length c227_1, .slice A227_2 ((rd_T40 l0 x10_4).f2).length c227_2, .slice A227_3 ((rd_T40 l0 x10_4).f3).length c227_3]] (by rfl) rfl rfl (by (try simp only [List.map_toArray, List.map_cons, List.map_nil]); first | done | rfl | (simp only [List.length_drop, List.length_take]; rfl)) ?_
                                  with_reducible refine (cotterref06_Same.calls k4 ((rd_T40 t202 x10_4).f0) _ _ ((rd_T40 t202 x10_4).f1) _ _ ((rd_T40 t202 x10_4).f2) _ _ ((rd_T40 t202 x10_4).f3) ((rd_T40 l0 x10_4).f0) _ _ ((rd_T40 l0 x10_4).f1) _ _ ((rd_T40 l0 x10_4).f2) _ _ ((rd_T40 l0 x10_4).f3) true _ ?side1 ?side2 ?side3 ?side4 ?side5 ?side6 ?side7 ?side8 ?side9 ?side10 ?side11 ?side12 A53.out).mono ?_
                                  (case side1 => repeat (first | exact (by repeat (first | (with_reducible exact HR226_1.out) | (with_reducible refine Kd.C_alloc ?_ _) | (with_reducible refine Kd.C_drewN ?_ _) | (with_reducible refine Kd.C_drew ?_) | exact HR226_1.out)) | (with_reducible refine Kd.C_alloc ?_ _) | (with_reducible refine Kd.C_drewN ?_ _) | (with_reducible refine Kd.C_drew ?_)))
                                  (case side2 => exact HC226_1.out)
                                  (case side3 => repeat (first | exact (by repeat (first | (with_reducible exact HR226_2.out) | (with_reducible refine Kd.C_alloc ?_ _) | (with_reducible refine Kd.C_drewN ?_ _) | (with_reducible refine Kd.C_drew ?_) | exact HR226_2.out)) | (with_reducible refine Kd.C_alloc ?_ _) | (with_reducible refine Kd.C_drewN ?_ _) | (with_reducible refine Kd.C_drew ?_)))
                                  (case side4 => exact HC226_2.out)
                                  (case side5 => repeat (first | exact (by repeat (first | (with_reducible exact HR226_3.out) | (with_reducible refine Kd.C_alloc ?_ _) | (with_reducible refine Kd.C_drewN ?_ _) | (with_reducible refine Kd.C_drew ?_) | exact HR226_3.out)) | (with_reducible refine Kd.C_alloc ?_ _) | (with_reducible refine Kd.C_drewN ?_ _) | (with_reducible refine Kd.C_drew ?_)))
                                  (case side6 => exact HC226_3.out)
                                  (case side7 => repeat (first | exact (Kd.C_below HR227_1.out HB.out) | (with_reducible refine Kd.C_alloc ?_ _) | (with_reducible refine Kd.C_drewN ?_ _) | (with_reducible refine Kd.C_drew ?_)))
                                  (case side8 => exact HC227_1.out)
                                  (case side9 => repeat (first | exact (Kd.C_below HR227_2.out HB.out) | (with_reducible refine Kd.C_alloc ?_ _) | (with_reducible refine Kd.C_drewN ?_ _) | (with_reducible refine Kd.C_drew ?_)))
                                  (case side10 => exact HC227_2.out)
                                  (case side11 => repeat (first | exact (Kd.C_below HR227_3.out HB.out) | (with_reducible refine Kd.C_alloc ?_ _) | (with_reducible refine Kd.C_drewN ?_ _) | (with_reducible refine Kd.C_drew ?_)))
                                  (case side12 => exact HC227_3.out)
                                  rintro e w56 ⟨rfl, hb⟩
                                  have HS0_ := (hb.cell (World.block_lt_of_cell? _ _ (hHeld.1))).trans (hHeld.1)
                                  have HS1_ := (hb.cell (World.block_lt_of_cell? _ _ (hHeld.2.1))).trans (hHeld.2.1)
                                  have HS2_ := (hb.cell (World.block_lt_of_cell? _ _ (hHeld.2.2.1))).trans (hHeld.2.2.1)
                                  have HS3_ := (hb.cell (World.block_lt_of_cell? _ _ (hHeld.2.2.2.1))).trans (hHeld.2.2.2.1)
                                  refine ⟨_, rfl, ?_⟩
                                  have n0_ := Aside0.mk (Kd.S_below (by (with_reducible repeat (first | apply Kd.S_alloc | apply Kd.S_drewN | apply Kd.S_drew)); exact HO_3.out) hb)
                                  have n1_ := Aside0.mk (Kd.R_below (by (with_reducible repeat (first | apply Kd.R_alloc | apply Kd.R_drewN | apply Kd.R_drew)); exact HO_214001.out) hb)
                                  have n2_ := Aside0.mk (Kd.R_below (by (with_reducible repeat (first | apply Kd.R_alloc | apply Kd.R_drewN | apply Kd.R_drew)); exact HO_214002.out) hb)
                                  have n3_ := Aside0.mk (Kd.R_below (by (with_reducible repeat (first | apply Kd.R_alloc | apply Kd.R_drewN | apply Kd.R_drew)); exact HO_223001.out) hb)
                                  have n4_ := Aside0.mk (Kd.R_below (by (with_reducible repeat (first | apply Kd.R_alloc | apply Kd.R_drewN | apply Kd.R_drew)); exact HO_223002.out) hb)
                                  have n5_ := Aside0.mk (Kd.R_below (by (with_reducible repeat (first | apply Kd.R_alloc | apply Kd.R_drewN | apply Kd.R_drew)); exact HL226_1.out) hb)
                                  have n6_ := Aside0.mk (Kd.R_below (by (with_reducible repeat (first | apply Kd.R_alloc | apply Kd.R_drewN | apply Kd.R_drew)); exact HL226_2.out) hb)
                                  have n7_ := Aside0.mk (Kd.R_below (by (with_reducible repeat (first | apply Kd.R_alloc | apply Kd.R_drewN | apply Kd.R_drew)); exact HL226_3.out) hb)
                                  have n8_ := Aside0.mk (blk_below (g := gb213) (o := .cells #[.string t205, .slice Ao38 x214001_2.length co38, .slice Ao49 x214002_3.length co49] 29 (0, 0)) (by (with_reducible repeat (first | refine blk_drewN ?_ _ | refine blk_drew ?_ | refine blk_alloc ?_ _)); exact BK213.out) hb)
                                  have n9_ := Aside0.mk (blk_below (g := gb222) (o := .cells #[.string t214, u223001, u223002] 29 (0, 0)) (by (with_reducible repeat (first | refine blk_drewN ?_ _ | refine blk_drew ?_ | refine blk_alloc ?_ _)); exact BK222.out) hb)
                                  have n10_ := Aside0.mk (Kd.C_below (by repeat (first | (with_reducible exact HR226_1.out) | (with_reducible refine Kd.C_alloc ?_ _) | (with_reducible refine Kd.C_drewN ?_ _) | (with_reducible refine Kd.C_drew ?_) | exact HR226_1.out)) hb)
                                  have n11_ := Aside0.mk (Kd.C_below (by repeat (first | (with_reducible exact HR226_2.out) | (with_reducible refine Kd.C_alloc ?_ _) | (with_reducible refine Kd.C_drewN ?_ _) | (with_reducible refine Kd.C_drew ?_) | exact HR226_2.out)) hb)
                                  have n12_ := Aside0.mk (Kd.C_below (by repeat (first | (with_reducible exact HR226_3.out) | (with_reducible refine Kd.C_alloc ?_ _) | (with_reducible refine Kd.C_drewN ?_ _) | (with_reducible refine Kd.C_drew ?_) | exact HR226_3.out)) hb)
                                  have n13_ := Aside0.mk (below_step (by repeat (first | (with_reducible first | exact HB.out | apply below_alloc | apply pw_below_drewN | apply below_drew1 | refine below_set ?_ GE213.out | refine below_set ?_ GE222.out) | exact HB.out)) hb)
                                  clear HO_3
                                  clear HO_214001
                                  clear HO_214002
                                  clear HO_223001
                                  clear HO_223002
                                  clear HL226_1
                                  clear HL226_2
                                  clear HL226_3
                                  clear BK213
                                  clear BK222
                                  clear HR226_1
                                  clear HR226_2
                                  clear HR226_3
                                  clear HB
                                  have HO_3 := n0_
                                  have HO_214001 := n1_
                                  have HO_214002 := n2_
                                  have HO_223001 := n3_
                                  have HO_223002 := n4_
                                  have HL226_1 := n5_
                                  have HL226_2 := n6_
                                  have HL226_3 := n7_
                                  have BK213 := n8_
                                  have BK222 := n9_
                                  have HR226_1 := n10_
                                  have HR226_2 := n11_
                                  have HR226_3 := n12_
                                  have HB := n13_
                                  clear n0_ n1_ n2_ n3_ n4_ n5_ n6_ n7_ n8_ n9_ n10_ n11_ n12_ n13_
                                  (try clear hb)
                                  (try clear hb2)
                                  (try clear hk)
                                  (try clear hi)
                                  refine hK.out _ _ ⟨HS0_, HS1_, HS2_, HS3_, ((HB.out.cell (World.block_lt_of_cell? w _ hw227_0)).trans hw227_0), ((HB.out.cell (World.block_lt_of_cell? w _ hw227_1)).trans hw227_1), ((HB.out.cell (World.block_lt_of_cell? w _ hw227_2)).trans hw227_2), ((HB.out.cell (World.block_lt_of_cell? w _ hw227_3)).trans hw227_3)⟩ (fun hHeld => ?_)
                                  clear hK K
                                  refine norm_ (a' := ?_) ?_ ?_
                                  rotate_left
                                  · show Act.put _ (some 74) _ = _
                                    simp only [Act.put, List.setIfInBounds_toArray, List.set_cons_zero, List.set_cons_succ, i64_w, i32_w]
                                    rfl
                                  refine pure_ (i := 9) (N := some 11) (v := ?_) (a' := ?_) #[true, true, true, true, true, true, true, true, true, true] rfl rfl (any_of HT_.out (by kernel_rfl)) (fun _ _ _ h => h) (Or.inl ⟨by rfl, ?_⟩) ?_ ?_
                                  rotate_left
                                  · intro w'
                                    go_simp
                                    with_reducible rfl
                                  rotate_left
                                  · simp only [Act.put, List.setIfInBounds_toArray, List.set_cons_zero, List.set_cons_succ, i64_w, i32_w]
                                    rfl
                                  refine done_ (done_of HT_.out (by kernel_rfl)) ?_
                                  try go_wp2
                                  go_roundg k4
                                  case measure => have := HJ6.out; have := HK2.out; have := HK3.out; have := HK4.out; omega
                                  case rel => exact ⟨(wrap64 (x10_4 + 1)), (by first | rfl | (simp; done) | (simp [*]; done)), H', ⟨by have := HJ6.out; have := HK2.out; have := HK3.out; have := HK4.out; omega⟩, ⟨by (with_reducible repeat (first | apply Kd.S_alloc | apply Kd.S_drewN | apply Kd.S_drew)); exact HO_3.out⟩, ⟨by (with_reducible repeat (first | apply Kd.R_alloc | apply Kd.R_drewN | apply Kd.R_drew)); exact HO_214001.out⟩, ⟨by (with_reducible repeat (first | apply Kd.R_alloc | apply Kd.R_drewN | apply Kd.R_drew)); exact HO_214002.out⟩, ⟨by (with_reducible repeat (first | apply Kd.R_alloc | apply Kd.R_drewN | apply Kd.R_drew)); exact HO_223001.out⟩, ⟨by (with_reducible repeat (first | apply Kd.R_alloc | apply Kd.R_drewN | apply Kd.R_drew)); exact HO_223002.out⟩, ⟨by (with_reducible repeat (first | refine blk_drewN ?_ _ | refine blk_drew ?_ | refine blk_alloc ?_ _)); exact BK213.out⟩, ⟨by (with_reducible repeat (first | refine blk_drewN ?_ _ | refine blk_drew ?_ | refine blk_alloc ?_ _)); exact BK222.out⟩, ⟨by repeat (first | (with_reducible first | exact HB.out | apply below_alloc | apply pw_below_drewN | apply below_drew1 | refine below_set ?_ GE213.out | refine below_set ?_ GE222.out) | exact HB.out)⟩⟩
                                · replace c54 := Bool.eq_false_iff.mpr c54
                                  subst c54
                                  have H1 : (some false) = some r := by rw [if_neg (show ¬ (false = true) by decide)] at H; exact H
                                  clear H
                                  have H := H1
                                  clear H1
                                  obtain rfl := Option.some.inj H
                                  try go_wp2
                                  have o_HO_3 := HO_3
                                  have n0_ := Aside0.mk (Kd.S_drew HO_3.out)
                                  have o_HO_214001 := HO_214001
                                  have n1_ := Aside0.mk (Kd.R_drew HO_214001.out)
                                  have o_HO_214002 := HO_214002
                                  have n2_ := Aside0.mk (Kd.R_drew HO_214002.out)
                                  have o_HO_223001 := HO_223001
                                  have n3_ := Aside0.mk (Kd.R_drew HO_223001.out)
                                  have o_HO_223002 := HO_223002
                                  have n4_ := Aside0.mk (Kd.R_drew HO_223002.out)
                                  have o_BK213 := BK213
                                  have n5_ := Aside0.mk (blk_drew BK213.out)
                                  have o_BK222 := BK222
                                  have n6_ := Aside0.mk (blk_drew BK222.out)
                                  have o_HB := HB
                                  have n7_ := Aside0.mk (below_drew1 HB.out)
                                  clear HO_3
                                  clear HO_214001
                                  clear HO_214002
                                  clear HO_223001
                                  clear HO_223002
                                  clear BK213
                                  clear BK222
                                  clear HB
                                  have HO_3 := n0_
                                  have HO_214001 := n1_
                                  have HO_214002 := n2_
                                  have HO_223001 := n3_
                                  have HO_223002 := n4_
                                  have BK213 := n5_
                                  have BK222 := n6_
                                  have HB := n7_
                                  clear n0_ n1_ n2_ n3_ n4_ n5_ n6_ n7_
                                  have p226 : 0 ≤ (x10_4 : Int) := of_decide_eq_true (by first | (with_reducible assumption) | assumption)
                                  have q226 : x10_4 < (t202.length : Int) := of_decide_eq_true (by first | (with_reducible assumption) | assumption)
                                  obtain ⟨ad226, A226_1, c226_1, A226_2, c226_2, A226_3, c226_3, e226, hx226_0, hx226_1, hx226_2, hx226_3, hl226_1, hi226_1, hl226_2, hi226_2, hl226_3, hi226_3⟩ := at_T40 (Kd.S_reads' HO_3.out).2.2 x10_4 p226 q226
                                  cases e226
                                  obtain ⟨ce226, hce226, hMe226, hcc226⟩ := Kd.S_get HO_3.out z40 x10_4 p226 (by first | exact q226 | exact of_decide_eq_true (by first | (with_reducible assumption) | assumption) | (have e_ := (Kd.S_reads' HO_3.out).1; omega))
                                  obtain ⟨ve226_1, ve226_2, ve226_3, rfl, ge226_1, ge226_2, ge226_3⟩ := k40_openM hMe226
                                  have hv226_1 := hcc226 1 _ rfl
                                  rw [add_field _ _ 1 (by omega)] at hv226_1
                                  replace hv226_1 := Option.some.inj (hv226_1.symm.trans hx226_1)
                                  rw [hv226_1] at ge226_1
                                  have HL226_1 := Aside0.mk (show Kd.R (Kd.int .i64) 2 _ _ _ _ ((rd_T40 t202 x10_4).f1) from ge226_1)
                                  clear hv226_1 ge226_1
                                  have hv226_2 := hcc226 2 _ rfl
                                  rw [add_field _ _ 2 (by omega)] at hv226_2
                                  replace hv226_2 := Option.some.inj (hv226_2.symm.trans hx226_2)
                                  rw [hv226_2] at ge226_2
                                  have HL226_2 := Aside0.mk (show Kd.R k36 36 _ _ _ _ ((rd_T40 t202 x10_4).f2) from ge226_2)
                                  clear hv226_2 ge226_2
                                  have hv226_3 := hcc226 3 _ rfl
                                  rw [add_field _ _ 3 (by omega)] at hv226_3
                                  replace hv226_3 := Option.some.inj (hv226_3.symm.trans hx226_3)
                                  rw [hv226_3] at ge226_3
                                  have HL226_3 := Aside0.mk (show Kd.R k45 45 _ _ _ _ ((rd_T40 t202 x10_4).f3) from ge226_3)
                                  clear hv226_3 ge226_3
                                  clear hcc226 hce226
                                  have HR226_1 := Aside0.mk hi226_1
                                  have HC226_1 := Aside0.mk hl226_1
                                  clear hi226_1 hl226_1
                                  have HR226_2 := Aside0.mk hi226_2
                                  have HC226_2 := Aside0.mk hl226_2
                                  clear hi226_2 hl226_2
                                  have HR226_3 := Aside0.mk hi226_3
                                  have HC226_3 := Aside0.mk hl226_3
                                  clear hi226_3 hl226_3
                                  replace p226 := eq_true p226
                                  replace q226 := eq_true q226
                                  have p227 : 0 ≤ (x10_4 : Int) := of_decide_eq_true (by first | (with_reducible assumption) | assumption)
                                  have q227 : x10_4 < (l0.length : Int) := of_decide_eq_true (by first | (with_reducible assumption) | assumption)
                                  obtain ⟨ad227, A227_1, c227_1, A227_2, c227_2, A227_3, c227_3, e227, hx227_0, hx227_1, hx227_2, hx227_3, hl227_1, hi227_1, hl227_2, hi227_2, hl227_3, hi227_3⟩ := at_T40 HR0.out x10_4 p227 q227
                                  have hw227_3 := hx227_3
                                  have hw227_2 := hx227_2
                                  have hw227_1 := hx227_1
                                  have hw227_0 := hx227_0
                                  cases e227
                                  replace hx227_0 := (HB.out.cell (World.block_lt_of_cell? w _ hx227_0)).trans hx227_0
                                  replace hx227_1 := (HB.out.cell (World.block_lt_of_cell? w _ hx227_1)).trans hx227_1
                                  replace hx227_2 := (HB.out.cell (World.block_lt_of_cell? w _ hx227_2)).trans hx227_2
                                  replace hx227_3 := (HB.out.cell (World.block_lt_of_cell? w _ hx227_3)).trans hx227_3
                                  have HR227_1 := Aside0.mk hi227_1
                                  have HC227_1 := Aside0.mk hl227_1
                                  clear hi227_1 hl227_1
                                  have HR227_2 := Aside0.mk hi227_2
                                  have HC227_2 := Aside0.mk hl227_2
                                  clear hi227_2 hl227_2
                                  have HR227_3 := Aside0.mk hi227_3
                                  have HC227_3 := Aside0.mk hl227_3
                                  clear hi227_3 hl227_3
                                  replace p227 := eq_true p227
                                  replace q227 := eq_true q227
                                  refine start_ (n := 10) (S := fun w' => w'.cell? (ad226.add ((x10_4).toNat * 4)) = some (.string ((rd_T40 t202 x10_4).f0)) ∧ w'.cell? ⟨(ad226.add ((x10_4).toNat * 4)).block, (ad226.add ((x10_4).toNat * 4)).off + 1, none⟩ = some (.slice A226_1 ((rd_T40 t202 x10_4).f1).length c226_1) ∧ w'.cell? ⟨(ad226.add ((x10_4).toNat * 4)).block, (ad226.add ((x10_4).toNat * 4)).off + 2, none⟩ = some (.slice A226_2 ((rd_T40 t202 x10_4).f2).length c226_2) ∧ w'.cell? ⟨(ad226.add ((x10_4).toNat * 4)).block, (ad226.add ((x10_4).toNat * 4)).off + 3, none⟩ = some (.slice A226_3 ((rd_T40 t202 x10_4).f3).length c226_3) ∧ w'.cell? (ad227.add ((x10_4).toNat * 4)) = some (.string ((rd_T40 l0 x10_4).f0)) ∧ w'.cell? ⟨(ad227.add ((x10_4).toNat * 4)).block, (ad227.add ((x10_4).toNat * 4)).off + 1, none⟩ = some (.slice A227_1 ((rd_T40 l0 x10_4).f1).length c227_1) ∧ w'.cell? ⟨(ad227.add ((x10_4).toNat * 4)).block, (ad227.add ((x10_4).toNat * 4)).off + 2, none⟩ = some (.slice A227_2 ((rd_T40 l0 x10_4).f2).length c227_2) ∧ w'.cell? ⟨(ad227.add ((x10_4).toNat * 4)).block, (ad227.add ((x10_4).toNat * 4)).off + 3, none⟩ = some (.slice A227_3 ((rd_T40 l0 x10_4).f3).length c227_3)) (ds := []) #[false, false, false, false, false, false, false, false, false, false] (by kernel_rfl) rfl rfl ⟨hx226_0, hx226_1, hx226_2, hx226_3, ((HB.out.cell (World.block_lt_of_cell? w _ hw227_0)).trans hw227_0), ((HB.out.cell (World.block_lt_of_cell? w _ hw227_1)).trans hw227_1), ((HB.out.cell (World.block_lt_of_cell? w _ hw227_2)).trans hw227_2), ((HB.out.cell (World.block_lt_of_cell? w _ hw227_3)).trans hw227_3)⟩ (fun hHeld => ?_); refine with_tabW cotterlaw07_LinkLinks.tab19 cotterlaw07_LinkLinks.bits19 (fun HT_ HW_ => ?_)
                                  generalize wr.drew = w57 at HO_3 HO_214001 HO_214002 HO_223001 HO_223002 BK213 BK222 HB HL226_1 HL226_2 HL226_3 HR226_1 HR226_2 HR226_3 HR227_1 HR227_2 HR227_3 hx226_0 hx226_1 hx226_2 hx226_3 hx227_0 hx227_1 hx227_2 hx227_3 hHeld ⊢
                                  refine pure_ (i := 0) (N := some 66) (v := ?_) (a' := ?_) #[true, false, false, false, false, false, false, false, false, false] rfl rfl (any_of HT_.out (by kernel_rfl)) (fun _ _ _ h => h) (Or.inl ⟨by rfl, ?_⟩) ?_ ?_
                                  rotate_left
                                  · intro w'
                                    go_simp
                                    with_reducible rfl
                                  rotate_left
                                  · simp only [Act.put, List.setIfInBounds_toArray, List.set_cons_zero, List.set_cons_succ, i64_w, i32_w]
                                    rfl
                                  refine pure_ (i := 1) (N := some 67) (v := ?_) (a' := ?_) #[true, true, false, false, false, false, false, false, false, false] rfl rfl (any_of HT_.out (by kernel_rfl)) (fun _ _ _ h => h) (Or.inl ⟨by rfl, ?_⟩) ?_ ?_
                                  rotate_left
                                  · intro w'
                                    go_simp
                                    with_reducible rfl
                                  rotate_left
                                  · simp only [Act.put, List.setIfInBounds_toArray, List.set_cons_zero, List.set_cons_succ, i64_w, i32_w]
                                    rfl
                                  refine pure_ (i := 2) (N := some 68) (v := ?_) (a' := ?_) #[true, true, true, false, false, false, false, false, false, false] rfl rfl (any_of HT_.out (by kernel_rfl)) (fun _ _ _ h => h) (Or.inl ⟨by rfl, ?_⟩) ?_ ?_
                                  rotate_left
                                  · intro w'
                                    go_simp
                                    with_reducible rfl
                                  rotate_left
                                  · simp only [Act.put, List.setIfInBounds_toArray, List.set_cons_zero, List.set_cons_succ, i64_w, i32_w]
                                    rfl
                                  refine pure_ (i := 4) (N := some 70) (v := ?_) (a' := ?_) #[true, true, true, false, true, false, false, false, false, false] rfl rfl (any_of HT_.out (by kernel_rfl)) (fun _ _ _ h => h) (Or.inl ⟨by rfl, ?_⟩) ?_ ?_
                                  rotate_left
                                  · intro w'
                                    go_simp
                                    with_reducible rfl
                                  rotate_left
                                  · simp only [Act.put, List.setIfInBounds_toArray, List.set_cons_zero, List.set_cons_succ, i64_w, i32_w]
                                    rfl
                                  refine pure_ (i := 5) (N := some 71) (v := ?_) (a' := ?_) #[true, true, true, false, true, true, false, false, false, false] rfl rfl (any_of HT_.out (by kernel_rfl)) (fun _ _ _ h => h) (Or.inl ⟨by rfl, ?_⟩) ?_ ?_
                                  rotate_left
                                  · intro w'
                                    go_simp
                                    with_reducible rfl
                                  rotate_left
                                  · simp only [Act.put, List.setIfInBounds_toArray, List.set_cons_zero, List.set_cons_succ, i64_w, i32_w]
                                    rfl
                                  refine pure_ (i := 6) (N := some 72) (v := ?_) (a' := ?_) #[true, true, true, false, true, true, true, false, false, false] rfl rfl (any_of HT_.out (by kernel_rfl)) (fun _ _ _ h => h) (Or.inl ⟨by rfl, ?_⟩) ?_ ?_
                                  rotate_left
                                  · intro w'
                                    go_simp
                                    with_reducible rfl
                                  rotate_left
                                  · simp only [Act.put, List.setIfInBounds_toArray, List.set_cons_zero, List.set_cons_succ, i64_w, i32_w]
                                    rfl
                                  refine take_ (i := 3) (N := some 69) (v := ?_) (a' := ?_) #[true, true, true, true, true, true, true, false, false, false] rfl rfl (take_ofW HT_.out HW_.out (by kernel_rfl)) (fun _ _ _ h => h) (Or.inl ⟨by rfl, ?_⟩) hHeld ?_ ?_
                                  rotate_left
                                  · rintro w' ⟨s0, s1, s2, s3, s4, s5, s6, s7⟩
                                    go_simp
                                    with_reducible rfl
                                  rotate_left
                                  · simp only [Act.put, List.setIfInBounds_toArray, List.set_cons_zero, List.set_cons_succ, i64_w, i32_w]
                                    rfl
                                  refine take_ (i := 7) (N := some 73) (v := ?_) (a' := ?_) #[true, true, true, true, true, true, true, true, false, false] rfl rfl (take_ofW HT_.out HW_.out (by kernel_rfl)) (fun _ _ _ h => h) (Or.inl ⟨by rfl, ?_⟩) hHeld ?_ ?_
                                  rotate_left
                                  · rintro w' ⟨s0, s1, s2, s3, s4, s5, s6, s7⟩
                                    go_simp
                                    with_reducible rfl
                                  rotate_left
                                  · simp only [Act.put, List.setIfInBounds_toArray, List.set_cons_zero, List.set_cons_succ, i64_w, i32_w]
                                    rfl
                                  refine one_ (i := 8) (N := some 74) #[true, true, true, true, true, true, true, true, true, false] rfl rfl (one_of HT_.out (by kernel_rfl)) (by decide) (fun K hK => ?_)
                                  refine goes_ Try.func15 (by kernel_rfl) rfl #[.agg #[.string ((rd_T40 t202 x10_4).f0), .slice A226_1 ((rd_T40 t202 x10_4).f1).length c226_1, .slice A226_2 ((rd_T40 t202 x10_4).f2).length c226_2, .slice A226_3 ((rd_T40 t202 x10_4).f3).length c226_3], .agg #[.string ((rd_T40 l0 x10_4).f0), .slice A227_1 ((rd_T40 l0 x10_4).f1).length c227_1, .slice A227_2 ((rd_T40 l0 x10_4).f2).length c227_2, .slice A227_3 ((rd_T40 l0 x10_4).f3).length c227_3]] (by rfl) rfl rfl (by (try simp only [List.map_toArray, List.map_cons, List.map_nil]); first | done | rfl | (simp only [List.length_drop, List.length_take]; rfl)) ?_
                                  with_reducible refine (cotterref06_Same.calls k4 ((rd_T40 t202 x10_4).f0) _ _ ((rd_T40 t202 x10_4).f1) _ _ ((rd_T40 t202 x10_4).f2) _ _ ((rd_T40 t202 x10_4).f3) ((rd_T40 l0 x10_4).f0) _ _ ((rd_T40 l0 x10_4).f1) _ _ ((rd_T40 l0 x10_4).f2) _ _ ((rd_T40 l0 x10_4).f3) false _ ?side1 ?side2 ?side3 ?side4 ?side5 ?side6 ?side7 ?side8 ?side9 ?side10 ?side11 ?side12 A53.out).mono ?_
                                  (case side1 => repeat (first | exact (by repeat (first | (with_reducible exact HR226_1.out) | (with_reducible refine Kd.C_alloc ?_ _) | (with_reducible refine Kd.C_drewN ?_ _) | (with_reducible refine Kd.C_drew ?_) | exact HR226_1.out)) | (with_reducible refine Kd.C_alloc ?_ _) | (with_reducible refine Kd.C_drewN ?_ _) | (with_reducible refine Kd.C_drew ?_)))
                                  (case side2 => exact HC226_1.out)
                                  (case side3 => repeat (first | exact (by repeat (first | (with_reducible exact HR226_2.out) | (with_reducible refine Kd.C_alloc ?_ _) | (with_reducible refine Kd.C_drewN ?_ _) | (with_reducible refine Kd.C_drew ?_) | exact HR226_2.out)) | (with_reducible refine Kd.C_alloc ?_ _) | (with_reducible refine Kd.C_drewN ?_ _) | (with_reducible refine Kd.C_drew ?_)))
                                  (case side4 => exact HC226_2.out)
                                  (case side5 => repeat (first | exact (by repeat (first | (with_reducible exact HR226_3.out) | (with_reducible refine Kd.C_alloc ?_ _) | (with_reducible refine Kd.C_drewN ?_ _) | (with_reducible refine Kd.C_drew ?_) | exact HR226_3.out)) | (with_reducible refine Kd.C_alloc ?_ _) | (with_reducible refine Kd.C_drewN ?_ _) | (with_reducible refine Kd.C_drew ?_)))
                                  (case side6 => exact HC226_3.out)
                                  (case side7 => repeat (first | exact (Kd.C_below HR227_1.out HB.out) | (with_reducible refine Kd.C_alloc ?_ _) | (with_reducible refine Kd.C_drewN ?_ _) | (with_reducible refine Kd.C_drew ?_)))
                                  (case side8 => exact HC227_1.out)
                                  (case side9 => repeat (first | exact (Kd.C_below HR227_2.out HB.out) | (with_reducible refine Kd.C_alloc ?_ _) | (with_reducible refine Kd.C_drewN ?_ _) | (with_reducible refine Kd.C_drew ?_)))
                                  (case side10 => exact HC227_2.out)
                                  (case side11 => repeat (first | exact (Kd.C_below HR227_3.out HB.out) | (with_reducible refine Kd.C_alloc ?_ _) | (with_reducible refine Kd.C_drewN ?_ _) | (with_reducible refine Kd.C_drew ?_)))
                                  (case side12 => exact HC227_3.out)
                                  rintro e w58 ⟨rfl, hb⟩
                                  have HS0_ := (hb.cell (World.block_lt_of_cell? _ _ (hHeld.1))).trans (hHeld.1)
                                  have HS1_ := (hb.cell (World.block_lt_of_cell? _ _ (hHeld.2.1))).trans (hHeld.2.1)
                                  have HS2_ := (hb.cell (World.block_lt_of_cell? _ _ (hHeld.2.2.1))).trans (hHeld.2.2.1)
                                  have HS3_ := (hb.cell (World.block_lt_of_cell? _ _ (hHeld.2.2.2.1))).trans (hHeld.2.2.2.1)
                                  refine ⟨_, rfl, ?_⟩
                                  have n0_ := Aside0.mk (Kd.S_below (by (with_reducible repeat (first | apply Kd.S_alloc | apply Kd.S_drewN | apply Kd.S_drew)); exact HO_3.out) hb)
                                  have n1_ := Aside0.mk (Kd.R_below (by (with_reducible repeat (first | apply Kd.R_alloc | apply Kd.R_drewN | apply Kd.R_drew)); exact HO_214001.out) hb)
                                  have n2_ := Aside0.mk (Kd.R_below (by (with_reducible repeat (first | apply Kd.R_alloc | apply Kd.R_drewN | apply Kd.R_drew)); exact HO_214002.out) hb)
                                  have n3_ := Aside0.mk (Kd.R_below (by (with_reducible repeat (first | apply Kd.R_alloc | apply Kd.R_drewN | apply Kd.R_drew)); exact HO_223001.out) hb)
                                  have n4_ := Aside0.mk (Kd.R_below (by (with_reducible repeat (first | apply Kd.R_alloc | apply Kd.R_drewN | apply Kd.R_drew)); exact HO_223002.out) hb)
                                  have n5_ := Aside0.mk (Kd.R_below (by (with_reducible repeat (first | apply Kd.R_alloc | apply Kd.R_drewN | apply Kd.R_drew)); exact HL226_1.out) hb)
                                  have n6_ := Aside0.mk (Kd.R_below (by (with_reducible repeat (first | apply Kd.R_alloc | apply Kd.R_drewN | apply Kd.R_drew)); exact HL226_2.out) hb)
                                  have n7_ := Aside0.mk (Kd.R_below (by (with_reducible repeat (first | apply Kd.R_alloc | apply Kd.R_drewN | apply Kd.R_drew)); exact HL226_3.out) hb)
                                  have n8_ := Aside0.mk (blk_below (g := gb213) (o := .cells #[.string t205, .slice Ao38 x214001_2.length co38, .slice Ao49 x214002_3.length co49] 29 (0, 0)) (by (with_reducible repeat (first | refine blk_drewN ?_ _ | refine blk_drew ?_ | refine blk_alloc ?_ _)); exact BK213.out) hb)
                                  have n9_ := Aside0.mk (blk_below (g := gb222) (o := .cells #[.string t214, u223001, u223002] 29 (0, 0)) (by (with_reducible repeat (first | refine blk_drewN ?_ _ | refine blk_drew ?_ | refine blk_alloc ?_ _)); exact BK222.out) hb)
                                  have n10_ := Aside0.mk (Kd.C_below (by repeat (first | (with_reducible exact HR226_1.out) | (with_reducible refine Kd.C_alloc ?_ _) | (with_reducible refine Kd.C_drewN ?_ _) | (with_reducible refine Kd.C_drew ?_) | exact HR226_1.out)) hb)
                                  have n11_ := Aside0.mk (Kd.C_below (by repeat (first | (with_reducible exact HR226_2.out) | (with_reducible refine Kd.C_alloc ?_ _) | (with_reducible refine Kd.C_drewN ?_ _) | (with_reducible refine Kd.C_drew ?_) | exact HR226_2.out)) hb)
                                  have n12_ := Aside0.mk (Kd.C_below (by repeat (first | (with_reducible exact HR226_3.out) | (with_reducible refine Kd.C_alloc ?_ _) | (with_reducible refine Kd.C_drewN ?_ _) | (with_reducible refine Kd.C_drew ?_) | exact HR226_3.out)) hb)
                                  have n13_ := Aside0.mk (below_step (by repeat (first | (with_reducible first | exact HB.out | apply below_alloc | apply pw_below_drewN | apply below_drew1 | refine below_set ?_ GE213.out | refine below_set ?_ GE222.out) | exact HB.out)) hb)
                                  clear HO_3
                                  clear HO_214001
                                  clear HO_214002
                                  clear HO_223001
                                  clear HO_223002
                                  clear HL226_1
                                  clear HL226_2
                                  clear HL226_3
                                  clear BK213
                                  clear BK222
                                  clear HR226_1
                                  clear HR226_2
                                  clear HR226_3
                                  clear HB
                                  have HO_3 := n0_
                                  have HO_214001 := n1_
                                  have HO_214002 := n2_
                                  have HO_223001 := n3_
                                  have HO_223002 := n4_
                                  have HL226_1 := n5_
                                  have HL226_2 := n6_
                                  have HL226_3 := n7_
                                  have BK213 := n8_
                                  have BK222 := n9_
                                  have HR226_1 := n10_
                                  have HR226_2 := n11_
                                  have HR226_3 := n12_
                                  have HB := n13_
                                  clear n0_ n1_ n2_ n3_ n4_ n5_ n6_ n7_ n8_ n9_ n10_ n11_ n12_ n13_
                                  (try clear hb)
                                  (try clear hb2)
                                  (try clear hk)
                                  (try clear hi)
                                  refine hK.out _ _ ⟨HS0_, HS1_, HS2_, HS3_, ((HB.out.cell (World.block_lt_of_cell? w _ hw227_0)).trans hw227_0), ((HB.out.cell (World.block_lt_of_cell? w _ hw227_1)).trans hw227_1), ((HB.out.cell (World.block_lt_of_cell? w _ hw227_2)).trans hw227_2), ((HB.out.cell (World.block_lt_of_cell? w _ hw227_3)).trans hw227_3)⟩ (fun hHeld => ?_)
                                  clear hK K
                                  refine norm_ (a' := ?_) ?_ ?_
                                  rotate_left
                                  · show Act.put _ (some 74) _ = _
                                    simp only [Act.put, List.setIfInBounds_toArray, List.set_cons_zero, List.set_cons_succ, i64_w, i32_w]
                                    rfl
                                  refine pure_ (i := 9) (N := some 11) (v := ?_) (a' := ?_) #[true, true, true, true, true, true, true, true, true, true] rfl rfl (any_of HT_.out (by kernel_rfl)) (fun _ _ _ h => h) (Or.inl ⟨by rfl, ?_⟩) ?_ ?_
                                  rotate_left
                                  · intro w'
                                    go_simp
                                    with_reducible rfl
                                  rotate_left
                                  · simp only [Act.put, List.setIfInBounds_toArray, List.set_cons_zero, List.set_cons_succ, i64_w, i32_w]
                                    rfl
                                  refine done_ (done_of HT_.out (by kernel_rfl)) ?_
                                  try go_wp2
                                  go_ret
                                  exact ⟨by first | rfl | (simp [errW_none, errW_some] <;> rfl) | (simp [*, errW_none, errW_some] <;> rfl), by repeat (first | (with_reducible first | exact HB.out | apply below_alloc | apply pw_below_drewN | apply below_drew1 | refine below_set ?_ GE213.out | refine below_set ?_ GE222.out) | exact HB.out)⟩
                              · rw [if_neg c52] at H
                                exact absurd H (by simp)
                            · rw [if_neg c51] at H
                              exact absurd H (by simp)
                          · rw [if_neg c50] at H
                            have c50b0 : decide (x10_4 < (l0.length : Int)) = false := decide_eq_false c50
                            clear c50
                            replace H := Option.bind_eq_some_iff.mp H
                            obtain ⟨t229, A590, H⟩ := H
                            replace H : (some t229) = some r := H
                            have A59 := Aside0.mk A590
                            clear A590
                            obtain rfl := Option.some.inj H
                            go_wp2_with (first | ((with_reducible refine gate_callee (f := 10) rfl ?_); refine goesL_ (some 77) rfl rfl Try.func10 (by kernel_rfl) rfl #[] rfl (by (try simp only [List.map_toArray, List.map_cons, List.map_nil]); first | done | rfl | (simp only [List.length_drop, List.length_take]; rfl)) ?_; (with_reducible refine (cotterlaw07_live.calls  t229 _ A59.out).mono ?_); rintro e w60 ⟨rfl, hb⟩; refine ⟨_, rfl, ?_⟩; have n0_ := Aside0.mk (Kd.S_below (by (with_reducible repeat (first | apply Kd.S_alloc | apply Kd.S_drewN | apply Kd.S_drew)); exact HO_3.out) hb); have n1_ := Aside0.mk (Kd.R_below (by (with_reducible repeat (first | apply Kd.R_alloc | apply Kd.R_drewN | apply Kd.R_drew)); exact HO_214001.out) hb); have n2_ := Aside0.mk (Kd.R_below (by (with_reducible repeat (first | apply Kd.R_alloc | apply Kd.R_drewN | apply Kd.R_drew)); exact HO_214002.out) hb); have n3_ := Aside0.mk (Kd.R_below (by (with_reducible repeat (first | apply Kd.R_alloc | apply Kd.R_drewN | apply Kd.R_drew)); exact HO_223001.out) hb); have n4_ := Aside0.mk (Kd.R_below (by (with_reducible repeat (first | apply Kd.R_alloc | apply Kd.R_drewN | apply Kd.R_drew)); exact HO_223002.out) hb); have n5_ := Aside0.mk (blk_below (g := gb213) (o := .cells #[.string t205, .slice Ao38 x214001_2.length co38, .slice Ao49 x214002_3.length co49] 29 (0, 0)) (by (with_reducible repeat (first | refine blk_drewN ?_ _ | refine blk_drew ?_ | refine blk_alloc ?_ _)); exact BK213.out) hb); have n6_ := Aside0.mk (blk_below (g := gb222) (o := .cells #[.string t214, u223001, u223002] 29 (0, 0)) (by (with_reducible repeat (first | refine blk_drewN ?_ _ | refine blk_drew ?_ | refine blk_alloc ?_ _)); exact BK222.out) hb); have n7_ := Aside0.mk (below_step (by repeat (first | (with_reducible first | exact HB.out | apply below_alloc | apply pw_below_drewN | apply below_drew1 | refine below_set ?_ GE213.out | refine below_set ?_ GE222.out) | exact HB.out)) hb); clear HO_3; clear HO_214001; clear HO_214002; clear HO_223001; clear HO_223002; clear BK213; clear BK222; clear HB; have HO_3 := n0_; have HO_214001 := n1_; have HO_214002 := n2_; have HO_223001 := n3_; have HO_223002 := n4_; have BK213 := n5_; have BK222 := n6_; have HB := n7_; clear n0_ n1_ n2_ n3_ n4_ n5_ n6_ n7_; (try clear hb); (try clear hb2); (try clear hk); (try clear hi)))
                            go_ret
                            exact ⟨by first | rfl | (simp [errW_none, errW_some] <;> rfl) | (simp [*, errW_none, errW_some] <;> rfl), by repeat (first | (with_reducible first | exact HB.out | apply below_alloc | apply pw_below_drewN | apply below_drew1 | refine below_set ?_ GE213.out | refine below_set ?_ GE222.out) | exact HB.out)⟩
  · replace c3 := Bool.eq_false_iff.mpr c3
    subst c3
    have H1 : ((cotterlaw07_live.f).bind fun t201 => (some t201)) = some r := by rw [if_neg (show ¬ (false = true) by decide)] at H; exact H
    clear H
    have H := H1
    clear H1
    replace H := Option.bind_eq_some_iff.mp H
    obtain ⟨t201, A610, H⟩ := H
    replace H : (some t201) = some r := H
    have A61 := Aside0.mk A610
    clear A610
    obtain rfl := Option.some.inj H
    go_enter Try.func3, Try.ntmps3
    go_wp2_with (first | ((with_reducible refine gate_callee (f := 9) rfl ?_); refine goesL_ (some 13) rfl rfl Try.func9 (by kernel_rfl) rfl #[.slice A0 l0.length c0] rfl (by (try simp only [List.map_toArray, List.map_cons, List.map_nil]); first | done | rfl | (simp only [List.length_drop, List.length_take]; rfl)) ?_; (with_reducible refine (cotterlaw07_small.calls k _ _ l0 false _ ?side1 ?side2 A2.out).mono ?_); (case side1 => repeat (first | exact HR0.out | (with_reducible refine Kd.C_alloc ?_ _) | (with_reducible refine Kd.C_drewN ?_ _) | (with_reducible refine Kd.C_drew ?_))); (case side2 => exact HC0.out); rintro e w' ⟨rfl, ⟨nd, rfl⟩⟩; refine ⟨_, rfl, ?_⟩) | ((with_reducible refine gate_callee (f := 10) rfl ?_); refine goesL_ (some 15) rfl rfl Try.func10 (by kernel_rfl) rfl #[] rfl (by (try simp only [List.map_toArray, List.map_cons, List.map_nil]); first | done | rfl | (simp only [List.length_drop, List.length_take]; rfl)) ?_; (with_reducible refine (cotterlaw07_live.calls  t201 _ A61.out).mono ?_); rintro e w62 ⟨rfl, hb⟩; refine ⟨_, rfl, ?_⟩; have n0_ := Aside0.mk (below_step (by repeat (first | (with_reducible first | exact HB.out | apply below_alloc | apply pw_below_drewN | apply below_drew1) | exact HB.out)) hb); clear HB; have HB := n0_; clear n0_; (try clear hb); (try clear hb2); (try clear hk); (try clear hi)))
    go_ret
    exact ⟨by first | rfl | (simp [errW_none, errW_some] <;> rfl) | (simp [*, errW_none, errW_some] <;> rfl), by repeat (first | (with_reducible first | exact HB.out | apply below_alloc | apply pw_below_drewN | apply below_drew1) | exact HB.out)⟩

end Go.Proofs.Yteaealmnmmcbpaa.M

/-
  Layer 7: LinkLinks says yes, plain. Condition: the objects' lengths are some machine's.
-/
namespace Go.Proofs.Yteaealmnmmcbpaa.M
open Go.RowKit Go.Proofs.YteaealmnmmcbpaaW.PrintWords Go.Proofs.YteaealmnmmcbpaaW.PrintLast Go.Proofs.Yteaealmnmmcbpaa.Num Go.Proofs.Yteaealmnmmcbpaa.Seven Go.Proofs.Yteaealmnmmcbpaa.Obj Go.Proofs.Yteaealmnmmcbpaa.Word1
set_option linter.unusedVariables false
set_option linter.unusedSimpArgs false
theorem small_few2 {k : Nat} {l0 : List S40} (h : cotterlaw07_small.f k l0 = some true) : l0.length ≤ 20 := by
  unfold cotterlaw07_small.f at h
  split at h
  · cases h
  · omega
def Fits8 (o : S40) : Prop := o.f1.length * 8 ≤ 140737488351232 ∧ o.f2.length * 32 ≤ 140737488351232 ∧ o.f3.length * 40 ≤ 140737488351232
theorem copies_ev2 {l0 : List S40} (h20 : l0.length ≤ 20) (h : ∀ o ∈ l0, Fits8 o) : Ev fun k => cotterlaw07_copies.f k l0 = some l0 := by
  have key : ∀ (d i : Nat), l0.length - i = d → i ≤ l0.length → Ev fun k => cotterlaw07_copies.l0 k l0 (l0.take i) i = some l0 := by
    intro d
    induction d with
    | zero =>
      intro i hd hi
      refine .step (.of fun k => ?_)
      simp only [cotterlaw07_copies.l0]
      rw [if_neg (by omega), List.take_of_length_le (by omega)]
    | succ d ih =>
      intro i hd hi
      have hlt : i < l0.length := by omega
      have ho := h _ (List.getElem_mem hlt)
      unfold Fits8 at ho
      refine .step ((ih (i + 1) (by omega) (by omega)).mono fun k hk => ?_)
      simp only [cotterlaw07_copies.l0]
      rw [if_pos (by omega), if_pos (by omega), rd_SO hlt]
      unfold cotterref06_Copy.f
      rw [if_pos (by rw [List.length_nil]; omega), if_pos (by rw [List.length_nil]; omega), if_pos (by rw [List.length_nil]; omega)]
      simp only [Option.bind_some, List.nil_append]
      rw [if_pos (by rw [List.length_take]; omega), wrap64_id (by omega) (by omega), show ((i : Int) + 1) = ((i + 1 : Nat) : Int) by omega]
      rw [List.take_succ_eq_append_getElem hlt] at hk
      exact hk
  exact (key l0.length 0 (by omega) (by omega)).mono fun k hk => by
    unfold cotterlaw07_copies.f
    exact hk
theorem sameO_ev (o : S40) (h1 : o.f1.length < 9223372036854775807) (h2 : o.f2.length < 9223372036854775807) (h3 : o.f3.length < 9223372036854775807) : Ev fun k => cotterref06_Same.f k o.f0 o.f1 o.f2 o.f3 o.f0 o.f1 o.f2 o.f3 = some true := by
  have key : ∀ (d i : Nat), o.f3.length - i = d → i ≤ o.f3.length → Ev fun k => cotterref06_Same.l0 k i o.f0 o.f1 o.f2 o.f3 o.f0 o.f1 o.f2 o.f3 = some true := by
    intro d
    induction d with
    | zero =>
      intro i hd hi
      refine .step (.of fun k => ?_)
      simp only [cotterref06_Same.l0]
      rw [if_neg (by omega)]
    | succ d ih =>
      intro i hd hi
      refine .step ((ih (i + 1) (by omega) (by omega)).mono fun k hk => ?_)
      simp only [cotterref06_Same.l0]
      rw [if_pos (by omega), if_pos (by omega), if_pos (by omega), if_neg (by simp), wrap64_id (by omega) (by omega), show ((i : Int) + 1) = ((i + 1 : Nat) : Int) by omega]
      exact hk
  have j0 : Ev fun k => cotterref06_Same.j0 k false o.f0 o.f1 o.f2 o.f3 o.f0 o.f1 o.f2 o.f3 = some true := .step ((key o.f3.length 0 (by omega) (by omega)).mono fun k hk => by
    simp only [cotterref06_Same.j0]
    rw [if_neg (by simp)]
    exact hk)
  refine (((sameData_ev o.f1 h1).and (sameSyms_ev o.f2 h2)).and j0).mono fun k hk => ?_
  unfold cotterref06_Same.f
  rw [if_pos rfl, hk.1.1]
  simp only [Option.bind_some]
  rw [if_pos trivial, hk.1.2]
  simp only [Option.bind_some]
  rw [if_pos trivial, show ((o.f3.length : Int) != (o.f3.length : Int)) = false by simp]
  exact hk.2
theorem links_l2 {l0 : List S40} (h20 : l0.length ≤ 20) (h : ∀ o ∈ l0, Fits8 o) : ∀ (d i : Nat), l0.length - i = d → i ≤ l0.length → Ev fun k => cotterlaw07_LinkLinks.l2 k l0 l0 i = some true := by
  intro d
  induction d with
  | zero =>
    intro i hd hi
    refine .step (.of fun k => ?_)
    simp only [cotterlaw07_LinkLinks.l2]
    rw [if_neg (by omega), live_bind]
  | succ d ih =>
    intro i hd hi
    have hlt : i < l0.length := by omega
    have ho := h _ (List.getElem_mem hlt)
    unfold Fits8 at ho
    refine .step (((ih (i + 1) (by omega) (by omega)).and (sameO_ev l0[i] (by omega) (by omega) (by omega))).mono fun k hk => ?_)
    simp only [cotterlaw07_LinkLinks.l2]
    rw [if_pos (by omega), if_pos (by omega), if_pos (by omega), rd_SO hlt, hk.2]
    simp only [Option.bind_some]
    rw [if_pos trivial, wrap64_id (by omega) (by omega), show ((i : Int) + 1) = ((i + 1 : Nat) : Int) by omega]
    exact hk.1
theorem links_l1 {l0 : List S40} (h20 : l0.length ≤ 20) (h : ∀ o ∈ l0, Fits8 o) (c : ByteArray) (D : List Int) : ∀ (d i : Nat) (s : List S36), s.length ≤ 1000 → s.length - i = d → i ≤ s.length → Ev fun k => cotterlaw07_LinkLinks.l1 k l0 l0 i c D s = some true := by
  intro d
  induction d with
  | zero =>
    intro i s hl hd hi
    refine .step ((links_l2 h20 h l0.length 0 (by omega) (by omega)).mono fun k hk => ?_)
    simp only [cotterlaw07_LinkLinks.l1]
    rw [if_neg (by omega)]
    exact hk
  | succ d ih =>
    intro i s hl hd hi
    refine .step ((ih (i + 1) (s.set i ⟨(rd_T36 s (i : Int)).f0, (rd_T36 s (i : Int)).f1, -7⟩) (by rw [List.length_set]; exact hl) (by rw [List.length_set]; omega) (by rw [List.length_set]; omega)).mono fun k hk => ?_)
    simp only [cotterlaw07_LinkLinks.l1]
    rw [if_pos (by omega), if_pos (by omega), wrap64_id (by omega) (by omega), show ((i : Int) + 1) = ((i + 1 : Nat) : Int) by omega, Int.toNat_natCast]
    exact hk
theorem links_l0 {l0 : List S40} (h20 : l0.length ≤ 20) (h : ∀ o ∈ l0, Fits8 o) (c : ByteArray) (s : List S36) (hs : s.length ≤ 1000) : ∀ (d i : Nat) (D : List Int), D.length ≤ 4096 → D.length - i = d → i ≤ D.length → Ev fun k => cotterlaw07_LinkLinks.l0 k l0 l0 i c D s = some true := by
  intro d
  induction d with
  | zero =>
    intro i D hl hd hi
    refine .step ((links_l1 h20 h c D s.length 0 s hs (by omega) (by omega)).mono fun k hk => ?_)
    simp only [cotterlaw07_LinkLinks.l0]
    rw [if_neg (by omega)]
    exact hk
  | succ d ih =>
    intro i D hl hd hi
    refine .step ((ih (i + 1) (D.set i (-7)) (by rw [List.length_set]; exact hl) (by rw [List.length_set]; omega) (by rw [List.length_set]; omega)).mono fun k hk => ?_)
    simp only [cotterlaw07_LinkLinks.l0]
    rw [if_pos (by omega), if_pos (by omega), wrap64_id (by omega) (by omega), show ((i : Int) + 1) = ((i + 1 : Nat) : Int) by omega, Int.toNat_natCast]
    exact hk
theorem links_f {l0 : List S40} (h : Lens l0) (hf : ∀ o ∈ l0, Fits8 o) : ∃ k, cotterlaw07_LinkLinks.f k l0 = some true := by
  obtain ⟨b, hb⟩ := small_ev h
  apply Ev.get
  cases b with
  | false =>
    refine hb.mono fun k hk => ?_
    unfold cotterlaw07_LinkLinks.f
    rw [hk]
    simp only [Option.bind_some]
    rw [if_neg (by simp), live_bind]
  | true =>
    obtain ⟨k0, hk0⟩ := hb.get
    have h20 := small_few2 hk0
    have key : ∀ a d s e, linkF l0 = ((a, d, s), e) → d.length ≤ 4096 → s.length ≤ 1000 → Ev fun k => cotterlaw07_LinkLinks.f k l0 = some true := by
      intro a d s e hL hd hs
      have v1 : link_Link.f l0 = some (a, d, s, e) := by unfold link_Link.f; rw [hL]
      have v2 : cotterref07_Link.f l0 = some (a, d, s, e) := by unfold cotterref07_Link.f; rw [hL]
      have j0 : Ev fun k => cotterlaw07_LinkLinks.j0 k l0 l0 false a d s = some true := .step ((links_l0 h20 hf a s hs d.length 0 d hd (by omega) (by omega)).mono fun k hk => by
        simp only [cotterlaw07_LinkLinks.j0]
        rw [if_neg (by simp)]
        exact hk)
      refine (((hb.and (copies_ev2 h20 hf)).and (sameIm_ev a d s (by omega) (by omega))).and j0).mono fun k hk => ?_
      unfold cotterlaw07_LinkLinks.f
      rw [hk.1.1.1]
      simp only [Option.bind_some]
      rw [if_pos trivial, hk.1.1.2]
      simp only [Option.bind_some]
      rw [v1, v2]
      simp only [Option.bind_some]
      rw [if_pos trivial, hk.1.2]
      simp only [Option.bind_some]
      exact hk.2
    rcases link_cases l0 with ⟨x, c, G⟩ | ⟨e, he, hL⟩
    · exact key _ _ _ _ G.is G.room.2.1 G.room.2.2.1
    · exact key _ _ _ _ hL (by simp) (by simp)
end Go.Proofs.Yteaealmnmmcbpaa.M

