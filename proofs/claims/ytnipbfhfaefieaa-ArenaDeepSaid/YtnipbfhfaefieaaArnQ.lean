/- arena: the chapter's example. -/
import Derived.Test.YtnipbfhfaefieaaArnO
namespace Go.Proofs.Ytnipbfhfaefieaa.Arn
open Go.RowKit Go Go.Proofs.YtnipbfhfaefieaaW.PrintWords Go.Proofs.YtnipbfhfaefieaaW.PrintMore Go.Proofs.YtnipbfhfaefieaaW.PrintLast Go.Proofs.Ytnipbfhfaefieaa.Bts Go.Proofs.Ytnipbfhfaefieaa.Fra Go.Proofs.Ytnipbfhfaefieaa.ArnP
section
variable {W W' : World} {O S Q : Nat → Prop} {a : Nat} {cl cl' : List Cell} {fr : List Int} {live most : Int} {ext : Nat → Nat}
/-- Where no live cell holds another, each is held by callers alone. -/
theorem AR.alone (h : AR W O a cl fr live most ext) (hk : ∀ (i : Nat) (c : Cell), cl[i]? = some c → 0 < c.r → kidsOf c.kids = []) (i : Nat) (c : Cell) (h0 : 0 < i) (hc : cl[i]? = some c) : c.r = ext i := by
  have hi : i < cl.length := (List.getElem?_eq_some_iff.1 hc).1
  have h1 := h.wf.acc i hi h0
  have h2 : held (gOf cl) cl.length i = 0 := sm_zero _ (fun y hy => by
    obtain ⟨d, hd⟩ : ∃ d, cl[y]? = some d := ⟨cl[y], List.getElem?_eq_getElem hy⟩
    rw [gOf_refs hd, gOf_kids hd]
    split
    · rw [hk y d hd (by omega)]; rfl
    · rfl)
  have h3 := h.wf.rn i c hc
  rw [gOf_refs hc, h2] at h1
  simp only [List.count_nil] at h1
  omega
theorem liveN_zero (h : ∀ (i : Nat) (c : Cell), cl[i]? = some c → ¬ 0 < c.r) : liveN cl = 0 := by
  unfold liveN
  rw [List.countP_eq_zero]
  intro c hc
  obtain ⟨i, hi, rfl⟩ := List.getElem_of_mem hc
  have := h i _ (List.getElem?_eq_getElem hi)
  simpa using this
theorem row_none {α : Type} (d : Kd α) (w : World) (O : Nat → Prop) : RowIn d w O (.slice none 0 0) [] := ⟨none, 0, rfl, Nat.le_refl _, fun _ => rfl, ⟨rfl, by simp, fun h => absurd h (by simp)⟩, fun ad h => by cases h⟩
/-- Make, where no number is free. -/
theorem make_AR0 (ow x y : Int) (v k : Value) (vals : List (Int × Int × ByteArray)) (kids : List Int) (w : World) (h : AR w O a cl [] live most ext) (hv : RowIn kVal w Q v vals) (hk : RowIn (Kd.int .i64) w Q k kids) (hQ : ∀ j, Q j → ¬ O j) (hb : badC cl kids = false) (hlm : live < most) (hkl : kids.length ≤ 1000) (hvl : vals.length ≤ 1000000000) (hct : ∀ x, 0 < x → (kidsOf kids).count x ≤ ext x) :
    Calls Try.prog 21 #[.pointer (some ⟨a, 0, none⟩), cellV ow x y v k] w fun e w' => ∃ O' : Nat → Prop, e = .returned (.tuple #[.int .i64 cl.length, .int .i64 0]) ∧ AR w' O' a (cl ++ [⟨ow, x, y, vals, kids, 1⟩]) [] (live + 1) most (fun x => if x = cl.length then 1 else ext x - (kidsOf kids).count x) ∧ (∀ j, O' j → O j ∨ w.heap.size ≤ j) ∧ Fr O w w' := by
  refine (make_AR ow x y v k vals kids w h hv hk hQ hb hlm hkl hvl hct).mono ?_
  rintro e w' ⟨i, O', cl', fr', he, h1, h2, h3, h4, h5⟩
  rcases h3 with ⟨_, rfl, rfl, rfl⟩ | ⟨h3, _⟩
  · exact ⟨O', he, h1, h4, h5⟩
  · simp at h3
theorem AR.no (h : AR W O a cl fr live most ext) : ¬ O W.heap.size := fun e => Nat.lt_irrefl _ (h.mem.ol _ e)
end
section
variable {O : Nat → Prop} {a : Nat} {cl : List Cell} {fr : List Int} {live most : Int} {ext : Nat → Nat}
theorem refs_AR1 (k : Nat) (c : Cell) (w : World) (h : AR w O a cl fr live most ext) (hk : 0 < k) (hc : cl[k]? = some c) (hr : 0 < c.r) : Calls Try.prog 26 #[.pointer (some ⟨a, 0, none⟩), .int .i64 k] w fun e w' => e = .returned (.int .i64 c.r) ∧ Below w.heap.size w w' := by
  have := refs_AR (k : Int) w h
  rwa [isC_at hc hk, decide_eq_true hr, if_pos rfl, Int.toNat_natCast, getD_at hc] at this
end
theorem bel_fr {w w0 w1 : World} {O : Nat → Prop} (hb : Below w.heap.size w w0) (hf : Fr O w0 w1) (ho : ∀ j, O j → w.heap.size ≤ j) : Below w.heap.size w w1 := hb.trans (hf.below ho hb.size)
theorem bel_own {w w0 : World} {O O' : Nat → Prop} (hb : Below w.heap.size w w0) (ho : ∀ j, O j → w.heap.size ≤ j) (hn : ∀ j, O' j → O j ∨ w0.heap.size ≤ j) : ∀ j, O' j → w.heap.size ≤ j := fun j hj => (hn j hj).elim (ho j) (fun e => Nat.le_trans hb.size e)
abbrev c7 (r : Int) : Cell := ⟨0, 7, 0, [], [], r⟩
theorem c7_kids (cl : List Cell) (hl : Left [nobC, c7 2] cl) : ∀ (i : Nat) (c : Cell), cl[i]? = some c → 0 < c.r → kidsOf c.kids = [] := by
  intro i c hc hr
  obtain ⟨d, h1, h2, _⟩ := hl.at_ i c hc hr
  rw [h2]
  match i, h1 with
  | 0, h1 => obtain rfl : nobC = d := by simpa using h1
             rfl
  | 1, h1 => obtain rfl : c7 2 = d := by simpa using h1
             rfl
  | i + 2, h1 => simp at h1
theorem left_trans {a b c : List Cell} (h : Left a b) (k : Left b c) : Left a c := ⟨k.len.trans h.len, fun i x hx hr => by
  obtain ⟨y, h1, h2, h3⟩ := k.at_ i x hx hr
  obtain ⟨z, g1, g2, g3⟩ := h.at_ i y h1 (by omega)
  refine ⟨z, g1, ?_, Int.le_trans h3 g3⟩
  rw [h2, g2]⟩
/-- Behind the first Drop. -/
theorem c7_at {W : World} {O : Nat → Prop} {a : Nat} {cl' : List Cell} {fr : List Int} {live most : Int} {ext : Nat → Nat} (h : AR W O a cl' fr live most (fun x => if x = 1 then ext x - 1 else ext x)) (hl : Left [nobC, c7 2] cl') (he : ext 1 = 2) : cl'[1]? = some (c7 1) := by
  have hlen : cl'.length = 2 := hl.len
  have hc : cl'[1]? = some cl'[1] := List.getElem?_eq_getElem (by omega)
  have hr := h.alone (c7_kids cl' hl) 1 _ (by decide) hc
  rw [if_pos rfl, he] at hr
  obtain ⟨d, h1, h2, _⟩ := hl.at_ 1 _ hc (by rw [hr]; decide)
  obtain rfl : c7 2 = d := by simpa using h1
  rw [hc, h2, hr]
  rfl
/-- Behind the last Drop. -/
theorem c7_end {W : World} {O : Nat → Prop} {a : Nat} {cl' : List Cell} {fr : List Int} {live most : Int} {ext : Nat → Nat} (h : AR W O a cl' fr live most ext) (hl : Left [nobC, c7 2] cl') (he : ext 1 = 0) : live = 0 ∧ isC cl' 1 = false := by
  have hlen : cl'.length = 2 := hl.len
  have hr : ∀ (i : Nat) (c : Cell), cl'[i]? = some c → c.r = 0 := by
    intro i c hc
    have hi := (List.getElem?_eq_some_iff.1 hc).1
    by_cases i0 : 0 < i
    · have := h.alone (c7_kids cl' hl) i c i0 hc
      rw [show i = 1 by omega, he] at this
      exact this
    · rw [show i = 0 by omega, h.wf.z] at hc
      cases hc
      rfl
  constructor
  · rw [h.wf.lv, liveN_zero (fun i c hc hp => by rw [hr i c hc] at hp; exact absurd hp (by decide))]
    rfl
  · cases hq : isC cl' 1
    · rfl
    · obtain ⟨k, c, _, _, e3, e4⟩ := isC_inv hq
      rw [hr k c e3] at e4
      exact absurd e4 (by decide)
set_option maxHeartbeats 4000000 in
set_option maxRecDepth 100000 in
theorem lives_calls (w : World) : Calls Try.prog 19 #[] w fun e w' => e = .returned (.bool true) ∧ Below w.heap.size w w' := by
  go_enter Try.func19, Try.ntmps19
  go_wp2_with (first
    | (go_at_call 25; go_loud (refine (room_AR _ (H6.out.below (by repeat (first | (with_reducible first | exact HC6.out | apply below_alloc | apply pw_below_drewN | apply below_drew1) | exact HC6.out)))).mono ?_; rintro e w9 ⟨rfl, hb9⟩; have HB9 := Lib.hid (below_step (by repeat (first | (with_reducible first | exact HC6.out | apply below_alloc | apply pw_below_drewN | apply below_drew1) | exact HC6.out)) hb9); clear hb9))
    | (go_at_call 22; go_loud (refine (live_AR _ (H6.out.below (by repeat (first | (with_reducible first | exact HC6.out | apply below_alloc | apply pw_below_drewN | apply below_drew1) | exact HC6.out)))).mono ?_; rintro e w8 ⟨rfl, rfl⟩))
    | (go_at_call 24; go_loud (refine (getn_AR 1 _ H6.out hdead).mono ?_; rintro e w7 ⟨rfl, hb7⟩; have hc7 := blk_below HX6.out hb7; have x1 : (w7.alloc zeroBlk).cell? ⟨w4.heap.size, 1, none⟩ = some (.int .u32 7) := pw_cell_below (below_alloc (Below.refl _ _) _) (blk_cell hc7 1); have HC6 := Lib.hid hb7; clear hb7 hc7))
    | (go_at_call 23; go_loud (refine (drop_AR 1 _ H5.out (by decide) (by decide)).mono ?_; rintro e w6 ⟨rfl, O6, cl6, fr6, live6, h6, hl6, ho6, hF6⟩; obtain ⟨hz6, hdead⟩ := c7_end h6 (left_trans HL3.out hl6) rfl; subst hz6; have HX6 := Lib.hid (hF6.blk HX5.out hz4); have H6 := Lib.hid h6; have HB6 := Lib.hid (bel_fr HB5.out hF6 HO3.out); clear h6 hF6 hl6))
    | (go_at_call 26; go_loud (refine (refs_AR1 1 (c7 1) _ (H4.out.below (below_alloc (Below.refl _ _) _)) (by decide) HC3.out (by decide)).mono ?_; rintro e w5 ⟨rfl, hb5⟩; have hz4 := H4.out.no; have HX5 := Lib.hid (blk_below (blk_new w4 (.cells #[.int .u32 0, .int .u32 7, .int .u32 0, .slice A4 0 a4, .slice A5 0 a5] 43)) hb5); have H5 := Lib.hid ((H4.out.below (below_alloc (Below.refl _ _) _)).below hb5); have HB5 := Lib.hid (below_step (below_step HB4.out (below_alloc (Below.refl _ _) _)) hb5); clear hb5))
    | (go_at_call 24; go_loud (refine (get_AR 1 (c7 1) _ H3.out (by decide) HC3.out (by decide)).mono ?_; rintro e w4 ⟨v4, k4, rfl, hv4, hk4, hb4⟩; obtain ⟨A4, a4, e4, _⟩ := id hv4; subst e4; obtain ⟨A5, a5, e5, _⟩ := id hk4; subst e5; have H4 := Lib.hid (H3.out.below hb4); have HB4 := Lib.hid (below_step HB3.out hb4); clear hb4 hv4 hk4))
    | (go_at_call 23; go_loud (refine (drop_AR 1 _ H2.out (by decide) (by decide)).mono ?_; rintro e w3 ⟨rfl, O3, cl3, fr3, live3, h3, hl3, ho3, hF3⟩; have hc3 := c7_at h3 hl3 rfl; have hHB3 := bel_fr HB2.out hF3 HO1.out; have HO3 := Lib.hid (bel_own HB2.out HO1.out ho3); have HC3 := Lib.hid hc3; have HL3 := Lib.hid hl3; have H3 := Lib.hid h3; have HB3 := Lib.hid hHB3; clear hc3 hl3 h3 hF3 ho3 hHB3))
    | (go_at_call 27; go_loud (refine (keep_AR 1 (c7 1) _ H1.out (by decide) rfl (by decide) (by decide)).mono ?_; rintro e w2 ⟨rfl, h2, hF2⟩; have HB2 := Lib.hid (bel_fr HB1.out hF2 HO1.out); have H2 := Lib.hid h2; clear h2 hF2))
    | (go_at_call 21; go_loud (refine (make_AR0 (Q := fun _ => False) 0 7 0 (.slice none 0 0) (.slice none 0 0) [] [] _ H0.out (row_none _ _ _) (row_none _ _ _) (fun _ h => h.elim) rfl (by decide) (by decide) (by decide) (fun _ _ => Nat.zero_le _)).mono ?_; rintro e w1 ⟨O1, rfl, h1, ho1, hF1⟩; have HB1 := Lib.hid (bel_fr HB0.out hF1 HO0.out); have HO1 := Lib.hid (bel_own HB0.out HO0.out ho1); have H1 := Lib.hid h1; clear h1 hF1 ho1))
    | (go_at_call 20; go_loud (refine (new_AR 2 _ (by decide) (by decide)).mono ?_; rintro e w0 ⟨a, O0, rfl, h0, ho0, hb0⟩; have H0 := Lib.hid h0; have HO0 := Lib.hid ho0; have HB0 := Lib.hid hb0; clear h0 ho0 hb0)))
  go_ret
  exact ⟨rfl, below_step HB6.out HB9.out⟩
end Go.Proofs.Ytnipbfhfaefieaa.Arn
