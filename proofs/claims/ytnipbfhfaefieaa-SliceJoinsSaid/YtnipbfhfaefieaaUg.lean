/- Texts of this claim, laid together: ArnQ, Ao, Ap. -/
import Derived.Test.YtnipbfhfaefieaaUf
/-! arena: the chapter's example. -/
namespace Go.Proofs.Ytnipbfhfaefieaa.Arn
open Go.RowKit Go Go.Proofs.YtnipbfhfaefieaaW.PrintWords Go.Proofs.YtnipbfhfaefieaaW.PrintMore Go.Proofs.YtnipbfhfaefieaaW.PrintLast Go.Proofs.Ytnipbfhfaefieaa.Bts Go.Proofs.Ytnipbfhfaefieaa.Fra Go.Proofs.Ytnipbfhfaefieaa.ArnP
section
variable {W W' : World} {O S Q : Nat → Prop} {a : Nat} {cl cl' : List Cell} {fr : List Int} {live most : Int} {ext : Nat → Nat}
/-- Where no live cell holds another, each is held by callers alone. -/
theorem AR.alone (h : AR W O a cl fr live most ext) (hk : ∀ (i : Nat) (c : Cell), cl[i]? = some c → 0 < c.r → kidsOf c.kids = []) (i : Nat) (c : Cell) (h0 : 0 < i) (hc : cl[i]? = some c) : c.r = ext i := by
  have hi : i < cl.length := (List.getElem?_eq_some_iff.1 hc).1
  have h1 := h.wf.acc i hi h0
  have h2 : held (gOf cl) cl.length i = 0 := sm_zero _ (fun y hy => by
    obtain ⟨d, hd⟩ : ∃ d, cl[y]? = some d := ⟨cl[y], List.getElem?_eq_getElem hy⟩
    rw [gOf_refs hd, gOf_kids hd]
    split
    · rw [hk y d hd (by omega)]; rfl
    · rfl)
  have h3 := h.wf.rn i c hc
  rw [gOf_refs hc, h2] at h1
  simp only [List.count_nil] at h1
  omega
theorem liveN_zero (h : ∀ (i : Nat) (c : Cell), cl[i]? = some c → ¬ 0 < c.r) : liveN cl = 0 := by
  unfold liveN
  rw [List.countP_eq_zero]
  intro c hc
  obtain ⟨i, hi, rfl⟩ := List.getElem_of_mem hc
  have := h i _ (List.getElem?_eq_getElem hi)
  simpa using this
theorem row_none {α : Type} (d : Kd α) (w : World) (O : Nat → Prop) : RowIn d w O (.slice none 0 0) [] := ⟨none, 0, rfl, Nat.le_refl _, fun _ => rfl, ⟨rfl, by simp, fun h => absurd h (by simp)⟩, fun ad h => by cases h⟩
/-- Make, where no number is free. -/
theorem make_AR0 (ow x y : Int) (v k : Value) (vals : List (Int × Int × ByteArray)) (kids : List Int) (w : World) (h : AR w O a cl [] live most ext) (hv : RowIn kVal w Q v vals) (hk : RowIn (Kd.int .i64) w Q k kids) (hQ : ∀ j, Q j → ¬ O j) (hb : badC cl kids = false) (hlm : live < most) (hkl : kids.length ≤ 1000) (hvl : vals.length ≤ 1000000000) (hct : ∀ x, 0 < x → (kidsOf kids).count x ≤ ext x) :
    Calls Try.prog 21 #[.pointer (some ⟨a, 0, none⟩), cellV ow x y v k] w fun e w' => ∃ O' : Nat → Prop, e = .returned (.tuple #[.int .i64 cl.length, .int .i64 0]) ∧ AR w' O' a (cl ++ [⟨ow, x, y, vals, kids, 1⟩]) [] (live + 1) most (fun x => if x = cl.length then 1 else ext x - (kidsOf kids).count x) ∧ (∀ j, O' j → O j ∨ w.heap.size ≤ j) ∧ Fr O w w' := by
  refine (make_AR ow x y v k vals kids w h hv hk hQ hb hlm hkl hvl hct).mono ?_
  rintro e w' ⟨i, O', cl', fr', he, h1, h2, h3, h4, h5⟩
  rcases h3 with ⟨_, rfl, rfl, rfl⟩ | ⟨h3, _⟩
  · exact ⟨O', he, h1, h4, h5⟩
  · simp at h3
theorem AR.no (h : AR W O a cl fr live most ext) : ¬ O W.heap.size := fun e => Nat.lt_irrefl _ (h.mem.ol _ e)
end
section
variable {O : Nat → Prop} {a : Nat} {cl : List Cell} {fr : List Int} {live most : Int} {ext : Nat → Nat}
theorem refs_AR1 (k : Nat) (c : Cell) (w : World) (h : AR w O a cl fr live most ext) (hk : 0 < k) (hc : cl[k]? = some c) (hr : 0 < c.r) : Calls Try.prog 26 #[.pointer (some ⟨a, 0, none⟩), .int .i64 k] w fun e w' => e = .returned (.int .i64 c.r) ∧ Below w.heap.size w w' := by
  have := refs_AR (k : Int) w h
  rwa [isC_at hc hk, decide_eq_true hr, if_pos rfl, Int.toNat_natCast, getD_at hc] at this
end
theorem bel_fr {w w0 w1 : World} {O : Nat → Prop} (hb : Below w.heap.size w w0) (hf : Fr O w0 w1) (ho : ∀ j, O j → w.heap.size ≤ j) : Below w.heap.size w w1 := hb.trans (hf.below ho hb.size)
theorem bel_own {w w0 : World} {O O' : Nat → Prop} (hb : Below w.heap.size w w0) (ho : ∀ j, O j → w.heap.size ≤ j) (hn : ∀ j, O' j → O j ∨ w0.heap.size ≤ j) : ∀ j, O' j → w.heap.size ≤ j := fun j hj => (hn j hj).elim (ho j) (fun e => Nat.le_trans hb.size e)
abbrev c7 (r : Int) : Cell := ⟨0, 7, 0, [], [], r⟩
theorem c7_kids (cl : List Cell) (hl : Left [nobC, c7 2] cl) : ∀ (i : Nat) (c : Cell), cl[i]? = some c → 0 < c.r → kidsOf c.kids = [] := by
  intro i c hc hr
  obtain ⟨d, h1, h2, _⟩ := hl.at_ i c hc hr
  rw [h2]
  match i, h1 with
  | 0, h1 => obtain rfl : nobC = d := by simpa using h1
             rfl
  | 1, h1 => obtain rfl : c7 2 = d := by simpa using h1
             rfl
  | i + 2, h1 => simp at h1
theorem left_trans {a b c : List Cell} (h : Left a b) (k : Left b c) : Left a c := ⟨k.len.trans h.len, fun i x hx hr => by
  obtain ⟨y, h1, h2, h3⟩ := k.at_ i x hx hr
  obtain ⟨z, g1, g2, g3⟩ := h.at_ i y h1 (by omega)
  refine ⟨z, g1, ?_, Int.le_trans h3 g3⟩
  rw [h2, g2]⟩
/-- Behind the first Drop. -/
theorem c7_at {W : World} {O : Nat → Prop} {a : Nat} {cl' : List Cell} {fr : List Int} {live most : Int} {ext : Nat → Nat} (h : AR W O a cl' fr live most (fun x => if x = 1 then ext x - 1 else ext x)) (hl : Left [nobC, c7 2] cl') (he : ext 1 = 2) : cl'[1]? = some (c7 1) := by
  have hlen : cl'.length = 2 := hl.len
  have hc : cl'[1]? = some cl'[1] := List.getElem?_eq_getElem (by omega)
  have hr := h.alone (c7_kids cl' hl) 1 _ (by decide) hc
  rw [if_pos rfl, he] at hr
  obtain ⟨d, h1, h2, _⟩ := hl.at_ 1 _ hc (by rw [hr]; decide)
  obtain rfl : c7 2 = d := by simpa using h1
  rw [hc, h2, hr]
  rfl
/-- Behind the last Drop. -/
theorem c7_end {W : World} {O : Nat → Prop} {a : Nat} {cl' : List Cell} {fr : List Int} {live most : Int} {ext : Nat → Nat} (h : AR W O a cl' fr live most ext) (hl : Left [nobC, c7 2] cl') (he : ext 1 = 0) : live = 0 ∧ isC cl' 1 = false := by
  have hlen : cl'.length = 2 := hl.len
  have hr : ∀ (i : Nat) (c : Cell), cl'[i]? = some c → c.r = 0 := by
    intro i c hc
    have hi := (List.getElem?_eq_some_iff.1 hc).1
    by_cases i0 : 0 < i
    · have := h.alone (c7_kids cl' hl) i c i0 hc
      rw [show i = 1 by omega, he] at this
      exact this
    · rw [show i = 0 by omega, h.wf.z] at hc
      cases hc
      rfl
  constructor
  · rw [h.wf.lv, liveN_zero (fun i c hc hp => by rw [hr i c hc] at hp; exact absurd hp (by decide))]
    rfl
  · cases hq : isC cl' 1
    · rfl
    · obtain ⟨k, c, _, _, e3, e4⟩ := isC_inv hq
      rw [hr k c e3] at e4
      exact absurd e4 (by decide)
set_option maxHeartbeats 4000000 in
set_option maxRecDepth 100000 in
theorem lives_calls (w : World) : Calls Try.prog 19 #[] w fun e w' => e = .returned (.bool true) ∧ Below w.heap.size w w' := by
  go_enter Try.func19, Try.ntmps19
  go_wp2_with (first
    | (go_at_call 25; go_loud (refine (room_AR _ (H6.out.below (by repeat (first | (with_reducible first | exact HC6.out | apply below_alloc | apply pw_below_drewN | apply below_drew1) | exact HC6.out)))).mono ?_; rintro e w9 ⟨rfl, hb9⟩; have HB9 := Lib.hid (below_step (by repeat (first | (with_reducible first | exact HC6.out | apply below_alloc | apply pw_below_drewN | apply below_drew1) | exact HC6.out)) hb9); clear hb9))
    | (go_at_call 22; go_loud (refine (live_AR _ (H6.out.below (by repeat (first | (with_reducible first | exact HC6.out | apply below_alloc | apply pw_below_drewN | apply below_drew1) | exact HC6.out)))).mono ?_; rintro e w8 ⟨rfl, rfl⟩))
    | (go_at_call 24; go_loud (refine (getn_AR 1 _ H6.out hdead).mono ?_; rintro e w7 ⟨rfl, hb7⟩; have hc7 := blk_below HX6.out hb7; have x1 : (w7.alloc zeroBlk).cell? ⟨w4.heap.size, 1, none⟩ = some (.int .u32 7) := pw_cell_below (below_alloc (Below.refl _ _) _) (blk_cell hc7 1); have HC6 := Lib.hid hb7; clear hb7 hc7))
    | (go_at_call 23; go_loud (refine (drop_AR 1 _ H5.out (by decide) (by decide)).mono ?_; rintro e w6 ⟨rfl, O6, cl6, fr6, live6, h6, hl6, ho6, hF6⟩; obtain ⟨hz6, hdead⟩ := c7_end h6 (left_trans HL3.out hl6) rfl; subst hz6; have HX6 := Lib.hid (hF6.blk HX5.out hz4); have H6 := Lib.hid h6; have HB6 := Lib.hid (bel_fr HB5.out hF6 HO3.out); clear h6 hF6 hl6))
    | (go_at_call 26; go_loud (refine (refs_AR1 1 (c7 1) _ (H4.out.below (below_alloc (Below.refl _ _) _)) (by decide) HC3.out (by decide)).mono ?_; rintro e w5 ⟨rfl, hb5⟩; have hz4 := H4.out.no; have HX5 := Lib.hid (blk_below (blk_new w4 (.cells #[.int .u32 0, .int .u32 7, .int .u32 0, .slice A4 0 a4, .slice A5 0 a5] 43)) hb5); have H5 := Lib.hid ((H4.out.below (below_alloc (Below.refl _ _) _)).below hb5); have HB5 := Lib.hid (below_step (below_step HB4.out (below_alloc (Below.refl _ _) _)) hb5); clear hb5))
    | (go_at_call 24; go_loud (refine (get_AR 1 (c7 1) _ H3.out (by decide) HC3.out (by decide)).mono ?_; rintro e w4 ⟨v4, k4, rfl, hv4, hk4, hb4⟩; obtain ⟨A4, a4, e4, _⟩ := id hv4; subst e4; obtain ⟨A5, a5, e5, _⟩ := id hk4; subst e5; have H4 := Lib.hid (H3.out.below hb4); have HB4 := Lib.hid (below_step HB3.out hb4); clear hb4 hv4 hk4))
    | (go_at_call 23; go_loud (refine (drop_AR 1 _ H2.out (by decide) (by decide)).mono ?_; rintro e w3 ⟨rfl, O3, cl3, fr3, live3, h3, hl3, ho3, hF3⟩; have hc3 := c7_at h3 hl3 rfl; have hHB3 := bel_fr HB2.out hF3 HO1.out; have HO3 := Lib.hid (bel_own HB2.out HO1.out ho3); have HC3 := Lib.hid hc3; have HL3 := Lib.hid hl3; have H3 := Lib.hid h3; have HB3 := Lib.hid hHB3; clear hc3 hl3 h3 hF3 ho3 hHB3))
    | (go_at_call 27; go_loud (refine (keep_AR 1 (c7 1) _ H1.out (by decide) rfl (by decide) (by decide)).mono ?_; rintro e w2 ⟨rfl, h2, hF2⟩; have HB2 := Lib.hid (bel_fr HB1.out hF2 HO1.out); have H2 := Lib.hid h2; clear h2 hF2))
    | (go_at_call 21; go_loud (refine (make_AR0 (Q := fun _ => False) 0 7 0 (.slice none 0 0) (.slice none 0 0) [] [] _ H0.out (row_none _ _ _) (row_none _ _ _) (fun _ h => h.elim) rfl (by decide) (by decide) (by decide) (fun _ _ => Nat.zero_le _)).mono ?_; rintro e w1 ⟨O1, rfl, h1, ho1, hF1⟩; have HB1 := Lib.hid (bel_fr HB0.out hF1 HO0.out); have HO1 := Lib.hid (bel_own HB0.out HO0.out ho1); have H1 := Lib.hid h1; clear h1 hF1 ho1))
    | (go_at_call 20; go_loud (refine (new_AR 2 _ (by decide) (by decide)).mono ?_; rintro e w0 ⟨a, O0, rfl, h0, ho0, hb0⟩; have H0 := Lib.hid h0; have HO0 := Lib.hid ho0; have HB0 := Lib.hid hb0; clear h0 ho0 hb0)))
  go_ret
  exact ⟨rfl, below_step HB6.out HB9.out⟩
end Go.Proofs.Ytnipbfhfaefieaa.Arn
/-! arena, with open cells: live cells that their caller alone holds, and whose holds on others are the caller's meanwhile. -/
namespace Go.Proofs.Ytnipbfhfaefieaa.Ao
open Go.RowKit Go Go.Proofs.YtnipbfhfaefieaaW.PrintWords Go.Proofs.YtnipbfhfaefieaaW.PrintMore Go.Proofs.YtnipbfhfaefieaaW.PrintLast Go.Proofs.Ytnipbfhfaefieaa.Bts Go.Proofs.Ytnipbfhfaefieaa.Fra Go.Proofs.Ytnipbfhfaefieaa.ArnP Go.Proofs.Ytnipbfhfaefieaa.Arn
/-- A cell as the accounts see it: an open one holds nobody. -/
def opn (op : Nat → Bool) (i : Nat) (c : Cell) : Cell := if op i then {c with kids := []} else c
def mask (op : Nat → Bool) (cl : List Cell) : List Cell := cl.mapIdx (opn op)
theorem opn_r (op : Nat → Bool) (i : Nat) (c : Cell) : (opn op i c).r = c.r := by unfold opn; split <;> rfl
theorem opn_no {op : Nat → Bool} {i : Nat} (h : op i = false) (c : Cell) : opn op i c = c := by unfold opn; rw [h]; rfl
theorem mask_len (op : Nat → Bool) (cl : List Cell) : (mask op cl).length = cl.length := by simp [mask]
theorem mask_get (op : Nat → Bool) (cl : List Cell) (i : Nat) : (mask op cl)[i]? = (cl[i]?).map (opn op i) := by simp [mask]
theorem mask_at {op : Nat → Bool} {cl : List Cell} {i : Nat} {c : Cell} (h : cl[i]? = some c) : (mask op cl)[i]? = some (opn op i c) := by rw [mask_get, h]; rfl
theorem mask_inv {op : Nat → Bool} {cl : List Cell} {i : Nat} {c : Cell} (h : (mask op cl)[i]? = some c) : ∃ d, cl[i]? = some d ∧ c = opn op i d := by
  rw [mask_get] at h
  obtain ⟨d, h1, h2⟩ := Option.map_eq_some_iff.1 h
  exact ⟨d, h1, h2.symm⟩
theorem mask_set (op : Nat → Bool) (cl : List Cell) (i : Nat) (c : Cell) : mask op (cl.set i c) = (mask op cl).set i (opn op i c) := by
  apply List.ext_getElem?
  intro j
  rw [mask_get]
  by_cases e : i = j
  · subst e
    by_cases h : i < cl.length
    · rw [List.getElem?_set_self h, List.getElem?_set_self (by rw [mask_len]; exact h)]; rfl
    · rw [List.getElem?_eq_none (by simp; omega), List.getElem?_eq_none (by simp [mask_len]; omega)]; rfl
  · rw [List.getElem?_set_ne e, List.getElem?_set_ne e, mask_get]
theorem mask_app (op : Nat → Bool) (cl : List Cell) (c : Cell) : mask op (cl ++ [c]) = mask op cl ++ [opn op cl.length c] := by
  apply List.ext_getElem?
  intro j
  rw [mask_get]
  by_cases e : j < cl.length
  · rw [List.getElem?_append_left e, List.getElem?_append_left (by rw [mask_len]; exact e), mask_get]
  · by_cases e2 : j = cl.length
    · subst e2
      rw [List.getElem?_append_right (Nat.le_refl _), List.getElem?_append_right (by rw [mask_len]; exact Nat.le_refl _), mask_len, Nat.sub_self]; rfl
    · rw [List.getElem?_eq_none (by simp; omega), List.getElem?_eq_none (by simp [mask_len]; omega)]; rfl
theorem mask_none (cl : List Cell) : mask (fun _ => false) cl = cl := by
  apply List.ext_getElem?
  intro j
  rw [mask_get]
  cases cl[j]? <;> rfl
/-- Cells by their numbers. -/
def fn (cl : List Cell) : Nat → Cell := fun i => cl.getD i nobC
theorem fn_at {cl : List Cell} {i : Nat} {c : Cell} (h : cl[i]? = some c) : fn cl i = c := getD_at h
def upd (f : Nat → Cell) (k : Nat) (c : Cell) : Nat → Cell := fun i => if i = k then c else f i
theorem fn_set {cl : List Cell} {k : Nat} (h : k < cl.length) (c : Cell) : fn (cl.set k c) = upd (fn cl) k c := by
  funext i
  show (cl.set k c).getD i nobC = _
  rw [getD_set c h]; rfl
theorem fn_app (cl : List Cell) (c : Cell) : fn (cl ++ [c]) = upd (fn cl) cl.length c := by
  funext i
  show (cl ++ [c]).getD i nobC = if i = cl.length then c else cl.getD i nobC
  unfold List.getD
  by_cases e : i < cl.length
  · rw [List.getElem?_append_left e, if_neg (by omega)]
  · by_cases e2 : i = cl.length
    · subst e2; rw [List.getElem?_append_right (Nat.le_refl _), Nat.sub_self, if_pos rfl]; rfl
    · rw [if_neg e2, List.getElem?_eq_none (by simp; omega), List.getElem?_eq_none (by omega)]
theorem fn_live {cl : List Cell} {i : Nat} (h : 0 < (fn cl i).r) : cl[i]? = some (fn cl i) := by
  unfold fn List.getD at h ⊢
  cases hc : cl[i]? with
  | none => rw [hc] at h; exact absurd h (by decide)
  | some c => rfl
/-- Nobody holds himself, on whatever way: who is held lies lower. -/
def Acy (f : Nat → Cell) (op : Nat → Bool) : Prop := ∃ rank : Nat → Nat, ∀ i, 0 < (f i).r → op i = false → ∀ x ∈ kidsOf (f i).kids, rank x < rank i
theorem Acy.mono {f g : Nat → Cell} {op op' : Nat → Bool} (h : Acy f op) (hg : ∀ i, 0 < (g i).r → op' i = false → 0 < (f i).r ∧ op i = false ∧ (g i).kids = (f i).kids) : Acy g op' := by
  obtain ⟨rank, hr⟩ := h
  refine ⟨rank, fun i h1 h2 x hx => ?_⟩
  obtain ⟨q1, q2, q3⟩ := hg i h1 h2
  exact hr i q1 q2 x (q3 ▸ hx)
theorem le_sum_map (g : Nat → Nat) : ∀ (l : List Nat) (x : Nat), x ∈ l → g x ≤ (l.map g).sum
  | [], x, h => by cases h
  | y :: l, x, h => by
    simp only [List.map_cons, List.sum_cons]
    rcases List.mem_cons.1 h with rfl | h
    · omega
    · have := le_sum_map g l x h; omega
theorem Acy.upd {f : Nat → Cell} {op op' : Nat → Bool} (h : Acy f op) (k : Nat) (c : Cell) (hno : ∀ i, i ≠ k → 0 < (f i).r → op' i = false → op i = false ∧ k ∉ kidsOf (f i).kids) (hck : k ∉ kidsOf c.kids) : Acy (upd f k c) op' := by
  obtain ⟨rank, hr⟩ := h
  refine ⟨fun x => if x = k then ((kidsOf c.kids).map rank).sum + 1 else rank x, fun i h1 h2 x hx => ?_⟩
  by_cases e : i = k
  · subst e
    have hx2 : x ∈ kidsOf c.kids := by
      have e1 : _root_.Go.Proofs.Ytnipbfhfaefieaa.Ao.upd f i c i = c := if_pos rfl
      rwa [e1] at hx
    have hne : x ≠ i := fun q => hck (q ▸ hx2)
    simp only [if_true]
    rw [if_neg hne]
    have := le_sum_map rank _ x hx2
    omega
  · have e1 : _root_.Go.Proofs.Ytnipbfhfaefieaa.Ao.upd f k c i = f i := if_neg e
    rw [e1] at hx h1
    obtain ⟨q1, q2⟩ := hno i e h1 h2
    have hne : x ≠ k := fun q => q2 (q ▸ hx)
    simp only []
    rw [if_neg hne, if_neg e]
    exact hr i h1 q1 x hx
structure AL (W : World) (O : Nat → Prop) (a : Nat) (cl : List Cell) (fr : List Int) (live most : Int) (ext : Nat → Nat) (op : Nat → Bool) : Prop where
  mem : Mem W O a cl fr live most
  wf : WF (mask op cl) fr live ext []
  cnt : (fr.length : Int) + live + 1 = cl.length
  m0 : 1 ≤ most
  m1 : most ≤ 1048576
  lm : live ≤ most
  kb : ∀ (i : Nat) (c : Cell), cl[i]? = some c → 0 < c.r → c.kids.length ≤ 1000 ∧ c.vals.length ≤ 1000000000
  eb : ∀ i, ext i ≤ 100000000000
  lc : cl.length ≤ 1048577
  op1 : ∀ i, op i = true → 0 < i ∧ ext i = 1 ∧ ∃ c, cl[i]? = some c ∧ c.r = 1
  ac : Acy (fn cl) op
/-- An arena of a caller who holds cells as often as ext tells; op: which are open. -/
def AO (W : World) (O : Nat → Prop) (a : Nat) (f : Nat → Cell) (live most : Int) (ext : Nat → Nat) (op : Nat → Bool) : Prop := ∃ cl fr, f = fn cl ∧ AL W O a cl fr live most ext op
section
variable {W W' : World} {O S Q : Nat → Prop} {a : Nat} {cl : List Cell} {fr : List Int} {f : Nat → Cell} {live most : Int} {ext : Nat → Nat} {op : Nat → Bool}
theorem AL.move (h : AL W O a cl fr live most ext op) (hf : Fr S W W') (hs : ∀ k, O k → ¬ S k) : AL W' O a cl fr live most ext op := ⟨h.mem.fr hf hs, h.wf, h.cnt, h.m0, h.m1, h.lm, h.kb, h.eb, h.lc, h.op1, h.ac⟩
theorem AO.move (h : AO W O a f live most ext op) (hf : Fr S W W') (hs : ∀ k, O k → ¬ S k) : AO W' O a f live most ext op := let ⟨cl, fr, e, h⟩ := h; ⟨cl, fr, e, h.move hf hs⟩
theorem AO.below (h : AO W O a f live most ext op) (hb : Below W.heap.size W W') : AO W' O a f live most ext op := h.move (Fr.of_new (S := fun _ => False) hb) (fun _ _ => id)
theorem AO.lt (h : AO W O a f live most ext op) : ∀ k, O k → k < W.heap.size := let ⟨_, _, _, h⟩ := h; h.mem.ol
theorem AO.of_AR (h : AR W O a cl fr live most ext) (hac : Acy (fn cl) (fun _ => false)) : AO W O a (fn cl) live most ext (fun _ => false) := ⟨cl, fr, rfl, h.mem, by rw [mask_none]; exact h.wf, h.cnt, h.m0, h.m1, h.lm, h.kb, h.eb, h.lc, (fun i hi => by cases hi), hac⟩
theorem AL.live0 (h : AL W O a cl fr live most ext op) : 0 ≤ live := by rw [h.wf.lv]; omega
/-- How many hold a cell: callers, and live cells that are not open. -/
theorem AL.acc (h : AL W O a cl fr live most ext op) (i : Nat) (c : Cell) (h0 : 0 < i) (hc : cl[i]? = some c) : c.r.toNat = ext i + held (gOf (mask op cl)) cl.length i := by
  have hi : i < cl.length := (List.getElem?_eq_some_iff.1 hc).1
  have := h.wf.acc i (by rw [mask_len]; exact hi) h0
  rw [gOf_refs (mask_at hc), opn_r, mask_len] at this
  simpa using this
theorem AL.rn (h : AL W O a cl fr live most ext op) (i : Nat) (c : Cell) (hc : cl[i]? = some c) : 0 ≤ c.r := by
  have := h.wf.rn i _ (mask_at hc)
  rwa [opn_r] at this
/-- A live cell's others are held. -/
theorem AL.kid (h : AL W O a cl fr live most ext op) {y x : Nat} {c : Cell} (hc : cl[y]? = some c) (hp : 0 < c.r) (hy : op y = false) (hx : x ∈ kidsOf c.kids) : 0 < x ∧ ∃ d, cl[x]? = some d ∧ (ext x : Int) < d.r := by
  obtain ⟨z, hz, z0, rfl⟩ := kidsOf_mem hx
  have hm := mask_at (op := op) hc
  rw [opn_no hy] at hm
  have hk := h.wf.kn y c hm hp z hz
  rw [mask_len] at hk
  have hxl : z.toNat < cl.length := by omega
  refine ⟨by omega, cl[z.toNat], List.getElem?_eq_getElem hxl, ?_⟩
  have h1 := h.acc z.toNat _ (by omega) (List.getElem?_eq_getElem hxl)
  have h2 : 1 ≤ held (gOf (mask op cl)) cl.length z.toNat := by
    have hyl : y < cl.length := (List.getElem?_eq_some_iff.1 hc).1
    have := sm_le (f := fun y => if 0 < (gOf (mask op cl)).refs y then ((gOf (mask op cl)).kids y).count z.toNat else 0) cl.length y hyl
    refine Nat.le_trans ?_ this
    rw [gOf_refs hm, gOf_kids hm, if_pos (by omega)]
    exact List.count_pos_iff.2 hx
  have h3 := h.rn z.toNat _ (List.getElem?_eq_getElem hxl)
  omega
theorem AL.rb (h : AL W O a cl fr live most ext op) (i : Nat) (c : Cell) (hc : cl[i]? = some c) : c.r ≤ 200000000000 := by
  by_cases i0 : 0 < i
  · have hr := h.acc i c i0 hc
    have h1 := h.eb i
    have h2 := held_le (g := gOf (mask op cl)) cl.length 1000 i (fun y hy hp => by
      obtain ⟨d, hd⟩ : ∃ d, cl[y]? = some d := ⟨cl[y], List.getElem?_eq_getElem hy⟩
      have hm := mask_at (op := op) hd
      rw [gOf_refs hm, opn_r] at hp
      rw [gOf_kids hm]
      refine Nat.le_trans (kidsOf_len _) ?_
      unfold opn
      split
      · exact Nat.zero_le _
      · exact (h.kb y d hd (by omega)).1)
    have h3 := h.lc
    have h4 : cl.length * 1000 ≤ 1048577000 := by omega
    have := h.rn i c hc
    omega
  · obtain rfl : i = 0 := by omega
    have := h.wf.z
    obtain ⟨d, hd, e⟩ := mask_inv this
    rw [hc] at hd
    cases hd
    have : c.r = (opn op 0 c).r := (opn_r _ _ _).symm
    rw [this, ← e]
    decide
/-- Cell j, and whatever it leads to so many steps on, is what it was, but for how many hold it. -/
def Sub (f f' : Nat → Cell) : Nat → Nat → Prop
  | 0, _ => True
  | d + 1, j => f' j = {f j with r := (f' j).r} ∧ ∀ x ∈ kidsOf (f j).kids, Sub f f' d x
def Same (f f' : Nat → Cell) (j : Nat) : Prop := ∀ d, Sub f f' d j
theorem Same.refl (f : Nat → Cell) (j : Nat) : Same f f j := by
  intro d
  induction d generalizing j with
  | zero => trivial
  | succ d ih => exact ⟨rfl, fun x _ => ih x⟩
theorem Same.trans {f g h : Nat → Cell} {j : Nat} (h1 : Same f g j) (h2 : Same g h j) : Same f h j := by
  intro d
  induction d generalizing j with
  | zero => trivial
  | succ d ih =>
    obtain ⟨e1, k1⟩ := h1 (d + 1)
    obtain ⟨e2, k2⟩ := h2 (d + 1)
    refine ⟨by rw [e2, e1], fun x hx => ih (fun n => (h1 (n + 1)).2 x hx) (fun n => (h2 (n + 1)).2 x ?_)⟩
    rw [e1]
    exact hx
theorem Same.at_ {f g : Nat → Cell} {j : Nat} (h : Same f g j) : g j = {f j with r := (g j).r} := (h 1).1
theorem Same.kid {f g : Nat → Cell} {j x : Nat} (h : Same f g j) (hx : x ∈ kidsOf (f j).kids) : Same f g x := fun d => (h (d + 1)).2 x hx
theorem same_of {f g : Nat → Cell} (P : Nat → Prop) (h : ∀ j, P j → g j = {f j with r := (g j).r} ∧ ∀ x ∈ kidsOf (f j).kids, P x) : ∀ j, P j → Same f g j := by
  intro j hj d
  induction d generalizing j with
  | zero => trivial
  | succ d ih => exact ⟨(h j hj).1, fun x hx => ih x ((h j hj).2 x hx)⟩
/-- Live, and not open. -/
def Lv (f : Nat → Cell) (op : Nat → Bool) (j : Nat) : Prop := 0 < j ∧ 0 < (f j).r ∧ op j = false
theorem AL.lv_kid (h : AL W O a cl fr live most ext op) {j x : Nat} (hj : Lv (fn cl) op j) (hx : x ∈ kidsOf (fn cl j).kids) : Lv (fn cl) op x ∧ (ext x : Int) < (fn cl x).r := by
  obtain ⟨h0, h1, h2⟩ := hj
  obtain ⟨g0, d, g1, g2⟩ := h.kid (fn_live h1) h1 h2 hx
  have hf := fn_at g1
  refine ⟨⟨g0, by rw [hf]; omega, ?_⟩, by rw [hf]; exact g2⟩
  cases ho : op x
  · rfl
  · obtain ⟨_, e1, d', e2, e3⟩ := h.op1 x ho
    rw [g1] at e2
    cases e2
    omega
theorem AO.lv_kid (h : AO W O a f live most ext op) {j x : Nat} (hj : Lv f op j) (hx : x ∈ kidsOf (f j).kids) : Lv f op x ∧ (ext x : Int) < (f x).r := by
  obtain ⟨cl, fr, rfl, h⟩ := h
  exact h.lv_kid hj hx
theorem AO.ext_lv (h : AO W O a f live most ext op) {j : Nat} (h0 : 0 < j) (he : 0 < ext j) : 0 < (f j).r := by
  obtain ⟨cl, fr, rfl, h⟩ := h
  have hj : j < cl.length := by
    by_cases e : j < cl.length
    · exact e
    · have := h.wf.en j (by rw [mask_len]; omega)
      omega
  have hc := List.getElem?_eq_getElem hj
  have := h.acc j _ h0 hc
  rw [fn_at hc]
  omega
theorem AO.ext_r (h : AO W O a f live most ext op) {j : Nat} (h0 : 0 < j) : (ext j : Int) ≤ (f j).r := by
  obtain ⟨cl, fr, rfl, h⟩ := h
  by_cases hj : j < cl.length
  · have hc := List.getElem?_eq_getElem hj
    have h1 := h.acc j _ h0 hc
    have h2 := h.rn j _ hc
    rw [fn_at hc]
    omega
  · have := h.wf.en j (by rw [mask_len]; omega)
    rw [this]
    unfold fn List.getD
    rw [List.getElem?_eq_none (by omega)]
    decide
theorem AO.op_r (h : AO W O a f live most ext op) {j : Nat} (ho : op j = true) : 0 < j ∧ ext j = 1 ∧ (f j).r = 1 := by
  obtain ⟨cl, fr, rfl, h⟩ := h
  obtain ⟨h0, h1, c, h2, h3⟩ := h.op1 j ho
  exact ⟨h0, h1, by rw [fn_at h2]; exact h3⟩
theorem AO.room (h : AO W O a f live most ext op) : 0 ≤ live ∧ live ≤ most ∧ most ≤ 1048576 := by
  obtain ⟨cl, fr, rfl, h⟩ := h
  exact ⟨h.live0, h.lm, h.m1⟩
end
end Go.Proofs.Ytnipbfhfaefieaa.Ao
/-! arena, with open cells: each call, as a contract. -/
namespace Go.Proofs.Ytnipbfhfaefieaa.Ao
open Go.RowKit Go Go.Proofs.YtnipbfhfaefieaaW.PrintWords Go.Proofs.YtnipbfhfaefieaaW.PrintMore Go.Proofs.YtnipbfhfaefieaaW.PrintLast Go.Proofs.Ytnipbfhfaefieaa.Bts Go.Proofs.Ytnipbfhfaefieaa.Fra Go.Proofs.Ytnipbfhfaefieaa.ArnP Go.Proofs.Ytnipbfhfaefieaa.Arn
theorem rec_eq (c : Cell) (h : c.r = 1) : {c with r := 1} = c := by
  cases c
  cases h
  rfl
section
variable {W W' : World} {O S Q : Nat → Prop} {a : Nat} {cl : List Cell} {fr : List Int} {f : Nat → Cell} {live most : Int} {ext : Nat → Nat} {op : Nat → Bool}
/-- Is a number a live cell's? -/
def isF (f : Nat → Cell) (i : Int) : Bool := decide (0 < i) && decide (0 < (f i.toNat).r)
theorem isC_isF (cl : List Cell) (i : Int) : isC cl i = isF (fn cl) i := rfl
theorem isF_at {k : Nat} (h0 : 0 < k) (hr : 0 < (f k).r) : isF f (k : Int) = true := by
  unfold isF
  rw [Int.toNat_natCast, decide_eq_true (show 0 < (k : Int) by omega), decide_eq_true hr]
  rfl
theorem isF_zero (f : Nat → Cell) : isF f 0 = false := rfl
def badF (f : Nat → Cell) (l : List Int) : Bool := l.any fun x => x != 0 && !isF f x
theorem live_AO (w : World) (h : AO w O a f live most ext op) : Calls Try.prog 22 #[.pointer (some ⟨a, 0, none⟩)] w fun e w' => e = .returned (.int .i64 live) ∧ w' = w := by
  obtain ⟨cl, fr, rfl, h⟩ := h
  obtain ⟨base, gs, cs, vf, sl, V, h1, _⟩ := h.mem.m
  exact live_calls w h1
theorem room_AO (w : World) (h : AO w O a f live most ext op) : Calls Try.prog 25 #[.pointer (some ⟨a, 0, none⟩)] w fun e w' => e = .returned (.int .i64 (most - live)) ∧ Below w.heap.size w w' := by
  obtain ⟨cl, fr, rfl, h⟩ := h
  obtain ⟨base, gs, cs, vf, sl, V, h1, _⟩ := h.mem.m
  have e : wrap64 (most - live) = most - live := by
    have := h.live0; have := h.lm; have := h.m1
    unfold wrap64; omega
  have := room_calls w h1
  rwa [e] at this
theorem refs_AO (i : Int) (w : World) (h : AO w O a f live most ext op) : Calls Try.prog 26 #[.pointer (some ⟨a, 0, none⟩), .int .i64 i] w fun e w' => e = .returned (.int .i64 (if isF f i then (f i.toNat).r else 0)) ∧ Below w.heap.size w w' := by
  obtain ⟨cl, fr, rfl, h⟩ := h
  obtain ⟨base, gs, cs, vf, sl, V, h1, h2, h3, h4, h5, h6, h7, h8⟩ := h.mem.m
  have hl := h.lc
  rw [← isC_isF]
  cases hi : isC cl i
  · exact refs_none i w h1 (by omega) (by rw [isB_isC h7 h8]; exact hi)
  · obtain ⟨k, c, rfl, hk0, hc, hr⟩ := isC_inv hi
    obtain ⟨s, hs⟩ : ∃ s, sl[k]? = some s := ⟨sl[k]'(by rw [h7]; exact (List.getElem?_eq_some_iff.1 hc).1), List.getElem?_eq_getElem _⟩
    have hcr := (h8 k s c hs hc).r
    have := refs_raw k s w h1 (by omega) hs hk0 (by omega)
    rw [hcr] at this
    rw [if_pos rfl, Int.toNat_natCast, fn_at hc]
    exact this
theorem get_AO (k : Nat) (w : World) (h : AO w O a f live most ext op) (hk : 0 < k) (hr : 0 < (f k).r) :
    Calls Try.prog 24 #[.pointer (some ⟨a, 0, none⟩), .int .i64 k] w fun e w' => ∃ v' k', e = .returned (.tuple #[cellV (f k).ow (f k).a (f k).b v' k', .bool true]) ∧ VR w' w.heap.size v' (f k).vals ∧ KR w' w.heap.size k' (f k).kids ∧ (∀ j, v'.ownBlock = some j → k'.ownBlock ≠ some j) ∧ Below w.heap.size w w' := by
  obtain ⟨cl, fr, rfl, h⟩ := h
  obtain ⟨base, gs, cs, vf, sl, V, h1, h2, h3, h4, h5, h6, h7, h8⟩ := h.mem.m
  have hl := h.lc
  have hc := fn_live hr
  obtain ⟨s, hs⟩ : ∃ s, sl[k]? = some s := ⟨sl[k]'(by rw [h7]; exact (List.getElem?_eq_some_iff.1 hc).1), List.getElem?_eq_getElem _⟩
  have hci := h8 k s _ hs hc
  have hb := h.kb k _ hc hr
  have := get_R k s (fn cl k).vals (fn cl k).kids w h1 (by omega) hs hk (by rw [hci.r]; exact hr) hci.v hci.k (by omega) (by omega)
  rw [hci.ow, hci.a, hci.b] at this
  exact this
theorem keepn_AO (i : Int) (w : World) (h : AO w O a f live most ext op) (hi : isF f i = false) : Calls Try.prog 27 #[.pointer (some ⟨a, 0, none⟩), .int .i64 i] w fun e w' => e = .returned (.int .i64 4) ∧ Below w.heap.size w w' := by
  obtain ⟨cl, fr, rfl, h⟩ := h
  obtain ⟨base, gs, cs, vf, sl, V, h1, h2, h3, h4, h5, h6, h7, h8⟩ := h.mem.m
  have hl := h.lc
  exact keep_none i w h1 (by omega) (show isB sl i = false by rw [isB_isC h7 h8]; exact hi)
theorem dropn_AO (i : Int) (w : World) (h : AO w O a f live most ext op) (hi : isF f i = false) : Calls Try.prog 23 #[.pointer (some ⟨a, 0, none⟩), .int .i64 i] w fun e w' => e = .returned (.int .i64 4) ∧ Below w.heap.size w w' := by
  obtain ⟨cl, fr, rfl, h⟩ := h
  obtain ⟨base, gs, cs, vf, sl, V, h1, h2, h3, h4, h5, h6, h7, h8⟩ := h.mem.m
  have hl := h.lc
  exact drop_none i w h1 (by omega) (by rw [isB_isC h7 h8]; exact hi)
theorem keep_AO (k : Nat) (w : World) (h : AO w O a f live most ext op) (hk : 0 < k) (hr : 0 < (f k).r) (ho : op k = false) (he : ext k < 100000000000) :
    Calls Try.prog 27 #[.pointer (some ⟨a, 0, none⟩), .int .i64 k] w fun e w' => e = .returned (.int .i64 0) ∧ AO w' O a (upd f k {f k with r := (f k).r + 1}) live most (fun x => if x = k then ext x + 1 else ext x) op ∧ Fr O w w' := by
  obtain ⟨cl, fr, rfl, h⟩ := h
  obtain ⟨base, gs, cs, vf, sl, V, h1, h2, h3, h4, h5, h6, h7, h8⟩ := h.mem.m
  have hl := h.lc
  have hc := fn_live hr
  have hkl : k < cl.length := (List.getElem?_eq_some_iff.1 hc).1
  obtain ⟨s, hs⟩ : ∃ s, sl[k]? = some s := ⟨sl[k]'(by omega), List.getElem?_eq_getElem _⟩
  have hci := h8 k s _ hs hc
  have hrb := h.rb k _ hc
  refine (keep_raw k s w h1 (by omega) hs hk (by rw [hci.r]; exact hr) (by rw [hci.r]; omega)).mono ?_
  rintro e w' ⟨rfl, hraw, w1, hb, hw'⟩
  have hF : Fr (fun j => j = gs) w w' := by rw [hw']; exact (Fr.of_new hb).then_ (Fr.set gs _ _) (fun j hj => .inl hj)
  have hVg : ∀ j, V j → ¬ j = gs := fun j hj => (h6 j hj).2.1
  have hm := mask_at (op := op) hc
  have hwf := h.wf.keep hm (by rw [opn_r]; exact hr)
  have e1 : (mask op cl).set k {opn op k (fn cl k) with r := (opn op k (fn cl k)).r + 1} = mask op (cl.set k {fn cl k with r := (fn cl k).r + 1}) := by rw [mask_set, opn_no ho, opn_no ho]
  rw [e1] at hwf
  have hac' : Acy (upd (fn cl) k {fn cl k with r := (fn cl k).r + 1}) op := h.ac.mono fun i hi ho2 => by
    by_cases e : i = k
    · subst e
      exact ⟨hr, ho2, by rw [show upd (fn cl) i {fn cl i with r := (fn cl i).r + 1} i = _ from if_pos rfl]⟩
    · rw [show upd (fn cl) k {fn cl k with r := (fn cl k).r + 1} i = fn cl i from if_neg e] at hi ⊢
      exact ⟨hi, ho2, rfl⟩
  refine ⟨rfl, ⟨_, fr, (fn_set hkl _).symm, ⟨⟨base, gs, cs, vf, _, V, hraw, h2, h3, h4, h5, h6, by rw [List.length_set, List.length_set]; exact h7, ?_⟩, fun j hj => Nat.lt_of_lt_of_le (h.mem.ol j hj) hF.size⟩, hwf, by rw [List.length_set]; exact h.cnt, h.m0, h.m1, h.lm, ?_, ?_, by rw [List.length_set]; exact h.lc, ?_, by rw [fn_set hkl]; exact hac'⟩, hF.mono (fun j hj => .inl (by rw [hj]; exact h3))⟩
  · intro i s2 c2 hi hc2
    by_cases e : i = k
    · subst e
      rw [List.getElem?_set_self (by omega)] at hi hc2
      cases hi
      cases hc2
      have := hci.fr hF hVg
      exact ⟨this.ow, this.a, this.b, show s.r + 1 = (fn cl i).r + 1 by rw [hci.r], this.v, this.k⟩
    · rw [List.getElem?_set_ne (fun h => e h.symm)] at hi hc2
      exact (h8 i s2 c2 hi hc2).fr hF hVg
  · intro i c2 hc2 hr2
    rcases at_set hc hc2 with ⟨rfl, rfl⟩ | ⟨_, hc2⟩
    · have q := h.kb _ _ hc hr
      exact q
    · exact h.kb i c2 hc2 hr2
  · intro i
    split
    · rename_i e; subst e; omega
    · exact h.eb i
  · intro i hi
    obtain ⟨g0, g1, c2, g2, g3⟩ := h.op1 i hi
    have hne : i ≠ k := fun e => by rw [e, ho] at hi; cases hi
    exact ⟨g0, by rw [if_neg hne]; exact g1, c2, by rw [List.getElem?_set_ne (fun e => hne e.symm)]; exact g2, g3⟩
/-- What a Drop leaves. -/
def LeftF (f f' : Nat → Cell) : Prop := ∀ i, 0 < (f' i).r → f' i = {f i with r := (f' i).r} ∧ (f' i).r ≤ (f i).r
theorem drop_AO (k : Nat) (w : World) (h : AO w O a f live most ext op) (hk : 0 < k) (he : 0 < ext k) (ho : op k = false) :
    Calls Try.prog 23 #[.pointer (some ⟨a, 0, none⟩), .int .i64 k] w fun e w' => e = .returned (.int .i64 0) ∧ ∃ O' f' live', AO w' O' a f' live' most (fun x => if x = k then ext x - 1 else ext x) op ∧ LeftF f f' ∧ live' ≤ live ∧ (∀ j, O' j → O j ∨ w.heap.size ≤ j) ∧ Fr O w w' := by
  obtain ⟨cl, fr, rfl, h⟩ := h
  obtain ⟨base, gs, cs, vf, sl, V, h1, h2, h3, h4, h5, h6, h7, h8⟩ := h.mem.m
  have hl := h.lc
  have hopx : ∀ i, op i = true → i ≠ k := fun i hi e => by rw [e, ho] at hi; cases hi
  have hks : ksum (mask op cl) ≤ 1048577000 := by
    have h1 := ksum_le (mask op cl) 1000 (fun c hc hp => by
      obtain ⟨i, hi, rfl⟩ := List.getElem_of_mem hc
      obtain ⟨d, hd, e⟩ := mask_inv (List.getElem?_eq_getElem hi)
      rw [e, opn_r] at hp
      have := (h.kb i d hd hp).1
      rw [e]
      unfold opn
      split
      · exact Nat.zero_le _
      · exact this)
    rw [mask_len] at h1
    omega
  refine (drop_walk k (mask op cl) (fun x => if x = k then ext x - 1 else ext x) w h1 (by omega) (by rw [mask_len]; exact h7) (fun i s c hi hc => ?_) (fun j hj => ⟨h.mem.ol j (h5 j hj), h6 j hj⟩) (h.wf.drop hk he) (by rw [mask_len]; exact h.cnt) (by omega) (fun i c hc hr => ?_)).mono ?_
  · obtain ⟨d, hd, rfl⟩ := mask_inv hc
    have := h8 i s d hi hd
    refine ⟨by rw [opn_r]; exact this.r, fun h0 => ?_⟩
    have hoi : op i = false := by
      cases hq : op i
      · rfl
      · obtain ⟨g0, g1, _⟩ := h.op1 i hq
        rw [if_neg (hopx i hq)] at h0
        omega
    rw [opn_no hoi]
    exact this
  · obtain ⟨d, hd, rfl⟩ := mask_inv hc
    rw [opn_r] at hr ⊢
    refine ⟨by have := h.rb i d hd; omega, ?_⟩
    have := (h.kb i d hd hr).1
    unfold opn
    split
    · exact Nat.zero_le _
    · exact Nat.le_trans this (by decide)
  rintro e w' ⟨rfl, vf', sl', gl', fr', live', q1, q2, q3, q4a, q4b, q5, q6, q7, q8⟩
  have hfr : Fr O w w' := q8.mono (fun j hj => .inl (by
    rcases hj with e | e | e
    · rw [e]; exact h2
    · rw [e]; exact h3
    · exact h4 j e))
  have hglen : gl'.length = cl.length := by rw [q6.len, mask_len]
  -- the cells behind it
  obtain ⟨cl', hcl'⟩ : ∃ cl' : List Cell, cl' = gl'.mapIdx fun i c => if op i then fn cl i else c := ⟨_, rfl⟩
  have hget : ∀ i c, cl'[i]? = some c → ∃ g, gl'[i]? = some g ∧ c = if op i then fn cl i else g := by
    intro i c hc
    rw [hcl', List.getElem?_mapIdx] at hc
    obtain ⟨g, g1, g2⟩ := Option.map_eq_some_iff.1 hc
    exact ⟨g, g1, g2.symm⟩
  have hput : ∀ i g, gl'[i]? = some g → cl'[i]? = some (if op i then fn cl i else g) := by
    intro i g hg
    rw [hcl', List.getElem?_mapIdx, hg]; rfl
  have hclen : cl'.length = cl.length := by rw [hcl', List.length_mapIdx, hglen]
  have hopg : ∀ i, op i = true → ∀ g, gl'[i]? = some g → g = opn op i (fn cl i) := by
    intro i hi g hg
    obtain ⟨g0, g1, c2, g2, g3⟩ := h.op1 i hi
    have hlive := q5.ext_live i g0 (by rw [if_neg (hopx i hi)]; omega) g hg
    obtain ⟨d, d1, d2, d3⟩ := q6.at_ i g hg hlive
    rw [mask_at g2] at d1
    cases d1
    rw [opn_r] at d3
    have : g.r = 1 := by omega
    rw [this] at d2
    rw [d2, fn_at g2]
    exact rec_eq _ (by rw [opn_r]; exact g3)
  have hmask : mask op cl' = gl' := by
    apply List.ext_getElem?
    intro i
    rw [mask_get]
    cases hg : gl'[i]? with
    | none => rw [List.getElem?_eq_none (by rw [hclen, ← hglen]; exact List.getElem?_eq_none_iff.1 hg)]; rfl
    | some g =>
      rw [hput i g hg]
      show some (opn op i _) = some g
      cases hi : op i
      · rw [if_neg (by simp), opn_no hi]
      · rw [if_pos rfl, hopg i hi g hg]
  have hleft : Arn.Left cl cl' := by
    refine ⟨hclen, fun i c hc hr => ?_⟩
    obtain ⟨g, hg, rfl⟩ := hget i c hc
    cases hi : op i
    · rw [hi] at hr
      simp only [Bool.false_eq_true, if_false] at hr ⊢
      obtain ⟨d, d1, d2, d3⟩ := q6.at_ i g hg hr
      obtain ⟨d', d4, rfl⟩ := mask_inv d1
      rw [opn_no hi] at d2 d3
      exact ⟨d', d4, d2, d3⟩
    · simp only [if_true]
      obtain ⟨g0, g1, c2, g2, g3⟩ := h.op1 i hi
      exact ⟨c2, g2, by rw [fn_at g2], by rw [fn_at g2]; exact Int.le_refl _⟩
  have q4 : ∀ (i : Nat) (s : Slot) (c : Cell), sl'[i]? = some s → cl'[i]? = some c → CellIn w' V s c := left_link h8 (e' := fun x => if x = k then ext x - 1 else ext x) (fun i s c hs hc => by
      obtain ⟨g, hg, rfl⟩ := hget i c hc
      obtain ⟨r1, r2⟩ := q4a i s g hs hg
      cases hi : op i
      · simp only [Bool.false_eq_true, if_false]
        exact ⟨r1, r2⟩
      · simp only [if_true]
        obtain ⟨g0, g1, c2, g2, g3⟩ := h.op1 i hi
        refine ⟨by rw [r1, hopg i hi g hg, opn_r], fun h0 => ?_⟩
        rw [if_neg (hopx i hi)] at h0
        omega) q4b hleft h7 q8 (fun j hj e => by
      rcases e with e | e | e
      · exact (h6 j hj).1 e
      · exact (h6 j hj).2.1 e
      · exact (h6 j hj).2.2 e) (fun i i0 he c hc => by
      obtain ⟨g, hg, rfl⟩ := hget i c hc
      have := q5.ext_live i i0 he g hg
      cases hi : op i
      · simpa using this
      · simp only [if_true]
        obtain ⟨g0, g1, c2, g2, g3⟩ := h.op1 i hi
        rw [fn_at g2]
        omega)
  have hll : live' ≤ live := by
    have e1 := q5.lv
    have e2 := h.wf.lv
    have : liveN gl' ≤ liveN (mask op cl) := liveN_left q6
    omega
  refine ⟨rfl, fun j => (O j ∨ vf'.ownBlock = some j), fn cl', live', ⟨cl', fr', rfl, ⟨⟨base, gs, cs, vf', sl', V, q1, .inl h2, .inl h3, fun j hj => .inr hj, fun j hj => .inl (h5 j hj), fun j hj => ⟨(h6 j hj).1, (h6 j hj).2.1, fun e => ?_⟩, by rw [q3, hglen, hclen], q4⟩, ?_⟩, by rw [hmask]; exact q5, by rw [hclen, ← hglen]; exact q7, h.m0, h.m1, by have := h.lm; omega, left_kb hleft h.kb, ?_, by rw [hclen]; exact h.lc, ?_, h.ac.mono fun i hi ho2 => by obtain ⟨c, c1, c2, c3⟩ := hleft.at_ i _ (fn_live hi) hi; rw [fn_at c1]; exact ⟨by omega, ho2, by rw [c2]⟩⟩, ?_, hll, ?_, hfr⟩
  · rcases q2 j e with e | e
    · exact (h6 j hj).2.2 e
    · have := h.mem.ol j (h5 j hj); omega
  · intro j hj
    rcases hj with hj | hj
    · exact Nat.lt_of_lt_of_le (h.mem.ol j hj) hfr.size
    · exact own_lt q1.free j hj
  · intro i
    have := h.eb i
    split <;> omega
  · intro i hi
    obtain ⟨g0, g1, c2, g2, g3⟩ := h.op1 i hi
    have hil : i < gl'.length := by rw [hglen]; exact (List.getElem?_eq_some_iff.1 g2).1
    refine ⟨g0, by rw [if_neg (hopx i hi)]; exact g1, c2, ?_, g3⟩
    rw [hput i _ (List.getElem?_eq_getElem hil), if_pos hi, fn_at g2]
  · intro i hi
    have hc := fn_live hi
    obtain ⟨c, c1, c2, c3⟩ := hleft.at_ i _ hc hi
    rw [fn_at c1]
    exact ⟨c2, c3⟩
  · intro j hj
    rcases hj with hj | hj
    · exact .inl hj
    · rcases q2 j hj with e | e
      · exact .inl (h4 j e)
      · exact .inr e
end
end Go.Proofs.Ytnipbfhfaefieaa.Ao
