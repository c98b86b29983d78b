/- arena: Edit, as a contract over cells. -/
import Derived.Test.YtnipbfhfaefieaaArnN
namespace Go.Proofs.Ytnipbfhfaefieaa.Arn
open Go.RowKit Go Go.Proofs.YtnipbfhfaefieaaW.PrintWords Go.Proofs.YtnipbfhfaefieaaW.PrintMore Go.Proofs.YtnipbfhfaefieaaW.PrintLast Go.Proofs.Ytnipbfhfaefieaa.Bts Go.Proofs.Ytnipbfhfaefieaa.Fra Go.Proofs.Ytnipbfhfaefieaa.ArnP
section
variable {W W' : World} {O S Q : Nat → Prop} {a : Nat} {cl : List Cell} {fr : List Int} {live most : Int} {ext : Nat → Nat}
theorem editn_AR (i o ow x y : Int) (v k : Value) (w : World) (h : AR w O a cl fr live most ext) (hi : isC cl i = false) (hv : ∃ A n c, v = .slice A n c) (hk : ∃ A n c, k = .slice A n c) :
    Calls Try.prog 28 #[.pointer (some ⟨a, 0, none⟩), .int .i64 i, .int .u32 o, cellV ow x y v k] w fun e w' => e = .returned (.int .i64 4) ∧ Below w.heap.size w w' := by
  obtain ⟨base, gs, cs, vf, sl, V, h1, h2, h3, h4, h5, h6, h7, h8⟩ := h.mem.m
  have := h.lc
  exact edit_none i o ow x y v k w h1 (by omega) (by rw [isB_isC h7 h8]; exact hi) hv hk
theorem edits_AR (k : Nat) (c : Cell) (o ow x y : Int) (v kk : Value) (w : World) (h : AR w O a cl fr live most ext) (hk0 : 0 < k) (hc : cl[k]? = some c) (hr : 0 < c.r) (hv : ∃ A n c, v = .slice A n c) (hk : ∃ A n c, kk = .slice A n c) (hbad : o = 0 ∨ c.ow ≠ o ∨ 1 < c.r) :
    Calls Try.prog 28 #[.pointer (some ⟨a, 0, none⟩), .int .i64 k, .int .u32 o, cellV ow x y v kk] w fun e w' => e = .returned (.int .i64 14) ∧ Below w.heap.size w w' := by
  obtain ⟨base, gs, cs, vf, sl, V, h1, h2, h3, h4, h5, h6, h7, h8⟩ := h.mem.m
  have := h.lc
  have hkl : k < cl.length := (List.getElem?_eq_some_iff.1 hc).1
  obtain ⟨s, hs⟩ : ∃ s, sl[k]? = some s := ⟨sl[k]'(by omega), List.getElem?_eq_getElem _⟩
  have hci := h8 k s c hs hc
  exact edit_state k o ow x y v kk s w h1 (by omega) hs hk0 (by rw [hci.r]; exact hr) hv hk (by rw [hci.ow, hci.r]; exact hbad)
theorem edita_AR (k : Nat) (c : Cell) (o ow x y : Int) (v kk : Value) (kids : List Int) (w : World) (h : AR w O a cl fr live most ext) (hk0 : 0 < k) (hc : cl[k]? = some c) (hr : c.r = 1) (hv : ∃ A n c, v = .slice A n c) (hk : RowIn (Kd.int .i64) w Q kk kids) (hl : kids.length ≤ 1000000000) (hb : badC cl kids = true) (ho : o ≠ 0) (hco : c.ow = o) :
    Calls Try.prog 28 #[.pointer (some ⟨a, 0, none⟩), .int .i64 k, .int .u32 o, cellV ow x y v kk] w fun e w' => e = .returned (.int .i64 1) ∧ Below w.heap.size w w' := by
  obtain ⟨base, gs, cs, vf, sl, V, h1, h2, h3, h4, h5, h6, h7, h8⟩ := h.mem.m
  have := h.lc
  have hkl : k < cl.length := (List.getElem?_eq_some_iff.1 hc).1
  obtain ⟨s, hs⟩ : ∃ s, sl[k]? = some s := ⟨sl[k]'(by omega), List.getElem?_eq_getElem _⟩
  have hci := h8 k s c hs hc
  exact edit_arg k o ow x y v kk kids s w h1 (by omega) hs hk0 (by rw [hci.r]; exact hr) hv hk hl (by rw [badAt_badC (isB_isC h7 h8)]; exact hb) ho (by rw [hci.ow]; exact hco)
theorem edit_AR (k : Nat) (c : Cell) (o ow x y : Int) (v kk : Value) (vals : List (Int × Int × ByteArray)) (kids : List Int) (w : World) (h : AR w O a cl fr live most ext) (hk0 : 0 < k) (hc : cl[k]? = some c) (hr : c.r = 1) (hv : RowIn kVal w Q v vals) (hk : RowIn (Kd.int .i64) w Q kk kids)
    (hb : badC cl kids = false) (ho : o ≠ 0) (hco : c.ow = o) (hkl : kids.length ≤ 1000) (hvl : vals.length ≤ 1000000000) (hct : ∀ x, 0 < x → (kidsOf kids).count x ≤ ext x + (kidsOf c.kids).count x) (heb : ∀ i, ext i ≤ 99999990000) :
    Calls Try.prog 28 #[.pointer (some ⟨a, 0, none⟩), .int .i64 k, .int .u32 o, cellV ow x y v kk] w fun e w' => e = .returned (.int .i64 0) ∧ ∃ O', AR w' O' a (cl.set k ⟨o, x, y, vals, kids, 1⟩) fr live most (fun x => ext x + (kidsOf c.kids).count x - (kidsOf kids).count x) ∧ (∀ j, O' j → O j ∨ w.heap.size ≤ j) ∧ Fr O w w' := by
  obtain ⟨base, gs, cs, vf, sl, V, h1, h2, h3, h4, h5, h6, h7, h8⟩ := h.mem.m
  have hl := h.lc
  have hkll : k < cl.length := (List.getElem?_eq_some_iff.1 hc).1
  obtain ⟨s, hs⟩ : ∃ s, sl[k]? = some s := ⟨sl[k]'(by omega), List.getElem?_eq_getElem _⟩
  have hci := h8 k s c hs hc
  have hck := (h.kb k c hc (by omega)).1
  refine (edit_ok k o ow x y v kk vals kids s w h1 (by omega) hs hk0 (by rw [hci.r]; exact hr) hv hk (by omega) (by omega) (by rw [badAt_badC (isB_isC h7 h8)]; exact hb) ho (by rw [hci.ow]; exact hco)).mono ?_
  rintro e w' ⟨rfl, v', k', hraw, hv', hk', hF⟩
  have hFO : Fr O w w' := hF.mono (fun j hj => .inl (by rw [hj]; exact h3))
  have hga := h.mem.ol a h2
  have hgg := h.mem.ol gs h3
  have hwf := h.wf.edit (c' := ⟨o, x, y, vals, kids, 1⟩) hc (by omega) hr.symm (fun z hz => by
    have hz0 : 0 < cl.length := by omega
    rcases badC_inv hb z hz with q | q
    · exact q
    · omega) hct
  refine ⟨rfl, fun j => O j ∨ (w.heap.size ≤ j ∧ j < w'.heap.size), ⟨⟨⟨base, gs, cs, vf, _, fun j => V j ∨ (w.heap.size ≤ j ∧ j < w'.heap.size), hraw, .inl h2, .inl h3, fun j hj => .inl (h4 j hj), fun j hj => hj.imp (h5 j) id, ?_, by rw [List.length_set, List.length_set]; exact h7, ?_⟩, ?_⟩, hwf, by rw [List.length_set]; exact h.cnt, h.m0, h.m1, h.lm, ?_, ?_, by rw [List.length_set]; exact hl⟩, fun j hj => hj.imp id And.left, hFO⟩
  · intro j hj
    rcases hj with hj | hj
    · exact h6 j hj
    · exact ⟨by omega, by omega, fun e => by have := h.mem.ol j (h4 j e); omega⟩
  · intro i s2 c2 hs2 hc2
    by_cases e : i = k
    · subst e
      rw [List.getElem?_set_self (by omega)] at hs2 hc2
      cases hs2
      cases hc2
      exact ⟨rfl, rfl, rfl, rfl, row_lt hv' (fun j hj hjl => .inr ⟨hj, hjl⟩), row_lt hk' (fun j hj hjl => .inr ⟨hj, hjl⟩)⟩
    · rw [List.getElem?_set_ne (fun h => e h.symm)] at hs2 hc2
      exact ((h8 i s2 c2 hs2 hc2).fr hF (fun j hj e => (h6 j hj).2.1 e)).mono (fun j hj => .inl hj)
  · intro j hj
    rcases hj with hj | hj
    · exact Nat.lt_of_lt_of_le (h.mem.ol j hj) hFO.size
    · exact hj.2
  · intro i c2 hc2 hp
    rcases at_set hc hc2 with ⟨rfl, rfl⟩ | ⟨_, hc2⟩
    · exact ⟨hkl, hvl⟩
    · exact h.kb i c2 hc2 hp
  · intro i
    have h1 := heb i
    have h2 : (kidsOf c.kids).count i ≤ 1000 := Nat.le_trans (List.count_le_length ..) (Nat.le_trans (kidsOf_len _) hck)
    omega
end
end Go.Proofs.Ytnipbfhfaefieaa.Arn
