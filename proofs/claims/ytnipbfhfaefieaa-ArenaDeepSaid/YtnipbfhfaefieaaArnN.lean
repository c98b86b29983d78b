/- arena: New, Make and Edit, as contracts over cells. -/
import Derived.Test.YtnipbfhfaefieaaArnL
namespace Go.Proofs.Ytnipbfhfaefieaa.Arn
open Go.RowKit Go Go.Proofs.YtnipbfhfaefieaaW.PrintWords Go.Proofs.YtnipbfhfaefieaaW.PrintMore Go.Proofs.YtnipbfhfaefieaaW.PrintLast Go.Proofs.Ytnipbfhfaefieaa.Bts Go.Proofs.Ytnipbfhfaefieaa.Fra Go.Proofs.Ytnipbfhfaefieaa.ArnP
theorem new_AR (n : Int) (w : World) (h1 : 1 ≤ n) (h2 : n ≤ 1048576) : Calls Try.prog 20 #[.int .i64 n] w fun e w' => ∃ a O, e = .returned (.tuple #[.pointer (some ⟨a, 0, none⟩), .int .i64 0]) ∧ AR w' O a [nobC] [] 0 n (fun _ => 0) ∧ (∀ j, O j → w.heap.size ≤ j) ∧ Below w.heap.size w w' := by
  refine (new_ok n w h1 h2).mono ?_
  rintro e w' ⟨a, gs, rfl, hr, hb⟩
  refine ⟨a, fun j => j = a ∨ j = gs, rfl, ⟨⟨⟨w.heap.size, gs, 1, .slice none 0 0, [nob], fun _ => False, hr, .inl rfl, .inr rfl, fun k hk => (by cases hk), fun k hk => hk.elim, fun k hk => hk.elim, rfl, ?_⟩, ?_⟩, WF.new, rfl, h1, h2, by omega, ?_, fun _ => by omega, by decide⟩, ?_, hb⟩
  · intro i s c hs hc
    match i, hs, hc with
    | 0, hs, hc =>
      obtain rfl : nob = s := by simpa using hs
      obtain rfl : nobC = c := by simpa using hc
      exact ⟨rfl, rfl, rfl, rfl, ⟨none, 0, rfl, Nat.le_refl _, fun _ => rfl, ⟨rfl, by simp [nobC], fun h => absurd h (by simp [nobC])⟩, fun ad h => by cases h⟩, ⟨none, 0, rfl, Nat.le_refl _, fun _ => rfl, ⟨rfl, by simp [nobC], fun h => absurd h (by simp [nobC])⟩, fun ad h => by cases h⟩⟩
    | i + 1, hs, hc => simp at hs
  · intro k hk
    rcases hk with rfl | rfl
    · exact blk_lt hr.obj
    · exact own_lt hr.row _ rfl
  · intro i c hc hp
    match i, hc with
    | 0, hc =>
      obtain rfl : nobC = c := by simpa using hc
      exact absurd hp (Int.lt_irrefl 0)
    | i + 1, hc => simp at hc
  · intro j hj
    rcases hj with rfl | rfl
    · exact hr.ba
    · exact hr.bs
section
variable {W W' : World} {O S Q : Nat → Prop} {a : Nat} {cl : List Cell} {fr : List Int} {live most : Int} {ext : Nat → Nat}
theorem row_slice {α : Type} {d : Kd α} {w : World} {v : Value} {xs : List α} (h : RowIn d w Q v xs) : ∃ A n c, v = .slice A n c := by
  obtain ⟨A, c, e, _⟩ := h
  exact ⟨A, _, c, e⟩
/-- A row's block is there, or it is read nowhere. -/
theorem row_lt {α : Type} {d : Kd α} {w : World} {O O' : Nat → Prop} {v : Value} {xs : List α} (h : RowIn d w O v xs) (ho : ∀ j, O j → j < w.heap.size → O' j) : RowIn d w O' v xs := by
  obtain ⟨A, c, e, h1, h2, h3, h4⟩ := h
  exact ⟨A, c, e, h1, h2, h3, fun ad ha => ⟨ho _ (h4 ad ha).1 (h4 ad ha).2, (h4 ad ha).2⟩⟩
theorem makea_AR (ow x y : Int) (v k : Value) (kids : List Int) (w : World) (h : AR w O a cl fr live most ext) (hv : ∃ A n c, v = .slice A n c) (hk : RowIn (Kd.int .i64) w Q k kids) (hl : kids.length ≤ 1000000000) (hb : badC cl kids = true) :
    Calls Try.prog 21 #[.pointer (some ⟨a, 0, none⟩), cellV ow x y v k] w fun e w' => e = .returned (.tuple #[.int .i64 0, .int .i64 1]) ∧ Below w.heap.size w w' := by
  obtain ⟨base, gs, cs, vf, sl, V, h1, h2, h3, h4, h5, h6, h7, h8⟩ := h.mem.m
  have := h.lc
  exact make_arg ow x y v k kids w h1 (by omega) hv hk hl (by rw [badAt_badC (isB_isC h7 h8)]; exact hb)
theorem makef_AR (ow x y : Int) (v k : Value) (kids : List Int) (w : World) (h : AR w O a cl fr live most ext) (hv : ∃ A n c, v = .slice A n c) (hk : RowIn (Kd.int .i64) w Q k kids) (hl : kids.length ≤ 1000000000) (hb : badC cl kids = false) (hm : live = most) :
    Calls Try.prog 21 #[.pointer (some ⟨a, 0, none⟩), cellV ow x y v k] w fun e w' => e = .returned (.tuple #[.int .i64 0, .int .i64 5]) ∧ Below w.heap.size w w' := by
  obtain ⟨base, gs, cs, vf, sl, V, h1, h2, h3, h4, h5, h6, h7, h8⟩ := h.mem.m
  have := h.lc
  exact make_full ow x y v k kids w h1 (by omega) hv hk hl (by rw [badAt_badC (isB_isC h7 h8)]; exact hb) (by unfold wrap64; omega)
/-- What Make does to the cells. -/
def Made (cl cl' : List Cell) (fr fr' : List Int) (i : Nat) (c : Cell) : Prop := (fr = [] ∧ i = cl.length ∧ cl' = cl ++ [c] ∧ fr' = []) ∨ (fr = fr' ++ [(i : Int)] ∧ i < cl.length ∧ cl' = cl.set i c)
theorem make_AR (ow x y : Int) (v k : Value) (vals : List (Int × Int × ByteArray)) (kids : List Int) (w : World) (h : AR w O a cl fr live most ext) (hv : RowIn kVal w Q v vals) (hk : RowIn (Kd.int .i64) w Q k kids) (hQ : ∀ j, Q j → ¬ O j) (hb : badC cl kids = false) (hlm : live < most) (hkl : kids.length ≤ 1000) (hvl : vals.length ≤ 1000000000) (hct : ∀ x, 0 < x → (kidsOf kids).count x ≤ ext x) :
    Calls Try.prog 21 #[.pointer (some ⟨a, 0, none⟩), cellV ow x y v k] w fun e w' => ∃ (i : Nat) (O' : Nat → Prop) (cl' : List Cell) (fr' : List Int), e = .returned (.tuple #[.int .i64 i, .int .i64 0]) ∧ AR w' O' a cl' fr' (live + 1) most (fun x => if x = i then 1 else ext x - (kidsOf kids).count x) ∧ 0 < i ∧ Made cl cl' fr fr' i ⟨ow, x, y, vals, kids, 1⟩ ∧ (∀ j, O' j → O j ∨ w.heap.size ≤ j) ∧ Fr O w w' := by
  obtain ⟨base, gs, cs, vf, sl, V, h1, h2, h3, h4, h5, h6, h7, h8⟩ := h.mem.m
  have hl := h.lc
  have hl0 := h.live0
  have hbA : badAt sl kids = false := by rw [badAt_badC (isB_isC h7 h8)]; exact hb
  have hcnt := h.cnt
  have hm1 := h.m1
  have hz : 0 < cl.length := (List.getElem?_eq_some_iff.1 h.wf.z).1
  have hkn : ∀ (n : Nat), cl.length ≤ n → ∀ z ∈ kids, 0 ≤ z ∧ z < n := by
    intro n hn z hz2
    rcases badC_inv hb z hz2 with q | q
    · omega
    · omega
  have heb : ∀ (i j : Nat), (if j = i then 1 else ext j - (kidsOf kids).count j) ≤ 100000000000 := by
    intro i j
    have := h.eb j
    split <;> omega
  rcases List.eq_nil_or_concat fr with rfl | ⟨fr', i, rfl⟩
  · refine (make_grow ow x y v k vals kids w h1 (by omega) (by omega) hv hk (by omega) (by omega) hbA hl0 hlm hm1 (fun j hj => ⟨fun e => hQ j hj (e ▸ h2), fun e => hQ j hj (e ▸ h3), fun e => hQ j hj (h4 j e)⟩)).mono ?_
    rintro e w' ⟨v', k', vf', gs', cs', rfl, hr, hvf, hgs, hv', hk', hF⟩
    have hFO : Fr O w w' := hF.mono (fun j hj => .inl (by
      rcases hj with e | e | e
      · rw [e]; exact h2
      · rw [e]; exact h3
      · exact h4 j e))
    have hww := h.wf.grow
    have hwf := WF.make (fr := []) (i := (cl.length : Int)) hww ⟨ow, x, y, vals, kids, 1⟩ rfl (hkn _ (by simp)) hct
    rw [Int.toNat_natCast] at hwf
    have hcl : (cl ++ [nobC]).set cl.length ⟨ow, x, y, vals, kids, 1⟩ = cl ++ [⟨ow, x, y, vals, kids, 1⟩] := by
      rw [List.set_append_right _ _ (Nat.le_refl _), Nat.sub_self]; rfl
    have hsl : ∀ t : Slot, (sl ++ [nob]).set sl.length t = sl ++ [t] := by
      intro t
      rw [List.set_append_right _ _ (Nat.le_refl _), Nat.sub_self]; rfl
    rw [hcl] at hwf
    rw [hsl] at hr
    have hin : ∀ (i : Nat) (s : Slot) (c : Cell), (sl ++ [⟨ow, x, y, v', k', 1⟩])[i]? = some s → (cl ++ [⟨ow, x, y, vals, kids, 1⟩])[i]? = some c → (i < cl.length ∧ sl[i]? = some s ∧ cl[i]? = some c) ∨ (s = ⟨ow, x, y, v', k', 1⟩ ∧ c = ⟨ow, x, y, vals, kids, 1⟩) := by
      intro i s c hs hc
      by_cases e : i < cl.length
      · rw [List.getElem?_append_left (by omega)] at hs hc
        exact .inl ⟨e, hs, hc⟩
      · have hi := (List.getElem?_eq_some_iff.1 hc).1
        simp at hi
        obtain rfl : i = cl.length := by omega
        rw [List.getElem?_append_right (by omega)] at hs hc
        rw [h7, Nat.sub_self] at hs
        rw [Nat.sub_self] at hc
        exact .inr ⟨(Option.some.inj hs).symm, (Option.some.inj hc).symm⟩
    refine ⟨sl.length, fun j => O j ∨ (w.heap.size ≤ j ∧ j < w'.heap.size), cl ++ [⟨ow, x, y, vals, kids, 1⟩], [], rfl, ⟨⟨⟨base, gs', cs', vf', _, fun j => V j ∨ (w.heap.size ≤ j ∧ j < w'.heap.size ∧ j ≠ gs' ∧ vf'.ownBlock ≠ some j), hr, .inl h2, ?_, ?_, ?_, ?_, by simp [h7], ?_⟩, ?_⟩, by rw [h7]; exact hwf, ?_, h.m0, h.m1, by omega, ?_, heb _, ?_⟩, by omega, .inl ⟨rfl, h7, rfl, rfl⟩, fun j hj => hj.imp id And.left, hFO⟩
    · rcases hgs with e | e
      · rw [e]; exact .inl h3
      · exact .inr ⟨e, own_lt hr.row gs' rfl⟩
    · intro j hj
      rcases hvf j hj with e | e
      · exact .inl (h4 j e)
      · exact .inr ⟨e, own_lt hr.free j hj⟩
    · intro j hj
      rcases hj with hj | hj
      · exact .inl (h5 j hj)
      · exact .inr ⟨hj.1, hj.2.1⟩
    · intro j hj
      rcases hj with hj | hj
      · obtain ⟨g1, g2, g3⟩ := h6 j hj
        have hjl := h.mem.ol j (h5 j hj)
        refine ⟨g1, fun e => ?_, fun e => ?_⟩
        · rcases hgs with q | q
          · exact g2 (e.trans q)
          · omega
        · rcases hvf j e with q | q
          · exact g3 q
          · omega
      · have := h.mem.ol a h2
        exact ⟨by omega, hj.2.2.1, hj.2.2.2⟩
    · intro i s c hs hc
      rcases hin i s c hs hc with ⟨_, hs, hc⟩ | ⟨rfl, rfl⟩
      · exact ((h8 i s c hs hc).fr hF (fun j hj e => by
          obtain ⟨g1, g2, g3⟩ := h6 j hj
          rcases e with e | e | e
          · exact g1 e
          · exact g2 e
          · exact g3 e)).mono (fun j hj => .inl hj)
      · exact ⟨rfl, rfl, rfl, rfl, row_lt hv' (fun j hj hjl => .inr ⟨hj.1, hjl, hj.2⟩), row_lt hk' (fun j hj hjl => .inr ⟨hj.1, hjl, hj.2⟩)⟩
    · intro j hj
      rcases hj with hj | hj
      · exact Nat.lt_of_lt_of_le (h.mem.ol j hj) hFO.size
      · exact hj.2
    · simp only [List.length_append, List.length_nil, List.length_singleton]
      simp only [List.length_nil] at hcnt
      omega
    · intro i c hc hp
      by_cases e : i < cl.length
      · rw [List.getElem?_append_left e] at hc
        exact h.kb i c hc hp
      · rw [List.getElem?_append_right (by omega)] at hc
        have hi := (List.getElem?_eq_some_iff.1 hc).1
        simp at hi
        rw [show i - cl.length = 0 by omega] at hc
        obtain rfl : (⟨ow, x, y, vals, kids, 1⟩ : Cell) = c := Option.some.inj hc
        exact ⟨hkl, hvl⟩
    · simp only [List.length_append, List.length_singleton]
      simp only [List.length_nil] at hcnt
      omega
  · rw [List.concat_eq_append] at h1 h ⊢
    have hfd := h.wf.fd i (by simp)
    obtain ⟨n, rfl⟩ : ∃ n : Nat, i = n := ⟨i.toNat, by omega⟩
    have hnl : n < sl.length := by omega
    have hcntl : (fr'.concat (n : Int)).length = fr'.length + 1 := by simp
    rw [hcntl] at hcnt
    refine (make_at ow x y v k vals kids fr' n sl[n] w h1 (by omega) (List.getElem?_eq_getElem hnl) hv hk (by omega) (by omega) hbA hl0 hlm hm1 (by omega) (fun j hj e => hQ j hj (e ▸ h2))).mono ?_
    rintro e w' ⟨v', k', vf', rfl, hr, hvf, hv', hk', hF⟩
    have hFO : Fr O w w' := hF.mono (fun j hj => .inl (by
      rcases hj with e | e
      · rw [e]; exact h2
      · rw [e]; exact h3))
    have hwf := WF.make (i := (n : Int)) h.wf ⟨ow, x, y, vals, kids, 1⟩ rfl (hkn _ (Nat.le_refl _)) hct
    rw [Int.toNat_natCast] at hwf
    have hga := h.mem.ol a h2
    have hgg := h.mem.ol gs h3
    refine ⟨n, fun j => O j ∨ (w.heap.size ≤ j ∧ j < w'.heap.size), cl.set n ⟨ow, x, y, vals, kids, 1⟩, fr', rfl, ⟨⟨⟨base, gs, cs, vf', _, fun j => V j ∨ (w.heap.size ≤ j ∧ j < w'.heap.size), hr, .inl h2, .inl h3, fun j hj => .inl (h4 j (hvf ▸ hj)), fun j hj => hj.imp (h5 j) id, ?_, by rw [List.length_set, List.length_set]; exact h7, ?_⟩, ?_⟩, hwf, by rw [List.length_set]; omega, h.m0, h.m1, by omega, ?_, heb _, by rw [List.length_set]; exact hl⟩, by omega, .inr ⟨rfl, by omega, rfl⟩, fun j hj => hj.imp id And.left, hFO⟩
    · intro j hj
      rw [hvf]
      rcases hj with hj | hj
      · exact h6 j hj
      · exact ⟨by omega, by omega, fun e => by have := h.mem.ol j (h4 j e); omega⟩
    · intro i s c hs hc
      by_cases e : i = n
      · subst e
        rw [List.getElem?_set_self (by omega)] at hs hc
        cases hs
        cases hc
        exact ⟨rfl, rfl, rfl, rfl, row_lt hv' (fun j hj hjl => .inr ⟨hj, hjl⟩), row_lt hk' (fun j hj hjl => .inr ⟨hj, hjl⟩)⟩
      · rw [List.getElem?_set_ne (fun h => e h.symm)] at hs hc
        exact ((h8 i s c hs hc).fr hF (fun j hj e => by
          obtain ⟨g1, g2, g3⟩ := h6 j hj
          rcases e with e | e
          · exact g1 e
          · exact g2 e)).mono (fun j hj => .inl hj)
    · intro j hj
      rcases hj with hj | hj
      · exact Nat.lt_of_lt_of_le (h.mem.ol j hj) hFO.size
      · exact hj.2
    · intro i c hc hp
      by_cases e : i = n
      · subst e
        rw [List.getElem?_set_self (by omega)] at hc
        cases hc
        exact ⟨hkl, hvl⟩
      · rw [List.getElem?_set_ne (fun h => e h.symm)] at hc
        exact h.kb i c hc hp
end
end Go.Proofs.Ytnipbfhfaefieaa.Arn
