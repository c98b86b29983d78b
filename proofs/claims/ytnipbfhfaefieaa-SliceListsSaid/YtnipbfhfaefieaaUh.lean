/- Texts of this claim, laid together: Ap, Aq. -/
import Derived.Test.YtnipbfhfaefieaaUg
/-! arena, with open cells: each call, as a contract. -/
namespace Go.Proofs.Ytnipbfhfaefieaa.Ao
open Go.RowKit Go Go.Proofs.YtnipbfhfaefieaaW.PrintWords Go.Proofs.YtnipbfhfaefieaaW.PrintMore Go.Proofs.YtnipbfhfaefieaaW.PrintLast Go.Proofs.Ytnipbfhfaefieaa.Bts Go.Proofs.Ytnipbfhfaefieaa.Fra Go.Proofs.Ytnipbfhfaefieaa.ArnP Go.Proofs.Ytnipbfhfaefieaa.Arn
theorem rec_eq (c : Cell) (h : c.r = 1) : {c with r := 1} = c := by
  cases c
  cases h
  rfl
section
variable {W W' : World} {O S Q : Nat → Prop} {a : Nat} {cl : List Cell} {fr : List Int} {f : Nat → Cell} {live most : Int} {ext : Nat → Nat} {op : Nat → Bool}
/-- Is a number a live cell's? -/
def isF (f : Nat → Cell) (i : Int) : Bool := decide (0 < i) && decide (0 < (f i.toNat).r)
theorem isC_isF (cl : List Cell) (i : Int) : isC cl i = isF (fn cl) i := rfl
theorem isF_at {k : Nat} (h0 : 0 < k) (hr : 0 < (f k).r) : isF f (k : Int) = true := by
  unfold isF
  rw [Int.toNat_natCast, decide_eq_true (show 0 < (k : Int) by omega), decide_eq_true hr]
  rfl
theorem isF_zero (f : Nat → Cell) : isF f 0 = false := rfl
def badF (f : Nat → Cell) (l : List Int) : Bool := l.any fun x => x != 0 && !isF f x
theorem badC_badF (cl : List Cell) (l : List Int) : badC cl l = badF (fn cl) l := rfl
theorem live_AO (w : World) (h : AO w O a f live most ext op) : Calls Try.prog 22 #[.pointer (some ⟨a, 0, none⟩)] w fun e w' => e = .returned (.int .i64 live) ∧ w' = w := by
  obtain ⟨cl, fr, rfl, h⟩ := h
  obtain ⟨base, gs, cs, vf, sl, V, h1, _⟩ := h.mem.m
  exact live_calls w h1
theorem room_AO (w : World) (h : AO w O a f live most ext op) : Calls Try.prog 25 #[.pointer (some ⟨a, 0, none⟩)] w fun e w' => e = .returned (.int .i64 (most - live)) ∧ Below w.heap.size w w' := by
  obtain ⟨cl, fr, rfl, h⟩ := h
  obtain ⟨base, gs, cs, vf, sl, V, h1, _⟩ := h.mem.m
  have e : wrap64 (most - live) = most - live := by
    have := h.live0; have := h.lm; have := h.m1
    unfold wrap64; omega
  have := room_calls w h1
  rwa [e] at this
theorem refs_AO (i : Int) (w : World) (h : AO w O a f live most ext op) : Calls Try.prog 26 #[.pointer (some ⟨a, 0, none⟩), .int .i64 i] w fun e w' => e = .returned (.int .i64 (if isF f i then (f i.toNat).r else 0)) ∧ Below w.heap.size w w' := by
  obtain ⟨cl, fr, rfl, h⟩ := h
  obtain ⟨base, gs, cs, vf, sl, V, h1, h2, h3, h4, h5, h6, h7, h8⟩ := h.mem.m
  have hl := h.lc
  rw [← isC_isF]
  cases hi : isC cl i
  · exact refs_none i w h1 (by omega) (by rw [isB_isC h7 h8]; exact hi)
  · obtain ⟨k, c, rfl, hk0, hc, hr⟩ := isC_inv hi
    obtain ⟨s, hs⟩ : ∃ s, sl[k]? = some s := ⟨sl[k]'(by rw [h7]; exact (List.getElem?_eq_some_iff.1 hc).1), List.getElem?_eq_getElem _⟩
    have hcr := (h8 k s c hs hc).r
    have := refs_raw k s w h1 (by omega) hs hk0 (by omega)
    rw [hcr] at this
    rw [if_pos rfl, Int.toNat_natCast, fn_at hc]
    exact this
theorem getn_AO (i : Int) (w : World) (h : AO w O a f live most ext op) (hi : isF f i = false) : Calls Try.prog 24 #[.pointer (some ⟨a, 0, none⟩), .int .i64 i] w fun e w' => e = .returned (.tuple #[zeroCell, .bool false]) ∧ Below w.heap.size w w' := by
  obtain ⟨cl, fr, rfl, h⟩ := h
  obtain ⟨base, gs, cs, vf, sl, V, h1, h2, h3, h4, h5, h6, h7, h8⟩ := h.mem.m
  have hl := h.lc
  exact get_none i w h1 (by omega) (by rw [isB_isC h7 h8]; exact hi)
theorem get_AO (k : Nat) (w : World) (h : AO w O a f live most ext op) (hk : 0 < k) (hr : 0 < (f k).r) :
    Calls Try.prog 24 #[.pointer (some ⟨a, 0, none⟩), .int .i64 k] w fun e w' => ∃ v' k', e = .returned (.tuple #[cellV (f k).ow (f k).a (f k).b v' k', .bool true]) ∧ VR w' w.heap.size v' (f k).vals ∧ KR w' w.heap.size k' (f k).kids ∧ (∀ j, v'.ownBlock = some j → k'.ownBlock ≠ some j) ∧ Below w.heap.size w w' := by
  obtain ⟨cl, fr, rfl, h⟩ := h
  obtain ⟨base, gs, cs, vf, sl, V, h1, h2, h3, h4, h5, h6, h7, h8⟩ := h.mem.m
  have hl := h.lc
  have hc := fn_live hr
  obtain ⟨s, hs⟩ : ∃ s, sl[k]? = some s := ⟨sl[k]'(by rw [h7]; exact (List.getElem?_eq_some_iff.1 hc).1), List.getElem?_eq_getElem _⟩
  have hci := h8 k s _ hs hc
  have hb := h.kb k _ hc hr
  have := get_R k s (fn cl k).vals (fn cl k).kids w h1 (by omega) hs hk (by rw [hci.r]; exact hr) hci.v hci.k (by omega) (by omega)
  rw [hci.ow, hci.a, hci.b] at this
  exact this
theorem keepn_AO (i : Int) (w : World) (h : AO w O a f live most ext op) (hi : isF f i = false) : Calls Try.prog 27 #[.pointer (some ⟨a, 0, none⟩), .int .i64 i] w fun e w' => e = .returned (.int .i64 4) ∧ Below w.heap.size w w' := by
  obtain ⟨cl, fr, rfl, h⟩ := h
  obtain ⟨base, gs, cs, vf, sl, V, h1, h2, h3, h4, h5, h6, h7, h8⟩ := h.mem.m
  have hl := h.lc
  exact keep_none i w h1 (by omega) (show isB sl i = false by rw [isB_isC h7 h8]; exact hi)
theorem dropn_AO (i : Int) (w : World) (h : AO w O a f live most ext op) (hi : isF f i = false) : Calls Try.prog 23 #[.pointer (some ⟨a, 0, none⟩), .int .i64 i] w fun e w' => e = .returned (.int .i64 4) ∧ Below w.heap.size w w' := by
  obtain ⟨cl, fr, rfl, h⟩ := h
  obtain ⟨base, gs, cs, vf, sl, V, h1, h2, h3, h4, h5, h6, h7, h8⟩ := h.mem.m
  have hl := h.lc
  exact drop_none i w h1 (by omega) (by rw [isB_isC h7 h8]; exact hi)
theorem keep_AO (k : Nat) (w : World) (h : AO w O a f live most ext op) (hk : 0 < k) (hr : 0 < (f k).r) (ho : op k = false) (he : ext k < 100000000000) :
    Calls Try.prog 27 #[.pointer (some ⟨a, 0, none⟩), .int .i64 k] w fun e w' => e = .returned (.int .i64 0) ∧ AO w' O a (upd f k {f k with r := (f k).r + 1}) live most (fun x => if x = k then ext x + 1 else ext x) op ∧ Fr O w w' := by
  obtain ⟨cl, fr, rfl, h⟩ := h
  obtain ⟨base, gs, cs, vf, sl, V, h1, h2, h3, h4, h5, h6, h7, h8⟩ := h.mem.m
  have hl := h.lc
  have hc := fn_live hr
  have hkl : k < cl.length := (List.getElem?_eq_some_iff.1 hc).1
  obtain ⟨s, hs⟩ : ∃ s, sl[k]? = some s := ⟨sl[k]'(by omega), List.getElem?_eq_getElem _⟩
  have hci := h8 k s _ hs hc
  have hrb := h.rb k _ hc
  refine (keep_raw k s w h1 (by omega) hs hk (by rw [hci.r]; exact hr) (by rw [hci.r]; omega)).mono ?_
  rintro e w' ⟨rfl, hraw, w1, hb, hw'⟩
  have hF : Fr (fun j => j = gs) w w' := by rw [hw']; exact (Fr.of_new hb).then_ (Fr.set gs _ _) (fun j hj => .inl hj)
  have hVg : ∀ j, V j → ¬ j = gs := fun j hj => (h6 j hj).2.1
  have hm := mask_at (op := op) hc
  have hwf := h.wf.keep hm (by rw [opn_r]; exact hr)
  have e1 : (mask op cl).set k {opn op k (fn cl k) with r := (opn op k (fn cl k)).r + 1} = mask op (cl.set k {fn cl k with r := (fn cl k).r + 1}) := by rw [mask_set, opn_no ho, opn_no ho]
  rw [e1] at hwf
  have hac' : Acy (upd (fn cl) k {fn cl k with r := (fn cl k).r + 1}) op := h.ac.mono fun i hi ho2 => by
    by_cases e : i = k
    · subst e
      exact ⟨hr, ho2, by rw [show upd (fn cl) i {fn cl i with r := (fn cl i).r + 1} i = _ from if_pos rfl]⟩
    · rw [show upd (fn cl) k {fn cl k with r := (fn cl k).r + 1} i = fn cl i from if_neg e] at hi ⊢
      exact ⟨hi, ho2, rfl⟩
  refine ⟨rfl, ⟨_, fr, (fn_set hkl _).symm, ⟨⟨base, gs, cs, vf, _, V, hraw, h2, h3, h4, h5, h6, by rw [List.length_set, List.length_set]; exact h7, ?_⟩, fun j hj => Nat.lt_of_lt_of_le (h.mem.ol j hj) hF.size⟩, hwf, by rw [List.length_set]; exact h.cnt, h.m0, h.m1, h.lm, ?_, ?_, by rw [List.length_set]; exact h.lc, ?_, by rw [fn_set hkl]; exact hac'⟩, hF.mono (fun j hj => .inl (by rw [hj]; exact h3))⟩
  · intro i s2 c2 hi hc2
    by_cases e : i = k
    · subst e
      rw [List.getElem?_set_self (by omega)] at hi hc2
      cases hi
      cases hc2
      have := hci.fr hF hVg
      exact ⟨this.ow, this.a, this.b, show s.r + 1 = (fn cl i).r + 1 by rw [hci.r], this.v, this.k⟩
    · rw [List.getElem?_set_ne (fun h => e h.symm)] at hi hc2
      exact (h8 i s2 c2 hi hc2).fr hF hVg
  · intro i c2 hc2 hr2
    rcases at_set hc hc2 with ⟨rfl, rfl⟩ | ⟨_, hc2⟩
    · have q := h.kb _ _ hc hr
      exact q
    · exact h.kb i c2 hc2 hr2
  · intro i
    split
    · rename_i e; subst e; omega
    · exact h.eb i
  · intro i hi
    obtain ⟨g0, g1, c2, g2, g3⟩ := h.op1 i hi
    have hne : i ≠ k := fun e => by rw [e, ho] at hi; cases hi
    exact ⟨g0, by rw [if_neg hne]; exact g1, c2, by rw [List.getElem?_set_ne (fun e => hne e.symm)]; exact g2, g3⟩
/-- What a Drop leaves. -/
def LeftF (f f' : Nat → Cell) : Prop := ∀ i, 0 < (f' i).r → f' i = {f i with r := (f' i).r} ∧ (f' i).r ≤ (f i).r
theorem drop_AO (k : Nat) (w : World) (h : AO w O a f live most ext op) (hk : 0 < k) (he : 0 < ext k) (ho : op k = false) :
    Calls Try.prog 23 #[.pointer (some ⟨a, 0, none⟩), .int .i64 k] w fun e w' => e = .returned (.int .i64 0) ∧ ∃ O' f' live', AO w' O' a f' live' most (fun x => if x = k then ext x - 1 else ext x) op ∧ LeftF f f' ∧ live' ≤ live ∧ (∀ j, O' j → O j ∨ w.heap.size ≤ j) ∧ Fr O w w' := by
  obtain ⟨cl, fr, rfl, h⟩ := h
  obtain ⟨base, gs, cs, vf, sl, V, h1, h2, h3, h4, h5, h6, h7, h8⟩ := h.mem.m
  have hl := h.lc
  have hopx : ∀ i, op i = true → i ≠ k := fun i hi e => by rw [e, ho] at hi; cases hi
  have hks : ksum (mask op cl) ≤ 1048577000 := by
    have h1 := ksum_le (mask op cl) 1000 (fun c hc hp => by
      obtain ⟨i, hi, rfl⟩ := List.getElem_of_mem hc
      obtain ⟨d, hd, e⟩ := mask_inv (List.getElem?_eq_getElem hi)
      rw [e, opn_r] at hp
      have := (h.kb i d hd hp).1
      rw [e]
      unfold opn
      split
      · exact Nat.zero_le _
      · exact this)
    rw [mask_len] at h1
    omega
  refine (drop_walk k (mask op cl) (fun x => if x = k then ext x - 1 else ext x) w h1 (by omega) (by rw [mask_len]; exact h7) (fun i s c hi hc => ?_) (fun j hj => ⟨h.mem.ol j (h5 j hj), h6 j hj⟩) (h.wf.drop hk he) (by rw [mask_len]; exact h.cnt) (by omega) (fun i c hc hr => ?_)).mono ?_
  · obtain ⟨d, hd, rfl⟩ := mask_inv hc
    have := h8 i s d hi hd
    refine ⟨by rw [opn_r]; exact this.r, fun h0 => ?_⟩
    have hoi : op i = false := by
      cases hq : op i
      · rfl
      · obtain ⟨g0, g1, _⟩ := h.op1 i hq
        rw [if_neg (hopx i hq)] at h0
        omega
    rw [opn_no hoi]
    exact this
  · obtain ⟨d, hd, rfl⟩ := mask_inv hc
    rw [opn_r] at hr ⊢
    refine ⟨by have := h.rb i d hd; omega, ?_⟩
    have := (h.kb i d hd hr).1
    unfold opn
    split
    · exact Nat.zero_le _
    · exact Nat.le_trans this (by decide)
  rintro e w' ⟨rfl, vf', sl', gl', fr', live', q1, q2, q3, q4a, q4b, q5, q6, q7, q8⟩
  have hfr : Fr O w w' := q8.mono (fun j hj => .inl (by
    rcases hj with e | e | e
    · rw [e]; exact h2
    · rw [e]; exact h3
    · exact h4 j e))
  have hglen : gl'.length = cl.length := by rw [q6.len, mask_len]
  -- the cells behind it
  obtain ⟨cl', hcl'⟩ : ∃ cl' : List Cell, cl' = gl'.mapIdx fun i c => if op i then fn cl i else c := ⟨_, rfl⟩
  have hget : ∀ i c, cl'[i]? = some c → ∃ g, gl'[i]? = some g ∧ c = if op i then fn cl i else g := by
    intro i c hc
    rw [hcl', List.getElem?_mapIdx] at hc
    obtain ⟨g, g1, g2⟩ := Option.map_eq_some_iff.1 hc
    exact ⟨g, g1, g2.symm⟩
  have hput : ∀ i g, gl'[i]? = some g → cl'[i]? = some (if op i then fn cl i else g) := by
    intro i g hg
    rw [hcl', List.getElem?_mapIdx, hg]; rfl
  have hclen : cl'.length = cl.length := by rw [hcl', List.length_mapIdx, hglen]
  have hopg : ∀ i, op i = true → ∀ g, gl'[i]? = some g → g = opn op i (fn cl i) := by
    intro i hi g hg
    obtain ⟨g0, g1, c2, g2, g3⟩ := h.op1 i hi
    have hlive := q5.ext_live i g0 (by rw [if_neg (hopx i hi)]; omega) g hg
    obtain ⟨d, d1, d2, d3⟩ := q6.at_ i g hg hlive
    rw [mask_at g2] at d1
    cases d1
    rw [opn_r] at d3
    have : g.r = 1 := by omega
    rw [this] at d2
    rw [d2, fn_at g2]
    exact rec_eq _ (by rw [opn_r]; exact g3)
  have hmask : mask op cl' = gl' := by
    apply List.ext_getElem?
    intro i
    rw [mask_get]
    cases hg : gl'[i]? with
    | none => rw [List.getElem?_eq_none (by rw [hclen, ← hglen]; exact List.getElem?_eq_none_iff.1 hg)]; rfl
    | some g =>
      rw [hput i g hg]
      show some (opn op i _) = some g
      cases hi : op i
      · rw [if_neg (by simp), opn_no hi]
      · rw [if_pos rfl, hopg i hi g hg]
  have hleft : Arn.Left cl cl' := by
    refine ⟨hclen, fun i c hc hr => ?_⟩
    obtain ⟨g, hg, rfl⟩ := hget i c hc
    cases hi : op i
    · rw [hi] at hr
      simp only [Bool.false_eq_true, if_false] at hr ⊢
      obtain ⟨d, d1, d2, d3⟩ := q6.at_ i g hg hr
      obtain ⟨d', d4, rfl⟩ := mask_inv d1
      rw [opn_no hi] at d2 d3
      exact ⟨d', d4, d2, d3⟩
    · simp only [if_true]
      obtain ⟨g0, g1, c2, g2, g3⟩ := h.op1 i hi
      exact ⟨c2, g2, by rw [fn_at g2], by rw [fn_at g2]; exact Int.le_refl _⟩
  have q4 : ∀ (i : Nat) (s : Slot) (c : Cell), sl'[i]? = some s → cl'[i]? = some c → CellIn w' V s c := left_link h8 (e' := fun x => if x = k then ext x - 1 else ext x) (fun i s c hs hc => by
      obtain ⟨g, hg, rfl⟩ := hget i c hc
      obtain ⟨r1, r2⟩ := q4a i s g hs hg
      cases hi : op i
      · simp only [Bool.false_eq_true, if_false]
        exact ⟨r1, r2⟩
      · simp only [if_true]
        obtain ⟨g0, g1, c2, g2, g3⟩ := h.op1 i hi
        refine ⟨by rw [r1, hopg i hi g hg, opn_r], fun h0 => ?_⟩
        rw [if_neg (hopx i hi)] at h0
        omega) q4b hleft h7 q8 (fun j hj e => by
      rcases e with e | e | e
      · exact (h6 j hj).1 e
      · exact (h6 j hj).2.1 e
      · exact (h6 j hj).2.2 e) (fun i i0 he c hc => by
      obtain ⟨g, hg, rfl⟩ := hget i c hc
      have := q5.ext_live i i0 he g hg
      cases hi : op i
      · simpa using this
      · simp only [if_true]
        obtain ⟨g0, g1, c2, g2, g3⟩ := h.op1 i hi
        rw [fn_at g2]
        omega)
  have hll : live' ≤ live := by
    have e1 := q5.lv
    have e2 := h.wf.lv
    have : liveN gl' ≤ liveN (mask op cl) := liveN_left q6
    omega
  refine ⟨rfl, fun j => (O j ∨ vf'.ownBlock = some j), fn cl', live', ⟨cl', fr', rfl, ⟨⟨base, gs, cs, vf', sl', V, q1, .inl h2, .inl h3, fun j hj => .inr hj, fun j hj => .inl (h5 j hj), fun j hj => ⟨(h6 j hj).1, (h6 j hj).2.1, fun e => ?_⟩, by rw [q3, hglen, hclen], q4⟩, ?_⟩, by rw [hmask]; exact q5, by rw [hclen, ← hglen]; exact q7, h.m0, h.m1, by have := h.lm; omega, left_kb hleft h.kb, ?_, by rw [hclen]; exact h.lc, ?_, h.ac.mono fun i hi ho2 => by obtain ⟨c, c1, c2, c3⟩ := hleft.at_ i _ (fn_live hi) hi; rw [fn_at c1]; exact ⟨by omega, ho2, by rw [c2]⟩⟩, ?_, hll, ?_, hfr⟩
  · rcases q2 j e with e | e
    · exact (h6 j hj).2.2 e
    · have := h.mem.ol j (h5 j hj); omega
  · intro j hj
    rcases hj with hj | hj
    · exact Nat.lt_of_lt_of_le (h.mem.ol j hj) hfr.size
    · exact own_lt q1.free j hj
  · intro i
    have := h.eb i
    split <;> omega
  · intro i hi
    obtain ⟨g0, g1, c2, g2, g3⟩ := h.op1 i hi
    have hil : i < gl'.length := by rw [hglen]; exact (List.getElem?_eq_some_iff.1 g2).1
    refine ⟨g0, by rw [if_neg (hopx i hi)]; exact g1, c2, ?_, g3⟩
    rw [hput i _ (List.getElem?_eq_getElem hil), if_pos hi, fn_at g2]
  · intro i hi
    have hc := fn_live hi
    obtain ⟨c, c1, c2, c3⟩ := hleft.at_ i _ hc hi
    rw [fn_at c1]
    exact ⟨c2, c3⟩
  · intro j hj
    rcases hj with hj | hj
    · exact .inl hj
    · rcases q2 j hj with e | e
      · exact .inl (h4 j e)
      · exact .inr e
end
end Go.Proofs.Ytnipbfhfaefieaa.Ao
/-! arena, with open cells: Make, Edit; a cell is opened. -/
namespace Go.Proofs.Ytnipbfhfaefieaa.Ao
open Go.RowKit Go Go.Proofs.YtnipbfhfaefieaaW.PrintWords Go.Proofs.YtnipbfhfaefieaaW.PrintMore Go.Proofs.YtnipbfhfaefieaaW.PrintLast Go.Proofs.Ytnipbfhfaefieaa.Bts Go.Proofs.Ytnipbfhfaefieaa.Fra Go.Proofs.Ytnipbfhfaefieaa.ArnP Go.Proofs.Ytnipbfhfaefieaa.Arn
section
variable {W W' : World} {O S Q : Nat → Prop} {a : Nat} {cl : List Cell} {fr : List Int} {f : Nat → Cell} {live most : Int} {ext : Nat → Nat} {op : Nat → Bool}
theorem makea_AO (ow x y : Int) (v k : Value) (kids : List Int) (w : World) (h : AO w O a f live most ext op) (hv : ∃ A n c, v = .slice A n c) (hk : RowIn (Kd.int .i64) w Q k kids) (hl : kids.length ≤ 1000000000) (hb : badF f kids = true) :
    Calls Try.prog 21 #[.pointer (some ⟨a, 0, none⟩), cellV ow x y v k] w fun e w' => e = .returned (.tuple #[.int .i64 0, .int .i64 1]) ∧ Below w.heap.size w w' := by
  obtain ⟨cl, fr, rfl, h⟩ := h
  obtain ⟨base, gs, cs, vf, sl, V, h1, h2, h3, h4, h5, h6, h7, h8⟩ := h.mem.m
  have := h.lc
  exact make_arg ow x y v k kids w h1 (by omega) hv hk hl (by rw [badAt_badC (isB_isC h7 h8)]; exact hb)
theorem makef_AO (ow x y : Int) (v k : Value) (kids : List Int) (w : World) (h : AO w O a f live most ext op) (hv : ∃ A n c, v = .slice A n c) (hk : RowIn (Kd.int .i64) w Q k kids) (hl : kids.length ≤ 1000000000) (hb : badF f kids = false) (hm : live = most) :
    Calls Try.prog 21 #[.pointer (some ⟨a, 0, none⟩), cellV ow x y v k] w fun e w' => e = .returned (.tuple #[.int .i64 0, .int .i64 5]) ∧ Below w.heap.size w w' := by
  obtain ⟨cl, fr, rfl, h⟩ := h
  obtain ⟨base, gs, cs, vf, sl, V, h1, h2, h3, h4, h5, h6, h7, h8⟩ := h.mem.m
  have := h.lc
  exact make_full ow x y v k kids w h1 (by omega) hv hk hl (by rw [badAt_badC (isB_isC h7 h8)]; exact hb) (by unfold wrap64; omega)
theorem count_nil_of {l : List Nat} {x : Nat} (h : ∀ y ∈ l, y ≠ x) : l.count x = 0 := List.count_eq_zero.2 (fun hm => h x hm rfl)
/-- Who is held must be a cell's. -/
theorem bad_of_ext (h : AO W O a f live most ext op) {kids : List Int} (hn : ∀ y ∈ kids, 0 ≤ y) (hct : ∀ x, 0 < x → (kidsOf kids).count x ≤ ext x) : badF f kids = false := by
  unfold badF
  rw [List.any_eq_false]
  intro y hy
  by_cases y0 : y = 0
  · subst y0; simp
  · have hy0 := hn y hy
    have hm : y.toNat ∈ kidsOf kids := by
      unfold kidsOf
      exact List.mem_map.2 ⟨y, List.mem_filter.2 ⟨hy, by simpa using y0⟩, rfl⟩
    have hp : 0 < y.toNat := by omega
    have h1 := hct _ hp
    have h2 := List.count_pos_iff.2 hm
    have h3 := h.ext_lv hp (by omega)
    have h4 := isF_at hp h3
    rw [show ((y.toNat : Nat) : Int) = y by omega] at h4
    simp [h4]
/-- A cell that was dead is made: it lies higher than those it holds. -/
theorem AL.ac_make (h : AL W O a cl fr live most ext op) (i : Nat) (c : Cell) (hi : (fn cl i).r = 0) (hct : ∀ x, 0 < x → (kidsOf c.kids).count x ≤ ext x) (hn : ∀ y ∈ c.kids, 0 ≤ y) : Acy (upd (fn cl) i c) op := by
  have hlive : ∀ x, 0 < x → 0 < ext x → 0 < (fn cl x).r := fun x h0 he => (show AO W O a (fn cl) live most ext op from ⟨cl, fr, rfl, h⟩).ext_lv h0 he
  refine h.ac.upd i c (fun j hj hr ho => ⟨ho, fun hx => ?_⟩) (fun hx => ?_)
  · obtain ⟨_, d, q1, q2⟩ := h.kid (fn_live hr) hr ho hx
    rw [← fn_at q1] at q2
    omega
  · obtain ⟨z, hz, z0, rfl⟩ := kidsOf_mem hx
    have hp : 0 < z.toNat := by have := hn z hz; omega
    have h1 := hct _ hp
    have h2 := List.count_pos_iff.2 hx
    have h3 := hlive _ hp (by omega)
    omega
theorem make_AO (ow x y : Int) (v k : Value) (vals : List (Int × Int × ByteArray)) (kids : List Int) (w : World) (h : AO w O a f live most ext op) (hv : RowIn kVal w Q v vals) (hk : RowIn (Kd.int .i64) w Q k kids) (hQ : ∀ j, Q j → ¬ O j) (hb : badF f kids = false) (hlm : live < most) (hkl : kids.length ≤ 1000) (hvl : vals.length ≤ 1000000000) (hct : ∀ x, 0 < x → (kidsOf kids).count x ≤ ext x) (hop : ∀ x, op x = true → (kidsOf kids).count x = 0) :
    Calls Try.prog 21 #[.pointer (some ⟨a, 0, none⟩), cellV ow x y v k] w fun e w' => ∃ (i : Nat) (O' : Nat → Prop), e = .returned (.tuple #[.int .i64 i, .int .i64 0]) ∧ AO w' O' a (upd f i ⟨ow, x, y, vals, kids, 1⟩) (live + 1) most (fun x => if x = i then 1 else ext x - (kidsOf kids).count x) op ∧ 0 < i ∧ (f i).r = 0 ∧ op i = false ∧ (∀ j, O' j → O j ∨ w.heap.size ≤ j) ∧ Fr O w w' := by
  obtain ⟨cl, fr, rfl, h⟩ := h
  obtain ⟨base, gs, cs, vf, sl, V, h1, h2, h3, h4, h5, h6, h7, h8⟩ := h.mem.m
  have hl := h.lc
  have hl0 := h.live0
  have hbA : badAt sl kids = false := by rw [badAt_badC (isB_isC h7 h8)]; exact hb
  have hcnt := h.cnt
  have hm1 := h.m1
  have hz : 0 < cl.length := by have := (List.getElem?_eq_some_iff.1 h.wf.z).1; rwa [mask_len] at this
  have hkn : ∀ (n : Nat), cl.length ≤ n → ∀ z ∈ kids, 0 ≤ z ∧ z < n := by
    intro n hn z hz2
    rcases badC_inv (cl := cl) hb z hz2 with q | q
    · omega
    · omega
  have heb : ∀ (i j : Nat), (if j = i then 1 else ext j - (kidsOf kids).count j) ≤ 100000000000 := by
    intro i j
    have := h.eb j
    split <;> omega
  rcases List.eq_nil_or_concat fr with rfl | ⟨fr', i, rfl⟩
  · have hno : op cl.length = false := by
      cases hq : op cl.length
      · rfl
      · obtain ⟨_, _, c, hc, _⟩ := h.op1 _ hq
        have := (List.getElem?_eq_some_iff.1 hc).1
        omega
    refine (make_grow ow x y v k vals kids w h1 (by omega) (by omega) hv hk (by omega) (by omega) hbA hl0 hlm hm1 (fun j hj => ⟨fun e => hQ j hj (e ▸ h2), fun e => hQ j hj (e ▸ h3), fun e => hQ j hj (h4 j e)⟩)).mono ?_
    rintro e w' ⟨v', k', vf', gs', cs', rfl, hr, hvf, hgs, hv', hk', hF⟩
    have hFO : Fr O w w' := hF.mono (fun j hj => .inl (by
      rcases hj with e | e | e
      · rw [e]; exact h2
      · rw [e]; exact h3
      · exact h4 j e))
    have hww := h.wf.grow
    have hwf := WF.make (fr := []) (i := ((mask op cl).length : Int)) hww ⟨ow, x, y, vals, kids, 1⟩ rfl (hkn _ (by simp [mask_len])) hct
    rw [Int.toNat_natCast, List.set_append_right _ _ (Nat.le_refl _), Nat.sub_self, mask_len] at hwf
    have hmk : mask op cl ++ [nobC].set 0 ⟨ow, x, y, vals, kids, 1⟩ = mask op (cl ++ [⟨ow, x, y, vals, kids, 1⟩]) := by rw [mask_app, opn_no hno]; rfl
    rw [hmk] at hwf
    have hsl : ∀ t : Slot, (sl ++ [nob]).set sl.length t = sl ++ [t] := by
      intro t
      rw [List.set_append_right _ _ (Nat.le_refl _), Nat.sub_self]; rfl
    rw [hsl] at hr
    have hin : ∀ (i : Nat) (s : Slot) (c : Cell), (sl ++ [⟨ow, x, y, v', k', 1⟩])[i]? = some s → (cl ++ [⟨ow, x, y, vals, kids, 1⟩])[i]? = some c → (i < cl.length ∧ sl[i]? = some s ∧ cl[i]? = some c) ∨ (s = ⟨ow, x, y, v', k', 1⟩ ∧ c = ⟨ow, x, y, vals, kids, 1⟩) := by
      intro i s c hs hc
      by_cases e : i < cl.length
      · rw [List.getElem?_append_left (by omega)] at hs hc
        exact .inl ⟨e, hs, hc⟩
      · have hi := (List.getElem?_eq_some_iff.1 hc).1
        simp at hi
        obtain rfl : i = cl.length := by omega
        rw [List.getElem?_append_right (by omega)] at hs hc
        rw [h7, Nat.sub_self] at hs
        rw [Nat.sub_self] at hc
        exact .inr ⟨(Option.some.inj hs).symm, (Option.some.inj hc).symm⟩
    have hfr0 : (fn cl cl.length).r = 0 := by unfold fn List.getD; rw [List.getElem?_eq_none (Nat.le_refl _)]; rfl
    refine ⟨sl.length, fun j => O j ∨ (w.heap.size ≤ j ∧ j < w'.heap.size), rfl, ⟨cl ++ [⟨ow, x, y, vals, kids, 1⟩], [], by rw [fn_app, h7], ⟨⟨base, gs', cs', vf', _, fun j => V j ∨ (w.heap.size ≤ j ∧ j < w'.heap.size ∧ j ≠ gs' ∧ vf'.ownBlock ≠ some j), hr, .inl h2, ?_, ?_, ?_, ?_, by simp [h7], ?_⟩, ?_⟩, by rw [h7]; exact hwf, ?_, h.m0, h.m1, by omega, ?_, heb _, ?_, ?_, by rw [fn_app]; exact h.ac_make _ _ hfr0 hct (fun z hz => (hkn _ (Nat.le_refl _) z hz).1)⟩, by omega, by rw [h7]; exact hfr0, by rw [h7]; exact hno, fun j hj => hj.imp id And.left, hFO⟩
    · rcases hgs with e | e
      · rw [e]; exact .inl h3
      · exact .inr ⟨e, own_lt hr.row gs' rfl⟩
    · intro j hj
      rcases hvf j hj with e | e
      · exact .inl (h4 j e)
      · exact .inr ⟨e, own_lt hr.free j hj⟩
    · intro j hj
      rcases hj with hj | hj
      · exact .inl (h5 j hj)
      · exact .inr ⟨hj.1, hj.2.1⟩
    · intro j hj
      rcases hj with hj | hj
      · obtain ⟨g1, g2, g3⟩ := h6 j hj
        have hjl := h.mem.ol j (h5 j hj)
        refine ⟨g1, fun e => ?_, fun e => ?_⟩
        · rcases hgs with q | q
          · exact g2 (e.trans q)
          · omega
        · rcases hvf j e with q | q
          · exact g3 q
          · omega
      · have := h.mem.ol a h2
        exact ⟨by omega, hj.2.2.1, hj.2.2.2⟩
    · intro i s c hs hc
      rcases hin i s c hs hc with ⟨_, hs, hc⟩ | ⟨rfl, rfl⟩
      · exact ((h8 i s c hs hc).fr hF (fun j hj e => by
          obtain ⟨g1, g2, g3⟩ := h6 j hj
          rcases e with e | e | e
          · exact g1 e
          · exact g2 e
          · exact g3 e)).mono (fun j hj => .inl hj)
      · exact ⟨rfl, rfl, rfl, rfl, row_lt hv' (fun j hj hjl => .inr ⟨hj.1, hjl, hj.2⟩), row_lt hk' (fun j hj hjl => .inr ⟨hj.1, hjl, hj.2⟩)⟩
    · intro j hj
      rcases hj with hj | hj
      · exact Nat.lt_of_lt_of_le (h.mem.ol j hj) hFO.size
      · exact hj.2
    · simp only [List.length_append, List.length_nil, List.length_singleton]
      simp only [List.length_nil] at hcnt
      omega
    · intro i c hc hp
      by_cases e : i < cl.length
      · rw [List.getElem?_append_left e] at hc
        exact h.kb i c hc hp
      · rw [List.getElem?_append_right (by omega)] at hc
        have hi := (List.getElem?_eq_some_iff.1 hc).1
        simp at hi
        rw [show i - cl.length = 0 by omega] at hc
        obtain rfl : (⟨ow, x, y, vals, kids, 1⟩ : Cell) = c := Option.some.inj hc
        exact ⟨hkl, hvl⟩
    · simp only [List.length_append, List.length_singleton]
      simp only [List.length_nil] at hcnt
      omega
    · intro i hi
      obtain ⟨g0, g1, c2, g2, g3⟩ := h.op1 i hi
      have hil := (List.getElem?_eq_some_iff.1 g2).1
      exact ⟨g0, by rw [if_neg (by omega), hop i hi, g1], c2, by rw [List.getElem?_append_left hil]; exact g2, g3⟩
  · rw [List.concat_eq_append] at h1
    have hfd := h.wf.fd i (by simp)
    obtain ⟨n, rfl⟩ : ∃ n : Nat, i = n := ⟨i.toNat, by omega⟩
    obtain ⟨hf0, hf1, d, hd1, hd2⟩ := hfd
    rw [mask_len] at hf1
    rw [Int.toNat_natCast] at hd1
    obtain ⟨d', hd3, rfl⟩ := mask_inv hd1
    rw [opn_r] at hd2
    have hnl : n < sl.length := by omega
    have hno : op n = false := by
      cases hq : op n
      · rfl
      · obtain ⟨_, _, c, hc, hc2⟩ := h.op1 _ hq
        rw [hd3] at hc
        cases hc
        omega
    have hcntl : (fr'.concat (n : Int)).length = fr'.length + 1 := by simp
    rw [hcntl] at hcnt
    refine (make_at ow x y v k vals kids fr' n sl[n] w h1 (by omega) (List.getElem?_eq_getElem hnl) hv hk (by omega) (by omega) hbA hl0 hlm hm1 (by omega) (fun j hj e => hQ j hj (e ▸ h2))).mono ?_
    rintro e w' ⟨v', k', vf', rfl, hr, hvf, hv', hk', hF⟩
    have hFO : Fr O w w' := hF.mono (fun j hj => .inl (by
      rcases hj with e | e
      · rw [e]; exact h2
      · rw [e]; exact h3))
    have hwf0 := h.wf
    rw [List.concat_eq_append] at hwf0
    have hwf := WF.make (i := (n : Int)) hwf0 ⟨ow, x, y, vals, kids, 1⟩ rfl (by rw [mask_len]; exact hkn _ (Nat.le_refl _)) hct
    rw [Int.toNat_natCast] at hwf
    have hmk : (mask op cl).set n ⟨ow, x, y, vals, kids, 1⟩ = mask op (cl.set n ⟨ow, x, y, vals, kids, 1⟩) := by rw [mask_set, opn_no hno]
    rw [hmk] at hwf
    have hga := h.mem.ol a h2
    have hgg := h.mem.ol gs h3
    refine ⟨n, fun j => O j ∨ (w.heap.size ≤ j ∧ j < w'.heap.size), rfl, ⟨cl.set n ⟨ow, x, y, vals, kids, 1⟩, fr', (fn_set (by omega) _).symm, ⟨⟨base, gs, cs, vf', _, fun j => V j ∨ (w.heap.size ≤ j ∧ j < w'.heap.size), hr, .inl h2, .inl h3, fun j hj => .inl (h4 j (hvf ▸ hj)), fun j hj => hj.imp (h5 j) id, ?_, by rw [List.length_set, List.length_set]; exact h7, ?_⟩, ?_⟩, hwf, by rw [List.length_set]; omega, h.m0, h.m1, by omega, ?_, heb _, by rw [List.length_set]; exact hl, ?_, by rw [fn_set (by omega)]; exact h.ac_make _ _ (by rw [fn_at hd3]; exact hd2) hct (fun z hz => (hkn _ (Nat.le_refl _) z hz).1)⟩, by omega, by rw [fn_at hd3]; exact hd2, hno, fun j hj => hj.imp id And.left, hFO⟩
    · intro j hj
      rw [hvf]
      rcases hj with hj | hj
      · exact h6 j hj
      · exact ⟨by omega, by omega, fun e => by have := h.mem.ol j (h4 j e); omega⟩
    · intro i s c hs hc
      by_cases e : i = n
      · subst e
        rw [List.getElem?_set_self (by omega)] at hs hc
        cases hs
        cases hc
        exact ⟨rfl, rfl, rfl, rfl, row_lt hv' (fun j hj hjl => .inr ⟨hj, hjl⟩), row_lt hk' (fun j hj hjl => .inr ⟨hj, hjl⟩)⟩
      · rw [List.getElem?_set_ne (fun h => e h.symm)] at hs hc
        exact ((h8 i s c hs hc).fr hF (fun j hj e => by
          obtain ⟨g1, g2, g3⟩ := h6 j hj
          rcases e with e | e
          · exact g1 e
          · exact g2 e)).mono (fun j hj => .inl hj)
    · intro j hj
      rcases hj with hj | hj
      · exact Nat.lt_of_lt_of_le (h.mem.ol j hj) hFO.size
      · exact hj.2
    · intro i c hc hp
      by_cases e : i = n
      · subst e
        rw [List.getElem?_set_self (by omega)] at hc
        cases hc
        exact ⟨hkl, hvl⟩
      · rw [List.getElem?_set_ne (fun h => e h.symm)] at hc
        exact h.kb i c hc hp
    · intro i hi
      obtain ⟨g0, g1, c2, g2, g3⟩ := h.op1 i hi
      have hne : i ≠ n := fun e => by rw [e, hno] at hi; cases hi
      exact ⟨g0, by rw [if_neg hne, hop i hi, g1], c2, by rw [List.getElem?_set_ne (fun e => hne e.symm)]; exact g2, g3⟩
/-- A live cell that its caller alone holds is opened: its holds are the caller's. -/
theorem AO.open_ (h : AO W O a f live most ext op) {k : Nat} (hk : 0 < k) (hr : (f k).r = 1) (he : 0 < ext k) (heb : ∀ i, ext i ≤ 99999990000) (ho : op k = false) : AO W O a f live most (fun x => ext x + (kidsOf (f k).kids).count x) (fun x => x == k || op x) := by
  have hkr := h.ext_r hk
  obtain ⟨cl, fr, rfl, h⟩ := h
  have hc := fn_live (cl := cl) (i := k) (by omega)
  have hkl : k < cl.length := (List.getElem?_eq_some_iff.1 hc).1
  have hm := mask_at (op := op) hc
  have hex : ext k = 1 := by omega
  have hkk := (h.kb k _ hc (by omega)).1
  have hself : (kidsOf (fn cl k).kids).count k = 0 := by
    rw [List.count_eq_zero]
    intro hx
    obtain ⟨_, d, g1, g2⟩ := h.kid hc (by omega) ho hx
    rw [hc] at g1
    cases g1
    omega
  have hwf := h.wf.edit (c' := {opn op k (fn cl k) with kids := []}) hm (by rw [opn_r]; omega) rfl (fun z hz => by cases hz) (fun x hx => by simp [kidsOf])
  rw [opn_no ho] at hwf
  have hmk : (mask op cl).set k {fn cl k with kids := []} = mask (fun x => x == k || op x) cl := by
    apply List.ext_getElem?
    intro j
    rw [mask_get]
    by_cases e : k = j
    · subst e
      rw [List.getElem?_set_self (by rw [mask_len]; exact hkl), hc]
      show some _ = some (opn (fun x => x == k || op x) k (fn cl k))
      unfold opn
      simp
    · rw [List.getElem?_set_ne e, mask_get]
      cases cl[j]? with
      | none => rfl
      | some c =>
        show some (opn op j c) = some (opn (fun x => x == k || op x) j c)
        have hb : (fun x => x == k || op x) j = op j := by simp [show ¬ j = k from fun q => e q.symm]
        unfold opn
        rw [hb]
  rw [hmk] at hwf
  refine ⟨cl, fr, rfl, h.mem, hwf, h.cnt, h.m0, h.m1, h.lm, h.kb, fun i => ?_, h.lc, fun i hi => ?_, h.ac.mono fun i hi ho2 => ⟨hi, by simpa using (Bool.or_eq_false_iff.1 ho2).2, rfl⟩⟩
  · have h1 := heb i
    have h2 : (kidsOf (fn cl k).kids).count i ≤ 1000 := Nat.le_trans (List.count_le_length ..) (Nat.le_trans (kidsOf_len _) hkk)
    omega
  · by_cases e : i = k
    · subst e
      exact ⟨hk, by rw [hself, hex], fn cl i, hc, hr⟩
    · have hi' : op i = true := by simpa [e] using hi
      obtain ⟨g0, g1, c2, g2, g3⟩ := h.op1 i hi'
      have hno : (kidsOf (fn cl k).kids).count i = 0 := by
        rw [List.count_eq_zero]
        intro hx
        obtain ⟨_, d, q1, q2⟩ := h.kid hc (by omega) ho hx
        rw [g2] at q1
        cases q1
        omega
      exact ⟨g0, by rw [hno, g1], c2, g2, g3⟩
theorem editn_AO (i o ow x y : Int) (v k : Value) (w : World) (h : AO w O a f live most ext op) (hi : isF f i = false) (hv : ∃ A n c, v = .slice A n c) (hk : ∃ A n c, k = .slice A n c) :
    Calls Try.prog 28 #[.pointer (some ⟨a, 0, none⟩), .int .i64 i, .int .u32 o, cellV ow x y v k] w fun e w' => e = .returned (.int .i64 4) ∧ Below w.heap.size w w' := by
  obtain ⟨cl, fr, rfl, h⟩ := h
  obtain ⟨base, gs, cs, vf, sl, V, h1, h2, h3, h4, h5, h6, h7, h8⟩ := h.mem.m
  have := h.lc
  exact edit_none i o ow x y v k w h1 (by omega) (by rw [isB_isC h7 h8]; exact hi) hv hk
/-- Edit of a cell that its caller alone holds. It closes an open one; of another, its old holds are the caller's (o = true: it was open). -/
theorem edit_AO (k : Nat) (o ow x y : Int) (v kk : Value) (vals : List (Int × Int × ByteArray)) (kids : List Int) (w : World) (h : AO w O a f live most ext op) (hk0 : 0 < k) (hr : (f k).r = 1) (hek : 0 < ext k) (hv : RowIn kVal w Q v vals) (hk : RowIn (Kd.int .i64) w Q kk kids)
    (hb : badF f kids = false) (ho : o ≠ 0) (hco : (f k).ow = o) (hkl : kids.length ≤ 1000) (hvl : vals.length ≤ 1000000000) (old : List Nat) (hold : old = kidsOf (opn op k (f k)).kids) (hct : ∀ x, 0 < x → (kidsOf kids).count x ≤ ext x + old.count x) (hop : ∀ x, op x = true → (kidsOf kids).count x = 0) (hkk : (kidsOf kids).count k = 0) (heb : ∀ i, ext i ≤ 99999990000) :
    Calls Try.prog 28 #[.pointer (some ⟨a, 0, none⟩), .int .i64 k, .int .u32 o, cellV ow x y v kk] w fun e w' => e = .returned (.int .i64 0) ∧ ∃ O', AO w' O' a (upd f k ⟨o, x, y, vals, kids, 1⟩) live most (fun x => ext x + old.count x - (kidsOf kids).count x) (fun x => op x && x != k) ∧ (∀ j, O' j → O j ∨ w.heap.size ≤ j) ∧ Fr O w w' := by
  have hkr := h.ext_r hk0
  obtain ⟨cl, fr, rfl, h⟩ := h
  obtain ⟨base, gs, cs, vf, sl, V, h1, h2, h3, h4, h5, h6, h7, h8⟩ := h.mem.m
  have hl := h.lc
  have hc := fn_live (cl := cl) (i := k) (by omega)
  have hkll : k < cl.length := (List.getElem?_eq_some_iff.1 hc).1
  have hm := mask_at (op := op) hc
  obtain ⟨s, hs⟩ : ∃ s, sl[k]? = some s := ⟨sl[k]'(by omega), List.getElem?_eq_getElem _⟩
  have hci := h8 k s _ hs hc
  have hck := (h.kb k _ hc (by omega)).1
  have holdl : ∀ i, old.count i ≤ 1000 := fun i => by
    rw [hold]
    refine Nat.le_trans (List.count_le_length ..) (Nat.le_trans (kidsOf_len _) ?_)
    unfold opn
    split
    · exact Nat.zero_le _
    · exact hck
  have hex : ext k = 1 := by omega
  have holdk : old.count k = 0 := by
    rw [hold]
    cases hq : op k
    · rw [opn_no hq, List.count_eq_zero]
      intro hx
      obtain ⟨_, d, g1, g2⟩ := h.kid hc (by omega) hq hx
      rw [hc] at g1
      cases g1
      omega
    · unfold opn
      rw [if_pos hq]
      rfl
  have holdo : ∀ i, op i = true → old.count i = 0 := fun i hi => by
    rw [hold]
    cases hq : op k
    · rw [opn_no hq, List.count_eq_zero]
      intro hx
      obtain ⟨g0, g1, c2, g2, g3⟩ := h.op1 i hi
      obtain ⟨_, d, q1, q2⟩ := h.kid hc (by omega) hq hx
      rw [g2] at q1
      cases q1
      omega
    · unfold opn
      rw [if_pos hq]
      rfl
  refine (edit_ok k o ow x y v kk vals kids s w h1 (by omega) hs hk0 (by rw [hci.r]; exact hr) hv hk (by omega) (by omega) (by rw [badAt_badC (isB_isC h7 h8)]; exact hb) ho (by rw [hci.ow]; exact hco)).mono ?_
  rintro e w' ⟨rfl, v', k', hraw, hv', hk', hF⟩
  have hFO : Fr O w w' := hF.mono (fun j hj => .inl (by rw [hj]; exact h3))
  have hga := h.mem.ol a h2
  have hgg := h.mem.ol gs h3
  have hwf := h.wf.edit (c' := ⟨o, x, y, vals, kids, 1⟩) hm (by rw [opn_r]; omega) (by rw [opn_r]; exact hr.symm) (fun z hz => by
    rw [mask_len]
    rcases badC_inv (cl := cl) hb z hz with q | q
    · exact q
    · omega) (by rw [← hold]; exact hct)
  rw [← hold] at hwf
  have hmk : (mask op cl).set k ⟨o, x, y, vals, kids, 1⟩ = mask (fun x => op x && x != k) (cl.set k ⟨o, x, y, vals, kids, 1⟩) := by
    apply List.ext_getElem?
    intro j
    rw [mask_get]
    by_cases e : k = j
    · subst e
      rw [List.getElem?_set_self (by rw [mask_len]; exact hkll), List.getElem?_set_self hkll]
      show some _ = some (opn (fun x => op x && x != k) k _)
      rw [opn_no (by simp)]
    · rw [List.getElem?_set_ne e, List.getElem?_set_ne e, mask_get]
      cases cl[j]? with
      | none => rfl
      | some c =>
        show some (opn op j c) = some (opn (fun x => op x && x != k) j c)
        have hb : (fun x => op x && x != k) j = op j := by simp [show ¬ j = k from fun q => e q.symm]
        unfold opn
        rw [hb]
  rw [hmk] at hwf
  have hac' : Acy (upd (fn cl) k ⟨o, x, y, vals, kids, 1⟩) (fun x => op x && x != k) := by
    refine h.ac.upd k _ (fun i hi hri ho2 => ?_) (List.count_eq_zero.1 hkk)
    have hoi : op i = false := by simpa [hi] using ho2
    refine ⟨hoi, fun hx => ?_⟩
    obtain ⟨_, d, q1, q2⟩ := h.kid (fn_live hri) hri hoi hx
    rw [← fn_at q1] at q2
    omega
  refine ⟨rfl, fun j => O j ∨ (w.heap.size ≤ j ∧ j < w'.heap.size), ⟨_, fr, (fn_set hkll _).symm, ⟨⟨base, gs, cs, vf, _, fun j => V j ∨ (w.heap.size ≤ j ∧ j < w'.heap.size), hraw, .inl h2, .inl h3, fun j hj => .inl (h4 j hj), fun j hj => hj.imp (h5 j) id, ?_, by rw [List.length_set, List.length_set]; exact h7, ?_⟩, ?_⟩, hwf, by rw [List.length_set]; exact h.cnt, h.m0, h.m1, h.lm, ?_, ?_, by rw [List.length_set]; exact hl, ?_, by rw [fn_set hkll]; exact hac'⟩, fun j hj => hj.imp id And.left, hFO⟩
  · intro j hj
    rcases hj with hj | hj
    · exact h6 j hj
    · exact ⟨by omega, by omega, fun e => by have := h.mem.ol j (h4 j e); omega⟩
  · intro i s2 c2 hs2 hc2
    by_cases e : i = k
    · subst e
      rw [List.getElem?_set_self (by omega)] at hs2 hc2
      cases hs2
      cases hc2
      exact ⟨rfl, rfl, rfl, rfl, row_lt hv' (fun j hj hjl => .inr ⟨hj, hjl⟩), row_lt hk' (fun j hj hjl => .inr ⟨hj, hjl⟩)⟩
    · rw [List.getElem?_set_ne (fun h => e h.symm)] at hs2 hc2
      exact ((h8 i s2 c2 hs2 hc2).fr hF (fun j hj e => (h6 j hj).2.1 e)).mono (fun j hj => .inl hj)
  · intro j hj
    rcases hj with hj | hj
    · exact Nat.lt_of_lt_of_le (h.mem.ol j hj) hFO.size
    · exact hj.2
  · intro i c2 hc2 hp
    rcases at_set hc hc2 with ⟨rfl, rfl⟩ | ⟨_, hc2⟩
    · exact ⟨hkl, hvl⟩
    · exact h.kb i c2 hc2 hp
  · intro i
    have h1 := heb i
    have h2 := holdl i
    omega
  · intro i hi
    have hi' : op i = true ∧ i ≠ k := by simpa using hi
    obtain ⟨g0, g1, c2, g2, g3⟩ := h.op1 i hi'.1
    exact ⟨g0, by rw [holdo i hi'.1, hop i hi'.1, g1], c2, by rw [List.getElem?_set_ne (fun e => hi'.2 e.symm)]; exact g2, g3⟩
end
end Go.Proofs.Ytnipbfhfaefieaa.Ao
