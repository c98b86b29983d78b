/- Texts of this claim, laid together: Aq, PvA. -/
import Derived.Test.YtnipbfhfaefieaaUg
/-! arena, with open cells: Make, Edit; a cell is opened. -/
namespace Go.Proofs.Ytnipbfhfaefieaa.Ao
open Go.RowKit Go Go.Proofs.YtnipbfhfaefieaaW.PrintWords Go.Proofs.YtnipbfhfaefieaaW.PrintMore Go.Proofs.YtnipbfhfaefieaaW.PrintLast Go.Proofs.Ytnipbfhfaefieaa.Bts Go.Proofs.Ytnipbfhfaefieaa.Fra Go.Proofs.Ytnipbfhfaefieaa.ArnP Go.Proofs.Ytnipbfhfaefieaa.Arn
section
variable {W W' : World} {O S Q : Nat → Prop} {a : Nat} {cl : List Cell} {fr : List Int} {f : Nat → Cell} {live most : Int} {ext : Nat → Nat} {op : Nat → Bool}
/-- Who is held must be a cell's. -/
theorem bad_of_ext (h : AO W O a f live most ext op) {kids : List Int} (hn : ∀ y ∈ kids, 0 ≤ y) (hct : ∀ x, 0 < x → (kidsOf kids).count x ≤ ext x) : badF f kids = false := by
  unfold badF
  rw [List.any_eq_false]
  intro y hy
  by_cases y0 : y = 0
  · subst y0; simp
  · have hy0 := hn y hy
    have hm : y.toNat ∈ kidsOf kids := by
      unfold kidsOf
      exact List.mem_map.2 ⟨y, List.mem_filter.2 ⟨hy, by simpa using y0⟩, rfl⟩
    have hp : 0 < y.toNat := by omega
    have h1 := hct _ hp
    have h2 := List.count_pos_iff.2 hm
    have h3 := h.ext_lv hp (by omega)
    have h4 := isF_at hp h3
    rw [show ((y.toNat : Nat) : Int) = y by omega] at h4
    simp [h4]
/-- A cell that was dead is made: it lies higher than those it holds. -/
theorem AL.ac_make (h : AL W O a cl fr live most ext op) (i : Nat) (c : Cell) (hi : (fn cl i).r = 0) (hct : ∀ x, 0 < x → (kidsOf c.kids).count x ≤ ext x) (hn : ∀ y ∈ c.kids, 0 ≤ y) : Acy (upd (fn cl) i c) op := by
  have hlive : ∀ x, 0 < x → 0 < ext x → 0 < (fn cl x).r := fun x h0 he => (show AO W O a (fn cl) live most ext op from ⟨cl, fr, rfl, h⟩).ext_lv h0 he
  refine h.ac.upd i c (fun j hj hr ho => ⟨ho, fun hx => ?_⟩) (fun hx => ?_)
  · obtain ⟨_, d, q1, q2⟩ := h.kid (fn_live hr) hr ho hx
    rw [← fn_at q1] at q2
    omega
  · obtain ⟨z, hz, z0, rfl⟩ := kidsOf_mem hx
    have hp : 0 < z.toNat := by have := hn z hz; omega
    have h1 := hct _ hp
    have h2 := List.count_pos_iff.2 hx
    have h3 := hlive _ hp (by omega)
    omega
theorem make_AO (ow x y : Int) (v k : Value) (vals : List (Int × Int × ByteArray)) (kids : List Int) (w : World) (h : AO w O a f live most ext op) (hv : RowIn kVal w Q v vals) (hk : RowIn (Kd.int .i64) w Q k kids) (hQ : ∀ j, Q j → ¬ O j) (hb : badF f kids = false) (hlm : live < most) (hkl : kids.length ≤ 1000) (hvl : vals.length ≤ 1000000000) (hct : ∀ x, 0 < x → (kidsOf kids).count x ≤ ext x) (hop : ∀ x, op x = true → (kidsOf kids).count x = 0) :
    Calls Try.prog 21 #[.pointer (some ⟨a, 0, none⟩), cellV ow x y v k] w fun e w' => ∃ (i : Nat) (O' : Nat → Prop), e = .returned (.tuple #[.int .i64 i, .int .i64 0]) ∧ AO w' O' a (upd f i ⟨ow, x, y, vals, kids, 1⟩) (live + 1) most (fun x => if x = i then 1 else ext x - (kidsOf kids).count x) op ∧ 0 < i ∧ (f i).r = 0 ∧ op i = false ∧ (∀ j, O' j → O j ∨ w.heap.size ≤ j) ∧ Fr O w w' := by
  obtain ⟨cl, fr, rfl, h⟩ := h
  obtain ⟨base, gs, cs, vf, sl, V, h1, h2, h3, h4, h5, h6, h7, h8⟩ := h.mem.m
  have hl := h.lc
  have hl0 := h.live0
  have hbA : badAt sl kids = false := by rw [badAt_badC (isB_isC h7 h8)]; exact hb
  have hcnt := h.cnt
  have hm1 := h.m1
  have hz : 0 < cl.length := by have := (List.getElem?_eq_some_iff.1 h.wf.z).1; rwa [mask_len] at this
  have hkn : ∀ (n : Nat), cl.length ≤ n → ∀ z ∈ kids, 0 ≤ z ∧ z < n := by
    intro n hn z hz2
    rcases badC_inv (cl := cl) hb z hz2 with q | q
    · omega
    · omega
  have heb : ∀ (i j : Nat), (if j = i then 1 else ext j - (kidsOf kids).count j) ≤ 100000000000 := by
    intro i j
    have := h.eb j
    split <;> omega
  rcases List.eq_nil_or_concat fr with rfl | ⟨fr', i, rfl⟩
  · have hno : op cl.length = false := by
      cases hq : op cl.length
      · rfl
      · obtain ⟨_, _, c, hc, _⟩ := h.op1 _ hq
        have := (List.getElem?_eq_some_iff.1 hc).1
        omega
    refine (make_grow ow x y v k vals kids w h1 (by omega) (by omega) hv hk (by omega) (by omega) hbA hl0 hlm hm1 (fun j hj => ⟨fun e => hQ j hj (e ▸ h2), fun e => hQ j hj (e ▸ h3), fun e => hQ j hj (h4 j e)⟩)).mono ?_
    rintro e w' ⟨v', k', vf', gs', cs', rfl, hr, hvf, hgs, hv', hk', hF⟩
    have hFO : Fr O w w' := hF.mono (fun j hj => .inl (by
      rcases hj with e | e | e
      · rw [e]; exact h2
      · rw [e]; exact h3
      · exact h4 j e))
    have hww := h.wf.grow
    have hwf := WF.make (fr := []) (i := ((mask op cl).length : Int)) hww ⟨ow, x, y, vals, kids, 1⟩ rfl (hkn _ (by simp [mask_len])) hct
    rw [Int.toNat_natCast, List.set_append_right _ _ (Nat.le_refl _), Nat.sub_self, mask_len] at hwf
    have hmk : mask op cl ++ [nobC].set 0 ⟨ow, x, y, vals, kids, 1⟩ = mask op (cl ++ [⟨ow, x, y, vals, kids, 1⟩]) := by rw [mask_app, opn_no hno]; rfl
    rw [hmk] at hwf
    have hsl : ∀ t : Slot, (sl ++ [nob]).set sl.length t = sl ++ [t] := by
      intro t
      rw [List.set_append_right _ _ (Nat.le_refl _), Nat.sub_self]; rfl
    rw [hsl] at hr
    have hin : ∀ (i : Nat) (s : Slot) (c : Cell), (sl ++ [⟨ow, x, y, v', k', 1⟩])[i]? = some s → (cl ++ [⟨ow, x, y, vals, kids, 1⟩])[i]? = some c → (i < cl.length ∧ sl[i]? = some s ∧ cl[i]? = some c) ∨ (s = ⟨ow, x, y, v', k', 1⟩ ∧ c = ⟨ow, x, y, vals, kids, 1⟩) := by
      intro i s c hs hc
      by_cases e : i < cl.length
      · rw [List.getElem?_append_left (by omega)] at hs hc
        exact .inl ⟨e, hs, hc⟩
      · have hi := (List.getElem?_eq_some_iff.1 hc).1
        simp at hi
        obtain rfl : i = cl.length := by omega
        rw [List.getElem?_append_right (by omega)] at hs hc
        rw [h7, Nat.sub_self] at hs
        rw [Nat.sub_self] at hc
        exact .inr ⟨(Option.some.inj hs).symm, (Option.some.inj hc).symm⟩
    have hfr0 : (fn cl cl.length).r = 0 := by unfold fn List.getD; rw [List.getElem?_eq_none (Nat.le_refl _)]; rfl
    refine ⟨sl.length, fun j => O j ∨ (w.heap.size ≤ j ∧ j < w'.heap.size), rfl, ⟨cl ++ [⟨ow, x, y, vals, kids, 1⟩], [], by rw [fn_app, h7], ⟨⟨base, gs', cs', vf', _, fun j => V j ∨ (w.heap.size ≤ j ∧ j < w'.heap.size ∧ j ≠ gs' ∧ vf'.ownBlock ≠ some j), hr, .inl h2, ?_, ?_, ?_, ?_, by simp [h7], ?_⟩, ?_⟩, by rw [h7]; exact hwf, ?_, h.m0, h.m1, by omega, ?_, heb _, ?_, ?_, by rw [fn_app]; exact h.ac_make _ _ hfr0 hct (fun z hz => (hkn _ (Nat.le_refl _) z hz).1)⟩, by omega, by rw [h7]; exact hfr0, by rw [h7]; exact hno, fun j hj => hj.imp id And.left, hFO⟩
    · rcases hgs with e | e
      · rw [e]; exact .inl h3
      · exact .inr ⟨e, own_lt hr.row gs' rfl⟩
    · intro j hj
      rcases hvf j hj with e | e
      · exact .inl (h4 j e)
      · exact .inr ⟨e, own_lt hr.free j hj⟩
    · intro j hj
      rcases hj with hj | hj
      · exact .inl (h5 j hj)
      · exact .inr ⟨hj.1, hj.2.1⟩
    · intro j hj
      rcases hj with hj | hj
      · obtain ⟨g1, g2, g3⟩ := h6 j hj
        have hjl := h.mem.ol j (h5 j hj)
        refine ⟨g1, fun e => ?_, fun e => ?_⟩
        · rcases hgs with q | q
          · exact g2 (e.trans q)
          · omega
        · rcases hvf j e with q | q
          · exact g3 q
          · omega
      · have := h.mem.ol a h2
        exact ⟨by omega, hj.2.2.1, hj.2.2.2⟩
    · intro i s c hs hc
      rcases hin i s c hs hc with ⟨_, hs, hc⟩ | ⟨rfl, rfl⟩
      · exact ((h8 i s c hs hc).fr hF (fun j hj e => by
          obtain ⟨g1, g2, g3⟩ := h6 j hj
          rcases e with e | e | e
          · exact g1 e
          · exact g2 e
          · exact g3 e)).mono (fun j hj => .inl hj)
      · exact ⟨rfl, rfl, rfl, rfl, row_lt hv' (fun j hj hjl => .inr ⟨hj.1, hjl, hj.2⟩), row_lt hk' (fun j hj hjl => .inr ⟨hj.1, hjl, hj.2⟩)⟩
    · intro j hj
      rcases hj with hj | hj
      · exact Nat.lt_of_lt_of_le (h.mem.ol j hj) hFO.size
      · exact hj.2
    · simp only [List.length_append, List.length_nil, List.length_singleton]
      simp only [List.length_nil] at hcnt
      omega
    · intro i c hc hp
      by_cases e : i < cl.length
      · rw [List.getElem?_append_left e] at hc
        exact h.kb i c hc hp
      · rw [List.getElem?_append_right (by omega)] at hc
        have hi := (List.getElem?_eq_some_iff.1 hc).1
        simp at hi
        rw [show i - cl.length = 0 by omega] at hc
        obtain rfl : (⟨ow, x, y, vals, kids, 1⟩ : Cell) = c := Option.some.inj hc
        exact ⟨hkl, hvl⟩
    · simp only [List.length_append, List.length_singleton]
      simp only [List.length_nil] at hcnt
      omega
    · intro i hi
      obtain ⟨g0, g1, c2, g2, g3⟩ := h.op1 i hi
      have hil := (List.getElem?_eq_some_iff.1 g2).1
      exact ⟨g0, by rw [if_neg (by omega), hop i hi, g1], c2, by rw [List.getElem?_append_left hil]; exact g2, g3⟩
  · rw [List.concat_eq_append] at h1
    have hfd := h.wf.fd i (by simp)
    obtain ⟨n, rfl⟩ : ∃ n : Nat, i = n := ⟨i.toNat, by omega⟩
    obtain ⟨hf0, hf1, d, hd1, hd2⟩ := hfd
    rw [mask_len] at hf1
    rw [Int.toNat_natCast] at hd1
    obtain ⟨d', hd3, rfl⟩ := mask_inv hd1
    rw [opn_r] at hd2
    have hnl : n < sl.length := by omega
    have hno : op n = false := by
      cases hq : op n
      · rfl
      · obtain ⟨_, _, c, hc, hc2⟩ := h.op1 _ hq
        rw [hd3] at hc
        cases hc
        omega
    have hcntl : (fr'.concat (n : Int)).length = fr'.length + 1 := by simp
    rw [hcntl] at hcnt
    refine (make_at ow x y v k vals kids fr' n sl[n] w h1 (by omega) (List.getElem?_eq_getElem hnl) hv hk (by omega) (by omega) hbA hl0 hlm hm1 (by omega) (fun j hj e => hQ j hj (e ▸ h2))).mono ?_
    rintro e w' ⟨v', k', vf', rfl, hr, hvf, hv', hk', hF⟩
    have hFO : Fr O w w' := hF.mono (fun j hj => .inl (by
      rcases hj with e | e
      · rw [e]; exact h2
      · rw [e]; exact h3))
    have hwf0 := h.wf
    rw [List.concat_eq_append] at hwf0
    have hwf := WF.make (i := (n : Int)) hwf0 ⟨ow, x, y, vals, kids, 1⟩ rfl (by rw [mask_len]; exact hkn _ (Nat.le_refl _)) hct
    rw [Int.toNat_natCast] at hwf
    have hmk : (mask op cl).set n ⟨ow, x, y, vals, kids, 1⟩ = mask op (cl.set n ⟨ow, x, y, vals, kids, 1⟩) := by rw [mask_set, opn_no hno]
    rw [hmk] at hwf
    have hga := h.mem.ol a h2
    have hgg := h.mem.ol gs h3
    refine ⟨n, fun j => O j ∨ (w.heap.size ≤ j ∧ j < w'.heap.size), rfl, ⟨cl.set n ⟨ow, x, y, vals, kids, 1⟩, fr', (fn_set (by omega) _).symm, ⟨⟨base, gs, cs, vf', _, fun j => V j ∨ (w.heap.size ≤ j ∧ j < w'.heap.size), hr, .inl h2, .inl h3, fun j hj => .inl (h4 j (hvf ▸ hj)), fun j hj => hj.imp (h5 j) id, ?_, by rw [List.length_set, List.length_set]; exact h7, ?_⟩, ?_⟩, hwf, by rw [List.length_set]; omega, h.m0, h.m1, by omega, ?_, heb _, by rw [List.length_set]; exact hl, ?_, by rw [fn_set (by omega)]; exact h.ac_make _ _ (by rw [fn_at hd3]; exact hd2) hct (fun z hz => (hkn _ (Nat.le_refl _) z hz).1)⟩, by omega, by rw [fn_at hd3]; exact hd2, hno, fun j hj => hj.imp id And.left, hFO⟩
    · intro j hj
      rw [hvf]
      rcases hj with hj | hj
      · exact h6 j hj
      · exact ⟨by omega, by omega, fun e => by have := h.mem.ol j (h4 j e); omega⟩
    · intro i s c hs hc
      by_cases e : i = n
      · subst e
        rw [List.getElem?_set_self (by omega)] at hs hc
        cases hs
        cases hc
        exact ⟨rfl, rfl, rfl, rfl, row_lt hv' (fun j hj hjl => .inr ⟨hj, hjl⟩), row_lt hk' (fun j hj hjl => .inr ⟨hj, hjl⟩)⟩
      · rw [List.getElem?_set_ne (fun h => e h.symm)] at hs hc
        exact ((h8 i s c hs hc).fr hF (fun j hj e => by
          obtain ⟨g1, g2, g3⟩ := h6 j hj
          rcases e with e | e
          · exact g1 e
          · exact g2 e)).mono (fun j hj => .inl hj)
    · intro j hj
      rcases hj with hj | hj
      · exact Nat.lt_of_lt_of_le (h.mem.ol j hj) hFO.size
      · exact hj.2
    · intro i c hc hp
      by_cases e : i = n
      · subst e
        rw [List.getElem?_set_self (by omega)] at hc
        cases hc
        exact ⟨hkl, hvl⟩
      · rw [List.getElem?_set_ne (fun h => e h.symm)] at hc
        exact h.kb i c hc hp
    · intro i hi
      obtain ⟨g0, g1, c2, g2, g3⟩ := h.op1 i hi
      have hne : i ≠ n := fun e => by rw [e, hno] at hi; cases hi
      exact ⟨g0, by rw [if_neg hne, hop i hi, g1], c2, by rw [List.getElem?_set_ne (fun e => hne e.symm)]; exact g2, g3⟩
/-- A live cell that its caller alone holds is opened: its holds are the caller's. -/
theorem AO.open_ (h : AO W O a f live most ext op) {k : Nat} (hk : 0 < k) (hr : (f k).r = 1) (he : 0 < ext k) (heb : ∀ i, ext i ≤ 99999990000) (ho : op k = false) : AO W O a f live most (fun x => ext x + (kidsOf (f k).kids).count x) (fun x => x == k || op x) := by
  have hkr := h.ext_r hk
  obtain ⟨cl, fr, rfl, h⟩ := h
  have hc := fn_live (cl := cl) (i := k) (by omega)
  have hkl : k < cl.length := (List.getElem?_eq_some_iff.1 hc).1
  have hm := mask_at (op := op) hc
  have hex : ext k = 1 := by omega
  have hkk := (h.kb k _ hc (by omega)).1
  have hself : (kidsOf (fn cl k).kids).count k = 0 := by
    rw [List.count_eq_zero]
    intro hx
    obtain ⟨_, d, g1, g2⟩ := h.kid hc (by omega) ho hx
    rw [hc] at g1
    cases g1
    omega
  have hwf := h.wf.edit (c' := {opn op k (fn cl k) with kids := []}) hm (by rw [opn_r]; omega) rfl (fun z hz => by cases hz) (fun x hx => by simp [kidsOf])
  rw [opn_no ho] at hwf
  have hmk : (mask op cl).set k {fn cl k with kids := []} = mask (fun x => x == k || op x) cl := by
    apply List.ext_getElem?
    intro j
    rw [mask_get]
    by_cases e : k = j
    · subst e
      rw [List.getElem?_set_self (by rw [mask_len]; exact hkl), hc]
      show some _ = some (opn (fun x => x == k || op x) k (fn cl k))
      unfold opn
      simp
    · rw [List.getElem?_set_ne e, mask_get]
      cases cl[j]? with
      | none => rfl
      | some c =>
        show some (opn op j c) = some (opn (fun x => x == k || op x) j c)
        have hb : (fun x => x == k || op x) j = op j := by simp [show ¬ j = k from fun q => e q.symm]
        unfold opn
        rw [hb]
  rw [hmk] at hwf
  refine ⟨cl, fr, rfl, h.mem, hwf, h.cnt, h.m0, h.m1, h.lm, h.kb, fun i => ?_, h.lc, fun i hi => ?_, h.ac.mono fun i hi ho2 => ⟨hi, by simpa using (Bool.or_eq_false_iff.1 ho2).2, rfl⟩⟩
  · have h1 := heb i
    have h2 : (kidsOf (fn cl k).kids).count i ≤ 1000 := Nat.le_trans (List.count_le_length ..) (Nat.le_trans (kidsOf_len _) hkk)
    omega
  · by_cases e : i = k
    · subst e
      exact ⟨hk, by rw [hself, hex], fn cl i, hc, hr⟩
    · have hi' : op i = true := by simpa [e] using hi
      obtain ⟨g0, g1, c2, g2, g3⟩ := h.op1 i hi'
      have hno : (kidsOf (fn cl k).kids).count i = 0 := by
        rw [List.count_eq_zero]
        intro hx
        obtain ⟨_, d, q1, q2⟩ := h.kid hc (by omega) ho hx
        rw [g2] at q1
        cases q1
        omega
      exact ⟨g0, by rw [hno, g1], c2, g2, g3⟩
/-- Edit of a cell that its caller alone holds. It closes an open one; of another, its old holds are the caller's (o = true: it was open). -/
theorem edit_AO (k : Nat) (o ow x y : Int) (v kk : Value) (vals : List (Int × Int × ByteArray)) (kids : List Int) (w : World) (h : AO w O a f live most ext op) (hk0 : 0 < k) (hr : (f k).r = 1) (hek : 0 < ext k) (hv : RowIn kVal w Q v vals) (hk : RowIn (Kd.int .i64) w Q kk kids)
    (hb : badF f kids = false) (ho : o ≠ 0) (hco : (f k).ow = o) (hkl : kids.length ≤ 1000) (hvl : vals.length ≤ 1000000000) (old : List Nat) (hold : old = kidsOf (opn op k (f k)).kids) (hct : ∀ x, 0 < x → (kidsOf kids).count x ≤ ext x + old.count x) (hop : ∀ x, op x = true → (kidsOf kids).count x = 0) (hkk : (kidsOf kids).count k = 0) (heb : ∀ i, ext i ≤ 99999990000) :
    Calls Try.prog 28 #[.pointer (some ⟨a, 0, none⟩), .int .i64 k, .int .u32 o, cellV ow x y v kk] w fun e w' => e = .returned (.int .i64 0) ∧ ∃ O', AO w' O' a (upd f k ⟨o, x, y, vals, kids, 1⟩) live most (fun x => ext x + old.count x - (kidsOf kids).count x) (fun x => op x && x != k) ∧ (∀ j, O' j → O j ∨ w.heap.size ≤ j) ∧ Fr O w w' := by
  have hkr := h.ext_r hk0
  obtain ⟨cl, fr, rfl, h⟩ := h
  obtain ⟨base, gs, cs, vf, sl, V, h1, h2, h3, h4, h5, h6, h7, h8⟩ := h.mem.m
  have hl := h.lc
  have hc := fn_live (cl := cl) (i := k) (by omega)
  have hkll : k < cl.length := (List.getElem?_eq_some_iff.1 hc).1
  have hm := mask_at (op := op) hc
  obtain ⟨s, hs⟩ : ∃ s, sl[k]? = some s := ⟨sl[k]'(by omega), List.getElem?_eq_getElem _⟩
  have hci := h8 k s _ hs hc
  have hck := (h.kb k _ hc (by omega)).1
  have holdl : ∀ i, old.count i ≤ 1000 := fun i => by
    rw [hold]
    refine Nat.le_trans (List.count_le_length ..) (Nat.le_trans (kidsOf_len _) ?_)
    unfold opn
    split
    · exact Nat.zero_le _
    · exact hck
  have hex : ext k = 1 := by omega
  have holdk : old.count k = 0 := by
    rw [hold]
    cases hq : op k
    · rw [opn_no hq, List.count_eq_zero]
      intro hx
      obtain ⟨_, d, g1, g2⟩ := h.kid hc (by omega) hq hx
      rw [hc] at g1
      cases g1
      omega
    · unfold opn
      rw [if_pos hq]
      rfl
  have holdo : ∀ i, op i = true → old.count i = 0 := fun i hi => by
    rw [hold]
    cases hq : op k
    · rw [opn_no hq, List.count_eq_zero]
      intro hx
      obtain ⟨g0, g1, c2, g2, g3⟩ := h.op1 i hi
      obtain ⟨_, d, q1, q2⟩ := h.kid hc (by omega) hq hx
      rw [g2] at q1
      cases q1
      omega
    · unfold opn
      rw [if_pos hq]
      rfl
  refine (edit_ok k o ow x y v kk vals kids s w h1 (by omega) hs hk0 (by rw [hci.r]; exact hr) hv hk (by omega) (by omega) (by rw [badAt_badC (isB_isC h7 h8)]; exact hb) ho (by rw [hci.ow]; exact hco)).mono ?_
  rintro e w' ⟨rfl, v', k', hraw, hv', hk', hF⟩
  have hFO : Fr O w w' := hF.mono (fun j hj => .inl (by rw [hj]; exact h3))
  have hga := h.mem.ol a h2
  have hgg := h.mem.ol gs h3
  have hwf := h.wf.edit (c' := ⟨o, x, y, vals, kids, 1⟩) hm (by rw [opn_r]; omega) (by rw [opn_r]; exact hr.symm) (fun z hz => by
    rw [mask_len]
    rcases badC_inv (cl := cl) hb z hz with q | q
    · exact q
    · omega) (by rw [← hold]; exact hct)
  rw [← hold] at hwf
  have hmk : (mask op cl).set k ⟨o, x, y, vals, kids, 1⟩ = mask (fun x => op x && x != k) (cl.set k ⟨o, x, y, vals, kids, 1⟩) := by
    apply List.ext_getElem?
    intro j
    rw [mask_get]
    by_cases e : k = j
    · subst e
      rw [List.getElem?_set_self (by rw [mask_len]; exact hkll), List.getElem?_set_self hkll]
      show some _ = some (opn (fun x => op x && x != k) k _)
      rw [opn_no (by simp)]
    · rw [List.getElem?_set_ne e, List.getElem?_set_ne e, mask_get]
      cases cl[j]? with
      | none => rfl
      | some c =>
        show some (opn op j c) = some (opn (fun x => op x && x != k) j c)
        have hb : (fun x => op x && x != k) j = op j := by simp [show ¬ j = k from fun q => e q.symm]
        unfold opn
        rw [hb]
  rw [hmk] at hwf
  have hac' : Acy (upd (fn cl) k ⟨o, x, y, vals, kids, 1⟩) (fun x => op x && x != k) := by
    refine h.ac.upd k _ (fun i hi hri ho2 => ?_) (List.count_eq_zero.1 hkk)
    have hoi : op i = false := by simpa [hi] using ho2
    refine ⟨hoi, fun hx => ?_⟩
    obtain ⟨_, d, q1, q2⟩ := h.kid (fn_live hri) hri hoi hx
    rw [← fn_at q1] at q2
    omega
  refine ⟨rfl, fun j => O j ∨ (w.heap.size ≤ j ∧ j < w'.heap.size), ⟨_, fr, (fn_set hkll _).symm, ⟨⟨base, gs, cs, vf, _, fun j => V j ∨ (w.heap.size ≤ j ∧ j < w'.heap.size), hraw, .inl h2, .inl h3, fun j hj => .inl (h4 j hj), fun j hj => hj.imp (h5 j) id, ?_, by rw [List.length_set, List.length_set]; exact h7, ?_⟩, ?_⟩, hwf, by rw [List.length_set]; exact h.cnt, h.m0, h.m1, h.lm, ?_, ?_, by rw [List.length_set]; exact hl, ?_, by rw [fn_set hkll]; exact hac'⟩, fun j hj => hj.imp id And.left, hFO⟩
  · intro j hj
    rcases hj with hj | hj
    · exact h6 j hj
    · exact ⟨by omega, by omega, fun e => by have := h.mem.ol j (h4 j e); omega⟩
  · intro i s2 c2 hs2 hc2
    by_cases e : i = k
    · subst e
      rw [List.getElem?_set_self (by omega)] at hs2 hc2
      cases hs2
      cases hc2
      exact ⟨rfl, rfl, rfl, rfl, row_lt hv' (fun j hj hjl => .inr ⟨hj, hjl⟩), row_lt hk' (fun j hj hjl => .inr ⟨hj, hjl⟩)⟩
    · rw [List.getElem?_set_ne (fun h => e h.symm)] at hs2 hc2
      exact ((h8 i s2 c2 hs2 hc2).fr hF (fun j hj e => (h6 j hj).2.1 e)).mono (fun j hj => .inl hj)
  · intro j hj
    rcases hj with hj | hj
    · exact Nat.lt_of_lt_of_le (h.mem.ol j hj) hFO.size
    · exact hj.2
  · intro i c2 hc2 hp
    rcases at_set hc hc2 with ⟨rfl, rfl⟩ | ⟨_, hc2⟩
    · exact ⟨hkl, hvl⟩
    · exact h.kb i c2 hc2 hp
  · intro i
    have h1 := heb i
    have h2 := holdl i
    omega
  · intro i hi
    have hi' : op i = true ∧ i ≠ k := by simpa using hi
    obtain ⟨g0, g1, c2, g2, g3⟩ := h.op1 i hi'.1
    exact ⟨g0, by rw [holdo i hi'.1, hop i hi'.1, g1], c2, by rw [List.getElem?_set_ne (fun e => hi'.2 e.symm)]; exact g2, g3⟩
end
end Go.Proofs.Ytnipbfhfaefieaa.Ao
/-! pvec: digits of small numbers; how many leaves. -/
namespace Go.Proofs.Ytnipbfhfaefieaa.Pv
open Go.RowKit Go Go.Proofs.YtnipbfhfaefieaaW.PrintWords Go.Proofs.YtnipbfhfaefieaaW.PrintMore Go.Proofs.YtnipbfhfaefieaaW.PrintLast Go.Proofs.Ytnipbfhfaefieaa.Bts Go.Proofs.Ytnipbfhfaefieaa.Fra Go.Proofs.Ytnipbfhfaefieaa.ArnP Go.Proofs.Ytnipbfhfaefieaa.Arn Go.Proofs.Ytnipbfhfaefieaa.Ao
theorem and31 : ∀ n : Fin 32, wrap64 (Go.bits .and .u64 ((n : Nat) : Int) 31) = ((n : Nat) : Int) := by decide +kernel
/-- The lowest digit of a number below 32. -/
theorem at_zero (n : Nat) (hn : n < 32) (w : World) : Calls Try.prog 61 #[.int .u64 n, .int .i64 0] w fun e w' => e = .returned (.int .i64 n) ∧ w' = w := by
  have h := and31 ⟨n, hn⟩
  replace h : wrap64 (Go.bits .and .u64 (n : Int) 31) = (n : Int) := h
  go_enter Try.func61, Try.ntmps61
  go_wp2
  go_ret
  exact ⟨congrArg (fun x => Ending.returned (.int .i64 x)) h, rfl⟩
/-- How many levels: of at most 32 things. -/
def lev (n : Nat) : Nat := if n ≤ 1 then 0 else 1
theorem levels_calls (n : Nat) (hn : n ≤ 32) (w : World) : Calls Try.prog 62 #[.int .i64 n] w fun e w' => e = .returned (.int .i64 (lev n : Int)) ∧ w' = w := by
  go_enter Try.func62, Try.ntmps62
  go_wp2
  go_loopw [3, 4] (fun x y wr => ((x = .int .i64 0 ∧ y = .int .i64 1) ∨ (x = .int .i64 1 ∧ y = .int .i64 32 ∧ 2 ≤ n)) ∧ wr = w) (fun x _ _ => 1 - (intOf x).toNat)
  case atStart => exact ⟨.inl ⟨rfl, rfl⟩, rfl⟩
  case round =>
    obtain ⟨h, rfl⟩ := hrel
    rcases h with ⟨rfl, rfl⟩ | ⟨rfl, rfl, h2⟩
    · by_cases h1 : n ≤ 1
      · have b : decide ((1 : Int) < (n : Int)) = false := by simp; omega
        go_wp2
        go_ret
        exact ⟨by unfold lev; rw [if_pos h1]; rfl, rfl⟩
      · have b : (1 : Int) < (n : Int) := by omega
        go_wp2
        go_roundw
        case rel => exact ⟨.inr ⟨by simp, by simp, by omega⟩, trivial⟩
        case measure => simp [intOf]
    · have b : decide ((32 : Int) < (n : Int)) = false := by simp; omega
      go_wp2
      go_ret
      exact ⟨by unfold lev; rw [if_neg (by omega)]; rfl, rfl⟩
abbrev vecV (n r t : Int) : Value := .agg #[.int .i64 n, .int .i64 r, .int .i64 t]
/-- How many leaves a vector of so many has. -/
def lvs (n : Nat) : Nat := (n - 1) / 32
theorem leaves_calls (n : Nat) (r t : Int) (hn : n ≤ 1024) (w : World) : Calls Try.prog 81 #[vecV n r t] w fun e w' => e = .returned (.int .i64 (lvs n : Int)) ∧ Below w.heap.size w w' := by
  by_cases h0 : n = 0
  · subst h0
    go_enter Try.func81, Try.ntmps81
    go_wp2
    go_ret
    exact ⟨rfl, below_alloc (Below.refl _ _) _⟩
  · have hn' : (n : Int) ≤ 1024 := by omega
    have h1 : ¬ (n : Int) - 1 < 0 := by omega
    have h2 : (((n : Int) - 1) / 32) = ((lvs n : Nat) : Int) := by unfold lvs; omega
    go_enter Try.func81, Try.ntmps81
    go_wp2
    go_ret
    exact ⟨rfl, below_alloc (Below.refl _ _) _⟩
end Go.Proofs.Ytnipbfhfaefieaa.Pv
