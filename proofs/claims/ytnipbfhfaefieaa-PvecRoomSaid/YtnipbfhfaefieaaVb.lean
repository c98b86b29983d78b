/- Texts of this claim, laid together: ArnL, ArnN, ArnO, ArnQ, Ao, Ap, Aq, PvA, PvB, PvC, PvD, PvE, PvF, PvG, PvDset, PvH, PvI. -/
import Derived.Test.YtnipbfhfaefieaaVa
/-! arena: an arena of a caller who holds cells as often as ext tells; each call, as a contract. -/
namespace Go.Proofs.Ytnipbfhfaefieaa.Arn
open Go.RowKit Go Go.Proofs.YtnipbfhfaefieaaW.PrintWords Go.Proofs.YtnipbfhfaefieaaW.PrintMore Go.Proofs.YtnipbfhfaefieaaW.PrintLast Go.Proofs.Ytnipbfhfaefieaa.Bts Go.Proofs.Ytnipbfhfaefieaa.Fra Go.Proofs.Ytnipbfhfaefieaa.ArnP
/-- In memory: O are all blocks that it stands on. -/
structure Mem (W : World) (O : Nat → Prop) (a : Nat) (cl : List Cell) (fr : List Int) (live most : Int) : Prop where
  m : ∃ (base gs cs : Nat) (vf : Value) (sl : List Slot) (V : Nat → Prop), RawA W base a gs cs vf sl fr live most ∧ O a ∧ O gs ∧ (∀ k, vf.ownBlock = some k → O k) ∧ (∀ k, V k → O k) ∧ (∀ k, V k → k ≠ a ∧ k ≠ gs ∧ vf.ownBlock ≠ some k) ∧ sl.length = cl.length ∧
    ∀ (i : Nat) (s : Slot) (c : Cell), sl[i]? = some s → cl[i]? = some c → CellIn W V s c
  ol : ∀ k, O k → k < W.heap.size
structure AR (W : World) (O : Nat → Prop) (a : Nat) (cl : List Cell) (fr : List Int) (live most : Int) (ext : Nat → Nat) : Prop where
  mem : Mem W O a cl fr live most
  wf : WF cl fr live ext []
  cnt : (fr.length : Int) + live + 1 = cl.length
  m0 : 1 ≤ most
  m1 : most ≤ 1048576
  lm : live ≤ most
  kb : ∀ (i : Nat) (c : Cell), cl[i]? = some c → 0 < c.r → c.kids.length ≤ 1000 ∧ c.vals.length ≤ 1000000000
  eb : ∀ i, ext i ≤ 100000000000
  lc : cl.length ≤ 1048577
theorem Mem.fr {W W' : World} {O S : Nat → Prop} {a : Nat} {cl : List Cell} {fr : List Int} {live most : Int} (h : Mem W O a cl fr live most) (hf : Fr S W W') (hs : ∀ k, O k → ¬ S k) : Mem W' O a cl fr live most := by
  obtain ⟨⟨base, gs, cs, vf, sl, V, h1, h2, h3, h4, h5, h6, h7, h8⟩, h9⟩ := h
  exact ⟨⟨base, gs, cs, vf, sl, V, h1.kept hf (hs _ h2) (hs _ h3) (fun k hk => hs _ (h4 k hk)), h2, h3, h4, h5, h6, h7, fun i s c hi hc => (h8 i s c hi hc).fr hf (fun k hk => hs _ (h5 k hk))⟩, fun k hk => Nat.lt_of_lt_of_le (h9 k hk) hf.size⟩
section
variable {W W' : World} {O S : Nat → Prop} {a : Nat} {cl : List Cell} {fr : List Int} {live most : Int} {ext : Nat → Nat}
theorem AR.move (h : AR W O a cl fr live most ext) (hf : Fr S W W') (hs : ∀ k, O k → ¬ S k) : AR W' O a cl fr live most ext := ⟨h.mem.fr hf hs, h.wf, h.cnt, h.m0, h.m1, h.lm, h.kb, h.eb, h.lc⟩
theorem AR.below (h : AR W O a cl fr live most ext) (hb : Below W.heap.size W W') : AR W' O a cl fr live most ext := h.move (Fr.of_new (S := fun _ => False) hb) (fun _ _ => id)
theorem AR.live0 (h : AR W O a cl fr live most ext) : 0 ≤ live := by rw [h.wf.lv]; omega
/-- How often live cells hold one, at most. -/
theorem held_le {g : G} (n K x : Nat) (h : ∀ y, y < n → 0 < g.refs y → (g.kids y).length ≤ K) : held g n x ≤ n * K := by
  unfold held
  have key : ∀ m, m ≤ n → sm (fun y => if 0 < g.refs y then (g.kids y).count x else 0) m ≤ m * K := by
    intro m
    induction m with
    | zero => intro _; simp [sm]
    | succ m ih =>
      intro hm
      have h1 := ih (by omega)
      simp only [sm]
      have h2 : (if 0 < g.refs m then (g.kids m).count x else 0) ≤ K := by
        split
        · rename_i hp
          exact Nat.le_trans (List.count_le_length ..) (h m (by omega) hp)
        · exact Nat.zero_le _
      rw [Nat.succ_mul]
      omega
  exact key n (Nat.le_refl _)
theorem kidsOf_len (l : List Int) : (kidsOf l).length ≤ l.length := by unfold kidsOf; rw [List.length_map]; exact List.length_filter_le ..
/-- How many hold a cell, at most. -/
theorem AR.rb (h : AR W O a cl fr live most ext) (i : Nat) (c : Cell) (hc : cl[i]? = some c) : c.r ≤ 200000000000 := by
  by_cases i0 : 0 < i
  · have hi : i < cl.length := (List.getElem?_eq_some_iff.1 hc).1
    have hr := h.wf.acc i hi i0
    rw [gOf_refs hc] at hr
    have h1 := h.eb i
    have h2 := held_le (g := gOf cl) cl.length 1000 i (fun y hy hp => by
      obtain ⟨d, hd⟩ : ∃ d, cl[y]? = some d := ⟨cl[y], List.getElem?_eq_getElem hy⟩
      rw [gOf_refs hd] at hp
      rw [gOf_kids hd]
      exact Nat.le_trans (kidsOf_len _) (h.kb y d hd (by omega)).1)
    have h3 := h.lc
    have h4 : cl.length * 1000 ≤ 1048577000 := by omega
    simp only [List.count_nil] at hr
    omega
  · obtain rfl : i = 0 := by omega
    rw [h.wf.z] at hc
    cases hc
    decide
theorem ksum_le (cl : List Cell) (K : Nat) (h : ∀ c ∈ cl, 0 < c.r → c.kids.length ≤ K) : ksum cl ≤ cl.length * K := by
  induction cl with
  | nil => simp [ksum]
  | cons x l ih =>
    have h1 := ih (fun c hc => h c (List.mem_cons_of_mem _ hc))
    unfold ksum at h1 ⊢
    rw [List.map_cons, List.sum_cons, List.length_cons, Nat.succ_mul]
    have : (if 0 < x.r then (kidsOf x.kids).length else 0) ≤ K := by
      split
      · rename_i hp
        exact Nat.le_trans (kidsOf_len _) (h x (List.mem_cons_self ..) hp)
      · exact Nat.zero_le _
    omega
theorem AR.ks (h : AR W O a cl fr live most ext) : ksum cl ≤ 1048577000 := by
  have h1 := ksum_le cl 1000 (fun c hc hp => by
    obtain ⟨i, hi, rfl⟩ := List.getElem_of_mem hc
    exact (h.kb i _ (List.getElem?_eq_getElem hi) hp).1)
  have := h.lc
  omega
/-- A number is a live cell's, in the cells' own words. -/
def isC (cl : List Cell) (i : Int) : Bool := decide (0 < i) && decide (0 < (cl.getD i.toNat nobC).r)
theorem isC_at {i : Nat} {c : Cell} (hc : cl[i]? = some c) (h0 : 0 < i) : isC cl (i : Int) = decide (0 < c.r) := by
  unfold isC
  rw [Int.toNat_natCast, getD_at hc, decide_eq_true (show 0 < (i : Int) by omega), Bool.true_and]
theorem isC_inv {i : Int} (h : isC cl i = true) : ∃ (k : Nat) (c : Cell), i = k ∧ 0 < k ∧ cl[k]? = some c ∧ 0 < c.r := by
  unfold isC at h
  simp only [Bool.and_eq_true, decide_eq_true_eq] at h
  obtain ⟨h0, h1⟩ := h
  by_cases hl : i.toNat < cl.length
  · refine ⟨i.toNat, cl[i.toNat], by omega, by omega, List.getElem?_eq_getElem hl, ?_⟩
    rwa [getD_at (List.getElem?_eq_getElem hl)] at h1
  · rw [List.getD, List.getElem?_eq_none (by omega)] at h1
    exact absurd h1 (by decide)
theorem isB_isC {sl : List Slot} {V : Nat → Prop} (hl : sl.length = cl.length) (hk : ∀ (i : Nat) (s : Slot) (c : Cell), sl[i]? = some s → cl[i]? = some c → CellIn W V s c) (i : Int) : isB sl i = isC cl i := by
  unfold isB isC
  by_cases h0 : 0 < i
  · by_cases h1 : i.toNat < cl.length
    · have h1' : i.toNat < sl.length := by omega
      have hs := List.getElem?_eq_getElem h1'
      have hc := List.getElem?_eq_getElem h1
      have := (hk _ _ _ hs hc).r
      rw [getD_at hc]
      have hg : sl.getD i.toNat nob = sl[i.toNat] := by simp [List.getD, h1']
      rw [hg, this, decide_eq_true (show i < (sl.length : Int) by omega), Bool.true_and]
    · have e : decide (i < (sl.length : Int)) = false := by simp; omega
      rw [e]
      have : cl.getD i.toNat nobC = nobC := by rw [List.getD, List.getElem?_eq_none (by omega)]; rfl
      rw [this]
      simp [nobC]
  · simp [h0]
/-- One of some numbers is not 0, and no cell's. -/
def badC (cl : List Cell) (l : List Int) : Bool := l.any fun x => x != 0 && !isC cl x
theorem badAt_badC {sl : List Slot} (h : ∀ i, isB sl i = isC cl i) (l : List Int) : badAt sl l = badC cl l := by
  induction l with
  | nil => rfl
  | cons x l ih => show ((_ && !isB sl x) || badAt sl l) = ((_ && !isC cl x) || badC cl l); rw [ih, h]
theorem badC_inv {l : List Int} (h : badC cl l = false) : ∀ y ∈ l, 0 ≤ y ∧ y < cl.length ∨ y = 0 := by
  intro y hy
  unfold badC at h
  rw [List.any_eq_false] at h
  have := h y hy
  by_cases y0 : y = 0
  · exact .inr y0
  · have hc : isC cl y = true := by simpa [y0] using this
    obtain ⟨k, c, rfl, h1, h2, _⟩ := isC_inv hc
    have := (List.getElem?_eq_some_iff.1 h2).1
    exact .inl ⟨by omega, by omega⟩
/-! ## what only reads -/
theorem live_AR (w : World) (h : AR w O a cl fr live most ext) : Calls Try.prog 22 #[.pointer (some ⟨a, 0, none⟩)] w fun e w' => e = .returned (.int .i64 live) ∧ w' = w := by
  obtain ⟨base, gs, cs, vf, sl, V, h1, _⟩ := h.mem.m
  exact live_calls w h1
theorem room_AR (w : World) (h : AR w O a cl fr live most ext) : Calls Try.prog 25 #[.pointer (some ⟨a, 0, none⟩)] w fun e w' => e = .returned (.int .i64 (most - live)) ∧ Below w.heap.size w w' := by
  obtain ⟨base, gs, cs, vf, sl, V, h1, _⟩ := h.mem.m
  have e : wrap64 (most - live) = most - live := by
    have := h.live0; have := h.lm; have := h.m1
    unfold wrap64; omega
  have := room_calls w h1
  rwa [e] at this
theorem refs_AR (i : Int) (w : World) (h : AR w O a cl fr live most ext) : Calls Try.prog 26 #[.pointer (some ⟨a, 0, none⟩), .int .i64 i] w fun e w' => e = .returned (.int .i64 (if isC cl i then (cl.getD i.toNat nobC).r else 0)) ∧ Below w.heap.size w w' := by
  obtain ⟨base, gs, cs, vf, sl, V, h1, h2, h3, h4, h5, h6, h7, h8⟩ := h.mem.m
  have hl := h.lc
  cases hi : isC cl i
  · exact refs_none i w h1 (by omega) (by rw [isB_isC h7 h8]; exact hi)
  · obtain ⟨k, c, rfl, hk0, hc, hr⟩ := isC_inv hi
    obtain ⟨s, hs⟩ : ∃ s, sl[k]? = some s := ⟨sl[k]'(by rw [h7]; exact (List.getElem?_eq_some_iff.1 hc).1), List.getElem?_eq_getElem _⟩
    have hcr := (h8 k s c hs hc).r
    have := refs_raw k s w h1 (by omega) hs hk0 (by omega)
    rw [hcr] at this
    rw [if_pos rfl, Int.toNat_natCast, getD_at hc]
    exact this
theorem getn_AR (i : Int) (w : World) (h : AR w O a cl fr live most ext) (hi : isC cl i = false) : Calls Try.prog 24 #[.pointer (some ⟨a, 0, none⟩), .int .i64 i] w fun e w' => e = .returned (.tuple #[zeroCell, .bool false]) ∧ Below w.heap.size w w' := by
  obtain ⟨base, gs, cs, vf, sl, V, h1, h2, h3, h4, h5, h6, h7, h8⟩ := h.mem.m
  have hl := h.lc
  exact get_none i w h1 (by omega) (by rw [isB_isC h7 h8]; exact hi)
theorem get_AR (k : Nat) (c : Cell) (w : World) (h : AR w O a cl fr live most ext) (hk : 0 < k) (hc : cl[k]? = some c) (hr : 0 < c.r) :
    Calls Try.prog 24 #[.pointer (some ⟨a, 0, none⟩), .int .i64 k] w fun e w' => ∃ v' k', e = .returned (.tuple #[cellV c.ow c.a c.b v' k', .bool true]) ∧ RowIn kVal w' (fun j => w.heap.size ≤ j) v' c.vals ∧ RowIn (Kd.int .i64) w' (fun j => w.heap.size ≤ j) k' c.kids ∧ Below w.heap.size w w' := by
  obtain ⟨base, gs, cs, vf, sl, V, h1, h2, h3, h4, h5, h6, h7, h8⟩ := h.mem.m
  have hl := h.lc
  obtain ⟨s, hs⟩ : ∃ s, sl[k]? = some s := ⟨sl[k]'(by rw [h7]; exact (List.getElem?_eq_some_iff.1 hc).1), List.getElem?_eq_getElem _⟩
  have hci := h8 k s c hs hc
  have hb := h.kb k c hc hr
  have := get_raw k s c.vals c.kids w h1 (by omega) hs hk (by rw [hci.r]; exact hr) hci.v hci.k (by omega) (by omega)
  rw [hci.ow, hci.a, hci.b] at this
  exact this
theorem keepn_AR (i : Int) (w : World) (h : AR w O a cl fr live most ext) (hi : isC cl i = false) : Calls Try.prog 27 #[.pointer (some ⟨a, 0, none⟩), .int .i64 i] w fun e w' => e = .returned (.int .i64 4) ∧ Below w.heap.size w w' := by
  obtain ⟨base, gs, cs, vf, sl, V, h1, h2, h3, h4, h5, h6, h7, h8⟩ := h.mem.m
  have hl := h.lc
  exact keep_none i w h1 (by omega) (show isB sl i = false by rw [isB_isC h7 h8]; exact hi)
theorem dropn_AR (i : Int) (w : World) (h : AR w O a cl fr live most ext) (hi : isC cl i = false) : Calls Try.prog 23 #[.pointer (some ⟨a, 0, none⟩), .int .i64 i] w fun e w' => e = .returned (.int .i64 4) ∧ Below w.heap.size w w' := by
  obtain ⟨base, gs, cs, vf, sl, V, h1, h2, h3, h4, h5, h6, h7, h8⟩ := h.mem.m
  have hl := h.lc
  exact drop_none i w h1 (by omega) (by rw [isB_isC h7 h8]; exact hi)
/-! ## what turns -/
theorem keep_AR (k : Nat) (c : Cell) (w : World) (h : AR w O a cl fr live most ext) (hk : 0 < k) (hc : cl[k]? = some c) (hr : 0 < c.r) (he : ext k < 100000000000) :
    Calls Try.prog 27 #[.pointer (some ⟨a, 0, none⟩), .int .i64 k] w fun e w' => e = .returned (.int .i64 0) ∧ AR w' O a (cl.set k {c with r := c.r + 1}) fr live most (fun x => if x = k then ext x + 1 else ext x) ∧ Fr O w w' := by
  obtain ⟨base, gs, cs, vf, sl, V, h1, h2, h3, h4, h5, h6, h7, h8⟩ := h.mem.m
  have hl := h.lc
  have hkl : k < cl.length := (List.getElem?_eq_some_iff.1 hc).1
  obtain ⟨s, hs⟩ : ∃ s, sl[k]? = some s := ⟨sl[k]'(by omega), List.getElem?_eq_getElem _⟩
  have hci := h8 k s c hs hc
  have hrb := h.rb k c hc
  refine (keep_raw k s w h1 (by omega) hs hk (by rw [hci.r]; exact hr) (by rw [hci.r]; omega)).mono ?_
  rintro e w' ⟨rfl, hraw, w1, hb, hw'⟩
  have hF : Fr (fun j => j = gs) w w' := by rw [hw']; exact (Fr.of_new hb).then_ (Fr.set gs _ _) (fun j hj => .inl hj)
  have hVg : ∀ j, V j → ¬ j = gs := fun j hj => (h6 j hj).2.1
  refine ⟨rfl, ⟨⟨⟨base, gs, cs, vf, _, V, hraw, h2, h3, h4, h5, h6, by rw [List.length_set, List.length_set]; exact h7, ?_⟩, fun j hj => Nat.lt_of_lt_of_le (h.mem.ol j hj) hF.size⟩, h.wf.keep hc hr, by rw [List.length_set]; exact h.cnt, h.m0, h.m1, h.lm, ?_, ?_, by rw [List.length_set]; exact h.lc⟩, hF.mono (fun j hj => .inl (by rw [hj]; exact h3))⟩
  · intro i s2 c2 hi hc2
    by_cases e : i = k
    · subst e
      rw [List.getElem?_set_self (by omega)] at hi hc2
      cases hi
      cases hc2
      have := hci.fr hF hVg
      exact ⟨this.ow, this.a, this.b, show s.r + 1 = c.r + 1 by rw [hci.r], this.v, this.k⟩
    · rw [List.getElem?_set_ne (fun h => e h.symm)] at hi hc2
      exact (h8 i s2 c2 hi hc2).fr hF hVg
  · intro i c2 hc2 hr2
    rcases at_set hc hc2 with ⟨rfl, rfl⟩ | ⟨_, hc2⟩
    · exact h.kb _ c hc hr
    · exact h.kb i c2 hc2 hr2
  · intro i
    split
    · rename_i e; subst e; omega
    · exact h.eb i
theorem left_kb {cl' : List Cell} (hl : Left cl cl') (h : ∀ (i : Nat) (c : Cell), cl[i]? = some c → 0 < c.r → c.kids.length ≤ 1000 ∧ c.vals.length ≤ 1000000000) : ∀ (i : Nat) (c : Cell), cl'[i]? = some c → 0 < c.r → c.kids.length ≤ 1000 ∧ c.vals.length ≤ 1000000000 := by
  intro i c hc hr
  obtain ⟨c0, h0, h1, h2⟩ := hl.at_ i c hc hr
  have := h i c0 h0 (by omega)
  rw [h1]
  exact this
/-- What a Drop leaves lies in memory as the cells say. -/
theorem left_link {sl sl' : List Slot} {cl' : List Cell} {V : Nat → Prop} {e' : Nat → Nat} (h8 : ∀ (i : Nat) (s : Slot) (c : Cell), sl[i]? = some s → cl[i]? = some c → CellIn W V s c) (q4a : ∀ (i : Nat) (s : Slot) (c : Cell), sl'[i]? = some s → cl'[i]? = some c → s.r = c.r ∧ (e' i = 0 ∨ i = 0 → CellIn W' V s c))
    (q4b : ∀ (i : Nat) (s' : Slot), sl'[i]? = some s' → 0 < s'.r → ∃ s, sl[i]? = some s ∧ s' = {s with r := s'.r}) (q6 : Left cl cl') (h7 : sl.length = cl.length) (hF : Fr S W W') (hV : ∀ j, V j → ¬ S j) (hd : ∀ i, 0 < i → 0 < e' i → ∀ c, cl'[i]? = some c → 0 < c.r) :
    ∀ (i : Nat) (s : Slot) (c : Cell), sl'[i]? = some s → cl'[i]? = some c → CellIn W' V s c := by
  intro i s c hs hc
  obtain ⟨hr, hci⟩ := q4a i s c hs hc
  by_cases he : e' i = 0 ∨ i = 0
  · exact hci he
  · have hp := hd i (by omega) (by omega) c hc
    obtain ⟨s0, g1, g2⟩ := q4b i s hs (by omega)
    obtain ⟨c0, g3, g4, _⟩ := q6.at_ i c hc hp
    have := (h8 i s0 c0 g1 g3).fr hF hV
    rw [g2, g4]
    exact ⟨this.ow, this.a, this.b, hr, this.v, this.k⟩
/-- Whom a caller holds is live. -/
theorem WF.ext_live {todo : List Nat} (h : WF cl fr live ext todo) (i : Nat) (h0 : 0 < i) (he : 0 < ext i) : ∀ c, cl[i]? = some c → 0 < c.r := by
  intro c hc
  have hi : i < cl.length := (List.getElem?_eq_some_iff.1 hc).1
  have := h.acc i hi h0
  rw [gOf_refs hc] at this
  omega
theorem liveN_left {cl' : List Cell} (q6 : Left cl cl') : liveN cl' ≤ liveN cl := by
  have hlen := q6.len
  have key : ∀ n, n ≤ cl.length → (cl'.take n).countP (fun c => decide (0 < c.r)) ≤ (cl.take n).countP (fun c => decide (0 < c.r)) := by
    intro n
    induction n with
    | zero => intro _; simp
    | succ n ih =>
      intro hn
      have hn1 : n < cl.length := by omega
      have hn2 : n < cl'.length := by omega
      rw [List.take_succ_eq_append_getElem hn1, List.take_succ_eq_append_getElem hn2, List.countP_append, List.countP_append]
      have := ih (by omega)
      have h9 : List.countP (fun c => decide (0 < c.r)) [cl'[n]] ≤ List.countP (fun c => decide (0 < c.r)) [cl[n]] := by
        by_cases hp : 0 < (cl'[n]).r
        · obtain ⟨c0, g1, g2, g3⟩ := q6.at_ n _ (List.getElem?_eq_getElem hn2) hp
          rw [List.getElem?_eq_getElem hn1] at g1
          cases g1
          simp [hp, show 0 < (cl[n]).r by omega]
        · simp [hp]
      omega
  have := key cl.length (Nat.le_refl _)
  rwa [List.take_length, ← hlen, List.take_length] at this
theorem drop_AR (k : Nat) (w : World) (h : AR w O a cl fr live most ext) (hk : 0 < k) (he : 0 < ext k) :
    Calls Try.prog 23 #[.pointer (some ⟨a, 0, none⟩), .int .i64 k] w fun e w' => e = .returned (.int .i64 0) ∧ ∃ O' cl' fr' live', AR w' O' a cl' fr' live' most (fun x => if x = k then ext x - 1 else ext x) ∧ Left cl cl' ∧ (∀ j, O' j → O j ∨ w.heap.size ≤ j) ∧ Fr O w w' := by
  obtain ⟨base, gs, cs, vf, sl, V, h1, h2, h3, h4, h5, h6, h7, h8⟩ := h.mem.m
  have hl := h.lc
  refine (drop_walk k cl (fun x => if x = k then ext x - 1 else ext x) w h1 (by omega) h7 (fun i s c hi hc => ⟨(h8 i s c hi hc).r, fun _ => h8 i s c hi hc⟩) (fun j hj => ⟨h.mem.ol j (h5 j hj), h6 j hj⟩) (h.wf.drop hk he) h.cnt (by have := h.ks; omega) (fun i c hc hr => ⟨by have := h.rb i c hc; omega, by have := h.kb i c hc hr; omega⟩)).mono ?_
  rintro e w' ⟨rfl, vf', sl', cl', fr', live', q1, q2, q3, q4a, q4b, q5, q6, q7, q8⟩
  have q4 : ∀ (i : Nat) (s : Slot) (c : Cell), sl'[i]? = some s → cl'[i]? = some c → CellIn w' V s c := left_link h8 q4a q4b q6 h7 q8 (fun j hj e => by
    rcases e with e | e | e
    · exact (h6 j hj).1 e
    · exact (h6 j hj).2.1 e
    · exact (h6 j hj).2.2 e) (fun i i0 he c hc => q5.ext_live i i0 he c hc)
  have hfr : Fr O w w' := q8.mono (fun j hj => .inl (by
    rcases hj with e | e | e
    · rw [e]; exact h2
    · rw [e]; exact h3
    · exact h4 j e))
  have hll : live' ≤ live := by
    have e1 := q5.lv
    have e2 := h.wf.lv
    have : liveN cl' ≤ liveN cl := liveN_left q6
    omega
  refine ⟨rfl, fun j => (O j ∨ vf'.ownBlock = some j), cl', fr', live', ⟨⟨⟨base, gs, cs, vf', sl', V, q1, .inl h2, .inl h3, fun j hj => .inr hj, fun j hj => .inl (h5 j hj), fun j hj => ⟨(h6 j hj).1, (h6 j hj).2.1, fun e => ?_⟩, q3, q4⟩, ?_⟩, q5, q7, h.m0, h.m1, by have := h.lm; omega, left_kb q6 h.kb, ?_, by rw [q6.len]; exact h.lc⟩, q6, ?_, hfr⟩
  · rcases q2 j e with e | e
    · exact (h6 j hj).2.2 e
    · have := h.mem.ol j (h5 j hj); omega
  · intro j hj
    rcases hj with hj | hj
    · exact Nat.lt_of_lt_of_le (h.mem.ol j hj) hfr.size
    · exact own_lt q1.free j hj
  · intro i
    have := h.eb i
    split <;> omega
  · intro j hj
    rcases hj with hj | hj
    · exact .inl hj
    · rcases q2 j hj with e | e
      · exact .inl (h4 j e)
      · exact .inr e
end
end Go.Proofs.Ytnipbfhfaefieaa.Arn
/-! arena: New, Make and Edit, as contracts over cells. -/
namespace Go.Proofs.Ytnipbfhfaefieaa.Arn
open Go.RowKit Go Go.Proofs.YtnipbfhfaefieaaW.PrintWords Go.Proofs.YtnipbfhfaefieaaW.PrintMore Go.Proofs.YtnipbfhfaefieaaW.PrintLast Go.Proofs.Ytnipbfhfaefieaa.Bts Go.Proofs.Ytnipbfhfaefieaa.Fra Go.Proofs.Ytnipbfhfaefieaa.ArnP
theorem new_AR (n : Int) (w : World) (h1 : 1 ≤ n) (h2 : n ≤ 1048576) : Calls Try.prog 20 #[.int .i64 n] w fun e w' => ∃ a O, e = .returned (.tuple #[.pointer (some ⟨a, 0, none⟩), .int .i64 0]) ∧ AR w' O a [nobC] [] 0 n (fun _ => 0) ∧ (∀ j, O j → w.heap.size ≤ j) ∧ Below w.heap.size w w' := by
  refine (new_ok n w h1 h2).mono ?_
  rintro e w' ⟨a, gs, rfl, hr, hb⟩
  refine ⟨a, fun j => j = a ∨ j = gs, rfl, ⟨⟨⟨w.heap.size, gs, 1, .slice none 0 0, [nob], fun _ => False, hr, .inl rfl, .inr rfl, fun k hk => (by cases hk), fun k hk => hk.elim, fun k hk => hk.elim, rfl, ?_⟩, ?_⟩, WF.new, rfl, h1, h2, by omega, ?_, fun _ => by omega, by decide⟩, ?_, hb⟩
  · intro i s c hs hc
    match i, hs, hc with
    | 0, hs, hc =>
      obtain rfl : nob = s := by simpa using hs
      obtain rfl : nobC = c := by simpa using hc
      exact ⟨rfl, rfl, rfl, rfl, ⟨none, 0, rfl, Nat.le_refl _, fun _ => rfl, ⟨rfl, by simp [nobC], fun h => absurd h (by simp [nobC])⟩, fun ad h => by cases h⟩, ⟨none, 0, rfl, Nat.le_refl _, fun _ => rfl, ⟨rfl, by simp [nobC], fun h => absurd h (by simp [nobC])⟩, fun ad h => by cases h⟩⟩
    | i + 1, hs, hc => simp at hs
  · intro k hk
    rcases hk with rfl | rfl
    · exact blk_lt hr.obj
    · exact own_lt hr.row _ rfl
  · intro i c hc hp
    match i, hc with
    | 0, hc =>
      obtain rfl : nobC = c := by simpa using hc
      exact absurd hp (Int.lt_irrefl 0)
    | i + 1, hc => simp at hc
  · intro j hj
    rcases hj with rfl | rfl
    · exact hr.ba
    · exact hr.bs
section
variable {W W' : World} {O S Q : Nat → Prop} {a : Nat} {cl : List Cell} {fr : List Int} {live most : Int} {ext : Nat → Nat}
theorem row_slice {α : Type} {d : Kd α} {w : World} {v : Value} {xs : List α} (h : RowIn d w Q v xs) : ∃ A n c, v = .slice A n c := by
  obtain ⟨A, c, e, _⟩ := h
  exact ⟨A, _, c, e⟩
/-- A row's block is there, or it is read nowhere. -/
theorem row_lt {α : Type} {d : Kd α} {w : World} {O O' : Nat → Prop} {v : Value} {xs : List α} (h : RowIn d w O v xs) (ho : ∀ j, O j → j < w.heap.size → O' j) : RowIn d w O' v xs := by
  obtain ⟨A, c, e, h1, h2, h3, h4⟩ := h
  exact ⟨A, c, e, h1, h2, h3, fun ad ha => ⟨ho _ (h4 ad ha).1 (h4 ad ha).2, (h4 ad ha).2⟩⟩
theorem makea_AR (ow x y : Int) (v k : Value) (kids : List Int) (w : World) (h : AR w O a cl fr live most ext) (hv : ∃ A n c, v = .slice A n c) (hk : RowIn (Kd.int .i64) w Q k kids) (hl : kids.length ≤ 1000000000) (hb : badC cl kids = true) :
    Calls Try.prog 21 #[.pointer (some ⟨a, 0, none⟩), cellV ow x y v k] w fun e w' => e = .returned (.tuple #[.int .i64 0, .int .i64 1]) ∧ Below w.heap.size w w' := by
  obtain ⟨base, gs, cs, vf, sl, V, h1, h2, h3, h4, h5, h6, h7, h8⟩ := h.mem.m
  have := h.lc
  exact make_arg ow x y v k kids w h1 (by omega) hv hk hl (by rw [badAt_badC (isB_isC h7 h8)]; exact hb)
theorem makef_AR (ow x y : Int) (v k : Value) (kids : List Int) (w : World) (h : AR w O a cl fr live most ext) (hv : ∃ A n c, v = .slice A n c) (hk : RowIn (Kd.int .i64) w Q k kids) (hl : kids.length ≤ 1000000000) (hb : badC cl kids = false) (hm : live = most) :
    Calls Try.prog 21 #[.pointer (some ⟨a, 0, none⟩), cellV ow x y v k] w fun e w' => e = .returned (.tuple #[.int .i64 0, .int .i64 5]) ∧ Below w.heap.size w w' := by
  obtain ⟨base, gs, cs, vf, sl, V, h1, h2, h3, h4, h5, h6, h7, h8⟩ := h.mem.m
  have := h.lc
  exact make_full ow x y v k kids w h1 (by omega) hv hk hl (by rw [badAt_badC (isB_isC h7 h8)]; exact hb) (by unfold wrap64; omega)
/-- What Make does to the cells. -/
def Made (cl cl' : List Cell) (fr fr' : List Int) (i : Nat) (c : Cell) : Prop := (fr = [] ∧ i = cl.length ∧ cl' = cl ++ [c] ∧ fr' = []) ∨ (fr = fr' ++ [(i : Int)] ∧ i < cl.length ∧ cl' = cl.set i c)
theorem make_AR (ow x y : Int) (v k : Value) (vals : List (Int × Int × ByteArray)) (kids : List Int) (w : World) (h : AR w O a cl fr live most ext) (hv : RowIn kVal w Q v vals) (hk : RowIn (Kd.int .i64) w Q k kids) (hQ : ∀ j, Q j → ¬ O j) (hb : badC cl kids = false) (hlm : live < most) (hkl : kids.length ≤ 1000) (hvl : vals.length ≤ 1000000000) (hct : ∀ x, 0 < x → (kidsOf kids).count x ≤ ext x) :
    Calls Try.prog 21 #[.pointer (some ⟨a, 0, none⟩), cellV ow x y v k] w fun e w' => ∃ (i : Nat) (O' : Nat → Prop) (cl' : List Cell) (fr' : List Int), e = .returned (.tuple #[.int .i64 i, .int .i64 0]) ∧ AR w' O' a cl' fr' (live + 1) most (fun x => if x = i then 1 else ext x - (kidsOf kids).count x) ∧ 0 < i ∧ Made cl cl' fr fr' i ⟨ow, x, y, vals, kids, 1⟩ ∧ (∀ j, O' j → O j ∨ w.heap.size ≤ j) ∧ Fr O w w' := by
  obtain ⟨base, gs, cs, vf, sl, V, h1, h2, h3, h4, h5, h6, h7, h8⟩ := h.mem.m
  have hl := h.lc
  have hl0 := h.live0
  have hbA : badAt sl kids = false := by rw [badAt_badC (isB_isC h7 h8)]; exact hb
  have hcnt := h.cnt
  have hm1 := h.m1
  have hz : 0 < cl.length := (List.getElem?_eq_some_iff.1 h.wf.z).1
  have hkn : ∀ (n : Nat), cl.length ≤ n → ∀ z ∈ kids, 0 ≤ z ∧ z < n := by
    intro n hn z hz2
    rcases badC_inv hb z hz2 with q | q
    · omega
    · omega
  have heb : ∀ (i j : Nat), (if j = i then 1 else ext j - (kidsOf kids).count j) ≤ 100000000000 := by
    intro i j
    have := h.eb j
    split <;> omega
  rcases List.eq_nil_or_concat fr with rfl | ⟨fr', i, rfl⟩
  · refine (make_grow ow x y v k vals kids w h1 (by omega) (by omega) hv hk (by omega) (by omega) hbA hl0 hlm hm1 (fun j hj => ⟨fun e => hQ j hj (e ▸ h2), fun e => hQ j hj (e ▸ h3), fun e => hQ j hj (h4 j e)⟩)).mono ?_
    rintro e w' ⟨v', k', vf', gs', cs', rfl, hr, hvf, hgs, hv', hk', hF⟩
    have hFO : Fr O w w' := hF.mono (fun j hj => .inl (by
      rcases hj with e | e | e
      · rw [e]; exact h2
      · rw [e]; exact h3
      · exact h4 j e))
    have hww := h.wf.grow
    have hwf := WF.make (fr := []) (i := (cl.length : Int)) hww ⟨ow, x, y, vals, kids, 1⟩ rfl (hkn _ (by simp)) hct
    rw [Int.toNat_natCast] at hwf
    have hcl : (cl ++ [nobC]).set cl.length ⟨ow, x, y, vals, kids, 1⟩ = cl ++ [⟨ow, x, y, vals, kids, 1⟩] := by
      rw [List.set_append_right _ _ (Nat.le_refl _), Nat.sub_self]; rfl
    have hsl : ∀ t : Slot, (sl ++ [nob]).set sl.length t = sl ++ [t] := by
      intro t
      rw [List.set_append_right _ _ (Nat.le_refl _), Nat.sub_self]; rfl
    rw [hcl] at hwf
    rw [hsl] at hr
    have hin : ∀ (i : Nat) (s : Slot) (c : Cell), (sl ++ [⟨ow, x, y, v', k', 1⟩])[i]? = some s → (cl ++ [⟨ow, x, y, vals, kids, 1⟩])[i]? = some c → (i < cl.length ∧ sl[i]? = some s ∧ cl[i]? = some c) ∨ (s = ⟨ow, x, y, v', k', 1⟩ ∧ c = ⟨ow, x, y, vals, kids, 1⟩) := by
      intro i s c hs hc
      by_cases e : i < cl.length
      · rw [List.getElem?_append_left (by omega)] at hs hc
        exact .inl ⟨e, hs, hc⟩
      · have hi := (List.getElem?_eq_some_iff.1 hc).1
        simp at hi
        obtain rfl : i = cl.length := by omega
        rw [List.getElem?_append_right (by omega)] at hs hc
        rw [h7, Nat.sub_self] at hs
        rw [Nat.sub_self] at hc
        exact .inr ⟨(Option.some.inj hs).symm, (Option.some.inj hc).symm⟩
    refine ⟨sl.length, fun j => O j ∨ (w.heap.size ≤ j ∧ j < w'.heap.size), cl ++ [⟨ow, x, y, vals, kids, 1⟩], [], rfl, ⟨⟨⟨base, gs', cs', vf', _, fun j => V j ∨ (w.heap.size ≤ j ∧ j < w'.heap.size ∧ j ≠ gs' ∧ vf'.ownBlock ≠ some j), hr, .inl h2, ?_, ?_, ?_, ?_, by simp [h7], ?_⟩, ?_⟩, by rw [h7]; exact hwf, ?_, h.m0, h.m1, by omega, ?_, heb _, ?_⟩, by omega, .inl ⟨rfl, h7, rfl, rfl⟩, fun j hj => hj.imp id And.left, hFO⟩
    · rcases hgs with e | e
      · rw [e]; exact .inl h3
      · exact .inr ⟨e, own_lt hr.row gs' rfl⟩
    · intro j hj
      rcases hvf j hj with e | e
      · exact .inl (h4 j e)
      · exact .inr ⟨e, own_lt hr.free j hj⟩
    · intro j hj
      rcases hj with hj | hj
      · exact .inl (h5 j hj)
      · exact .inr ⟨hj.1, hj.2.1⟩
    · intro j hj
      rcases hj with hj | hj
      · obtain ⟨g1, g2, g3⟩ := h6 j hj
        have hjl := h.mem.ol j (h5 j hj)
        refine ⟨g1, fun e => ?_, fun e => ?_⟩
        · rcases hgs with q | q
          · exact g2 (e.trans q)
          · omega
        · rcases hvf j e with q | q
          · exact g3 q
          · omega
      · have := h.mem.ol a h2
        exact ⟨by omega, hj.2.2.1, hj.2.2.2⟩
    · intro i s c hs hc
      rcases hin i s c hs hc with ⟨_, hs, hc⟩ | ⟨rfl, rfl⟩
      · exact ((h8 i s c hs hc).fr hF (fun j hj e => by
          obtain ⟨g1, g2, g3⟩ := h6 j hj
          rcases e with e | e | e
          · exact g1 e
          · exact g2 e
          · exact g3 e)).mono (fun j hj => .inl hj)
      · exact ⟨rfl, rfl, rfl, rfl, row_lt hv' (fun j hj hjl => .inr ⟨hj.1, hjl, hj.2⟩), row_lt hk' (fun j hj hjl => .inr ⟨hj.1, hjl, hj.2⟩)⟩
    · intro j hj
      rcases hj with hj | hj
      · exact Nat.lt_of_lt_of_le (h.mem.ol j hj) hFO.size
      · exact hj.2
    · simp only [List.length_append, List.length_nil, List.length_singleton]
      simp only [List.length_nil] at hcnt
      omega
    · intro i c hc hp
      by_cases e : i < cl.length
      · rw [List.getElem?_append_left e] at hc
        exact h.kb i c hc hp
      · rw [List.getElem?_append_right (by omega)] at hc
        have hi := (List.getElem?_eq_some_iff.1 hc).1
        simp at hi
        rw [show i - cl.length = 0 by omega] at hc
        obtain rfl : (⟨ow, x, y, vals, kids, 1⟩ : Cell) = c := Option.some.inj hc
        exact ⟨hkl, hvl⟩
    · simp only [List.length_append, List.length_singleton]
      simp only [List.length_nil] at hcnt
      omega
  · rw [List.concat_eq_append] at h1 h ⊢
    have hfd := h.wf.fd i (by simp)
    obtain ⟨n, rfl⟩ : ∃ n : Nat, i = n := ⟨i.toNat, by omega⟩
    have hnl : n < sl.length := by omega
    have hcntl : (fr'.concat (n : Int)).length = fr'.length + 1 := by simp
    rw [hcntl] at hcnt
    refine (make_at ow x y v k vals kids fr' n sl[n] w h1 (by omega) (List.getElem?_eq_getElem hnl) hv hk (by omega) (by omega) hbA hl0 hlm hm1 (by omega) (fun j hj e => hQ j hj (e ▸ h2))).mono ?_
    rintro e w' ⟨v', k', vf', rfl, hr, hvf, hv', hk', hF⟩
    have hFO : Fr O w w' := hF.mono (fun j hj => .inl (by
      rcases hj with e | e
      · rw [e]; exact h2
      · rw [e]; exact h3))
    have hwf := WF.make (i := (n : Int)) h.wf ⟨ow, x, y, vals, kids, 1⟩ rfl (hkn _ (Nat.le_refl _)) hct
    rw [Int.toNat_natCast] at hwf
    have hga := h.mem.ol a h2
    have hgg := h.mem.ol gs h3
    refine ⟨n, fun j => O j ∨ (w.heap.size ≤ j ∧ j < w'.heap.size), cl.set n ⟨ow, x, y, vals, kids, 1⟩, fr', rfl, ⟨⟨⟨base, gs, cs, vf', _, fun j => V j ∨ (w.heap.size ≤ j ∧ j < w'.heap.size), hr, .inl h2, .inl h3, fun j hj => .inl (h4 j (hvf ▸ hj)), fun j hj => hj.imp (h5 j) id, ?_, by rw [List.length_set, List.length_set]; exact h7, ?_⟩, ?_⟩, hwf, by rw [List.length_set]; omega, h.m0, h.m1, by omega, ?_, heb _, by rw [List.length_set]; exact hl⟩, by omega, .inr ⟨rfl, by omega, rfl⟩, fun j hj => hj.imp id And.left, hFO⟩
    · intro j hj
      rw [hvf]
      rcases hj with hj | hj
      · exact h6 j hj
      · exact ⟨by omega, by omega, fun e => by have := h.mem.ol j (h4 j e); omega⟩
    · intro i s c hs hc
      by_cases e : i = n
      · subst e
        rw [List.getElem?_set_self (by omega)] at hs hc
        cases hs
        cases hc
        exact ⟨rfl, rfl, rfl, rfl, row_lt hv' (fun j hj hjl => .inr ⟨hj, hjl⟩), row_lt hk' (fun j hj hjl => .inr ⟨hj, hjl⟩)⟩
      · rw [List.getElem?_set_ne (fun h => e h.symm)] at hs hc
        exact ((h8 i s c hs hc).fr hF (fun j hj e => by
          obtain ⟨g1, g2, g3⟩ := h6 j hj
          rcases e with e | e
          · exact g1 e
          · exact g2 e)).mono (fun j hj => .inl hj)
    · intro j hj
      rcases hj with hj | hj
      · exact Nat.lt_of_lt_of_le (h.mem.ol j hj) hFO.size
      · exact hj.2
    · intro i c hc hp
      by_cases e : i = n
      · subst e
        rw [List.getElem?_set_self (by omega)] at hc
        cases hc
        exact ⟨hkl, hvl⟩
      · rw [List.getElem?_set_ne (fun h => e h.symm)] at hc
        exact h.kb i c hc hp
end
end Go.Proofs.Ytnipbfhfaefieaa.Arn
/-! arena: Edit, as a contract over cells. -/
namespace Go.Proofs.Ytnipbfhfaefieaa.Arn
open Go.RowKit Go Go.Proofs.YtnipbfhfaefieaaW.PrintWords Go.Proofs.YtnipbfhfaefieaaW.PrintMore Go.Proofs.YtnipbfhfaefieaaW.PrintLast Go.Proofs.Ytnipbfhfaefieaa.Bts Go.Proofs.Ytnipbfhfaefieaa.Fra Go.Proofs.Ytnipbfhfaefieaa.ArnP
section
variable {W W' : World} {O S Q : Nat → Prop} {a : Nat} {cl : List Cell} {fr : List Int} {live most : Int} {ext : Nat → Nat}
theorem editn_AR (i o ow x y : Int) (v k : Value) (w : World) (h : AR w O a cl fr live most ext) (hi : isC cl i = false) (hv : ∃ A n c, v = .slice A n c) (hk : ∃ A n c, k = .slice A n c) :
    Calls Try.prog 28 #[.pointer (some ⟨a, 0, none⟩), .int .i64 i, .int .u32 o, cellV ow x y v k] w fun e w' => e = .returned (.int .i64 4) ∧ Below w.heap.size w w' := by
  obtain ⟨base, gs, cs, vf, sl, V, h1, h2, h3, h4, h5, h6, h7, h8⟩ := h.mem.m
  have := h.lc
  exact edit_none i o ow x y v k w h1 (by omega) (by rw [isB_isC h7 h8]; exact hi) hv hk
theorem edits_AR (k : Nat) (c : Cell) (o ow x y : Int) (v kk : Value) (w : World) (h : AR w O a cl fr live most ext) (hk0 : 0 < k) (hc : cl[k]? = some c) (hr : 0 < c.r) (hv : ∃ A n c, v = .slice A n c) (hk : ∃ A n c, kk = .slice A n c) (hbad : o = 0 ∨ c.ow ≠ o ∨ 1 < c.r) :
    Calls Try.prog 28 #[.pointer (some ⟨a, 0, none⟩), .int .i64 k, .int .u32 o, cellV ow x y v kk] w fun e w' => e = .returned (.int .i64 14) ∧ Below w.heap.size w w' := by
  obtain ⟨base, gs, cs, vf, sl, V, h1, h2, h3, h4, h5, h6, h7, h8⟩ := h.mem.m
  have := h.lc
  have hkl : k < cl.length := (List.getElem?_eq_some_iff.1 hc).1
  obtain ⟨s, hs⟩ : ∃ s, sl[k]? = some s := ⟨sl[k]'(by omega), List.getElem?_eq_getElem _⟩
  have hci := h8 k s c hs hc
  exact edit_state k o ow x y v kk s w h1 (by omega) hs hk0 (by rw [hci.r]; exact hr) hv hk (by rw [hci.ow, hci.r]; exact hbad)
theorem edita_AR (k : Nat) (c : Cell) (o ow x y : Int) (v kk : Value) (kids : List Int) (w : World) (h : AR w O a cl fr live most ext) (hk0 : 0 < k) (hc : cl[k]? = some c) (hr : c.r = 1) (hv : ∃ A n c, v = .slice A n c) (hk : RowIn (Kd.int .i64) w Q kk kids) (hl : kids.length ≤ 1000000000) (hb : badC cl kids = true) (ho : o ≠ 0) (hco : c.ow = o) :
    Calls Try.prog 28 #[.pointer (some ⟨a, 0, none⟩), .int .i64 k, .int .u32 o, cellV ow x y v kk] w fun e w' => e = .returned (.int .i64 1) ∧ Below w.heap.size w w' := by
  obtain ⟨base, gs, cs, vf, sl, V, h1, h2, h3, h4, h5, h6, h7, h8⟩ := h.mem.m
  have := h.lc
  have hkl : k < cl.length := (List.getElem?_eq_some_iff.1 hc).1
  obtain ⟨s, hs⟩ : ∃ s, sl[k]? = some s := ⟨sl[k]'(by omega), List.getElem?_eq_getElem _⟩
  have hci := h8 k s c hs hc
  exact edit_arg k o ow x y v kk kids s w h1 (by omega) hs hk0 (by rw [hci.r]; exact hr) hv hk hl (by rw [badAt_badC (isB_isC h7 h8)]; exact hb) ho (by rw [hci.ow]; exact hco)
theorem edit_AR (k : Nat) (c : Cell) (o ow x y : Int) (v kk : Value) (vals : List (Int × Int × ByteArray)) (kids : List Int) (w : World) (h : AR w O a cl fr live most ext) (hk0 : 0 < k) (hc : cl[k]? = some c) (hr : c.r = 1) (hv : RowIn kVal w Q v vals) (hk : RowIn (Kd.int .i64) w Q kk kids)
    (hb : badC cl kids = false) (ho : o ≠ 0) (hco : c.ow = o) (hkl : kids.length ≤ 1000) (hvl : vals.length ≤ 1000000000) (hct : ∀ x, 0 < x → (kidsOf kids).count x ≤ ext x + (kidsOf c.kids).count x) (heb : ∀ i, ext i ≤ 99999990000) :
    Calls Try.prog 28 #[.pointer (some ⟨a, 0, none⟩), .int .i64 k, .int .u32 o, cellV ow x y v kk] w fun e w' => e = .returned (.int .i64 0) ∧ ∃ O', AR w' O' a (cl.set k ⟨o, x, y, vals, kids, 1⟩) fr live most (fun x => ext x + (kidsOf c.kids).count x - (kidsOf kids).count x) ∧ (∀ j, O' j → O j ∨ w.heap.size ≤ j) ∧ Fr O w w' := by
  obtain ⟨base, gs, cs, vf, sl, V, h1, h2, h3, h4, h5, h6, h7, h8⟩ := h.mem.m
  have hl := h.lc
  have hkll : k < cl.length := (List.getElem?_eq_some_iff.1 hc).1
  obtain ⟨s, hs⟩ : ∃ s, sl[k]? = some s := ⟨sl[k]'(by omega), List.getElem?_eq_getElem _⟩
  have hci := h8 k s c hs hc
  have hck := (h.kb k c hc (by omega)).1
  refine (edit_ok k o ow x y v kk vals kids s w h1 (by omega) hs hk0 (by rw [hci.r]; exact hr) hv hk (by omega) (by omega) (by rw [badAt_badC (isB_isC h7 h8)]; exact hb) ho (by rw [hci.ow]; exact hco)).mono ?_
  rintro e w' ⟨rfl, v', k', hraw, hv', hk', hF⟩
  have hFO : Fr O w w' := hF.mono (fun j hj => .inl (by rw [hj]; exact h3))
  have hga := h.mem.ol a h2
  have hgg := h.mem.ol gs h3
  have hwf := h.wf.edit (c' := ⟨o, x, y, vals, kids, 1⟩) hc (by omega) hr.symm (fun z hz => by
    have hz0 : 0 < cl.length := by omega
    rcases badC_inv hb z hz with q | q
    · exact q
    · omega) hct
  refine ⟨rfl, fun j => O j ∨ (w.heap.size ≤ j ∧ j < w'.heap.size), ⟨⟨⟨base, gs, cs, vf, _, fun j => V j ∨ (w.heap.size ≤ j ∧ j < w'.heap.size), hraw, .inl h2, .inl h3, fun j hj => .inl (h4 j hj), fun j hj => hj.imp (h5 j) id, ?_, by rw [List.length_set, List.length_set]; exact h7, ?_⟩, ?_⟩, hwf, by rw [List.length_set]; exact h.cnt, h.m0, h.m1, h.lm, ?_, ?_, by rw [List.length_set]; exact hl⟩, fun j hj => hj.imp id And.left, hFO⟩
  · intro j hj
    rcases hj with hj | hj
    · exact h6 j hj
    · exact ⟨by omega, by omega, fun e => by have := h.mem.ol j (h4 j e); omega⟩
  · intro i s2 c2 hs2 hc2
    by_cases e : i = k
    · subst e
      rw [List.getElem?_set_self (by omega)] at hs2 hc2
      cases hs2
      cases hc2
      exact ⟨rfl, rfl, rfl, rfl, row_lt hv' (fun j hj hjl => .inr ⟨hj, hjl⟩), row_lt hk' (fun j hj hjl => .inr ⟨hj, hjl⟩)⟩
    · rw [List.getElem?_set_ne (fun h => e h.symm)] at hs2 hc2
      exact ((h8 i s2 c2 hs2 hc2).fr hF (fun j hj e => (h6 j hj).2.1 e)).mono (fun j hj => .inl hj)
  · intro j hj
    rcases hj with hj | hj
    · exact Nat.lt_of_lt_of_le (h.mem.ol j hj) hFO.size
    · exact hj.2
  · intro i c2 hc2 hp
    rcases at_set hc hc2 with ⟨rfl, rfl⟩ | ⟨_, hc2⟩
    · exact ⟨hkl, hvl⟩
    · exact h.kb i c2 hc2 hp
  · intro i
    have h1 := heb i
    have h2 : (kidsOf c.kids).count i ≤ 1000 := Nat.le_trans (List.count_le_length ..) (Nat.le_trans (kidsOf_len _) hck)
    omega
end
end Go.Proofs.Ytnipbfhfaefieaa.Arn
/-! arena: the chapter's example. -/
namespace Go.Proofs.Ytnipbfhfaefieaa.Arn
open Go.RowKit Go Go.Proofs.YtnipbfhfaefieaaW.PrintWords Go.Proofs.YtnipbfhfaefieaaW.PrintMore Go.Proofs.YtnipbfhfaefieaaW.PrintLast Go.Proofs.Ytnipbfhfaefieaa.Bts Go.Proofs.Ytnipbfhfaefieaa.Fra Go.Proofs.Ytnipbfhfaefieaa.ArnP
section
variable {W W' : World} {O S Q : Nat → Prop} {a : Nat} {cl cl' : List Cell} {fr : List Int} {live most : Int} {ext : Nat → Nat}
/-- Where no live cell holds another, each is held by callers alone. -/
theorem AR.alone (h : AR W O a cl fr live most ext) (hk : ∀ (i : Nat) (c : Cell), cl[i]? = some c → 0 < c.r → kidsOf c.kids = []) (i : Nat) (c : Cell) (h0 : 0 < i) (hc : cl[i]? = some c) : c.r = ext i := by
  have hi : i < cl.length := (List.getElem?_eq_some_iff.1 hc).1
  have h1 := h.wf.acc i hi h0
  have h2 : held (gOf cl) cl.length i = 0 := sm_zero _ (fun y hy => by
    obtain ⟨d, hd⟩ : ∃ d, cl[y]? = some d := ⟨cl[y], List.getElem?_eq_getElem hy⟩
    rw [gOf_refs hd, gOf_kids hd]
    split
    · rw [hk y d hd (by omega)]; rfl
    · rfl)
  have h3 := h.wf.rn i c hc
  rw [gOf_refs hc, h2] at h1
  simp only [List.count_nil] at h1
  omega
theorem liveN_zero (h : ∀ (i : Nat) (c : Cell), cl[i]? = some c → ¬ 0 < c.r) : liveN cl = 0 := by
  unfold liveN
  rw [List.countP_eq_zero]
  intro c hc
  obtain ⟨i, hi, rfl⟩ := List.getElem_of_mem hc
  have := h i _ (List.getElem?_eq_getElem hi)
  simpa using this
theorem row_none {α : Type} (d : Kd α) (w : World) (O : Nat → Prop) : RowIn d w O (.slice none 0 0) [] := ⟨none, 0, rfl, Nat.le_refl _, fun _ => rfl, ⟨rfl, by simp, fun h => absurd h (by simp)⟩, fun ad h => by cases h⟩
/-- Make, where no number is free. -/
theorem make_AR0 (ow x y : Int) (v k : Value) (vals : List (Int × Int × ByteArray)) (kids : List Int) (w : World) (h : AR w O a cl [] live most ext) (hv : RowIn kVal w Q v vals) (hk : RowIn (Kd.int .i64) w Q k kids) (hQ : ∀ j, Q j → ¬ O j) (hb : badC cl kids = false) (hlm : live < most) (hkl : kids.length ≤ 1000) (hvl : vals.length ≤ 1000000000) (hct : ∀ x, 0 < x → (kidsOf kids).count x ≤ ext x) :
    Calls Try.prog 21 #[.pointer (some ⟨a, 0, none⟩), cellV ow x y v k] w fun e w' => ∃ O' : Nat → Prop, e = .returned (.tuple #[.int .i64 cl.length, .int .i64 0]) ∧ AR w' O' a (cl ++ [⟨ow, x, y, vals, kids, 1⟩]) [] (live + 1) most (fun x => if x = cl.length then 1 else ext x - (kidsOf kids).count x) ∧ (∀ j, O' j → O j ∨ w.heap.size ≤ j) ∧ Fr O w w' := by
  refine (make_AR ow x y v k vals kids w h hv hk hQ hb hlm hkl hvl hct).mono ?_
  rintro e w' ⟨i, O', cl', fr', he, h1, h2, h3, h4, h5⟩
  rcases h3 with ⟨_, rfl, rfl, rfl⟩ | ⟨h3, _⟩
  · exact ⟨O', he, h1, h4, h5⟩
  · simp at h3
theorem AR.no (h : AR W O a cl fr live most ext) : ¬ O W.heap.size := fun e => Nat.lt_irrefl _ (h.mem.ol _ e)
end
section
variable {O : Nat → Prop} {a : Nat} {cl : List Cell} {fr : List Int} {live most : Int} {ext : Nat → Nat}
theorem refs_AR1 (k : Nat) (c : Cell) (w : World) (h : AR w O a cl fr live most ext) (hk : 0 < k) (hc : cl[k]? = some c) (hr : 0 < c.r) : Calls Try.prog 26 #[.pointer (some ⟨a, 0, none⟩), .int .i64 k] w fun e w' => e = .returned (.int .i64 c.r) ∧ Below w.heap.size w w' := by
  have := refs_AR (k : Int) w h
  rwa [isC_at hc hk, decide_eq_true hr, if_pos rfl, Int.toNat_natCast, getD_at hc] at this
end
theorem bel_fr {w w0 w1 : World} {O : Nat → Prop} (hb : Below w.heap.size w w0) (hf : Fr O w0 w1) (ho : ∀ j, O j → w.heap.size ≤ j) : Below w.heap.size w w1 := hb.trans (hf.below ho hb.size)
theorem bel_own {w w0 : World} {O O' : Nat → Prop} (hb : Below w.heap.size w w0) (ho : ∀ j, O j → w.heap.size ≤ j) (hn : ∀ j, O' j → O j ∨ w0.heap.size ≤ j) : ∀ j, O' j → w.heap.size ≤ j := fun j hj => (hn j hj).elim (ho j) (fun e => Nat.le_trans hb.size e)
abbrev c7 (r : Int) : Cell := ⟨0, 7, 0, [], [], r⟩
theorem c7_kids (cl : List Cell) (hl : Left [nobC, c7 2] cl) : ∀ (i : Nat) (c : Cell), cl[i]? = some c → 0 < c.r → kidsOf c.kids = [] := by
  intro i c hc hr
  obtain ⟨d, h1, h2, _⟩ := hl.at_ i c hc hr
  rw [h2]
  match i, h1 with
  | 0, h1 => obtain rfl : nobC = d := by simpa using h1
             rfl
  | 1, h1 => obtain rfl : c7 2 = d := by simpa using h1
             rfl
  | i + 2, h1 => simp at h1
theorem left_trans {a b c : List Cell} (h : Left a b) (k : Left b c) : Left a c := ⟨k.len.trans h.len, fun i x hx hr => by
  obtain ⟨y, h1, h2, h3⟩ := k.at_ i x hx hr
  obtain ⟨z, g1, g2, g3⟩ := h.at_ i y h1 (by omega)
  refine ⟨z, g1, ?_, Int.le_trans h3 g3⟩
  rw [h2, g2]⟩
/-- Behind the first Drop. -/
theorem c7_at {W : World} {O : Nat → Prop} {a : Nat} {cl' : List Cell} {fr : List Int} {live most : Int} {ext : Nat → Nat} (h : AR W O a cl' fr live most (fun x => if x = 1 then ext x - 1 else ext x)) (hl : Left [nobC, c7 2] cl') (he : ext 1 = 2) : cl'[1]? = some (c7 1) := by
  have hlen : cl'.length = 2 := hl.len
  have hc : cl'[1]? = some cl'[1] := List.getElem?_eq_getElem (by omega)
  have hr := h.alone (c7_kids cl' hl) 1 _ (by decide) hc
  rw [if_pos rfl, he] at hr
  obtain ⟨d, h1, h2, _⟩ := hl.at_ 1 _ hc (by rw [hr]; decide)
  obtain rfl : c7 2 = d := by simpa using h1
  rw [hc, h2, hr]
  rfl
/-- Behind the last Drop. -/
theorem c7_end {W : World} {O : Nat → Prop} {a : Nat} {cl' : List Cell} {fr : List Int} {live most : Int} {ext : Nat → Nat} (h : AR W O a cl' fr live most ext) (hl : Left [nobC, c7 2] cl') (he : ext 1 = 0) : live = 0 ∧ isC cl' 1 = false := by
  have hlen : cl'.length = 2 := hl.len
  have hr : ∀ (i : Nat) (c : Cell), cl'[i]? = some c → c.r = 0 := by
    intro i c hc
    have hi := (List.getElem?_eq_some_iff.1 hc).1
    by_cases i0 : 0 < i
    · have := h.alone (c7_kids cl' hl) i c i0 hc
      rw [show i = 1 by omega, he] at this
      exact this
    · rw [show i = 0 by omega, h.wf.z] at hc
      cases hc
      rfl
  constructor
  · rw [h.wf.lv, liveN_zero (fun i c hc hp => by rw [hr i c hc] at hp; exact absurd hp (by decide))]
    rfl
  · cases hq : isC cl' 1
    · rfl
    · obtain ⟨k, c, _, _, e3, e4⟩ := isC_inv hq
      rw [hr k c e3] at e4
      exact absurd e4 (by decide)
set_option maxHeartbeats 4000000 in
set_option maxRecDepth 100000 in
theorem lives_calls (w : World) : Calls Try.prog 19 #[] w fun e w' => e = .returned (.bool true) ∧ Below w.heap.size w w' := by
  go_enter Try.func19, Try.ntmps19
  go_wp2_with (first
    | (go_at_call 25; go_loud (refine (room_AR _ (H6.out.below (by repeat (first | (with_reducible first | exact HC6.out | apply below_alloc | apply pw_below_drewN | apply below_drew1) | exact HC6.out)))).mono ?_; rintro e w9 ⟨rfl, hb9⟩; have HB9 := Lib.hid (below_step (by repeat (first | (with_reducible first | exact HC6.out | apply below_alloc | apply pw_below_drewN | apply below_drew1) | exact HC6.out)) hb9); clear hb9))
    | (go_at_call 22; go_loud (refine (live_AR _ (H6.out.below (by repeat (first | (with_reducible first | exact HC6.out | apply below_alloc | apply pw_below_drewN | apply below_drew1) | exact HC6.out)))).mono ?_; rintro e w8 ⟨rfl, rfl⟩))
    | (go_at_call 24; go_loud (refine (getn_AR 1 _ H6.out hdead).mono ?_; rintro e w7 ⟨rfl, hb7⟩; have hc7 := blk_below HX6.out hb7; have x1 : (w7.alloc zeroBlk).cell? ⟨w4.heap.size, 1, none⟩ = some (.int .u32 7) := pw_cell_below (below_alloc (Below.refl _ _) _) (blk_cell hc7 1); have HC6 := Lib.hid hb7; clear hb7 hc7))
    | (go_at_call 23; go_loud (refine (drop_AR 1 _ H5.out (by decide) (by decide)).mono ?_; rintro e w6 ⟨rfl, O6, cl6, fr6, live6, h6, hl6, ho6, hF6⟩; obtain ⟨hz6, hdead⟩ := c7_end h6 (left_trans HL3.out hl6) rfl; subst hz6; have HX6 := Lib.hid (hF6.blk HX5.out hz4); have H6 := Lib.hid h6; have HB6 := Lib.hid (bel_fr HB5.out hF6 HO3.out); clear h6 hF6 hl6))
    | (go_at_call 26; go_loud (refine (refs_AR1 1 (c7 1) _ (H4.out.below (below_alloc (Below.refl _ _) _)) (by decide) HC3.out (by decide)).mono ?_; rintro e w5 ⟨rfl, hb5⟩; have hz4 := H4.out.no; have HX5 := Lib.hid (blk_below (blk_new w4 (.cells #[.int .u32 0, .int .u32 7, .int .u32 0, .slice A4 0 a4, .slice A5 0 a5] 43)) hb5); have H5 := Lib.hid ((H4.out.below (below_alloc (Below.refl _ _) _)).below hb5); have HB5 := Lib.hid (below_step (below_step HB4.out (below_alloc (Below.refl _ _) _)) hb5); clear hb5))
    | (go_at_call 24; go_loud (refine (get_AR 1 (c7 1) _ H3.out (by decide) HC3.out (by decide)).mono ?_; rintro e w4 ⟨v4, k4, rfl, hv4, hk4, hb4⟩; obtain ⟨A4, a4, e4, _⟩ := id hv4; subst e4; obtain ⟨A5, a5, e5, _⟩ := id hk4; subst e5; have H4 := Lib.hid (H3.out.below hb4); have HB4 := Lib.hid (below_step HB3.out hb4); clear hb4 hv4 hk4))
    | (go_at_call 23; go_loud (refine (drop_AR 1 _ H2.out (by decide) (by decide)).mono ?_; rintro e w3 ⟨rfl, O3, cl3, fr3, live3, h3, hl3, ho3, hF3⟩; have hc3 := c7_at h3 hl3 rfl; have hHB3 := bel_fr HB2.out hF3 HO1.out; have HO3 := Lib.hid (bel_own HB2.out HO1.out ho3); have HC3 := Lib.hid hc3; have HL3 := Lib.hid hl3; have H3 := Lib.hid h3; have HB3 := Lib.hid hHB3; clear hc3 hl3 h3 hF3 ho3 hHB3))
    | (go_at_call 27; go_loud (refine (keep_AR 1 (c7 1) _ H1.out (by decide) rfl (by decide) (by decide)).mono ?_; rintro e w2 ⟨rfl, h2, hF2⟩; have HB2 := Lib.hid (bel_fr HB1.out hF2 HO1.out); have H2 := Lib.hid h2; clear h2 hF2))
    | (go_at_call 21; go_loud (refine (make_AR0 (Q := fun _ => False) 0 7 0 (.slice none 0 0) (.slice none 0 0) [] [] _ H0.out (row_none _ _ _) (row_none _ _ _) (fun _ h => h.elim) rfl (by decide) (by decide) (by decide) (fun _ _ => Nat.zero_le _)).mono ?_; rintro e w1 ⟨O1, rfl, h1, ho1, hF1⟩; have HB1 := Lib.hid (bel_fr HB0.out hF1 HO0.out); have HO1 := Lib.hid (bel_own HB0.out HO0.out ho1); have H1 := Lib.hid h1; clear h1 hF1 ho1))
    | (go_at_call 20; go_loud (refine (new_AR 2 _ (by decide) (by decide)).mono ?_; rintro e w0 ⟨a, O0, rfl, h0, ho0, hb0⟩; have H0 := Lib.hid h0; have HO0 := Lib.hid ho0; have HB0 := Lib.hid hb0; clear h0 ho0 hb0)))
  go_ret
  exact ⟨rfl, below_step HB6.out HB9.out⟩
end Go.Proofs.Ytnipbfhfaefieaa.Arn
/-! arena, with open cells: live cells that their caller alone holds, and whose holds on others are the caller's meanwhile. -/
namespace Go.Proofs.Ytnipbfhfaefieaa.Ao
open Go.RowKit Go Go.Proofs.YtnipbfhfaefieaaW.PrintWords Go.Proofs.YtnipbfhfaefieaaW.PrintMore Go.Proofs.YtnipbfhfaefieaaW.PrintLast Go.Proofs.Ytnipbfhfaefieaa.Bts Go.Proofs.Ytnipbfhfaefieaa.Fra Go.Proofs.Ytnipbfhfaefieaa.ArnP Go.Proofs.Ytnipbfhfaefieaa.Arn
/-- A cell as the accounts see it: an open one holds nobody. -/
def opn (op : Nat → Bool) (i : Nat) (c : Cell) : Cell := if op i then {c with kids := []} else c
def mask (op : Nat → Bool) (cl : List Cell) : List Cell := cl.mapIdx (opn op)
theorem opn_r (op : Nat → Bool) (i : Nat) (c : Cell) : (opn op i c).r = c.r := by unfold opn; split <;> rfl
theorem opn_no {op : Nat → Bool} {i : Nat} (h : op i = false) (c : Cell) : opn op i c = c := by unfold opn; rw [h]; rfl
theorem mask_len (op : Nat → Bool) (cl : List Cell) : (mask op cl).length = cl.length := by simp [mask]
theorem mask_get (op : Nat → Bool) (cl : List Cell) (i : Nat) : (mask op cl)[i]? = (cl[i]?).map (opn op i) := by simp [mask]
theorem mask_at {op : Nat → Bool} {cl : List Cell} {i : Nat} {c : Cell} (h : cl[i]? = some c) : (mask op cl)[i]? = some (opn op i c) := by rw [mask_get, h]; rfl
theorem mask_inv {op : Nat → Bool} {cl : List Cell} {i : Nat} {c : Cell} (h : (mask op cl)[i]? = some c) : ∃ d, cl[i]? = some d ∧ c = opn op i d := by
  rw [mask_get] at h
  obtain ⟨d, h1, h2⟩ := Option.map_eq_some_iff.1 h
  exact ⟨d, h1, h2.symm⟩
theorem mask_set (op : Nat → Bool) (cl : List Cell) (i : Nat) (c : Cell) : mask op (cl.set i c) = (mask op cl).set i (opn op i c) := by
  apply List.ext_getElem?
  intro j
  rw [mask_get]
  by_cases e : i = j
  · subst e
    by_cases h : i < cl.length
    · rw [List.getElem?_set_self h, List.getElem?_set_self (by rw [mask_len]; exact h)]; rfl
    · rw [List.getElem?_eq_none (by simp; omega), List.getElem?_eq_none (by simp [mask_len]; omega)]; rfl
  · rw [List.getElem?_set_ne e, List.getElem?_set_ne e, mask_get]
theorem mask_app (op : Nat → Bool) (cl : List Cell) (c : Cell) : mask op (cl ++ [c]) = mask op cl ++ [opn op cl.length c] := by
  apply List.ext_getElem?
  intro j
  rw [mask_get]
  by_cases e : j < cl.length
  · rw [List.getElem?_append_left e, List.getElem?_append_left (by rw [mask_len]; exact e), mask_get]
  · by_cases e2 : j = cl.length
    · subst e2
      rw [List.getElem?_append_right (Nat.le_refl _), List.getElem?_append_right (by rw [mask_len]; exact Nat.le_refl _), mask_len, Nat.sub_self]; rfl
    · rw [List.getElem?_eq_none (by simp; omega), List.getElem?_eq_none (by simp [mask_len]; omega)]; rfl
theorem mask_none (cl : List Cell) : mask (fun _ => false) cl = cl := by
  apply List.ext_getElem?
  intro j
  rw [mask_get]
  cases cl[j]? <;> rfl
/-- Cells by their numbers. -/
def fn (cl : List Cell) : Nat → Cell := fun i => cl.getD i nobC
theorem fn_at {cl : List Cell} {i : Nat} {c : Cell} (h : cl[i]? = some c) : fn cl i = c := getD_at h
def upd (f : Nat → Cell) (k : Nat) (c : Cell) : Nat → Cell := fun i => if i = k then c else f i
theorem fn_set {cl : List Cell} {k : Nat} (h : k < cl.length) (c : Cell) : fn (cl.set k c) = upd (fn cl) k c := by
  funext i
  show (cl.set k c).getD i nobC = _
  rw [getD_set c h]; rfl
theorem fn_app (cl : List Cell) (c : Cell) : fn (cl ++ [c]) = upd (fn cl) cl.length c := by
  funext i
  show (cl ++ [c]).getD i nobC = if i = cl.length then c else cl.getD i nobC
  unfold List.getD
  by_cases e : i < cl.length
  · rw [List.getElem?_append_left e, if_neg (by omega)]
  · by_cases e2 : i = cl.length
    · subst e2; rw [List.getElem?_append_right (Nat.le_refl _), Nat.sub_self, if_pos rfl]; rfl
    · rw [if_neg e2, List.getElem?_eq_none (by simp; omega), List.getElem?_eq_none (by omega)]
theorem fn_live {cl : List Cell} {i : Nat} (h : 0 < (fn cl i).r) : cl[i]? = some (fn cl i) := by
  unfold fn List.getD at h ⊢
  cases hc : cl[i]? with
  | none => rw [hc] at h; exact absurd h (by decide)
  | some c => rfl
/-- Nobody holds himself, on whatever way: who is held lies lower. -/
def Acy (f : Nat → Cell) (op : Nat → Bool) : Prop := ∃ rank : Nat → Nat, ∀ i, 0 < (f i).r → op i = false → ∀ x ∈ kidsOf (f i).kids, rank x < rank i
theorem Acy.mono {f g : Nat → Cell} {op op' : Nat → Bool} (h : Acy f op) (hg : ∀ i, 0 < (g i).r → op' i = false → 0 < (f i).r ∧ op i = false ∧ (g i).kids = (f i).kids) : Acy g op' := by
  obtain ⟨rank, hr⟩ := h
  refine ⟨rank, fun i h1 h2 x hx => ?_⟩
  obtain ⟨q1, q2, q3⟩ := hg i h1 h2
  exact hr i q1 q2 x (q3 ▸ hx)
theorem le_sum_map (g : Nat → Nat) : ∀ (l : List Nat) (x : Nat), x ∈ l → g x ≤ (l.map g).sum
  | [], x, h => by cases h
  | y :: l, x, h => by
    simp only [List.map_cons, List.sum_cons]
    rcases List.mem_cons.1 h with rfl | h
    · omega
    · have := le_sum_map g l x h; omega
theorem Acy.upd {f : Nat → Cell} {op op' : Nat → Bool} (h : Acy f op) (k : Nat) (c : Cell) (hno : ∀ i, i ≠ k → 0 < (f i).r → op' i = false → op i = false ∧ k ∉ kidsOf (f i).kids) (hck : k ∉ kidsOf c.kids) : Acy (upd f k c) op' := by
  obtain ⟨rank, hr⟩ := h
  refine ⟨fun x => if x = k then ((kidsOf c.kids).map rank).sum + 1 else rank x, fun i h1 h2 x hx => ?_⟩
  by_cases e : i = k
  · subst e
    have hx2 : x ∈ kidsOf c.kids := by
      have e1 : _root_.Go.Proofs.Ytnipbfhfaefieaa.Ao.upd f i c i = c := if_pos rfl
      rwa [e1] at hx
    have hne : x ≠ i := fun q => hck (q ▸ hx2)
    simp only [if_true]
    rw [if_neg hne]
    have := le_sum_map rank _ x hx2
    omega
  · have e1 : _root_.Go.Proofs.Ytnipbfhfaefieaa.Ao.upd f k c i = f i := if_neg e
    rw [e1] at hx h1
    obtain ⟨q1, q2⟩ := hno i e h1 h2
    have hne : x ≠ k := fun q => q2 (q ▸ hx)
    simp only []
    rw [if_neg hne, if_neg e]
    exact hr i h1 q1 x hx
structure AL (W : World) (O : Nat → Prop) (a : Nat) (cl : List Cell) (fr : List Int) (live most : Int) (ext : Nat → Nat) (op : Nat → Bool) : Prop where
  mem : Mem W O a cl fr live most
  wf : WF (mask op cl) fr live ext []
  cnt : (fr.length : Int) + live + 1 = cl.length
  m0 : 1 ≤ most
  m1 : most ≤ 1048576
  lm : live ≤ most
  kb : ∀ (i : Nat) (c : Cell), cl[i]? = some c → 0 < c.r → c.kids.length ≤ 1000 ∧ c.vals.length ≤ 1000000000
  eb : ∀ i, ext i ≤ 100000000000
  lc : cl.length ≤ 1048577
  op1 : ∀ i, op i = true → 0 < i ∧ ext i = 1 ∧ ∃ c, cl[i]? = some c ∧ c.r = 1
  ac : Acy (fn cl) op
/-- An arena of a caller who holds cells as often as ext tells; op: which are open. -/
def AO (W : World) (O : Nat → Prop) (a : Nat) (f : Nat → Cell) (live most : Int) (ext : Nat → Nat) (op : Nat → Bool) : Prop := ∃ cl fr, f = fn cl ∧ AL W O a cl fr live most ext op
section
variable {W W' : World} {O S Q : Nat → Prop} {a : Nat} {cl : List Cell} {fr : List Int} {f : Nat → Cell} {live most : Int} {ext : Nat → Nat} {op : Nat → Bool}
theorem AL.move (h : AL W O a cl fr live most ext op) (hf : Fr S W W') (hs : ∀ k, O k → ¬ S k) : AL W' O a cl fr live most ext op := ⟨h.mem.fr hf hs, h.wf, h.cnt, h.m0, h.m1, h.lm, h.kb, h.eb, h.lc, h.op1, h.ac⟩
theorem AO.move (h : AO W O a f live most ext op) (hf : Fr S W W') (hs : ∀ k, O k → ¬ S k) : AO W' O a f live most ext op := let ⟨cl, fr, e, h⟩ := h; ⟨cl, fr, e, h.move hf hs⟩
theorem AO.below (h : AO W O a f live most ext op) (hb : Below W.heap.size W W') : AO W' O a f live most ext op := h.move (Fr.of_new (S := fun _ => False) hb) (fun _ _ => id)
theorem AO.lt (h : AO W O a f live most ext op) : ∀ k, O k → k < W.heap.size := let ⟨_, _, _, h⟩ := h; h.mem.ol
theorem AO.of_AR (h : AR W O a cl fr live most ext) (hac : Acy (fn cl) (fun _ => false)) : AO W O a (fn cl) live most ext (fun _ => false) := ⟨cl, fr, rfl, h.mem, by rw [mask_none]; exact h.wf, h.cnt, h.m0, h.m1, h.lm, h.kb, h.eb, h.lc, (fun i hi => by cases hi), hac⟩
theorem AL.live0 (h : AL W O a cl fr live most ext op) : 0 ≤ live := by rw [h.wf.lv]; omega
/-- How many hold a cell: callers, and live cells that are not open. -/
theorem AL.acc (h : AL W O a cl fr live most ext op) (i : Nat) (c : Cell) (h0 : 0 < i) (hc : cl[i]? = some c) : c.r.toNat = ext i + held (gOf (mask op cl)) cl.length i := by
  have hi : i < cl.length := (List.getElem?_eq_some_iff.1 hc).1
  have := h.wf.acc i (by rw [mask_len]; exact hi) h0
  rw [gOf_refs (mask_at hc), opn_r, mask_len] at this
  simpa using this
theorem AL.rn (h : AL W O a cl fr live most ext op) (i : Nat) (c : Cell) (hc : cl[i]? = some c) : 0 ≤ c.r := by
  have := h.wf.rn i _ (mask_at hc)
  rwa [opn_r] at this
/-- A live cell's others are held. -/
theorem AL.kid (h : AL W O a cl fr live most ext op) {y x : Nat} {c : Cell} (hc : cl[y]? = some c) (hp : 0 < c.r) (hy : op y = false) (hx : x ∈ kidsOf c.kids) : 0 < x ∧ ∃ d, cl[x]? = some d ∧ (ext x : Int) < d.r := by
  obtain ⟨z, hz, z0, rfl⟩ := kidsOf_mem hx
  have hm := mask_at (op := op) hc
  rw [opn_no hy] at hm
  have hk := h.wf.kn y c hm hp z hz
  rw [mask_len] at hk
  have hxl : z.toNat < cl.length := by omega
  refine ⟨by omega, cl[z.toNat], List.getElem?_eq_getElem hxl, ?_⟩
  have h1 := h.acc z.toNat _ (by omega) (List.getElem?_eq_getElem hxl)
  have h2 : 1 ≤ held (gOf (mask op cl)) cl.length z.toNat := by
    have hyl : y < cl.length := (List.getElem?_eq_some_iff.1 hc).1
    have := sm_le (f := fun y => if 0 < (gOf (mask op cl)).refs y then ((gOf (mask op cl)).kids y).count z.toNat else 0) cl.length y hyl
    refine Nat.le_trans ?_ this
    rw [gOf_refs hm, gOf_kids hm, if_pos (by omega)]
    exact List.count_pos_iff.2 hx
  have h3 := h.rn z.toNat _ (List.getElem?_eq_getElem hxl)
  omega
theorem AL.rb (h : AL W O a cl fr live most ext op) (i : Nat) (c : Cell) (hc : cl[i]? = some c) : c.r ≤ 200000000000 := by
  by_cases i0 : 0 < i
  · have hr := h.acc i c i0 hc
    have h1 := h.eb i
    have h2 := held_le (g := gOf (mask op cl)) cl.length 1000 i (fun y hy hp => by
      obtain ⟨d, hd⟩ : ∃ d, cl[y]? = some d := ⟨cl[y], List.getElem?_eq_getElem hy⟩
      have hm := mask_at (op := op) hd
      rw [gOf_refs hm, opn_r] at hp
      rw [gOf_kids hm]
      refine Nat.le_trans (kidsOf_len _) ?_
      unfold opn
      split
      · exact Nat.zero_le _
      · exact (h.kb y d hd (by omega)).1)
    have h3 := h.lc
    have h4 : cl.length * 1000 ≤ 1048577000 := by omega
    have := h.rn i c hc
    omega
  · obtain rfl : i = 0 := by omega
    have := h.wf.z
    obtain ⟨d, hd, e⟩ := mask_inv this
    rw [hc] at hd
    cases hd
    have : c.r = (opn op 0 c).r := (opn_r _ _ _).symm
    rw [this, ← e]
    decide
/-- Cell j, and whatever it leads to so many steps on, is what it was, but for how many hold it. -/
def Sub (f f' : Nat → Cell) : Nat → Nat → Prop
  | 0, _ => True
  | d + 1, j => f' j = {f j with r := (f' j).r} ∧ ∀ x ∈ kidsOf (f j).kids, Sub f f' d x
def Same (f f' : Nat → Cell) (j : Nat) : Prop := ∀ d, Sub f f' d j
theorem Same.refl (f : Nat → Cell) (j : Nat) : Same f f j := by
  intro d
  induction d generalizing j with
  | zero => trivial
  | succ d ih => exact ⟨rfl, fun x _ => ih x⟩
theorem Same.trans {f g h : Nat → Cell} {j : Nat} (h1 : Same f g j) (h2 : Same g h j) : Same f h j := by
  intro d
  induction d generalizing j with
  | zero => trivial
  | succ d ih =>
    obtain ⟨e1, k1⟩ := h1 (d + 1)
    obtain ⟨e2, k2⟩ := h2 (d + 1)
    refine ⟨by rw [e2, e1], fun x hx => ih (fun n => (h1 (n + 1)).2 x hx) (fun n => (h2 (n + 1)).2 x ?_)⟩
    rw [e1]
    exact hx
theorem Same.at_ {f g : Nat → Cell} {j : Nat} (h : Same f g j) : g j = {f j with r := (g j).r} := (h 1).1
theorem Same.kid {f g : Nat → Cell} {j x : Nat} (h : Same f g j) (hx : x ∈ kidsOf (f j).kids) : Same f g x := fun d => (h (d + 1)).2 x hx
theorem same_of {f g : Nat → Cell} (P : Nat → Prop) (h : ∀ j, P j → g j = {f j with r := (g j).r} ∧ ∀ x ∈ kidsOf (f j).kids, P x) : ∀ j, P j → Same f g j := by
  intro j hj d
  induction d generalizing j with
  | zero => trivial
  | succ d ih => exact ⟨(h j hj).1, fun x hx => ih x ((h j hj).2 x hx)⟩
/-- Live, and not open. -/
def Lv (f : Nat → Cell) (op : Nat → Bool) (j : Nat) : Prop := 0 < j ∧ 0 < (f j).r ∧ op j = false
theorem AL.lv_kid (h : AL W O a cl fr live most ext op) {j x : Nat} (hj : Lv (fn cl) op j) (hx : x ∈ kidsOf (fn cl j).kids) : Lv (fn cl) op x ∧ (ext x : Int) < (fn cl x).r := by
  obtain ⟨h0, h1, h2⟩ := hj
  obtain ⟨g0, d, g1, g2⟩ := h.kid (fn_live h1) h1 h2 hx
  have hf := fn_at g1
  refine ⟨⟨g0, by rw [hf]; omega, ?_⟩, by rw [hf]; exact g2⟩
  cases ho : op x
  · rfl
  · obtain ⟨_, e1, d', e2, e3⟩ := h.op1 x ho
    rw [g1] at e2
    cases e2
    omega
theorem AO.lv_kid (h : AO W O a f live most ext op) {j x : Nat} (hj : Lv f op j) (hx : x ∈ kidsOf (f j).kids) : Lv f op x ∧ (ext x : Int) < (f x).r := by
  obtain ⟨cl, fr, rfl, h⟩ := h
  exact h.lv_kid hj hx
theorem AO.ext_lv (h : AO W O a f live most ext op) {j : Nat} (h0 : 0 < j) (he : 0 < ext j) : 0 < (f j).r := by
  obtain ⟨cl, fr, rfl, h⟩ := h
  have hj : j < cl.length := by
    by_cases e : j < cl.length
    · exact e
    · have := h.wf.en j (by rw [mask_len]; omega)
      omega
  have hc := List.getElem?_eq_getElem hj
  have := h.acc j _ h0 hc
  rw [fn_at hc]
  omega
theorem AO.ext_r (h : AO W O a f live most ext op) {j : Nat} (h0 : 0 < j) : (ext j : Int) ≤ (f j).r := by
  obtain ⟨cl, fr, rfl, h⟩ := h
  by_cases hj : j < cl.length
  · have hc := List.getElem?_eq_getElem hj
    have h1 := h.acc j _ h0 hc
    have h2 := h.rn j _ hc
    rw [fn_at hc]
    omega
  · have := h.wf.en j (by rw [mask_len]; omega)
    rw [this]
    unfold fn List.getD
    rw [List.getElem?_eq_none (by omega)]
    decide
theorem AO.op_r (h : AO W O a f live most ext op) {j : Nat} (ho : op j = true) : 0 < j ∧ ext j = 1 ∧ (f j).r = 1 := by
  obtain ⟨cl, fr, rfl, h⟩ := h
  obtain ⟨h0, h1, c, h2, h3⟩ := h.op1 j ho
  exact ⟨h0, h1, by rw [fn_at h2]; exact h3⟩
theorem AO.room (h : AO W O a f live most ext op) : 0 ≤ live ∧ live ≤ most ∧ most ≤ 1048576 := by
  obtain ⟨cl, fr, rfl, h⟩ := h
  exact ⟨h.live0, h.lm, h.m1⟩
end
end Go.Proofs.Ytnipbfhfaefieaa.Ao
/-! arena, with open cells: each call, as a contract. -/
namespace Go.Proofs.Ytnipbfhfaefieaa.Ao
open Go.RowKit Go Go.Proofs.YtnipbfhfaefieaaW.PrintWords Go.Proofs.YtnipbfhfaefieaaW.PrintMore Go.Proofs.YtnipbfhfaefieaaW.PrintLast Go.Proofs.Ytnipbfhfaefieaa.Bts Go.Proofs.Ytnipbfhfaefieaa.Fra Go.Proofs.Ytnipbfhfaefieaa.ArnP Go.Proofs.Ytnipbfhfaefieaa.Arn
theorem rec_eq (c : Cell) (h : c.r = 1) : {c with r := 1} = c := by
  cases c
  cases h
  rfl
section
variable {W W' : World} {O S Q : Nat → Prop} {a : Nat} {cl : List Cell} {fr : List Int} {f : Nat → Cell} {live most : Int} {ext : Nat → Nat} {op : Nat → Bool}
/-- Is a number a live cell's? -/
def isF (f : Nat → Cell) (i : Int) : Bool := decide (0 < i) && decide (0 < (f i.toNat).r)
theorem isC_isF (cl : List Cell) (i : Int) : isC cl i = isF (fn cl) i := rfl
theorem isF_at {k : Nat} (h0 : 0 < k) (hr : 0 < (f k).r) : isF f (k : Int) = true := by
  unfold isF
  rw [Int.toNat_natCast, decide_eq_true (show 0 < (k : Int) by omega), decide_eq_true hr]
  rfl
theorem isF_zero (f : Nat → Cell) : isF f 0 = false := rfl
def badF (f : Nat → Cell) (l : List Int) : Bool := l.any fun x => x != 0 && !isF f x
theorem badC_badF (cl : List Cell) (l : List Int) : badC cl l = badF (fn cl) l := rfl
theorem live_AO (w : World) (h : AO w O a f live most ext op) : Calls Try.prog 22 #[.pointer (some ⟨a, 0, none⟩)] w fun e w' => e = .returned (.int .i64 live) ∧ w' = w := by
  obtain ⟨cl, fr, rfl, h⟩ := h
  obtain ⟨base, gs, cs, vf, sl, V, h1, _⟩ := h.mem.m
  exact live_calls w h1
theorem room_AO (w : World) (h : AO w O a f live most ext op) : Calls Try.prog 25 #[.pointer (some ⟨a, 0, none⟩)] w fun e w' => e = .returned (.int .i64 (most - live)) ∧ Below w.heap.size w w' := by
  obtain ⟨cl, fr, rfl, h⟩ := h
  obtain ⟨base, gs, cs, vf, sl, V, h1, _⟩ := h.mem.m
  have e : wrap64 (most - live) = most - live := by
    have := h.live0; have := h.lm; have := h.m1
    unfold wrap64; omega
  have := room_calls w h1
  rwa [e] at this
theorem refs_AO (i : Int) (w : World) (h : AO w O a f live most ext op) : Calls Try.prog 26 #[.pointer (some ⟨a, 0, none⟩), .int .i64 i] w fun e w' => e = .returned (.int .i64 (if isF f i then (f i.toNat).r else 0)) ∧ Below w.heap.size w w' := by
  obtain ⟨cl, fr, rfl, h⟩ := h
  obtain ⟨base, gs, cs, vf, sl, V, h1, h2, h3, h4, h5, h6, h7, h8⟩ := h.mem.m
  have hl := h.lc
  rw [← isC_isF]
  cases hi : isC cl i
  · exact refs_none i w h1 (by omega) (by rw [isB_isC h7 h8]; exact hi)
  · obtain ⟨k, c, rfl, hk0, hc, hr⟩ := isC_inv hi
    obtain ⟨s, hs⟩ : ∃ s, sl[k]? = some s := ⟨sl[k]'(by rw [h7]; exact (List.getElem?_eq_some_iff.1 hc).1), List.getElem?_eq_getElem _⟩
    have hcr := (h8 k s c hs hc).r
    have := refs_raw k s w h1 (by omega) hs hk0 (by omega)
    rw [hcr] at this
    rw [if_pos rfl, Int.toNat_natCast, fn_at hc]
    exact this
theorem getn_AO (i : Int) (w : World) (h : AO w O a f live most ext op) (hi : isF f i = false) : Calls Try.prog 24 #[.pointer (some ⟨a, 0, none⟩), .int .i64 i] w fun e w' => e = .returned (.tuple #[zeroCell, .bool false]) ∧ Below w.heap.size w w' := by
  obtain ⟨cl, fr, rfl, h⟩ := h
  obtain ⟨base, gs, cs, vf, sl, V, h1, h2, h3, h4, h5, h6, h7, h8⟩ := h.mem.m
  have hl := h.lc
  exact get_none i w h1 (by omega) (by rw [isB_isC h7 h8]; exact hi)
theorem get_AO (k : Nat) (w : World) (h : AO w O a f live most ext op) (hk : 0 < k) (hr : 0 < (f k).r) :
    Calls Try.prog 24 #[.pointer (some ⟨a, 0, none⟩), .int .i64 k] w fun e w' => ∃ v' k', e = .returned (.tuple #[cellV (f k).ow (f k).a (f k).b v' k', .bool true]) ∧ VR w' w.heap.size v' (f k).vals ∧ KR w' w.heap.size k' (f k).kids ∧ (∀ j, v'.ownBlock = some j → k'.ownBlock ≠ some j) ∧ Below w.heap.size w w' := by
  obtain ⟨cl, fr, rfl, h⟩ := h
  obtain ⟨base, gs, cs, vf, sl, V, h1, h2, h3, h4, h5, h6, h7, h8⟩ := h.mem.m
  have hl := h.lc
  have hc := fn_live hr
  obtain ⟨s, hs⟩ : ∃ s, sl[k]? = some s := ⟨sl[k]'(by rw [h7]; exact (List.getElem?_eq_some_iff.1 hc).1), List.getElem?_eq_getElem _⟩
  have hci := h8 k s _ hs hc
  have hb := h.kb k _ hc hr
  have := get_R k s (fn cl k).vals (fn cl k).kids w h1 (by omega) hs hk (by rw [hci.r]; exact hr) hci.v hci.k (by omega) (by omega)
  rw [hci.ow, hci.a, hci.b] at this
  exact this
theorem keepn_AO (i : Int) (w : World) (h : AO w O a f live most ext op) (hi : isF f i = false) : Calls Try.prog 27 #[.pointer (some ⟨a, 0, none⟩), .int .i64 i] w fun e w' => e = .returned (.int .i64 4) ∧ Below w.heap.size w w' := by
  obtain ⟨cl, fr, rfl, h⟩ := h
  obtain ⟨base, gs, cs, vf, sl, V, h1, h2, h3, h4, h5, h6, h7, h8⟩ := h.mem.m
  have hl := h.lc
  exact keep_none i w h1 (by omega) (show isB sl i = false by rw [isB_isC h7 h8]; exact hi)
theorem dropn_AO (i : Int) (w : World) (h : AO w O a f live most ext op) (hi : isF f i = false) : Calls Try.prog 23 #[.pointer (some ⟨a, 0, none⟩), .int .i64 i] w fun e w' => e = .returned (.int .i64 4) ∧ Below w.heap.size w w' := by
  obtain ⟨cl, fr, rfl, h⟩ := h
  obtain ⟨base, gs, cs, vf, sl, V, h1, h2, h3, h4, h5, h6, h7, h8⟩ := h.mem.m
  have hl := h.lc
  exact drop_none i w h1 (by omega) (by rw [isB_isC h7 h8]; exact hi)
theorem keep_AO (k : Nat) (w : World) (h : AO w O a f live most ext op) (hk : 0 < k) (hr : 0 < (f k).r) (ho : op k = false) (he : ext k < 100000000000) :
    Calls Try.prog 27 #[.pointer (some ⟨a, 0, none⟩), .int .i64 k] w fun e w' => e = .returned (.int .i64 0) ∧ AO w' O a (upd f k {f k with r := (f k).r + 1}) live most (fun x => if x = k then ext x + 1 else ext x) op ∧ Fr O w w' := by
  obtain ⟨cl, fr, rfl, h⟩ := h
  obtain ⟨base, gs, cs, vf, sl, V, h1, h2, h3, h4, h5, h6, h7, h8⟩ := h.mem.m
  have hl := h.lc
  have hc := fn_live hr
  have hkl : k < cl.length := (List.getElem?_eq_some_iff.1 hc).1
  obtain ⟨s, hs⟩ : ∃ s, sl[k]? = some s := ⟨sl[k]'(by omega), List.getElem?_eq_getElem _⟩
  have hci := h8 k s _ hs hc
  have hrb := h.rb k _ hc
  refine (keep_raw k s w h1 (by omega) hs hk (by rw [hci.r]; exact hr) (by rw [hci.r]; omega)).mono ?_
  rintro e w' ⟨rfl, hraw, w1, hb, hw'⟩
  have hF : Fr (fun j => j = gs) w w' := by rw [hw']; exact (Fr.of_new hb).then_ (Fr.set gs _ _) (fun j hj => .inl hj)
  have hVg : ∀ j, V j → ¬ j = gs := fun j hj => (h6 j hj).2.1
  have hm := mask_at (op := op) hc
  have hwf := h.wf.keep hm (by rw [opn_r]; exact hr)
  have e1 : (mask op cl).set k {opn op k (fn cl k) with r := (opn op k (fn cl k)).r + 1} = mask op (cl.set k {fn cl k with r := (fn cl k).r + 1}) := by rw [mask_set, opn_no ho, opn_no ho]
  rw [e1] at hwf
  have hac' : Acy (upd (fn cl) k {fn cl k with r := (fn cl k).r + 1}) op := h.ac.mono fun i hi ho2 => by
    by_cases e : i = k
    · subst e
      exact ⟨hr, ho2, by rw [show upd (fn cl) i {fn cl i with r := (fn cl i).r + 1} i = _ from if_pos rfl]⟩
    · rw [show upd (fn cl) k {fn cl k with r := (fn cl k).r + 1} i = fn cl i from if_neg e] at hi ⊢
      exact ⟨hi, ho2, rfl⟩
  refine ⟨rfl, ⟨_, fr, (fn_set hkl _).symm, ⟨⟨base, gs, cs, vf, _, V, hraw, h2, h3, h4, h5, h6, by rw [List.length_set, List.length_set]; exact h7, ?_⟩, fun j hj => Nat.lt_of_lt_of_le (h.mem.ol j hj) hF.size⟩, hwf, by rw [List.length_set]; exact h.cnt, h.m0, h.m1, h.lm, ?_, ?_, by rw [List.length_set]; exact h.lc, ?_, by rw [fn_set hkl]; exact hac'⟩, hF.mono (fun j hj => .inl (by rw [hj]; exact h3))⟩
  · intro i s2 c2 hi hc2
    by_cases e : i = k
    · subst e
      rw [List.getElem?_set_self (by omega)] at hi hc2
      cases hi
      cases hc2
      have := hci.fr hF hVg
      exact ⟨this.ow, this.a, this.b, show s.r + 1 = (fn cl i).r + 1 by rw [hci.r], this.v, this.k⟩
    · rw [List.getElem?_set_ne (fun h => e h.symm)] at hi hc2
      exact (h8 i s2 c2 hi hc2).fr hF hVg
  · intro i c2 hc2 hr2
    rcases at_set hc hc2 with ⟨rfl, rfl⟩ | ⟨_, hc2⟩
    · have q := h.kb _ _ hc hr
      exact q
    · exact h.kb i c2 hc2 hr2
  · intro i
    split
    · rename_i e; subst e; omega
    · exact h.eb i
  · intro i hi
    obtain ⟨g0, g1, c2, g2, g3⟩ := h.op1 i hi
    have hne : i ≠ k := fun e => by rw [e, ho] at hi; cases hi
    exact ⟨g0, by rw [if_neg hne]; exact g1, c2, by rw [List.getElem?_set_ne (fun e => hne e.symm)]; exact g2, g3⟩
/-- What a Drop leaves. -/
def LeftF (f f' : Nat → Cell) : Prop := ∀ i, 0 < (f' i).r → f' i = {f i with r := (f' i).r} ∧ (f' i).r ≤ (f i).r
theorem drop_AO (k : Nat) (w : World) (h : AO w O a f live most ext op) (hk : 0 < k) (he : 0 < ext k) (ho : op k = false) :
    Calls Try.prog 23 #[.pointer (some ⟨a, 0, none⟩), .int .i64 k] w fun e w' => e = .returned (.int .i64 0) ∧ ∃ O' f' live', AO w' O' a f' live' most (fun x => if x = k then ext x - 1 else ext x) op ∧ LeftF f f' ∧ live' ≤ live ∧ (∀ j, O' j → O j ∨ w.heap.size ≤ j) ∧ Fr O w w' := by
  obtain ⟨cl, fr, rfl, h⟩ := h
  obtain ⟨base, gs, cs, vf, sl, V, h1, h2, h3, h4, h5, h6, h7, h8⟩ := h.mem.m
  have hl := h.lc
  have hopx : ∀ i, op i = true → i ≠ k := fun i hi e => by rw [e, ho] at hi; cases hi
  have hks : ksum (mask op cl) ≤ 1048577000 := by
    have h1 := ksum_le (mask op cl) 1000 (fun c hc hp => by
      obtain ⟨i, hi, rfl⟩ := List.getElem_of_mem hc
      obtain ⟨d, hd, e⟩ := mask_inv (List.getElem?_eq_getElem hi)
      rw [e, opn_r] at hp
      have := (h.kb i d hd hp).1
      rw [e]
      unfold opn
      split
      · exact Nat.zero_le _
      · exact this)
    rw [mask_len] at h1
    omega
  refine (drop_walk k (mask op cl) (fun x => if x = k then ext x - 1 else ext x) w h1 (by omega) (by rw [mask_len]; exact h7) (fun i s c hi hc => ?_) (fun j hj => ⟨h.mem.ol j (h5 j hj), h6 j hj⟩) (h.wf.drop hk he) (by rw [mask_len]; exact h.cnt) (by omega) (fun i c hc hr => ?_)).mono ?_
  · obtain ⟨d, hd, rfl⟩ := mask_inv hc
    have := h8 i s d hi hd
    refine ⟨by rw [opn_r]; exact this.r, fun h0 => ?_⟩
    have hoi : op i = false := by
      cases hq : op i
      · rfl
      · obtain ⟨g0, g1, _⟩ := h.op1 i hq
        rw [if_neg (hopx i hq)] at h0
        omega
    rw [opn_no hoi]
    exact this
  · obtain ⟨d, hd, rfl⟩ := mask_inv hc
    rw [opn_r] at hr ⊢
    refine ⟨by have := h.rb i d hd; omega, ?_⟩
    have := (h.kb i d hd hr).1
    unfold opn
    split
    · exact Nat.zero_le _
    · exact Nat.le_trans this (by decide)
  rintro e w' ⟨rfl, vf', sl', gl', fr', live', q1, q2, q3, q4a, q4b, q5, q6, q7, q8⟩
  have hfr : Fr O w w' := q8.mono (fun j hj => .inl (by
    rcases hj with e | e | e
    · rw [e]; exact h2
    · rw [e]; exact h3
    · exact h4 j e))
  have hglen : gl'.length = cl.length := by rw [q6.len, mask_len]
  -- the cells behind it
  obtain ⟨cl', hcl'⟩ : ∃ cl' : List Cell, cl' = gl'.mapIdx fun i c => if op i then fn cl i else c := ⟨_, rfl⟩
  have hget : ∀ i c, cl'[i]? = some c → ∃ g, gl'[i]? = some g ∧ c = if op i then fn cl i else g := by
    intro i c hc
    rw [hcl', List.getElem?_mapIdx] at hc
    obtain ⟨g, g1, g2⟩ := Option.map_eq_some_iff.1 hc
    exact ⟨g, g1, g2.symm⟩
  have hput : ∀ i g, gl'[i]? = some g → cl'[i]? = some (if op i then fn cl i else g) := by
    intro i g hg
    rw [hcl', List.getElem?_mapIdx, hg]; rfl
  have hclen : cl'.length = cl.length := by rw [hcl', List.length_mapIdx, hglen]
  have hopg : ∀ i, op i = true → ∀ g, gl'[i]? = some g → g = opn op i (fn cl i) := by
    intro i hi g hg
    obtain ⟨g0, g1, c2, g2, g3⟩ := h.op1 i hi
    have hlive := q5.ext_live i g0 (by rw [if_neg (hopx i hi)]; omega) g hg
    obtain ⟨d, d1, d2, d3⟩ := q6.at_ i g hg hlive
    rw [mask_at g2] at d1
    cases d1
    rw [opn_r] at d3
    have : g.r = 1 := by omega
    rw [this] at d2
    rw [d2, fn_at g2]
    exact rec_eq _ (by rw [opn_r]; exact g3)
  have hmask : mask op cl' = gl' := by
    apply List.ext_getElem?
    intro i
    rw [mask_get]
    cases hg : gl'[i]? with
    | none => rw [List.getElem?_eq_none (by rw [hclen, ← hglen]; exact List.getElem?_eq_none_iff.1 hg)]; rfl
    | some g =>
      rw [hput i g hg]
      show some (opn op i _) = some g
      cases hi : op i
      · rw [if_neg (by simp), opn_no hi]
      · rw [if_pos rfl, hopg i hi g hg]
  have hleft : Arn.Left cl cl' := by
    refine ⟨hclen, fun i c hc hr => ?_⟩
    obtain ⟨g, hg, rfl⟩ := hget i c hc
    cases hi : op i
    · rw [hi] at hr
      simp only [Bool.false_eq_true, if_false] at hr ⊢
      obtain ⟨d, d1, d2, d3⟩ := q6.at_ i g hg hr
      obtain ⟨d', d4, rfl⟩ := mask_inv d1
      rw [opn_no hi] at d2 d3
      exact ⟨d', d4, d2, d3⟩
    · simp only [if_true]
      obtain ⟨g0, g1, c2, g2, g3⟩ := h.op1 i hi
      exact ⟨c2, g2, by rw [fn_at g2], by rw [fn_at g2]; exact Int.le_refl _⟩
  have q4 : ∀ (i : Nat) (s : Slot) (c : Cell), sl'[i]? = some s → cl'[i]? = some c → CellIn w' V s c := left_link h8 (e' := fun x => if x = k then ext x - 1 else ext x) (fun i s c hs hc => by
      obtain ⟨g, hg, rfl⟩ := hget i c hc
      obtain ⟨r1, r2⟩ := q4a i s g hs hg
      cases hi : op i
      · simp only [Bool.false_eq_true, if_false]
        exact ⟨r1, r2⟩
      · simp only [if_true]
        obtain ⟨g0, g1, c2, g2, g3⟩ := h.op1 i hi
        refine ⟨by rw [r1, hopg i hi g hg, opn_r], fun h0 => ?_⟩
        rw [if_neg (hopx i hi)] at h0
        omega) q4b hleft h7 q8 (fun j hj e => by
      rcases e with e | e | e
      · exact (h6 j hj).1 e
      · exact (h6 j hj).2.1 e
      · exact (h6 j hj).2.2 e) (fun i i0 he c hc => by
      obtain ⟨g, hg, rfl⟩ := hget i c hc
      have := q5.ext_live i i0 he g hg
      cases hi : op i
      · simpa using this
      · simp only [if_true]
        obtain ⟨g0, g1, c2, g2, g3⟩ := h.op1 i hi
        rw [fn_at g2]
        omega)
  have hll : live' ≤ live := by
    have e1 := q5.lv
    have e2 := h.wf.lv
    have : liveN gl' ≤ liveN (mask op cl) := liveN_left q6
    omega
  refine ⟨rfl, fun j => (O j ∨ vf'.ownBlock = some j), fn cl', live', ⟨cl', fr', rfl, ⟨⟨base, gs, cs, vf', sl', V, q1, .inl h2, .inl h3, fun j hj => .inr hj, fun j hj => .inl (h5 j hj), fun j hj => ⟨(h6 j hj).1, (h6 j hj).2.1, fun e => ?_⟩, by rw [q3, hglen, hclen], q4⟩, ?_⟩, by rw [hmask]; exact q5, by rw [hclen, ← hglen]; exact q7, h.m0, h.m1, by have := h.lm; omega, left_kb hleft h.kb, ?_, by rw [hclen]; exact h.lc, ?_, h.ac.mono fun i hi ho2 => by obtain ⟨c, c1, c2, c3⟩ := hleft.at_ i _ (fn_live hi) hi; rw [fn_at c1]; exact ⟨by omega, ho2, by rw [c2]⟩⟩, ?_, hll, ?_, hfr⟩
  · rcases q2 j e with e | e
    · exact (h6 j hj).2.2 e
    · have := h.mem.ol j (h5 j hj); omega
  · intro j hj
    rcases hj with hj | hj
    · exact Nat.lt_of_lt_of_le (h.mem.ol j hj) hfr.size
    · exact own_lt q1.free j hj
  · intro i
    have := h.eb i
    split <;> omega
  · intro i hi
    obtain ⟨g0, g1, c2, g2, g3⟩ := h.op1 i hi
    have hil : i < gl'.length := by rw [hglen]; exact (List.getElem?_eq_some_iff.1 g2).1
    refine ⟨g0, by rw [if_neg (hopx i hi)]; exact g1, c2, ?_, g3⟩
    rw [hput i _ (List.getElem?_eq_getElem hil), if_pos hi, fn_at g2]
  · intro i hi
    have hc := fn_live hi
    obtain ⟨c, c1, c2, c3⟩ := hleft.at_ i _ hc hi
    rw [fn_at c1]
    exact ⟨c2, c3⟩
  · intro j hj
    rcases hj with hj | hj
    · exact .inl hj
    · rcases q2 j hj with e | e
      · exact .inl (h4 j e)
      · exact .inr e
end
end Go.Proofs.Ytnipbfhfaefieaa.Ao
/-! arena, with open cells: Make, Edit; a cell is opened. -/
namespace Go.Proofs.Ytnipbfhfaefieaa.Ao
open Go.RowKit Go Go.Proofs.YtnipbfhfaefieaaW.PrintWords Go.Proofs.YtnipbfhfaefieaaW.PrintMore Go.Proofs.YtnipbfhfaefieaaW.PrintLast Go.Proofs.Ytnipbfhfaefieaa.Bts Go.Proofs.Ytnipbfhfaefieaa.Fra Go.Proofs.Ytnipbfhfaefieaa.ArnP Go.Proofs.Ytnipbfhfaefieaa.Arn
section
variable {W W' : World} {O S Q : Nat → Prop} {a : Nat} {cl : List Cell} {fr : List Int} {f : Nat → Cell} {live most : Int} {ext : Nat → Nat} {op : Nat → Bool}
theorem makea_AO (ow x y : Int) (v k : Value) (kids : List Int) (w : World) (h : AO w O a f live most ext op) (hv : ∃ A n c, v = .slice A n c) (hk : RowIn (Kd.int .i64) w Q k kids) (hl : kids.length ≤ 1000000000) (hb : badF f kids = true) :
    Calls Try.prog 21 #[.pointer (some ⟨a, 0, none⟩), cellV ow x y v k] w fun e w' => e = .returned (.tuple #[.int .i64 0, .int .i64 1]) ∧ Below w.heap.size w w' := by
  obtain ⟨cl, fr, rfl, h⟩ := h
  obtain ⟨base, gs, cs, vf, sl, V, h1, h2, h3, h4, h5, h6, h7, h8⟩ := h.mem.m
  have := h.lc
  exact make_arg ow x y v k kids w h1 (by omega) hv hk hl (by rw [badAt_badC (isB_isC h7 h8)]; exact hb)
theorem makef_AO (ow x y : Int) (v k : Value) (kids : List Int) (w : World) (h : AO w O a f live most ext op) (hv : ∃ A n c, v = .slice A n c) (hk : RowIn (Kd.int .i64) w Q k kids) (hl : kids.length ≤ 1000000000) (hb : badF f kids = false) (hm : live = most) :
    Calls Try.prog 21 #[.pointer (some ⟨a, 0, none⟩), cellV ow x y v k] w fun e w' => e = .returned (.tuple #[.int .i64 0, .int .i64 5]) ∧ Below w.heap.size w w' := by
  obtain ⟨cl, fr, rfl, h⟩ := h
  obtain ⟨base, gs, cs, vf, sl, V, h1, h2, h3, h4, h5, h6, h7, h8⟩ := h.mem.m
  have := h.lc
  exact make_full ow x y v k kids w h1 (by omega) hv hk hl (by rw [badAt_badC (isB_isC h7 h8)]; exact hb) (by unfold wrap64; omega)
theorem count_nil_of {l : List Nat} {x : Nat} (h : ∀ y ∈ l, y ≠ x) : l.count x = 0 := List.count_eq_zero.2 (fun hm => h x hm rfl)
/-- Who is held must be a cell's. -/
theorem bad_of_ext (h : AO W O a f live most ext op) {kids : List Int} (hn : ∀ y ∈ kids, 0 ≤ y) (hct : ∀ x, 0 < x → (kidsOf kids).count x ≤ ext x) : badF f kids = false := by
  unfold badF
  rw [List.any_eq_false]
  intro y hy
  by_cases y0 : y = 0
  · subst y0; simp
  · have hy0 := hn y hy
    have hm : y.toNat ∈ kidsOf kids := by
      unfold kidsOf
      exact List.mem_map.2 ⟨y, List.mem_filter.2 ⟨hy, by simpa using y0⟩, rfl⟩
    have hp : 0 < y.toNat := by omega
    have h1 := hct _ hp
    have h2 := List.count_pos_iff.2 hm
    have h3 := h.ext_lv hp (by omega)
    have h4 := isF_at hp h3
    rw [show ((y.toNat : Nat) : Int) = y by omega] at h4
    simp [h4]
/-- A cell that was dead is made: it lies higher than those it holds. -/
theorem AL.ac_make (h : AL W O a cl fr live most ext op) (i : Nat) (c : Cell) (hi : (fn cl i).r = 0) (hct : ∀ x, 0 < x → (kidsOf c.kids).count x ≤ ext x) (hn : ∀ y ∈ c.kids, 0 ≤ y) : Acy (upd (fn cl) i c) op := by
  have hlive : ∀ x, 0 < x → 0 < ext x → 0 < (fn cl x).r := fun x h0 he => (show AO W O a (fn cl) live most ext op from ⟨cl, fr, rfl, h⟩).ext_lv h0 he
  refine h.ac.upd i c (fun j hj hr ho => ⟨ho, fun hx => ?_⟩) (fun hx => ?_)
  · obtain ⟨_, d, q1, q2⟩ := h.kid (fn_live hr) hr ho hx
    rw [← fn_at q1] at q2
    omega
  · obtain ⟨z, hz, z0, rfl⟩ := kidsOf_mem hx
    have hp : 0 < z.toNat := by have := hn z hz; omega
    have h1 := hct _ hp
    have h2 := List.count_pos_iff.2 hx
    have h3 := hlive _ hp (by omega)
    omega
theorem make_AO (ow x y : Int) (v k : Value) (vals : List (Int × Int × ByteArray)) (kids : List Int) (w : World) (h : AO w O a f live most ext op) (hv : RowIn kVal w Q v vals) (hk : RowIn (Kd.int .i64) w Q k kids) (hQ : ∀ j, Q j → ¬ O j) (hb : badF f kids = false) (hlm : live < most) (hkl : kids.length ≤ 1000) (hvl : vals.length ≤ 1000000000) (hct : ∀ x, 0 < x → (kidsOf kids).count x ≤ ext x) (hop : ∀ x, op x = true → (kidsOf kids).count x = 0) :
    Calls Try.prog 21 #[.pointer (some ⟨a, 0, none⟩), cellV ow x y v k] w fun e w' => ∃ (i : Nat) (O' : Nat → Prop), e = .returned (.tuple #[.int .i64 i, .int .i64 0]) ∧ AO w' O' a (upd f i ⟨ow, x, y, vals, kids, 1⟩) (live + 1) most (fun x => if x = i then 1 else ext x - (kidsOf kids).count x) op ∧ 0 < i ∧ (f i).r = 0 ∧ op i = false ∧ (∀ j, O' j → O j ∨ w.heap.size ≤ j) ∧ Fr O w w' := by
  obtain ⟨cl, fr, rfl, h⟩ := h
  obtain ⟨base, gs, cs, vf, sl, V, h1, h2, h3, h4, h5, h6, h7, h8⟩ := h.mem.m
  have hl := h.lc
  have hl0 := h.live0
  have hbA : badAt sl kids = false := by rw [badAt_badC (isB_isC h7 h8)]; exact hb
  have hcnt := h.cnt
  have hm1 := h.m1
  have hz : 0 < cl.length := by have := (List.getElem?_eq_some_iff.1 h.wf.z).1; rwa [mask_len] at this
  have hkn : ∀ (n : Nat), cl.length ≤ n → ∀ z ∈ kids, 0 ≤ z ∧ z < n := by
    intro n hn z hz2
    rcases badC_inv (cl := cl) hb z hz2 with q | q
    · omega
    · omega
  have heb : ∀ (i j : Nat), (if j = i then 1 else ext j - (kidsOf kids).count j) ≤ 100000000000 := by
    intro i j
    have := h.eb j
    split <;> omega
  rcases List.eq_nil_or_concat fr with rfl | ⟨fr', i, rfl⟩
  · have hno : op cl.length = false := by
      cases hq : op cl.length
      · rfl
      · obtain ⟨_, _, c, hc, _⟩ := h.op1 _ hq
        have := (List.getElem?_eq_some_iff.1 hc).1
        omega
    refine (make_grow ow x y v k vals kids w h1 (by omega) (by omega) hv hk (by omega) (by omega) hbA hl0 hlm hm1 (fun j hj => ⟨fun e => hQ j hj (e ▸ h2), fun e => hQ j hj (e ▸ h3), fun e => hQ j hj (h4 j e)⟩)).mono ?_
    rintro e w' ⟨v', k', vf', gs', cs', rfl, hr, hvf, hgs, hv', hk', hF⟩
    have hFO : Fr O w w' := hF.mono (fun j hj => .inl (by
      rcases hj with e | e | e
      · rw [e]; exact h2
      · rw [e]; exact h3
      · exact h4 j e))
    have hww := h.wf.grow
    have hwf := WF.make (fr := []) (i := ((mask op cl).length : Int)) hww ⟨ow, x, y, vals, kids, 1⟩ rfl (hkn _ (by simp [mask_len])) hct
    rw [Int.toNat_natCast, List.set_append_right _ _ (Nat.le_refl _), Nat.sub_self, mask_len] at hwf
    have hmk : mask op cl ++ [nobC].set 0 ⟨ow, x, y, vals, kids, 1⟩ = mask op (cl ++ [⟨ow, x, y, vals, kids, 1⟩]) := by rw [mask_app, opn_no hno]; rfl
    rw [hmk] at hwf
    have hsl : ∀ t : Slot, (sl ++ [nob]).set sl.length t = sl ++ [t] := by
      intro t
      rw [List.set_append_right _ _ (Nat.le_refl _), Nat.sub_self]; rfl
    rw [hsl] at hr
    have hin : ∀ (i : Nat) (s : Slot) (c : Cell), (sl ++ [⟨ow, x, y, v', k', 1⟩])[i]? = some s → (cl ++ [⟨ow, x, y, vals, kids, 1⟩])[i]? = some c → (i < cl.length ∧ sl[i]? = some s ∧ cl[i]? = some c) ∨ (s = ⟨ow, x, y, v', k', 1⟩ ∧ c = ⟨ow, x, y, vals, kids, 1⟩) := by
      intro i s c hs hc
      by_cases e : i < cl.length
      · rw [List.getElem?_append_left (by omega)] at hs hc
        exact .inl ⟨e, hs, hc⟩
      · have hi := (List.getElem?_eq_some_iff.1 hc).1
        simp at hi
        obtain rfl : i = cl.length := by omega
        rw [List.getElem?_append_right (by omega)] at hs hc
        rw [h7, Nat.sub_self] at hs
        rw [Nat.sub_self] at hc
        exact .inr ⟨(Option.some.inj hs).symm, (Option.some.inj hc).symm⟩
    have hfr0 : (fn cl cl.length).r = 0 := by unfold fn List.getD; rw [List.getElem?_eq_none (Nat.le_refl _)]; rfl
    refine ⟨sl.length, fun j => O j ∨ (w.heap.size ≤ j ∧ j < w'.heap.size), rfl, ⟨cl ++ [⟨ow, x, y, vals, kids, 1⟩], [], by rw [fn_app, h7], ⟨⟨base, gs', cs', vf', _, fun j => V j ∨ (w.heap.size ≤ j ∧ j < w'.heap.size ∧ j ≠ gs' ∧ vf'.ownBlock ≠ some j), hr, .inl h2, ?_, ?_, ?_, ?_, by simp [h7], ?_⟩, ?_⟩, by rw [h7]; exact hwf, ?_, h.m0, h.m1, by omega, ?_, heb _, ?_, ?_, by rw [fn_app]; exact h.ac_make _ _ hfr0 hct (fun z hz => (hkn _ (Nat.le_refl _) z hz).1)⟩, by omega, by rw [h7]; exact hfr0, by rw [h7]; exact hno, fun j hj => hj.imp id And.left, hFO⟩
    · rcases hgs with e | e
      · rw [e]; exact .inl h3
      · exact .inr ⟨e, own_lt hr.row gs' rfl⟩
    · intro j hj
      rcases hvf j hj with e | e
      · exact .inl (h4 j e)
      · exact .inr ⟨e, own_lt hr.free j hj⟩
    · intro j hj
      rcases hj with hj | hj
      · exact .inl (h5 j hj)
      · exact .inr ⟨hj.1, hj.2.1⟩
    · intro j hj
      rcases hj with hj | hj
      · obtain ⟨g1, g2, g3⟩ := h6 j hj
        have hjl := h.mem.ol j (h5 j hj)
        refine ⟨g1, fun e => ?_, fun e => ?_⟩
        · rcases hgs with q | q
          · exact g2 (e.trans q)
          · omega
        · rcases hvf j e with q | q
          · exact g3 q
          · omega
      · have := h.mem.ol a h2
        exact ⟨by omega, hj.2.2.1, hj.2.2.2⟩
    · intro i s c hs hc
      rcases hin i s c hs hc with ⟨_, hs, hc⟩ | ⟨rfl, rfl⟩
      · exact ((h8 i s c hs hc).fr hF (fun j hj e => by
          obtain ⟨g1, g2, g3⟩ := h6 j hj
          rcases e with e | e | e
          · exact g1 e
          · exact g2 e
          · exact g3 e)).mono (fun j hj => .inl hj)
      · exact ⟨rfl, rfl, rfl, rfl, row_lt hv' (fun j hj hjl => .inr ⟨hj.1, hjl, hj.2⟩), row_lt hk' (fun j hj hjl => .inr ⟨hj.1, hjl, hj.2⟩)⟩
    · intro j hj
      rcases hj with hj | hj
      · exact Nat.lt_of_lt_of_le (h.mem.ol j hj) hFO.size
      · exact hj.2
    · simp only [List.length_append, List.length_nil, List.length_singleton]
      simp only [List.length_nil] at hcnt
      omega
    · intro i c hc hp
      by_cases e : i < cl.length
      · rw [List.getElem?_append_left e] at hc
        exact h.kb i c hc hp
      · rw [List.getElem?_append_right (by omega)] at hc
        have hi := (List.getElem?_eq_some_iff.1 hc).1
        simp at hi
        rw [show i - cl.length = 0 by omega] at hc
        obtain rfl : (⟨ow, x, y, vals, kids, 1⟩ : Cell) = c := Option.some.inj hc
        exact ⟨hkl, hvl⟩
    · simp only [List.length_append, List.length_singleton]
      simp only [List.length_nil] at hcnt
      omega
    · intro i hi
      obtain ⟨g0, g1, c2, g2, g3⟩ := h.op1 i hi
      have hil := (List.getElem?_eq_some_iff.1 g2).1
      exact ⟨g0, by rw [if_neg (by omega), hop i hi, g1], c2, by rw [List.getElem?_append_left hil]; exact g2, g3⟩
  · rw [List.concat_eq_append] at h1
    have hfd := h.wf.fd i (by simp)
    obtain ⟨n, rfl⟩ : ∃ n : Nat, i = n := ⟨i.toNat, by omega⟩
    obtain ⟨hf0, hf1, d, hd1, hd2⟩ := hfd
    rw [mask_len] at hf1
    rw [Int.toNat_natCast] at hd1
    obtain ⟨d', hd3, rfl⟩ := mask_inv hd1
    rw [opn_r] at hd2
    have hnl : n < sl.length := by omega
    have hno : op n = false := by
      cases hq : op n
      · rfl
      · obtain ⟨_, _, c, hc, hc2⟩ := h.op1 _ hq
        rw [hd3] at hc
        cases hc
        omega
    have hcntl : (fr'.concat (n : Int)).length = fr'.length + 1 := by simp
    rw [hcntl] at hcnt
    refine (make_at ow x y v k vals kids fr' n sl[n] w h1 (by omega) (List.getElem?_eq_getElem hnl) hv hk (by omega) (by omega) hbA hl0 hlm hm1 (by omega) (fun j hj e => hQ j hj (e ▸ h2))).mono ?_
    rintro e w' ⟨v', k', vf', rfl, hr, hvf, hv', hk', hF⟩
    have hFO : Fr O w w' := hF.mono (fun j hj => .inl (by
      rcases hj with e | e
      · rw [e]; exact h2
      · rw [e]; exact h3))
    have hwf0 := h.wf
    rw [List.concat_eq_append] at hwf0
    have hwf := WF.make (i := (n : Int)) hwf0 ⟨ow, x, y, vals, kids, 1⟩ rfl (by rw [mask_len]; exact hkn _ (Nat.le_refl _)) hct
    rw [Int.toNat_natCast] at hwf
    have hmk : (mask op cl).set n ⟨ow, x, y, vals, kids, 1⟩ = mask op (cl.set n ⟨ow, x, y, vals, kids, 1⟩) := by rw [mask_set, opn_no hno]
    rw [hmk] at hwf
    have hga := h.mem.ol a h2
    have hgg := h.mem.ol gs h3
    refine ⟨n, fun j => O j ∨ (w.heap.size ≤ j ∧ j < w'.heap.size), rfl, ⟨cl.set n ⟨ow, x, y, vals, kids, 1⟩, fr', (fn_set (by omega) _).symm, ⟨⟨base, gs, cs, vf', _, fun j => V j ∨ (w.heap.size ≤ j ∧ j < w'.heap.size), hr, .inl h2, .inl h3, fun j hj => .inl (h4 j (hvf ▸ hj)), fun j hj => hj.imp (h5 j) id, ?_, by rw [List.length_set, List.length_set]; exact h7, ?_⟩, ?_⟩, hwf, by rw [List.length_set]; omega, h.m0, h.m1, by omega, ?_, heb _, by rw [List.length_set]; exact hl, ?_, by rw [fn_set (by omega)]; exact h.ac_make _ _ (by rw [fn_at hd3]; exact hd2) hct (fun z hz => (hkn _ (Nat.le_refl _) z hz).1)⟩, by omega, by rw [fn_at hd3]; exact hd2, hno, fun j hj => hj.imp id And.left, hFO⟩
    · intro j hj
      rw [hvf]
      rcases hj with hj | hj
      · exact h6 j hj
      · exact ⟨by omega, by omega, fun e => by have := h.mem.ol j (h4 j e); omega⟩
    · intro i s c hs hc
      by_cases e : i = n
      · subst e
        rw [List.getElem?_set_self (by omega)] at hs hc
        cases hs
        cases hc
        exact ⟨rfl, rfl, rfl, rfl, row_lt hv' (fun j hj hjl => .inr ⟨hj, hjl⟩), row_lt hk' (fun j hj hjl => .inr ⟨hj, hjl⟩)⟩
      · rw [List.getElem?_set_ne (fun h => e h.symm)] at hs hc
        exact ((h8 i s c hs hc).fr hF (fun j hj e => by
          obtain ⟨g1, g2, g3⟩ := h6 j hj
          rcases e with e | e
          · exact g1 e
          · exact g2 e)).mono (fun j hj => .inl hj)
    · intro j hj
      rcases hj with hj | hj
      · exact Nat.lt_of_lt_of_le (h.mem.ol j hj) hFO.size
      · exact hj.2
    · intro i c hc hp
      by_cases e : i = n
      · subst e
        rw [List.getElem?_set_self (by omega)] at hc
        cases hc
        exact ⟨hkl, hvl⟩
      · rw [List.getElem?_set_ne (fun h => e h.symm)] at hc
        exact h.kb i c hc hp
    · intro i hi
      obtain ⟨g0, g1, c2, g2, g3⟩ := h.op1 i hi
      have hne : i ≠ n := fun e => by rw [e, hno] at hi; cases hi
      exact ⟨g0, by rw [if_neg hne, hop i hi, g1], c2, by rw [List.getElem?_set_ne (fun e => hne e.symm)]; exact g2, g3⟩
/-- A live cell that its caller alone holds is opened: its holds are the caller's. -/
theorem AO.open_ (h : AO W O a f live most ext op) {k : Nat} (hk : 0 < k) (hr : (f k).r = 1) (he : 0 < ext k) (heb : ∀ i, ext i ≤ 99999990000) (ho : op k = false) : AO W O a f live most (fun x => ext x + (kidsOf (f k).kids).count x) (fun x => x == k || op x) := by
  have hkr := h.ext_r hk
  obtain ⟨cl, fr, rfl, h⟩ := h
  have hc := fn_live (cl := cl) (i := k) (by omega)
  have hkl : k < cl.length := (List.getElem?_eq_some_iff.1 hc).1
  have hm := mask_at (op := op) hc
  have hex : ext k = 1 := by omega
  have hkk := (h.kb k _ hc (by omega)).1
  have hself : (kidsOf (fn cl k).kids).count k = 0 := by
    rw [List.count_eq_zero]
    intro hx
    obtain ⟨_, d, g1, g2⟩ := h.kid hc (by omega) ho hx
    rw [hc] at g1
    cases g1
    omega
  have hwf := h.wf.edit (c' := {opn op k (fn cl k) with kids := []}) hm (by rw [opn_r]; omega) rfl (fun z hz => by cases hz) (fun x hx => by simp [kidsOf])
  rw [opn_no ho] at hwf
  have hmk : (mask op cl).set k {fn cl k with kids := []} = mask (fun x => x == k || op x) cl := by
    apply List.ext_getElem?
    intro j
    rw [mask_get]
    by_cases e : k = j
    · subst e
      rw [List.getElem?_set_self (by rw [mask_len]; exact hkl), hc]
      show some _ = some (opn (fun x => x == k || op x) k (fn cl k))
      unfold opn
      simp
    · rw [List.getElem?_set_ne e, mask_get]
      cases cl[j]? with
      | none => rfl
      | some c =>
        show some (opn op j c) = some (opn (fun x => x == k || op x) j c)
        have hb : (fun x => x == k || op x) j = op j := by simp [show ¬ j = k from fun q => e q.symm]
        unfold opn
        rw [hb]
  rw [hmk] at hwf
  refine ⟨cl, fr, rfl, h.mem, hwf, h.cnt, h.m0, h.m1, h.lm, h.kb, fun i => ?_, h.lc, fun i hi => ?_, h.ac.mono fun i hi ho2 => ⟨hi, by simpa using (Bool.or_eq_false_iff.1 ho2).2, rfl⟩⟩
  · have h1 := heb i
    have h2 : (kidsOf (fn cl k).kids).count i ≤ 1000 := Nat.le_trans (List.count_le_length ..) (Nat.le_trans (kidsOf_len _) hkk)
    omega
  · by_cases e : i = k
    · subst e
      exact ⟨hk, by rw [hself, hex], fn cl i, hc, hr⟩
    · have hi' : op i = true := by simpa [e] using hi
      obtain ⟨g0, g1, c2, g2, g3⟩ := h.op1 i hi'
      have hno : (kidsOf (fn cl k).kids).count i = 0 := by
        rw [List.count_eq_zero]
        intro hx
        obtain ⟨_, d, q1, q2⟩ := h.kid hc (by omega) ho hx
        rw [g2] at q1
        cases q1
        omega
      exact ⟨g0, by rw [hno, g1], c2, g2, g3⟩
theorem editn_AO (i o ow x y : Int) (v k : Value) (w : World) (h : AO w O a f live most ext op) (hi : isF f i = false) (hv : ∃ A n c, v = .slice A n c) (hk : ∃ A n c, k = .slice A n c) :
    Calls Try.prog 28 #[.pointer (some ⟨a, 0, none⟩), .int .i64 i, .int .u32 o, cellV ow x y v k] w fun e w' => e = .returned (.int .i64 4) ∧ Below w.heap.size w w' := by
  obtain ⟨cl, fr, rfl, h⟩ := h
  obtain ⟨base, gs, cs, vf, sl, V, h1, h2, h3, h4, h5, h6, h7, h8⟩ := h.mem.m
  have := h.lc
  exact edit_none i o ow x y v k w h1 (by omega) (by rw [isB_isC h7 h8]; exact hi) hv hk
/-- Edit of a cell that its caller alone holds. It closes an open one; of another, its old holds are the caller's (o = true: it was open). -/
theorem edit_AO (k : Nat) (o ow x y : Int) (v kk : Value) (vals : List (Int × Int × ByteArray)) (kids : List Int) (w : World) (h : AO w O a f live most ext op) (hk0 : 0 < k) (hr : (f k).r = 1) (hek : 0 < ext k) (hv : RowIn kVal w Q v vals) (hk : RowIn (Kd.int .i64) w Q kk kids)
    (hb : badF f kids = false) (ho : o ≠ 0) (hco : (f k).ow = o) (hkl : kids.length ≤ 1000) (hvl : vals.length ≤ 1000000000) (old : List Nat) (hold : old = kidsOf (opn op k (f k)).kids) (hct : ∀ x, 0 < x → (kidsOf kids).count x ≤ ext x + old.count x) (hop : ∀ x, op x = true → (kidsOf kids).count x = 0) (hkk : (kidsOf kids).count k = 0) (heb : ∀ i, ext i ≤ 99999990000) :
    Calls Try.prog 28 #[.pointer (some ⟨a, 0, none⟩), .int .i64 k, .int .u32 o, cellV ow x y v kk] w fun e w' => e = .returned (.int .i64 0) ∧ ∃ O', AO w' O' a (upd f k ⟨o, x, y, vals, kids, 1⟩) live most (fun x => ext x + old.count x - (kidsOf kids).count x) (fun x => op x && x != k) ∧ (∀ j, O' j → O j ∨ w.heap.size ≤ j) ∧ Fr O w w' := by
  have hkr := h.ext_r hk0
  obtain ⟨cl, fr, rfl, h⟩ := h
  obtain ⟨base, gs, cs, vf, sl, V, h1, h2, h3, h4, h5, h6, h7, h8⟩ := h.mem.m
  have hl := h.lc
  have hc := fn_live (cl := cl) (i := k) (by omega)
  have hkll : k < cl.length := (List.getElem?_eq_some_iff.1 hc).1
  have hm := mask_at (op := op) hc
  obtain ⟨s, hs⟩ : ∃ s, sl[k]? = some s := ⟨sl[k]'(by omega), List.getElem?_eq_getElem _⟩
  have hci := h8 k s _ hs hc
  have hck := (h.kb k _ hc (by omega)).1
  have holdl : ∀ i, old.count i ≤ 1000 := fun i => by
    rw [hold]
    refine Nat.le_trans (List.count_le_length ..) (Nat.le_trans (kidsOf_len _) ?_)
    unfold opn
    split
    · exact Nat.zero_le _
    · exact hck
  have hex : ext k = 1 := by omega
  have holdk : old.count k = 0 := by
    rw [hold]
    cases hq : op k
    · rw [opn_no hq, List.count_eq_zero]
      intro hx
      obtain ⟨_, d, g1, g2⟩ := h.kid hc (by omega) hq hx
      rw [hc] at g1
      cases g1
      omega
    · unfold opn
      rw [if_pos hq]
      rfl
  have holdo : ∀ i, op i = true → old.count i = 0 := fun i hi => by
    rw [hold]
    cases hq : op k
    · rw [opn_no hq, List.count_eq_zero]
      intro hx
      obtain ⟨g0, g1, c2, g2, g3⟩ := h.op1 i hi
      obtain ⟨_, d, q1, q2⟩ := h.kid hc (by omega) hq hx
      rw [g2] at q1
      cases q1
      omega
    · unfold opn
      rw [if_pos hq]
      rfl
  refine (edit_ok k o ow x y v kk vals kids s w h1 (by omega) hs hk0 (by rw [hci.r]; exact hr) hv hk (by omega) (by omega) (by rw [badAt_badC (isB_isC h7 h8)]; exact hb) ho (by rw [hci.ow]; exact hco)).mono ?_
  rintro e w' ⟨rfl, v', k', hraw, hv', hk', hF⟩
  have hFO : Fr O w w' := hF.mono (fun j hj => .inl (by rw [hj]; exact h3))
  have hga := h.mem.ol a h2
  have hgg := h.mem.ol gs h3
  have hwf := h.wf.edit (c' := ⟨o, x, y, vals, kids, 1⟩) hm (by rw [opn_r]; omega) (by rw [opn_r]; exact hr.symm) (fun z hz => by
    rw [mask_len]
    rcases badC_inv (cl := cl) hb z hz with q | q
    · exact q
    · omega) (by rw [← hold]; exact hct)
  rw [← hold] at hwf
  have hmk : (mask op cl).set k ⟨o, x, y, vals, kids, 1⟩ = mask (fun x => op x && x != k) (cl.set k ⟨o, x, y, vals, kids, 1⟩) := by
    apply List.ext_getElem?
    intro j
    rw [mask_get]
    by_cases e : k = j
    · subst e
      rw [List.getElem?_set_self (by rw [mask_len]; exact hkll), List.getElem?_set_self hkll]
      show some _ = some (opn (fun x => op x && x != k) k _)
      rw [opn_no (by simp)]
    · rw [List.getElem?_set_ne e, List.getElem?_set_ne e, mask_get]
      cases cl[j]? with
      | none => rfl
      | some c =>
        show some (opn op j c) = some (opn (fun x => op x && x != k) j c)
        have hb : (fun x => op x && x != k) j = op j := by simp [show ¬ j = k from fun q => e q.symm]
        unfold opn
        rw [hb]
  rw [hmk] at hwf
  have hac' : Acy (upd (fn cl) k ⟨o, x, y, vals, kids, 1⟩) (fun x => op x && x != k) := by
    refine h.ac.upd k _ (fun i hi hri ho2 => ?_) (List.count_eq_zero.1 hkk)
    have hoi : op i = false := by simpa [hi] using ho2
    refine ⟨hoi, fun hx => ?_⟩
    obtain ⟨_, d, q1, q2⟩ := h.kid (fn_live hri) hri hoi hx
    rw [← fn_at q1] at q2
    omega
  refine ⟨rfl, fun j => O j ∨ (w.heap.size ≤ j ∧ j < w'.heap.size), ⟨_, fr, (fn_set hkll _).symm, ⟨⟨base, gs, cs, vf, _, fun j => V j ∨ (w.heap.size ≤ j ∧ j < w'.heap.size), hraw, .inl h2, .inl h3, fun j hj => .inl (h4 j hj), fun j hj => hj.imp (h5 j) id, ?_, by rw [List.length_set, List.length_set]; exact h7, ?_⟩, ?_⟩, hwf, by rw [List.length_set]; exact h.cnt, h.m0, h.m1, h.lm, ?_, ?_, by rw [List.length_set]; exact hl, ?_, by rw [fn_set hkll]; exact hac'⟩, fun j hj => hj.imp id And.left, hFO⟩
  · intro j hj
    rcases hj with hj | hj
    · exact h6 j hj
    · exact ⟨by omega, by omega, fun e => by have := h.mem.ol j (h4 j e); omega⟩
  · intro i s2 c2 hs2 hc2
    by_cases e : i = k
    · subst e
      rw [List.getElem?_set_self (by omega)] at hs2 hc2
      cases hs2
      cases hc2
      exact ⟨rfl, rfl, rfl, rfl, row_lt hv' (fun j hj hjl => .inr ⟨hj, hjl⟩), row_lt hk' (fun j hj hjl => .inr ⟨hj, hjl⟩)⟩
    · rw [List.getElem?_set_ne (fun h => e h.symm)] at hs2 hc2
      exact ((h8 i s2 c2 hs2 hc2).fr hF (fun j hj e => (h6 j hj).2.1 e)).mono (fun j hj => .inl hj)
  · intro j hj
    rcases hj with hj | hj
    · exact Nat.lt_of_lt_of_le (h.mem.ol j hj) hFO.size
    · exact hj.2
  · intro i c2 hc2 hp
    rcases at_set hc hc2 with ⟨rfl, rfl⟩ | ⟨_, hc2⟩
    · exact ⟨hkl, hvl⟩
    · exact h.kb i c2 hc2 hp
  · intro i
    have h1 := heb i
    have h2 := holdl i
    omega
  · intro i hi
    have hi' : op i = true ∧ i ≠ k := by simpa using hi
    obtain ⟨g0, g1, c2, g2, g3⟩ := h.op1 i hi'.1
    exact ⟨g0, by rw [holdo i hi'.1, hop i hi'.1, g1], c2, by rw [List.getElem?_set_ne (fun e => hi'.2 e.symm)]; exact g2, g3⟩
end
end Go.Proofs.Ytnipbfhfaefieaa.Ao
/-! pvec: digits of small numbers; how many leaves. -/
namespace Go.Proofs.Ytnipbfhfaefieaa.Pv
open Go.RowKit Go Go.Proofs.YtnipbfhfaefieaaW.PrintWords Go.Proofs.YtnipbfhfaefieaaW.PrintMore Go.Proofs.YtnipbfhfaefieaaW.PrintLast Go.Proofs.Ytnipbfhfaefieaa.Bts Go.Proofs.Ytnipbfhfaefieaa.Fra Go.Proofs.Ytnipbfhfaefieaa.ArnP Go.Proofs.Ytnipbfhfaefieaa.Arn Go.Proofs.Ytnipbfhfaefieaa.Ao
theorem and31 : ∀ n : Fin 32, wrap64 (Go.bits .and .u64 ((n : Nat) : Int) 31) = ((n : Nat) : Int) := by decide +kernel
/-- The lowest digit of a number below 32. -/
theorem at_zero (n : Nat) (hn : n < 32) (w : World) : Calls Try.prog 61 #[.int .u64 n, .int .i64 0] w fun e w' => e = .returned (.int .i64 n) ∧ w' = w := by
  have h := and31 ⟨n, hn⟩
  replace h : wrap64 (Go.bits .and .u64 (n : Int) 31) = (n : Int) := h
  go_enter Try.func61, Try.ntmps61
  go_wp2
  go_ret
  exact ⟨congrArg (fun x => Ending.returned (.int .i64 x)) h, rfl⟩
/-- How many levels: of at most 32 things. -/
def lev (n : Nat) : Nat := if n ≤ 1 then 0 else 1
theorem levels_calls (n : Nat) (hn : n ≤ 32) (w : World) : Calls Try.prog 62 #[.int .i64 n] w fun e w' => e = .returned (.int .i64 (lev n : Int)) ∧ w' = w := by
  go_enter Try.func62, Try.ntmps62
  go_wp2
  go_loopw [3, 4] (fun x y wr => ((x = .int .i64 0 ∧ y = .int .i64 1) ∨ (x = .int .i64 1 ∧ y = .int .i64 32 ∧ 2 ≤ n)) ∧ wr = w) (fun x _ _ => 1 - (intOf x).toNat)
  case atStart => exact ⟨.inl ⟨rfl, rfl⟩, rfl⟩
  case round =>
    obtain ⟨h, rfl⟩ := hrel
    rcases h with ⟨rfl, rfl⟩ | ⟨rfl, rfl, h2⟩
    · by_cases h1 : n ≤ 1
      · have b : decide ((1 : Int) < (n : Int)) = false := by simp; omega
        go_wp2
        go_ret
        exact ⟨by unfold lev; rw [if_pos h1]; rfl, rfl⟩
      · have b : (1 : Int) < (n : Int) := by omega
        go_wp2
        go_roundw
        case rel => exact ⟨.inr ⟨by simp, by simp, by omega⟩, trivial⟩
        case measure => simp [intOf]
    · have b : decide ((32 : Int) < (n : Int)) = false := by simp; omega
      go_wp2
      go_ret
      exact ⟨by unfold lev; rw [if_neg (by omega)]; rfl, rfl⟩
abbrev vecV (n r t : Int) : Value := .agg #[.int .i64 n, .int .i64 r, .int .i64 t]
/-- How many leaves a vector of so many has. -/
def lvs (n : Nat) : Nat := (n - 1) / 32
theorem leaves_calls (n : Nat) (r t : Int) (hn : n ≤ 1024) (w : World) : Calls Try.prog 81 #[vecV n r t] w fun e w' => e = .returned (.int .i64 (lvs n : Int)) ∧ Below w.heap.size w w' := by
  by_cases h0 : n = 0
  · subst h0
    go_enter Try.func81, Try.ntmps81
    go_wp2
    go_ret
    exact ⟨rfl, below_alloc (Below.refl _ _) _⟩
  · have hn' : (n : Int) ≤ 1024 := by omega
    have h1 : ¬ (n : Int) - 1 < 0 := by omega
    have h2 : (((n : Int) - 1) / 32) = ((lvs n : Nat) : Int) := by unfold lvs; omega
    go_enter Try.func81, Try.ntmps81
    go_wp2
    go_ret
    exact ⟨rfl, below_alloc (Below.refl _ _) _⟩
end Go.Proofs.Ytnipbfhfaefieaa.Pv
/-! pvec: what a call keeps of others' cells; a cell is opened (let go, its others held). -/
namespace Go.Proofs.Ytnipbfhfaefieaa.Pv
open Go.RowKit Go Go.Proofs.YtnipbfhfaefieaaW.PrintWords Go.Proofs.YtnipbfhfaefieaaW.PrintMore Go.Proofs.YtnipbfhfaefieaaW.PrintLast Go.Proofs.Ytnipbfhfaefieaa.Bts Go.Proofs.Ytnipbfhfaefieaa.Fra Go.Proofs.Ytnipbfhfaefieaa.ArnP Go.Proofs.Ytnipbfhfaefieaa.Arn Go.Proofs.Ytnipbfhfaefieaa.Ao
/-- How often a list has a cell's number. -/
def kc (l : List Int) : Nat → Nat := fun x => (kidsOf l).count x
def one (i : Nat) : Nat → Nat := fun x => if x = i then 1 else 0
section
variable {W W' : World} {O S Q : Nat → Prop} {a : Nat} {f f' g : Nat → Cell} {live most : Int} {ext rest : Nat → Nat} {op : Nat → Bool}
theorem same_step (h : AO W O a f live most ext op) (P : Nat → Prop) (hst : ∀ x, Lv f op x → P x → f' x = {f x with r := (f' x).r}) (hP : ∀ x, Lv f op x → P x → ∀ y ∈ kidsOf (f x).kids, P y) : ∀ j, Lv f op j → P j → Same f f' j := fun j h1 h2 =>
  same_of (fun x => Lv f op x ∧ P x) (fun x hx => ⟨hst x hx.1 hx.2, fun y hy => ⟨(h.lv_kid hx.1 hy).1, hP x hx.1 hx.2 y hy⟩⟩) j ⟨h1, h2⟩
/-- Whom others hold is what he was: an open one wholly, another one with all that he leads to. -/
def KeepR (rest : Nat → Nat) (op : Nat → Bool) (f f' : Nat → Cell) : Prop := ∀ j, 0 < j → 0 < rest j → (op j = true → f' j = f j) ∧ (op j = false → Same f f' j)
theorem KeepR.refl (rest : Nat → Nat) (op : Nat → Bool) (f : Nat → Cell) : KeepR rest op f f := fun j _ _ => ⟨fun _ => rfl, fun _ => Same.refl f j⟩
theorem KeepR.trans (h1 : KeepR rest op f g) (h2 : KeepR rest op g f') : KeepR rest op f f' := fun j h0 hr => ⟨fun ho => ((h2 j h0 hr).1 ho).trans ((h1 j h0 hr).1 ho), fun ho => ((h1 j h0 hr).2 ho).trans ((h2 j h0 hr).2 ho)⟩
theorem KeepR.mono {rest' : Nat → Nat} (h : KeepR rest op f f') (hr : ∀ j, 0 < rest' j → 0 < rest j) : KeepR rest' op f f' := fun j h0 h1 => h j h0 (hr j h1)
theorem rec_r {c d : Cell} (h : d = {c with r := d.r}) (hr : d.r = c.r) : d = c := by
  rw [h, hr]
/-- Cells are what they were, but for how many hold them. -/
def OnlyR (f f' : Nat → Cell) : Prop := ∀ x, f' x = {f x with r := (f' x).r}
theorem OnlyR.refl (f : Nat → Cell) : OnlyR f f := fun _ => rfl
theorem OnlyR.upd (h : OnlyR f g) (k : Nat) (n : Int) : OnlyR f (upd g k {g k with r := n}) := fun x => by
  unfold Ao.upd
  split
  · rename_i e
    subst e
    show ({g x with r := n} : Cell) = {f x with r := n}
    rw [h x]
  · exact h x
/-- Behind a Drop. -/
theorem keepR_drop {ext' : Nat → Nat} {O' : Nat → Prop} {live' : Int} (h : AO W O a f live most ext op) (h' : AO W' O' a f' live' most ext' op) (hg : OnlyR f g) (hl : LeftF g f') (hr : ∀ j, 0 < j → 0 < rest j → 0 < (f j).r) (hr' : ∀ j, rest j ≤ ext' j) : KeepR rest op f f' := by
  have hst : ∀ x, 0 < (f' x).r → f' x = {f x with r := (f' x).r} := fun x hx => by
    obtain ⟨e, _⟩ := hl x hx
    rw [hg x] at e
    exact e
  intro j h0 hj
  have he := hr j h0 hj
  have he' := h'.ext_lv h0 (Nat.lt_of_lt_of_le hj (hr' j))
  refine ⟨fun ho => rec_r (hst j he') ?_, fun ho => same_step h (fun x => 0 < (f' x).r) (fun x _ hx => hst x hx) (fun x hx hx2 y hy => ?_) j ⟨h0, he, ho⟩ he'⟩
  · rw [(h'.op_r ho).2.2, (h.op_r ho).2.2]
  · have hk : kidsOf (f' x).kids = kidsOf (f x).kids := by rw [hst x hx2]
    exact (h'.lv_kid ⟨hx.1, hx2, hx.2.2⟩ (hk ▸ hy)).1.2.1
end
section
variable {W : World} {O : Nat → Prop} {a : Nat} {f : Nat → Cell} {live most : Int} {ext : Nat → Nat} {op : Nat → Bool}
/-- A live cell's lists are no longer than they may be; its others are no negative numbers. -/
theorem AO.kl (h : AO W O a f live most ext op) {i : Nat} (hr : 0 < (f i).r) : (f i).kids.length ≤ 1000 ∧ (f i).vals.length ≤ 1000000000 := by
  obtain ⟨cl, fr, rfl, h⟩ := h
  exact h.kb i _ (fn_live hr) hr
theorem AO.kn (h : AO W O a f live most ext op) {i : Nat} (hi : Lv f op i) : ∀ y ∈ (f i).kids, 0 ≤ y := by
  obtain ⟨cl, fr, rfl, h⟩ := h
  intro y hy
  have hm := mask_at (op := op) (fn_live hi.2.1)
  rw [opn_no hi.2.2] at hm
  exact (h.wf.kn i _ hm hi.2.1 y hy).1
end
theorem mem_kidsOf {l : List Int} {y : Int} (hy : y ∈ l) (h0 : y ≠ 0) : y.toNat ∈ kidsOf l := by
  unfold kidsOf
  exact List.mem_map.2 ⟨y, List.mem_filter.2 ⟨hy, by simpa using h0⟩, rfl⟩
theorem kc_le (l : List Int) (x : Nat) : kc l x ≤ l.length := Nat.le_trans (List.count_le_length ..) (kidsOf_len _)
abbrev workV (a : Nat) (o : Int) : Value := .agg #[.pointer (some ⟨a, 0, none⟩), .int .u32 o]
theorem kc_take (l : List Int) (j : Nat) (x : Int) (hj : j < l.length) (hx : rd l (j : Int) = x) (h0 : 0 ≤ x) : kc (l.take (j + 1)) = fun y => kc (l.take j) y + (if x = 0 then 0 else one x.toNat y) := by
  funext y
  have h := nz_snoc l j x hj hx
  unfold kc
  rw [← nz_map, ← nz_map, h, List.map_append, List.count_append]
  congr 1
  by_cases e : x = 0
  · rw [if_pos e, if_pos e]; rfl
  · rw [if_neg e, if_neg e]
    unfold one
    show List.count y [x.toNat] = _
    rw [List.count_singleton]
    by_cases e2 : y = x.toNat
    · subst e2; simp
    · rw [if_neg e2]
      have : (x.toNat == y) = false := by simpa using fun q => e2 (Eq.symm q)
      simp [this]
theorem kc_take0 (l : List Int) (j : Nat) (x : Int) (hj : j < l.length) (hx : rd l (j : Int) = x) (h0 : x = 0) : kc (l.take (j + 1)) = kc (l.take j) := by
  rw [kc_take l j x hj hx (by omega)]
  funext y
  rw [if_pos h0, Nat.add_zero]
theorem kc_take1 (l : List Int) (j : Nat) (x : Int) (hj : j < l.length) (hx : rd l (j : Int) = x) (h0 : 0 ≤ x) (h1 : x ≠ 0) : kc (l.take (j + 1)) = fun y => kc (l.take j) y + one x.toNat y := by
  rw [kc_take l j x hj hx h0]
  funext y
  rw [if_neg h1]
set_option maxHeartbeats 4000000 in
set_option maxRecDepth 100000 in
theorem open_calls {O : Nat → Prop} {a : Nat} {f : Nat → Cell} {live most : Int} {rest : Nat → Nat} {op : Nat → Bool} (o : Int) (i : Nat) (w : World) (h : AO w O a f live most (fun x => rest x + one i x) op) (hi : 0 < i) (ho : op i = false) (hb : ∀ x, rest x ≤ 90000000000) :
    Calls Try.prog 87 #[workV a o, .int .i64 i] w fun e w' => ∃ v k O' f' live', e = .returned (cellV (f i).ow (f i).a (f i).b v k) ∧ VR w' w.heap.size v (f i).vals ∧ KR w' w.heap.size k (f i).kids ∧ (∀ j, v.ownBlock = some j → k.ownBlock ≠ some j) ∧ (∀ j, v.ownBlock = some j ∨ k.ownBlock = some j → ¬ O' j) ∧ AO w' O' a f' live' most (fun x => rest x + kc (f i).kids x) op ∧ KeepR rest op f f' ∧ (∀ x ∈ kidsOf (f i).kids, Same f f' x) ∧ live' ≤ live ∧ (∀ j, O' j → O j ∨ w.heap.size ≤ j) ∧ Fr O w w' := by
  have hlive : 0 < (f i).r := h.ext_lv hi (by show 0 < rest i + one i i; unfold one; rw [if_pos rfl]; omega)
  have H := Lib.hid h
  have HB := Lib.hid hb
  have HLT := Lib.hid h.lt
  clear h hb
  go_enter Try.func87, Try.ntmps87
  go_wp2_with (first
    | (go_at_call 24; go_loud (refine (get_AO i _ (H.out.below (by repeat (first | (with_reducible first | exact Below.refl _ _ | apply below_alloc | apply pw_below_drewN | apply below_drew1)))) hi hlive).mono ?_; rintro e w1 ⟨v, k, rfl, hv1, hk1, hd1, hB1⟩; obtain ⟨A1, c1, e1⟩ := Kd.R_slice hv1; subst e1; obtain ⟨A2, c2, e2⟩ := Kd.R_slice hk1; subst e2; have HV1 := Lib.hid hv1; have HK1 := Lib.hid hk1; have HD1 := Lib.hid hd1; have HB1 := Lib.hid hB1; clear hv1 hk1 hd1 hB1)))
  have hnB : ∀ b, w.heap.size ≤ b → ¬ O b := fun b hb e => by have := HLT.out b e; omega
  have hbW : Below w.heap.size w (w1.alloc (.cells #[.int .u32 (f i).ow, .int .u32 (f i).a, .int .u32 (f i).b, .slice A1 (f i).vals.length c1, .slice A2 (f i).kids.length c2] 43)) := below_alloc (below_step (below_alloc (below_alloc (Below.refl _ _) _) _) HB1.out) _
  have hb2 := below_alloc (Below.refl w1.heap.size w1) (.cells #[.int .u32 (f i).ow, .int .u32 (f i).a, .int .u32 (f i).b, .slice A1 (f i).vals.length c1, .slice A2 (f i).kids.length c2] 43)
  have hbw := blk_below (blk_below (blk_alloc (blk_new w (.cells #[.pointer (some ⟨a, 0, none⟩), .int .u32 o] 133)) zeroBlk) HB1.out) hb2
  have hbr := blk_below (blk_below (new1 w (.cells #[.pointer (some ⟨a, 0, none⟩), .int .u32 o] 133) zeroBlk) HB1.out) hb2
  have hbc := blk_new w1 (.cells #[.int .u32 (f i).ow, .int .u32 (f i).a, .int .u32 (f i).b, .slice A1 (f i).vals.length c1, .slice A2 (f i).kids.length c2] 43)
  have hA2 := H.out.below hbW
  have hk2 := Kd.R_below HK1.out hb2
  have hv2 := Kd.R_below HV1.out hb2
  have hs1 : w.heap.size + 2 ≤ w1.heap.size := by have := HB1.out.size; simpa using this
  have hki : (w1.alloc (.cells #[.int .u32 (f i).ow, .int .u32 (f i).a, .int .u32 (f i).b, .slice A1 (f i).vals.length c1, .slice A2 (f i).kids.length c2] 43)).heap.size = w1.heap.size + 1 := by simp
  obtain ⟨W2, hW2⟩ : ∃ W2, w1.alloc (.cells #[.int .u32 (f i).ow, .int .u32 (f i).a, .int .u32 (f i).b, .slice A1 (f i).vals.length c1, .slice A2 (f i).kids.length c2] 43) = W2 := ⟨_, rfl⟩
  rw [hW2] at hbW hbw hbr hbc hA2 hk2 hv2 hki ⊢
  have hLv : Lv f op i := ⟨hi, hlive, ho⟩
  have hkl := (AO.kl H.out hlive).1
  have HBW := Lib.hid hbW
  have HBw := Lib.hid hbw
  have HBr := Lib.hid hbr
  have HBc := Lib.hid hbc
  have HA2 := Lib.hid hA2
  have HK2 := Lib.hid hk2
  have HV2 := Lib.hid hv2
  have hkl' : ((f i).kids.length : Int) ≤ 1000 := by omega
  clear hbW hb2 hbw hbr hbc hA2 hk2 hv2 hW2
  go_loopw [19] (fun x wr => ∃ (j : Nat) (fj : Nat → Cell), x = .int .i64 (j : Int) ∧ j ≤ (f i).kids.length ∧ AO wr O a fj live most (fun x => rest x + one i x + kc ((f i).kids.take j) x) op ∧ OnlyR f fj ∧ Fr O W2 wr) (fun x _ => (f i).kids.length - (intOf x).toNat)
  case atStart =>
    refine ⟨0, f, rfl, Nat.zero_le _, ?_, OnlyR.refl f, Fr.refl _ _⟩
    have e : (fun x => rest x + one i x + kc ((f i).kids.take 0) x) = fun x => rest x + one i x := by funext x; simp [kc, kidsOf]
    rw [e]
    exact HA2.out
  case round =>
    obtain ⟨j, fj, rfl, hj, hA, hO, hF⟩ := hrel
    have HA := Lib.hid hA
    have HO := Lib.hid hO
    have HF := Lib.hid hF
    have hbw' := hF.blk HBw.out (hnB _ (by omega))
    have q0 := blk_cell hbw' 0
    have HBw2 := Lib.hid hbw'
    clear hA hO hF hbw'
    by_cases hjl : j < (f i).kids.length
    · obtain ⟨x, hx⟩ : ∃ x, rd (f i).kids (j : Int) = x := ⟨_, rfl⟩
      obtain ⟨A, c, eA, _, hC⟩ := Kd.R_reads HK2.out
      injection eA with eA _ ec
      subst eA ec
      obtain ⟨ad, had, hcc⟩ := Kd.at_int (C_fr kInt_K hC HF.out (fun ad e => hnB _ (by have := HK2.out.1 ad.block (by rw [e]; rfl); simp at this; omega))) (j : Int) (by omega) (by omega)
      subst had
      rw [hx, Int.toNat_natCast] at hcc
      have hxm : x ∈ (f i).kids := by
        have e : (f i).kids[j] = x := by rw [← hx]; simp [rd, List.getD, hjl]
        rw [← e]; exact List.getElem_mem hjl
      have hx0 := AO.kn H.out hLv x hxm
      have HRX := Lib.hid hx
      have HXM := Lib.hid hxm
      have hjl' : (j : Int) < ((f i).kids.length : Int) := by omega
      clear hx hxm hC
      by_cases hz : x = 0
      · subst hz
        have HX := Lib.hid (kc_take0 (f i).kids j 0 hjl HRX.out rfl)
        go_wp2_with (go_at_call 27; go_loud (refine (keepn_AO 0 _ HA.out (isF_zero _)).mono ?_; rintro e w3 ⟨rfl, hB3⟩; have HB3 := Lib.hid hB3; clear hB3))
        go_roundw
        case rel =>
          refine ⟨j + 1, fj, by simp, by omega, ?_, HO.out, HF.out.more HB3.out⟩
          rw [HX.out]
          exact HA.out.below HB3.out
        case measure => simp [intOf]; omega
      · have HX := Lib.hid (kc_take1 (f i).kids j x hjl HRX.out hx0 hz)
        obtain ⟨y, rfl⟩ : ∃ y : Nat, x = y := ⟨x.toNat, by omega⟩
        have hy0 : 0 < y := by omega
        have hif : 0 < (fj i).r := HA.out.ext_lv hi (by show 0 < rest i + one i i + _; unfold one; rw [if_pos rfl]; omega)
        have hyk : y ∈ kidsOf (fj i).kids := by
          rw [HO.out i]
          have := mem_kidsOf HXM.out (by omega)
          rwa [Int.toNat_natCast] at this
        have hyl := (HA.out.lv_kid ⟨hi, hif, ho⟩ hyk).1
        have hey : rest y + one i y + kc ((f i).kids.take j) y < 100000000000 := by
          have h1 := HB.out y
          have h2 := kc_le ((f i).kids.take j) y
          have h3 : ((f i).kids.take j).length ≤ 1000 := by rw [List.length_take]; omega
          have h4 : one i y ≤ 1 := by unfold one; split <;> omega
          omega
        have HY := Lib.hid hyl
        have HEY := Lib.hid hey
        clear hyl hey hyk hif
        go_wp2_with (go_at_call 27; go_loud (refine (keep_AO y _ HA.out hy0 HY.out.2.1 HY.out.2.2 HEY.out).mono ?_; rintro e w3 ⟨rfl, hA3, hF3⟩; have HA3 := Lib.hid hA3; have HF3 := Lib.hid hF3; clear hA3 hF3))
        go_roundw
        case rel =>
          refine ⟨j + 1, Ao.upd fj y {fj y with r := (fj y).r + 1}, by simp, by omega, ?_, HO.out.upd y _, HF.out.trans HF3.out⟩
          rw [HX.out]
          have e : (fun x => if x = y then rest x + one i x + kc ((f i).kids.take j) x + 1 else rest x + one i x + kc ((f i).kids.take j) x) = fun x => rest x + one i x + (kc ((f i).kids.take j) x + one (Int.toNat (y : Int)) x) := by
            funext x
            rw [Int.toNat_natCast]
            unfold one
            split <;> omega
          rw [← e]
          exact HA3.out
        case measure => simp [intOf]; omega
    · have hjl' : ¬ (j : Int) < ((f i).kids.length : Int) := by omega
      obtain rfl : j = (f i).kids.length := by omega
      have hbc' := HF.out.blk HBc.out (hnB _ (by omega))
      have hbr' := HF.out.blk HBr.out (hnB _ (by omega))
      have HBc2 := Lib.hid hbc'
      have HBr2 := Lib.hid hbr'
      clear hbc' hbr'
      go_wp2_with (go_at_call 23; go_loud (refine (drop_AO i _ HA.out hi (by show 0 < rest i + one i i + _; unfold one; rw [if_pos rfl]; omega) ho).mono ?_; rintro e w4 ⟨rfl, O4, f4, live4, hA4, hL4, hll4, hO4, hF4⟩; have hbc4 := hF4.blk HBc2.out (hnB _ (by omega)); have hbr4 := hF4.blk HBr2.out (hnB _ (by omega)); have r0 := blk_cell hbc4 0; have r1 := blk_cell hbc4 1; have r2 := blk_cell hbc4 2; have r3 := blk_cell hbc4 3; have r4 := blk_cell hbc4 4; have s0 := blk_cell hbr4 0; have s1 := blk_cell hbr4 1; have s2 := blk_cell hbr4 2; have s3 := blk_cell hbr4 3; have s4 := blk_cell hbr4 4; have z0 := blk_frozen hbr4 0; have z1 := blk_frozen hbr4 1; have z2 := blk_frozen hbr4 2; have z3 := blk_frozen hbr4 3; have z4 := blk_frozen hbr4 4; have HBr4 := Lib.hid hbr4; have HA4 := Lib.hid hA4; have HL4 := Lib.hid hL4; have HLL4 := Lib.hid hll4; have HO4 := Lib.hid hO4; have HF4 := Lib.hid hF4; clear hbc4 hbr4 hA4 hL4 hll4 hO4 hF4))
      refine bodyPost_ret (results_cell_row rfl _ _ (w.heap.size + 1) 43 #[.int .u32 (f i).ow, .int .u32 (f i).a, .int .u32 (f i).b, .slice A1 (f i).vals.length c1, .slice A2 (f i).kids.length c2] (0, 0) _ rfl (ret5 HBr4.out _ _ _ _ _) Try.underlying43 rfl (by kernel_rfl)) rfl ?_
      have hf5 := fr5 w4 (w.heap.size + 1) (.int .u32 (f i).ow) (.int .u32 (f i).a) (.int .u32 (f i).b) (.slice A1 (f i).vals.length c1) (.slice A2 (f i).kids.length c2)
      have hF5 : Fr (fun b => O b ∨ b = w.heap.size + 1) W2 _ := ((HF.out.trans HF4.out).mono (S' := fun b => O b ∨ b = w.heap.size + 1) (fun b hb => .inl (.inl hb))).then_ hf5 (fun b hb => .inl (.inr hb))
      have hek : (fun x => if x = i then rest x + one i x + kc ((f i).kids.take (f i).kids.length) x - 1 else rest x + one i x + kc ((f i).kids.take (f i).kids.length) x) = fun x => rest x + kc (f i).kids x := by
        funext x
        rw [List.take_length]
        unfold one
        split <;> omega
      have hA5 := HA4.out
      rw [hek] at hA5
      have h4lt := hA5.lt
      have hno4 : ∀ b, O4 b → b ≠ w.heap.size + 1 := fun b hb e => by
        rcases HO4.out b hb with q | q
        · exact hnB b (by omega) q
        · have := HF.out.size
          omega
      have hk5 := AO.move hA5 hf5 hno4
      have hkeep := keepR_drop (rest := fun x => rest x + kc (f i).kids x) HA2.out hA5 HO.out HL4.out (fun x h0 hx => by
        by_cases hr : 0 < rest x
        · exact HA2.out.ext_lv h0 (by show 0 < rest x + _; omega)
        · exact (HA2.out.lv_kid hLv (List.count_pos_iff.1 (by show 0 < kc (f i).kids x; omega))).1.2.1) (fun x => Nat.le_refl _)
      have hVb : ∀ b, (Value.slice A1 (f i).vals.length c1).ownBlock = some b → w.heap.size + 2 ≤ b ∧ b < W2.heap.size := fun b hb => ⟨by have := HV2.out.1 b hb; simpa using this, by obtain ⟨q, ho⟩ := Kd.R_own HV2.out; exact own_lt ho b hb⟩
      have hKb : ∀ b, (Value.slice A2 (f i).kids.length c2).ownBlock = some b → w.heap.size + 2 ≤ b ∧ b < W2.heap.size := fun b hb => ⟨by have := HK2.out.1 b hb; simpa using this, by obtain ⟨q, ho⟩ := Kd.R_own HK2.out; exact own_lt ho b hb⟩
      have hsz : ((w.alloc (.cells #[.pointer (some ⟨a, 0, none⟩), .int .u32 o] 133)).alloc zeroBlk).heap.size = w.heap.size + 2 := by simp
      have hv5 : VR _ w.heap.size (.slice A1 (f i).vals.length c1) (f i).vals := Kd.R_lower (Kd.R_mono (Kd.R_kept (Kd.R_reok (ok := fun b => w.heap.size + 2 ≤ b) rfl HV2.out (fun b hb => (hVb b hb).1)) hF5.kept (fun b hb e => e.elim (hnB b (by omega)) (fun q => by omega))) (fun b hb => by omega)) (by rw [hsz]; omega)
      have hk5' : KR _ w.heap.size (.slice A2 (f i).kids.length c2) (f i).kids := Kd.R_lower (Kd.R_mono (Kd.R_kept (Kd.R_reok (ok := fun b => w.heap.size + 2 ≤ b) rfl HK2.out (fun b hb => (hKb b hb).1)) hF5.kept (fun b hb e => e.elim (hnB b (by omega)) (fun q => by omega))) (fun b hb => by omega)) (by rw [hsz]; omega)
      refine ⟨_, _, O4, f4, live4, rfl, hv5, hk5', HD1.out, fun b hb e => ?_, hk5, hkeep.mono (fun x hx => by show 0 < rest x + _; omega), fun x hx => ?_, HLL4.out, fun b hb => ?_, ?_⟩
      · have hb2 : w.heap.size + 2 ≤ b ∧ b < W2.heap.size := hb.elim (hVb b) (hKb b)
        rcases HO4.out b e with q | q
        · exact hnB b (by omega) q
        · have := HF.out.size
          omega
      · have hk := (HA2.out.lv_kid hLv hx).1
        exact (hkeep x hk.1 (by show 0 < rest x + kc (f i).kids x; have : 0 < kc (f i).kids x := List.count_pos_iff.2 hx; omega)).2 hk.2.2
      · rcases HO4.out b hb with q | q
        · exact .inl q
        · have := HF.out.size
          exact .inr (by omega)
      · exact Fr.then_ (Fr.of_new HBW.out) hF5 (fun b hb => hb.elim .inl (fun q => .inr (by omega)))
end Go.Proofs.Ytnipbfhfaefieaa.Pv
/-! pvec: a cell is made. -/
namespace Go.Proofs.Ytnipbfhfaefieaa.Pv
open Go.RowKit Go Go.Proofs.YtnipbfhfaefieaaW.PrintWords Go.Proofs.YtnipbfhfaefieaaW.PrintMore Go.Proofs.YtnipbfhfaefieaaW.PrintLast Go.Proofs.Ytnipbfhfaefieaa.Bts Go.Proofs.Ytnipbfhfaefieaa.Fra Go.Proofs.Ytnipbfhfaefieaa.ArnP Go.Proofs.Ytnipbfhfaefieaa.Arn Go.Proofs.Ytnipbfhfaefieaa.Ao
section
variable {W W' : World} {O S Q : Nat → Prop} {a : Nat} {f f' g : Nat → Cell} {live most : Int} {ext rest : Nat → Nat} {op : Nat → Bool}
theorem upd_ne {f : Nat → Cell} {k x : Nat} (c : Cell) (h : x ≠ k) : upd f k c x = f x := if_neg h
theorem upd_eq (f : Nat → Cell) (k : Nat) (c : Cell) : upd f k c k = c := if_pos rfl
/-- Behind a Make, or an Edit: nobody else leads to the cell. -/
theorem keepR_upd (h : AO W O a f live most ext op) (k : Nat) (c : Cell) (hk : ¬ Lv f op k) (hko : op k = false ∨ rest k = 0) (hr : ∀ j, 0 < j → 0 < rest j → 0 < (f j).r) : KeepR rest op f (upd f k c) := by
  intro j h0 hj
  have hlj := hr j h0 hj
  refine ⟨fun ho => upd_ne _ (fun e => ?_), fun ho => same_step h (fun x => True) (fun x hx _ => ?_) (fun _ _ _ _ _ => trivial) j ⟨h0, hlj, ho⟩ trivial⟩
  · subst e
    rcases hko with q | q
    · rw [ho] at q; cases q
    · omega
  · rw [upd_ne _ (fun e => by subst e; exact hk hx)]
/-- Open cells: their holds are among the others'. -/
theorem op_kc {l : List Int} (h : AO W O a f live most (fun x => rest x + kc l x) op) (hro : ∀ x, op x = true → 1 ≤ rest x) : ∀ x, op x = true → kc l x = 0 := fun x hx => by
  have h1 := (h.op_r hx).2.1
  have h2 := hro x hx
  have h1 : rest x + kc l x = 1 := h1
  omega
end
theorem make_ao {O Q : Nat → Prop} {a : Nat} {f : Nat → Cell} {live most : Int} {rest : Nat → Nat} {op : Nat → Bool} (ow x y : Int) (v k : Value) (vals : List (Int × Int × ByteArray)) (kids : List Int) (w : World) (h : AO w O a f live most (fun z => rest z + kc kids z) op) (hv : RowIn kVal w Q v vals) (hk : RowIn (Kd.int .i64) w Q k kids) (hQ : ∀ j, Q j → ¬ O j) (hn : ∀ z ∈ kids, 0 ≤ z) (hlm : live < most) (hkl : kids.length ≤ 1000) (hvl : vals.length ≤ 1000000000) (hro : ∀ z, op z = true → 1 ≤ rest z) :
    Calls Try.prog 21 #[.pointer (some ⟨a, 0, none⟩), cellV ow x y v k] w fun e w' => ∃ (i : Nat) (O' : Nat → Prop), e = .returned (.tuple #[.int .i64 i, .int .i64 0]) ∧ AO w' O' a (upd f i ⟨ow, x, y, vals, kids, 1⟩) (live + 1) most (fun z => rest z + one i z) op ∧ 0 < i ∧ (f i).r = 0 ∧ op i = false ∧ KeepR rest op f (upd f i ⟨ow, x, y, vals, kids, 1⟩) ∧ (∀ j, O' j → O j ∨ w.heap.size ≤ j) ∧ Fr O w w' := by
  have hct : ∀ z, 0 < z → (kidsOf kids).count z ≤ rest z + kc kids z := fun z _ => Nat.le_add_left _ _
  have hop := op_kc h hro
  refine (make_AO ow x y v k vals kids w h hv hk hQ (bad_of_ext h hn hct) hlm hkl hvl hct hop).mono ?_
  rintro e w' ⟨i, O', he, hA, h0, hr, ho, hO, hF⟩
  have hx := h.ext_r h0
  have hx : ((rest i + kc kids i : Nat) : Int) ≤ (f i).r := hx
  have e1 : (fun z => if z = i then 1 else rest z + kc kids z - (kidsOf kids).count z) = fun z => rest z + one i z := by
    funext z
    unfold one
    by_cases q : z = i
    · rw [if_pos q, if_pos q, q]; omega
    · rw [if_neg q, if_neg q]
      show rest z + kc kids z - kc kids z = _
      omega
  rw [e1] at hA
  exact ⟨i, O', he, hA, h0, hr, ho, keepR_upd h i _ (fun q => by have := q.2.1; omega) (.inl ho) (fun j hj hr2 => h.ext_lv hj (by show 0 < rest j + _; omega)), hO, hF⟩
set_option maxHeartbeats 4000000 in
set_option maxRecDepth 100000 in
/-- make, with nothing to be done to the cell. -/
theorem make_nil {O Q : Nat → Prop} {a : Nat} {f : Nat → Cell} {live most : Int} {rest : Nat → Nat} {op : Nat → Bool} (o ow x y : Int) (v k : Value) (vals : List (Int × Int × ByteArray)) (kids : List Int) (w : World) (h : AO w O a f live most (fun z => rest z + kc kids z) op) (hv : RowIn kVal w Q v vals) (hk : RowIn (Kd.int .i64) w Q k kids) (hQ : ∀ j, Q j → ¬ O j) (hn : ∀ z ∈ kids, 0 ≤ z) (hlm : live < most) (hkl : kids.length ≤ 1000) (hvl : vals.length ≤ 1000000000) (hro : ∀ z, op z = true → 1 ≤ rest z) :
    Calls Try.prog 82 #[workV a o, cellV ow x y v k, .nilFunc] w fun e w' => ∃ (i : Nat) (O' : Nat → Prop), e = .returned (.int .i64 i) ∧ AO w' O' a (upd f i ⟨o, x, y, vals, kids, 1⟩) (live + 1) most (fun z => rest z + one i z) op ∧ 0 < i ∧ (f i).r = 0 ∧ op i = false ∧ KeepR rest op f (upd f i ⟨o, x, y, vals, kids, 1⟩) ∧ (∀ j, O' j → O j ∨ w.heap.size ≤ j) ∧ Fr O w w' := by
  have HVR := Lib.hid hv
  have HKR := Lib.hid hk
  obtain ⟨A1, c1, rfl, _⟩ := hv
  obtain ⟨A2, c2, rfl, _⟩ := hk
  have H := Lib.hid h
  have hb : Below w.heap.size w ((w.alloc (.cells #[.pointer (some ⟨a, 0, none⟩), .int .u32 o] 133)).alloc (.cells #[.int .u32 o, .int .u32 x, .int .u32 y, .slice A1 vals.length c1, .slice A2 kids.length c2] 43)) := below_alloc (below_alloc (Below.refl _ _) _) _
  have HA := Lib.hid (h.below hb)
  have hvs := HVR.out.below hb
  have hks := HKR.out.below hb
  have hnf : ∀ w : World, (binOp .neq 138 .nilFunc .nilFunc).run Try.prog w = .ok (.bool false) w := fun _ => by kernel_rfl
  have HVS := Lib.hid hvs
  have HKS := Lib.hid hks
  have HF := Lib.hid hb
  clear h hvs hks hb
  go_enter Try.func82, Try.ntmps82
  go_wp2_with (go_at_call 21; go_loud (refine (make_ao o x y _ _ vals kids _ HA.out HVS.out HKS.out hQ hn hlm hkl hvl hro).mono ?_; rintro e w3 ⟨i, O', rfl, hA3, h0, hr, hoi, hK, hO3, hF3⟩))
  go_ret
  refine ⟨i, O', rfl, hA3, h0, hr, hoi, hK, fun j hj => (hO3 j hj).imp id (fun q => Nat.le_trans HF.out.size q), ?_⟩
  exact (Fr.of_new HF.out).trans hF3
end Go.Proofs.Ytnipbfhfaefieaa.Pv
/-! pvec: make and change, with what is done to the cell. Printed by wip/tools/gen_pvd.py. -/
namespace Go.Proofs.Ytnipbfhfaefieaa.Pv
open Go.RowKit Go Go.Proofs.YtnipbfhfaefieaaW.PrintWords Go.Proofs.YtnipbfhfaefieaaW.PrintMore Go.Proofs.YtnipbfhfaefieaaW.PrintLast Go.Proofs.Ytnipbfhfaefieaa.Bts Go.Proofs.Ytnipbfhfaefieaa.Fra Go.Proofs.Ytnipbfhfaefieaa.ArnP Go.Proofs.Ytnipbfhfaefieaa.Arn Go.Proofs.Ytnipbfhfaefieaa.Ao
/-- A cell in a block, with rows of its own, that is none of an arena's. -/
structure CBO (w : World) (O : Nat → Prop) (lo b : Nat) (v k : Value) (c : Cell) : Prop where
  blk : w.heap[b]? = some (.cells #[.int .u32 c.ow, .int .u32 c.a, .int .u32 c.b, v, k] 43 (0, 0))
  vr : VR w lo v c.vals
  kr : KR w lo k c.kids
  vk : ∀ j, v.ownBlock = some j → k.ownBlock ≠ some j ∧ j ≠ b ∧ ¬ O j
  kk : ∀ j, k.ownBlock = some j → j ≠ b ∧ ¬ O j
  no : ¬ O b
/-- What a call that does something to a cell may write. -/
def Wr (O : Nat → Prop) (b : Nat) (v k : Value) : Nat → Prop := fun j => O j ∨ j = b ∨ v.ownBlock = some j ∨ k.ownBlock = some j
theorem CBO.move {w w' : World} {O S : Nat → Prop} {lo b : Nat} {v k : Value} {c : Cell} (h : CBO w O lo b v k c) (hf : Fr S w w') (hb : ¬ S b) (hv : ∀ j, v.ownBlock = some j → ¬ S j) (hk : ∀ j, k.ownBlock = some j → ¬ S j) : CBO w' O lo b v k c := by
  have h1 := Kd.R_tight2 (d := kVal) rfl h.vr
  have h2 := Kd.R_tight2 (d := Kd.int .i64) rfl h.kr
  exact ⟨hf.blk h.blk hb, Kd.R_mono (Kd.R_kept h1 hf.kept (fun j hj => hv j hj.1.symm)) (fun j hj => hj.2), Kd.R_mono (Kd.R_kept h2 hf.kept (fun j hj => hk j hj.1.symm)) (fun j hj => hj.2), h.vk, h.kk, h.no⟩
theorem CBO.below {w w' : World} {O : Nat → Prop} {lo b : Nat} {v k : Value} {c : Cell} (h : CBO w O lo b v k c) (hb : Below w.heap.size w w') : CBO w' O lo b v k c := h.move (Fr.of_new (S := fun _ => False) hb) id (fun _ _ => id) (fun _ _ => id)
theorem CBO.rows {w : World} {O : Nat → Prop} {lo b : Nat} {v k : Value} {c : Cell} (h : CBO w O lo b v k c) : RowIn kVal w (fun j => ¬ O j) v c.vals ∧ RowIn (Kd.int .i64) w (fun j => ¬ O j) k c.kids := by
  constructor
  · obtain ⟨A, n, e, h1, h2, h3, h4⟩ := RowIn.of_R h.vr
    exact ⟨A, n, e, h1, h2, h3, fun ad ha => ⟨(h.vk ad.block (by rw [e, ha]; rfl)).2.2, (h4 ad ha).2⟩⟩
  · obtain ⟨A, n, e, h1, h2, h3, h4⟩ := RowIn.of_R h.kr
    exact ⟨A, n, e, h1, h2, h3, fun ad ha => ⟨(h.kk ad.block (by rw [e, ha]; rfl)).2, (h4 ad ha).2⟩⟩
/-- What is promised of a function that does something to a cell: args are its arguments, from the cell's address on. -/
def Cb (N : Nat) (args : Value → Array Value) (w0 : World) (O0 : Nat → Prop) (a : Nat) (most : Int) (rest ex : Nat → Nat) (op : Nat → Bool) (f0 : Nat → Cell) (need : Int) (c : Cell) (R : (Nat → Cell) → Cell → Prop) : Prop :=
  ∀ (w : World) (O : Nat → Prop) (f : Nat → Cell) (live : Int) (lo b : Nat) (v k : Value), AO w O a f live most (fun x => rest x + ex x + kc c.kids x) op → Fr O0 w0 w → (∀ j, O j → O0 j ∨ w0.heap.size ≤ j) → w0.heap.size ≤ lo → lo ≤ w.heap.size → w0.heap.size ≤ b → CBO w O lo b v k c → KeepR (fun x => rest x + ex x) op f0 f → (∀ x ∈ kidsOf c.kids, Same f0 f x) → live + need ≤ most →
    Calls Try.prog N (args (.pointer (some ⟨b, 0, none⟩))) w fun e w' => e = .returned (.tuple #[]) ∧ ∃ (O' : Nat → Prop) (f' : Nat → Cell) (live' : Int) (c' : Cell) (v' k' : Value), AO w' O' a f' live' most (fun x => rest x + kc c'.kids x) op ∧ CBO w' O' lo b v' k' c' ∧ Fr (Wr O b v k) w w' ∧ (∀ j, O' j → O j ∨ w.heap.size ≤ j) ∧ live' ≤ live + need ∧ KeepR rest op f f' ∧ R f' c' ∧ c'.ow = c.ow ∧ c'.kids.length ≤ 1000 ∧ c'.vals.length ≤ 1000000000 ∧ (∀ z ∈ c'.kids, 0 ≤ z)
/-- A row whose block is another one than those of S. -/
theorem row_ne {α : Type} {d : Kd α} {w : World} {Q S : Nat → Prop} {v : Value} {xs : List α} (h : RowIn d w Q v xs) (hs : ∀ j, v.ownBlock = some j → ¬ S j) : RowIn d w (fun j => Q j ∧ ¬ S j) v xs := by
  obtain ⟨A, c, e, h1, h2, h3, h4⟩ := h
  exact ⟨A, c, e, h1, h2, h3, fun ad ha => ⟨⟨(h4 ad ha).1, hs _ (by rw [e, ha]; rfl)⟩, (h4 ad ha).2⟩⟩
theorem cbo_new {w w1 : World} {O : Nat → Prop} {base : Nat} {v k : Value} {c : Cell} (hv : VR w1 base v c.vals) (hk : KR w1 base k c.kids) (hd : ∀ j, v.ownBlock = some j → k.ownBlock ≠ some j) (hnB : ∀ b, w.heap.size ≤ b → ¬ O b) (hb : base = w.heap.size + 1) (hle : w.heap.size + 1 ≤ w1.heap.size) : CBO (w1.alloc (.cells #[.int .u32 c.ow, .int .u32 c.a, .int .u32 c.b, v, k] 43)) O (w.heap.size + 1) w1.heap.size v k c := by
  subst hb
  have hbl := below_alloc (Below.refl w1.heap.size w1) (.cells #[.int .u32 c.ow, .int .u32 c.a, .int .u32 c.b, v, k] 43)
  obtain ⟨q1, o1⟩ := Kd.R_own hv
  obtain ⟨q2, o2⟩ := Kd.R_own hk
  exact ⟨blk_new w1 _, Kd.R_below hv hbl, Kd.R_below hk hbl, fun j hj => ⟨hd j hj, by have := own_lt o1 j hj; omega, hnB j (by have := own_base o1 j hj; omega)⟩, fun j hj => ⟨by have := own_lt o2 j hj; omega, hnB j (by have := own_base o2 j hj; omega)⟩, hnB _ (by omega)⟩
theorem rows_from {w w1 : World} {base : Nat} {v k : Value} {xs : List (Int × Int × ByteArray)} {ys : List Int} (hv : VR w1 base v xs) (hk : KR w1 base k ys) (hb : w.heap.size + 1 ≤ base) : ∀ j, v.ownBlock = some j ∨ k.ownBlock = some j → w.heap.size + 1 ≤ j := by
  obtain ⟨q1, o1⟩ := Kd.R_own hv
  obtain ⟨q2, o2⟩ := Kd.R_own hk
  rintro j (hj | hj)
  · have := own_base o1 j hj; omega
  · have := own_base o2 j hj; omega
theorem wr_no {w : World} {O : Nat → Prop} {b : Nat} {v k : Value} (hnB : ∀ b, w.heap.size ≤ b → ¬ O b) (hvk : ∀ j, v.ownBlock = some j ∨ k.ownBlock = some j → w.heap.size + 1 ≤ j) (hb : w.heap.size + 1 ≤ b) : ¬ Wr O b v k w.heap.size := by
  rintro (e | e | e | e)
  · exact hnB _ (Nat.le_refl _) e
  · omega
  · have := hvk _ (.inl e); omega
  · have := hvk _ (.inr e); omega
section
variable {O O0 : Nat → Prop} {a : Nat} {f f' : Nat → Cell} {live most : Int} {rest : Nat → Nat} {op : Nat → Bool}
theorem refs_ao {ext : Nat → Nat} (i : Nat) (w : World) (h : AO w O a f live most ext op) (hi : 0 < i) (hr : 0 < (f i).r) : Calls Try.prog 26 #[.pointer (some ⟨a, 0, none⟩), .int .i64 i] w fun e w' => e = .returned (.int .i64 (f i).r) ∧ Below w.heap.size w w' := by
  have := refs_AO (i : Int) w h
  rwa [isF_at hi hr, if_pos rfl, Int.toNat_natCast] at this
theorem open_ao {w : World} {i : Nat} (h : AO w O a f live most (fun z => rest z + one i z) op) (hi : 0 < i) (hr : (f i).r = 1) (ho : op i = false) (hone : one i i = 1) (hb : ∀ x, rest x ≤ 80000000000) : AO w O a f live most (fun x => rest x + one i x + kc (f i).kids x) (fun x => x == i || op x) :=
  h.open_ hi hr (by show 0 < rest i + one i i; omega) (fun x => by
    have h1 := hb x
    have h2 : one i x ≤ 1 := by unfold one; split <;> omega
    show rest x + one i x ≤ _
    omega) ho
theorem open_ex {ex : Nat → Nat} {w : World} {i : Nat} (h : AO w O a f live most (fun z => rest z + ex z + one i z) op) (hi : 0 < i) (hr : (f i).r = 1) (ho : op i = false) (hone : one i i = 1) (hb : ∀ x, rest x + ex x ≤ 80000000000) : AO w O a f live most (fun x => rest x + one i x + ex x + kc (f i).kids x) (fun x => x == i || op x) := by
  have := open_ao (rest := fun z => rest z + ex z) h hi hr ho hone hb
  have e : (fun x => rest x + ex x + one i x + kc (f i).kids x) = fun x => rest x + one i x + ex x + kc (f i).kids x := by funext x; omega
  rwa [e] at this
theorem edit_in {w3 : World} {O3 : Nat → Prop} {f3 : Nat → Cell} {live3 : Int} {lo b : Nat} {v k : Value} {c3 : Cell} {i : Nat} {o : Int} (hA3 : AO w3 O3 a f3 live3 most (fun x => rest x + one i x + kc c3.kids x) (fun x => x == i || op x)) (hC3 : CBO w3 O3 lo b v k c3) (hfi : f3 i = f i) (ho : o ≠ 0) (hi : 0 < i) (hr : (f i).r = 1) (how : (f i).ow = o) (hopi : op i = false) (hone : one i i = 1) (hb : ∀ x, rest x ≤ 80000000000) (hro : ∀ z, op z = true → 1 ≤ rest z) (hz1 : c3.kids.length ≤ 1000) (hz2 : c3.vals.length ≤ 1000000000) (hz3 : ∀ z ∈ c3.kids, 0 ≤ z) :
    Calls Try.prog 28 #[.pointer (some ⟨a, 0, none⟩), .int .i64 i, .int .u32 o, cellV c3.ow c3.a c3.b v k] w3 fun e w' => e = .returned (.int .i64 0) ∧ ∃ O', AO w' O' a (upd f3 i {c3 with ow := o, r := 1}) live3 most (fun z => rest z + one i z) op ∧ (∀ j, O' j → O3 j ∨ w3.heap.size ≤ j) ∧ Fr O3 w3 w' := by
  have hro' : ∀ z, (fun x => x == i || op x) z = true → 1 ≤ rest z + one i z := by
    intro z hz
    by_cases e : z = i
    · subst e; omega
    · have hz2 : (z == i || op z) = true := hz
      rw [show (z == i) = false by simpa using e, Bool.false_or] at hz2
      have := hro z hz2
      omega
  have hop := op_kc (rest := fun z => rest z + one i z) hA3 hro'
  have hct : ∀ x, 0 < x → (kidsOf c3.kids).count x ≤ rest x + one i x + kc c3.kids x := fun x _ => Nat.le_add_left _ _
  refine (edit_AO i o c3.ow c3.a c3.b v k c3.vals c3.kids w3 hA3 hi (by rw [hfi]; exact hr) (by show 0 < rest i + one i i + _; omega) hC3.rows.1 hC3.rows.2 (bad_of_ext hA3 hz3 hct) ho (by rw [hfi]; exact how) hz1 hz2 [] (by show [] = kidsOf (opn (fun x => x == i || op x) i (f3 i)).kids; unfold opn; rw [if_pos (by simp)]; rfl) (fun x hx => Nat.le_trans (hct x hx) (Nat.le_add_right _ _)) hop (hop i (by simp)) (fun x => by
    have h1 := hb x
    have h2 : one i x ≤ 1 := by unfold one; split <;> omega
    have h3 := kc_le c3.kids x
    show rest x + one i x + kc c3.kids x ≤ _
    omega)).mono ?_
  rintro e w' ⟨he, O', hA, hO, hF⟩
  have e1 : (fun x => rest x + one i x + kc c3.kids x + List.count x [] - (kidsOf c3.kids).count x) = fun z => rest z + one i z := by
    funext x
    show rest x + one i x + kc c3.kids x + 0 - kc c3.kids x = _
    omega
  have e2 : (fun x => (x == i || op x) && x != i) = op := by
    funext x
    show ((x == i || op x) && x != i) = op x
    by_cases q : x = i
    · subst q; simp [hopi]
    · have h1 : (x == i) = false := by simpa using q
      have h2 : (x != i) = true := by simpa using q
      rw [h1, h2, Bool.false_or, Bool.and_true]
  rw [e1, e2] at hA
  exact ⟨he, O', hA, hO, hF⟩
end
end Go.Proofs.Ytnipbfhfaefieaa.Pv
/-! pvec: one value more at a cell. -/
namespace Go.Proofs.Ytnipbfhfaefieaa.Pv
open Go.RowKit Go Go.Proofs.YtnipbfhfaefieaaW.PrintWords Go.Proofs.YtnipbfhfaefieaaW.PrintMore Go.Proofs.YtnipbfhfaefieaaW.PrintLast Go.Proofs.Ytnipbfhfaefieaa.Bts Go.Proofs.Ytnipbfhfaefieaa.Fra Go.Proofs.Ytnipbfhfaefieaa.ArnP Go.Proofs.Ytnipbfhfaefieaa.Arn Go.Proofs.Ytnipbfhfaefieaa.Ao
abbrev zf : Nat → Nat := fun _ => 0
abbrev ValB (w : World) (b : Nat) (q n : Int) (s : ByteArray) : Prop := w.heap[b]? = some (.cells #[.int .u8 q, .int .i64 n, .string s] 66 (0, 0))
/-- A cell's values become others, in its own row or a new one. -/
theorem CBO.vals {w w1 : World} {O : Nat → Prop} {lo b : Nat} {v v1 k : Value} {c : Cell} {vals : List (Int × Int × ByteArray)} (h : CBO w O lo b v k c) (hlt : ∀ j, O j → j < w.heap.size) (hf : Fr (fun j => v.ownBlock = some j) w w1) (hr : VR w1 lo v1 vals) (hv : ∀ j, v1.ownBlock = some j → v.ownBlock = some j ∨ w.heap.size ≤ j) :
    CBO (w1.setCell ⟨b, 3, none⟩ v1) O lo b v1 k {c with vals := vals} ∧ Fr (Wr O b v k) w (w1.setCell ⟨b, 3, none⟩ v1) := by
  have hbl := blk_lt h.blk
  have hkl : ∀ j, k.ownBlock = some j → j < w.heap.size := fun j hj => by obtain ⟨q, ho⟩ := Kd.R_own h.kr; exact own_lt ho j hj
  have hb1 := hf.blk h.blk (fun e => (h.vk b e).2.1 rfl)
  have hs : Fr (fun j => j = b) w1 (w1.setCell ⟨b, 3, none⟩ v1) := Fr.set b 3 v1
  have hvb : ∀ j, v1.ownBlock = some j → j ≠ b := fun j hj e => by
    rcases hv j hj with q | q
    · exact (h.vk j q).2.1 e
    · omega
  refine ⟨⟨(blk_put hb1 3 v1 rfl).trans rfl, ?_, ?_, fun j hj => ⟨fun e => ?_, hvb j hj, fun e => ?_⟩, h.kk, h.no⟩, (hf.mono (fun j hj => .inl (.inr (.inr (.inl hj))))).then_ hs (fun j hj => .inl (.inr (.inl hj)))⟩
  · exact Kd.R_mono (Kd.R_kept (Kd.R_tight2 (d := kVal) rfl hr) hs.kept (fun j hj e => hvb j hj.1.symm e)) (fun j hj => hj.2)
  · exact Kd.R_mono (Kd.R_kept (Kd.R_mono (Kd.R_kept (Kd.R_tight2 (d := Kd.int .i64) rfl h.kr) hf.kept (fun j hj e => (h.vk j e).1 hj.1.symm)) (fun j hj => hj)) hs.kept (fun j hj e => (h.kk j hj.1.symm).1 e)) (fun j hj => hj.2)
  · rcases hv j hj with q | q
    · exact (h.vk j q).1 e
    · have := hkl j e; omega
  · rcases hv j hj with q | q
    · exact (h.vk j q).2.2 e
    · have := hlt j e; omega
set_option maxHeartbeats 2000000 in
set_option maxRecDepth 100000 in
theorem cb_push {O0 : Nat → Prop} {a : Nat} {f0 : Nat → Cell} {most : Int} {rest : Nat → Nat} {op : Nat → Bool} {c : Cell} {xb : Nat} {q n : Int} {s : ByteArray} (w0 : World) (hx : ValB w0 xb q n s) (hxO : ¬ O0 xb) (hl : c.vals.length < 1000) (hkl : c.kids.length ≤ 1000) (hkn : ∀ z ∈ c.kids, 0 ≤ z) :
    Cb 79 (fun p => #[p, .pointer (some ⟨xb, 0, none⟩)]) w0 O0 a most rest zf op f0 0 c (fun _ c' => c' = {c with vals := c.vals ++ [(q, n, s)]}) := by
  intro w O f live lo b v k hA hF hO hlo hlo2 hb0 hC hK hS hlm
  have hxl := blk_lt hx
  have hxw := hF.blk hx hxO
  obtain ⟨A1, c1, e1⟩ := Kd.R_slice hC.vr
  subst e1
  have hd : Below w.heap.size w w.drew := below_drew1 (Below.refl _ _)
  have hCd := hC.below hd
  have hxd := blk_below hxw hd
  have hlt := hA.lt
  have p3 := blk_cell hCd.blk 3
  have x0 := blk_cell hxd 0
  have x1 := blk_cell hxd 1
  have x2 := blk_cell hxd 2
  have HC := Lib.hid hCd
  have HX := Lib.hid hxd
  have HA := Lib.hid hA
  have HLT := Lib.hid hlt
  have hsz : w.drew.heap.size = w.heap.size := by simp
  clear hK hS hF hO hC hCd hxw hxd hA hd hlt hx
  go_enter Try.func79, Try.ntmps79
  refine start_ (n := 11) (S := fun w' => w'.cell? ⟨b, 3, none⟩ = some (.slice A1 c.vals.length c1) ∧ w'.cell? ⟨xb, 0, none⟩ = some (.int .u8 q) ∧ w'.cell? ⟨xb, 1, none⟩ = some (.int .i64 n) ∧ w'.cell? ⟨xb, 2, none⟩ = some (.string s)) (ds := [7, 10]) #[false, false, false, false, false, false, false, false, false, false, false] (by kernel_rfl) rfl rfl ⟨p3, x0, x1, x2⟩ (fun hHeld => ?_)
  refine pure_ (i := 0) (N := some 3) (v := ?_) (a' := ?_) #[true, false, false, false, false, false, false, false, false, false, false] rfl rfl (by kernel_rfl) (fun _ _ _ h => h) (Or.inl ⟨by rfl, ?_⟩) ?_ ?_
  rotate_left
  · intro w'
    go_simp
    with_reducible rfl
  rotate_left
  · simp only [Act.put, List.setIfInBounds_toArray, List.set_cons_zero, List.set_cons_succ, i64_w, i32_w]
    rfl
  refine pure_ (i := 1) (N := some 4) (v := ?_) (a' := ?_) #[true, true, false, false, false, false, false, false, false, false, false] rfl rfl (by kernel_rfl) (fun _ _ _ h => h) (Or.inl ⟨by rfl, ?_⟩) ?_ ?_
  rotate_left
  · intro w'
    go_simp
    with_reducible rfl
  rotate_left
  · simp only [Act.put, List.setIfInBounds_toArray, List.set_cons_zero, List.set_cons_succ, i64_w, i32_w]
    rfl
  refine pure_ (i := 2) (N := some 5) (v := ?_) (a' := ?_) #[true, true, true, false, false, false, false, false, false, false, false] rfl rfl (by kernel_rfl) (fun _ _ _ h => h) (Or.inl ⟨by rfl, ?_⟩) ?_ ?_
  rotate_left
  · intro w'
    go_simp
    with_reducible rfl
  rotate_left
  · simp only [Act.put, List.setIfInBounds_toArray, List.set_cons_zero, List.set_cons_succ, i64_w, i32_w]
    rfl
  refine pure_ (i := 3) (N := some 6) (v := ?_) (a' := ?_) #[true, true, true, true, false, false, false, false, false, false, false] rfl rfl (by kernel_rfl) (fun _ _ _ h => h) (Or.inl ⟨by rfl, ?_⟩) ?_ ?_
  rotate_left
  · intro w'
    go_simp
    with_reducible rfl
  rotate_left
  · simp only [Act.put, List.setIfInBounds_toArray, List.set_cons_zero, List.set_cons_succ, i64_w, i32_w]
    rfl
  refine take_ (i := 4) (N := some 7) (v := ?_) (a' := ?_) #[true, true, true, true, true, false, false, false, false, false, false] rfl rfl (by kernel_rfl) (fun _ _ _ h => h) (Or.inl ⟨by rfl, ?_⟩) hHeld ?_ ?_
  rotate_left
  · rintro w' ⟨s0, s1, s2, s3⟩
    go_simp
    with_reducible rfl
  rotate_left
  · simp only [Act.put, List.setIfInBounds_toArray, List.set_cons_zero, List.set_cons_succ, i64_w, i32_w]
    rfl
  refine take_ (i := 5) (N := some 8) (v := ?_) (a' := ?_) #[true, true, true, true, true, true, false, false, false, false, false] rfl rfl (by kernel_rfl) (fun _ _ _ h => h) (Or.inl ⟨by rfl, ?_⟩) hHeld ?_ ?_
  rotate_left
  · rintro w' ⟨s0, s1, s2, s3⟩
    go_simp
    with_reducible rfl
  rotate_left
  · simp only [Act.put, List.setIfInBounds_toArray, List.set_cons_zero, List.set_cons_succ, i64_w, i32_w]
    rfl
  refine one_ (i := 6) (N := some 9) #[true, true, true, true, true, true, true, false, false, false, false] rfl rfl (by kernel_rfl) (by decide) (fun K hK => ?_)
  refine value_ (w1 := ?_) (v := ?_) (by rfl) rfl ?_ ?_
  rotate_left 2
  · go_simp
    constructor
    · rfl
    · rfl
  refine hK.out _ _ ⟨(pw_cell_below (below_alloc (Below.refl w.drew.heap.size w.drew) _) p3), (pw_cell_below (below_alloc (Below.refl w.drew.heap.size w.drew) _) x0), (pw_cell_below (below_alloc (Below.refl w.drew.heap.size w.drew) _) x1), (pw_cell_below (below_alloc (Below.refl w.drew.heap.size w.drew) _) x2)⟩ (fun hHeld => ?_)
  clear hK K
  refine norm_ (a' := ?_) ?_ ?_
  rotate_left
  · show Act.put _ (some 9) _ = _
    simp only [Act.put, List.setIfInBounds_toArray, List.set_cons_zero, List.set_cons_succ, i64_w, i32_w]
    rfl
  refine last_ (i := 7) (N := some 10) #[true, true, true, true, true, true, true, true, false, false, false] rfl rfl (by kernel_rfl) (by decide) (fun K hK => ?_)
  refine Kd.R_append_step kVal (w0 := w.drew) (W := w.drew) lo (by rfl) (.tmp 7) (.tmp 9) 41 66 (.agg #[.int .u8 0, .int .i64 0, .string (⟨#[]⟩ : ByteArray)]) 32 rfl Try.underlying41 ClV.infoVal rfl (by decide) (by decide) (.slice A1 c.vals.length c1) c.vals (q, n, s) [.int .u8 q, .int .i64 n, .string s] (fun j => lo ≤ j) (fun _ => False) rfl rfl ⟨_, _, rfl, rfl, _, _, rfl, rfl, rfl⟩ (fun _ h => h.elim) (fun j hj => by omega) HC.out.vr (Below.refl _ _) (by omega) (by omega) ?_
  intro v7 w7 hR7 hB7 hg7 hat7
  obtain ⟨A7, c7, e7⟩ := Kd.R_slice hR7
  subst e7
  have hcv := HC.out.vals (v1 := .slice A7 (c.vals ++ [(q, n, s)]).length c7) HLT.out (fr_grownBy hg7) hR7 (fun j hj => hat7.elim (fun e => .inl (e ▸ hj)) (fun ⟨b', e, hb'⟩ => .inr (by rw [e] at hj; cases hj; exact hb')))
  have hb7 := (fr_grownBy hg7).blk HC.out.blk (fun e => (HC.out.vk b e).2.1 rfl)
  have r3 := blk_cell hb7 3
  have z3 := blk_frozen hb7 3
  refine hK.out _ _ ?_
  clear hK K
  refine norm_ (a' := ?_) ?_ ?_
  rotate_left
  · show Act.put _ (some 10) _ = _
    simp only [Act.put, List.setIfInBounds_toArray, List.set_cons_zero, List.set_cons_succ, i64_w, i32_w]
    rfl
  refine pure_ (i := 8) (N := some 11) (v := ?_) (a' := ?_) #[true, true, true, true, true, true, true, true, true, false, false] rfl rfl (by kernel_rfl) (fun _ _ _ h => h) (Or.inl ⟨by rfl, ?_⟩) ?_ ?_
  rotate_left
  · intro w'
    go_simp
    with_reducible rfl
  rotate_left
  · simp only [Act.put, List.setIfInBounds_toArray, List.set_cons_zero, List.set_cons_succ, i64_w, i32_w]
    rfl
  refine pure_ (i := 9) (N := some 12) (v := ?_) (a' := ?_) #[true, true, true, true, true, true, true, true, true, true, false] rfl rfl (by kernel_rfl) (fun _ _ _ h => h) (Or.inl ⟨by rfl, ?_⟩) ?_ ?_
  rotate_left
  · intro w'
    go_simp
    with_reducible rfl
  rotate_left
  · simp only [Act.put, List.setIfInBounds_toArray, List.set_cons_zero, List.set_cons_succ, i64_w, i32_w]
    rfl
  refine last_ (i := 10) (N := none) #[true, true, true, true, true, true, true, true, true, true, true] rfl rfl (by kernel_rfl) (by decide) (fun K hK => ?_)
  refine skip_ (w1 := ?_) (by rfl) rfl ?_ ?_
  rotate_left
  · go_simp
    rfl
  refine hK.out _ _ ?_
  clear hK K
  refine done_ (by kernel_rfl) ?_

  go_end0
  have hln : (c.vals ++ [(q, n, s)]).length = c.vals.length + 1 := by simp
  rw [hln] at hcv
  have hd : Below w.heap.size w w.drew := below_drew1 (Below.refl _ _)
  have hb3 : Fr (fun j => j = b) w7 (w7.setCell ⟨b, 3, none⟩ (.slice A7 (c.vals.length + 1) c7)) := Fr.set b 3 _
  have hfa : Fr (fun j => (Value.slice A1 c.vals.length c1).ownBlock = some j ∨ j = b) w (w7.setCell ⟨b, 3, none⟩ (.slice A7 (c.vals.length + 1) c7)) := ((Fr.of_new hd).then_ (fr_grownBy hg7) (fun j hj => .inl (.inl hj))).then_ hb3 (fun j hj => .inl (.inr hj))
  have hA' := HA.out.move hfa (fun j hj e => e.elim (fun e => (HC.out.vk j e).2.2 hj) (fun e => HC.out.no (e ▸ hj)))
  have e1 : (fun x => rest x + zf x + kc c.kids x) = fun x => rest x + kc c.kids x := by funext x; show rest x + 0 + _ = _; omega
  rw [e1] at hA'
  exact ⟨rfl, O, f, live, {c with vals := c.vals ++ [(q, n, s)]}, _, _, hA', hcv.1, (Fr.of_new (S := Wr O b (.slice A1 c.vals.length c1) k) hd).then_ hcv.2 (fun j hj => .inl hj), fun j hj => .inl hj, by omega, KeepR.refl _ _ _, rfl, rfl, hkl, by rw [hln]; omega, hkn⟩
end Go.Proofs.Ytnipbfhfaefieaa.Pv
/-! pvec: a cell loses its last value; a value of a cell is another one. -/
namespace Go.Proofs.Ytnipbfhfaefieaa.Pv
open Go.RowKit Go Go.Proofs.YtnipbfhfaefieaaW.PrintWords Go.Proofs.YtnipbfhfaefieaaW.PrintMore Go.Proofs.YtnipbfhfaefieaaW.PrintLast Go.Proofs.Ytnipbfhfaefieaa.Bts Go.Proofs.Ytnipbfhfaefieaa.Fra Go.Proofs.Ytnipbfhfaefieaa.ArnP Go.Proofs.Ytnipbfhfaefieaa.Arn Go.Proofs.Ytnipbfhfaefieaa.Ao
set_option maxHeartbeats 2000000 in
set_option maxRecDepth 100000 in
theorem cb_pop {O0 : Nat → Prop} {a : Nat} {f0 : Nat → Cell} {most : Int} {rest : Nat → Nat} {op : Nat → Bool} {c : Cell} (w0 : World) (m : Nat) (hm : c.vals.length = m + 1) (hl : m ≤ 1000) (hkl : c.kids.length ≤ 1000) (hkn : ∀ z ∈ c.kids, 0 ≤ z) :
    Cb 85 (fun p => #[p]) w0 O0 a most rest zf op f0 0 c (fun _ c' => c' = {c with vals := c.vals.take m}) := by
  intro w O f live lo b v k hA hF hO hlo hlo2 hb0 hC hK hS hlm
  obtain ⟨inner, ho⟩ := Kd.R_own hC.vr
  rw [hm] at ho
  obtain ⟨g, c1, e1, hmc, _⟩ := own_some ho (by omega)
  subst e1
  have hd : Below w.heap.size w w.drew := below_drew1 (Below.refl _ _)
  have hCd := hC.below hd
  have hlt := hA.lt
  have p3 := blk_cell hCd.blk 3
  have y3 := blk_frozen hCd.blk 3
  have hcv := hCd.vals (v1 := .slice (some ⟨g, 0, none⟩) m c1) (w1 := w.drew) (vals := c.vals.take m) (fun j hj => by have := hlt j hj; simpa using this) (Fr.refl _ _) (Kd.R_take hCd.vr (by omega)) (fun j hj => .inl hj)
  have HC := Lib.hid hCd
  have HCV := Lib.hid hcv
  have HA := Lib.hid hA
  have HM := Lib.hid hm
  have hmc1 : (m : Int) ≤ (c1 : Int) := by omega
  have hw : wrap64 (m : Int) = (m : Int) := by unfold wrap64; omega
  clear hK hS hF hO hC hCd hA hd hlt hcv hm ho hmc
  go_enter Try.func85, Try.ntmps85
  refine start_ (n := 15) (S := fun w' => w'.cell? ⟨b, 3, none⟩ = some (.slice (some ⟨g, 0, none⟩) (m + 1) c1)) (ds := [14]) #[false, false, false, false, false, false, false, false, false, false, false, false, false, false, false] (by kernel_rfl) rfl rfl (p3) (fun hHeld => ?_)
  refine pure_ (i := 0) (N := some 2) (v := ?_) (a' := ?_) #[true, false, false, false, false, false, false, false, false, false, false, false, false, false, false] rfl rfl (by kernel_rfl) (fun _ _ _ h => h) (Or.inl ⟨by rfl, ?_⟩) ?_ ?_
  rotate_left
  · intro w'
    go_simp
    with_reducible rfl
  rotate_left
  · simp only [Act.put, List.setIfInBounds_toArray, List.set_cons_zero, List.set_cons_succ, i64_w, i32_w]
    rfl
  refine pure_ (i := 1) (N := some 3) (v := ?_) (a' := ?_) #[true, true, false, false, false, false, false, false, false, false, false, false, false, false, false] rfl rfl (by kernel_rfl) (fun _ _ _ h => h) (Or.inl ⟨by rfl, ?_⟩) ?_ ?_
  rotate_left
  · intro w'
    go_simp
    with_reducible rfl
  rotate_left
  · simp only [Act.put, List.setIfInBounds_toArray, List.set_cons_zero, List.set_cons_succ, i64_w, i32_w]
    rfl
  refine pure_ (i := 2) (N := some 4) (v := ?_) (a' := ?_) #[true, true, true, false, false, false, false, false, false, false, false, false, false, false, false] rfl rfl (by kernel_rfl) (fun _ _ _ h => h) (Or.inl ⟨by rfl, ?_⟩) ?_ ?_
  rotate_left
  · intro w'
    go_simp
    with_reducible rfl
  rotate_left
  · simp only [Act.put, List.setIfInBounds_toArray, List.set_cons_zero, List.set_cons_succ, i64_w, i32_w]
    rfl
  refine pure_ (i := 3) (N := some 5) (v := ?_) (a' := ?_) #[true, true, true, true, false, false, false, false, false, false, false, false, false, false, false] rfl rfl (by kernel_rfl) (fun _ _ _ h => h) (Or.inl ⟨by rfl, ?_⟩) ?_ ?_
  rotate_left
  · intro w'
    go_simp
    with_reducible rfl
  rotate_left
  · simp only [Act.put, List.setIfInBounds_toArray, List.set_cons_zero, List.set_cons_succ, i64_w, i32_w]
    rfl
  refine pure_ (i := 5) (N := some 7) (v := ?_) (a' := ?_) #[true, true, true, true, false, true, false, false, false, false, false, false, false, false, false] rfl rfl (by kernel_rfl) (fun _ _ _ h => h) (Or.inl ⟨by rfl, ?_⟩) ?_ ?_
  rotate_left
  · intro w'
    go_simp
    with_reducible rfl
  rotate_left
  · simp only [Act.put, List.setIfInBounds_toArray, List.set_cons_zero, List.set_cons_succ, i64_w, i32_w]
    rfl
  refine pure_ (i := 6) (N := some 8) (v := ?_) (a' := ?_) #[true, true, true, true, false, true, true, false, false, false, false, false, false, false, false] rfl rfl (by kernel_rfl) (fun _ _ _ h => h) (Or.inl ⟨by rfl, ?_⟩) ?_ ?_
  rotate_left
  · intro w'
    go_simp
    with_reducible rfl
  rotate_left
  · simp only [Act.put, List.setIfInBounds_toArray, List.set_cons_zero, List.set_cons_succ, i64_w, i32_w]
    rfl
  refine pure_ (i := 7) (N := some 9) (v := ?_) (a' := ?_) #[true, true, true, true, false, true, true, true, false, false, false, false, false, false, false] rfl rfl (by kernel_rfl) (fun _ _ _ h => h) (Or.inl ⟨by rfl, ?_⟩) ?_ ?_
  rotate_left
  · intro w'
    go_simp
    with_reducible rfl
  rotate_left
  · simp only [Act.put, List.setIfInBounds_toArray, List.set_cons_zero, List.set_cons_succ, i64_w, i32_w]
    rfl
  refine take_ (i := 4) (N := some 6) (v := ?_) (a' := ?_) #[true, true, true, true, true, true, true, true, false, false, false, false, false, false, false] rfl rfl (by kernel_rfl) (fun _ _ _ h => h) (Or.inl ⟨by rfl, ?_⟩) hHeld ?_ ?_
  rotate_left
  · intro w' s0
    go_simp
    with_reducible rfl
  rotate_left
  · simp only [Act.put, List.setIfInBounds_toArray, List.set_cons_zero, List.set_cons_succ, i64_w, i32_w]
    rfl
  refine take_ (i := 8) (N := some 10) (v := ?_) (a' := ?_) #[true, true, true, true, true, true, true, true, true, false, false, false, false, false, false] rfl rfl (by kernel_rfl) (fun _ _ _ h => h) (Or.inl ⟨by rfl, ?_⟩) hHeld ?_ ?_
  rotate_left
  · intro w' s0
    go_simp
    with_reducible rfl
  rotate_left
  · simp only [Act.put, List.setIfInBounds_toArray, List.set_cons_zero, List.set_cons_succ, i64_w, i32_w]
    rfl
  refine pure_ (i := 9) (N := some 11) (v := ?_) (a' := ?_) #[true, true, true, true, true, true, true, true, true, true, false, false, false, false, false] rfl rfl (by kernel_rfl) (fun _ _ _ h => h) (Or.inl ⟨by rfl, ?_⟩) ?_ ?_
  rotate_left
  · intro w'
    go_simp
    with_reducible rfl
  rotate_left
  · simp only [Act.put, List.setIfInBounds_toArray, List.set_cons_zero, List.set_cons_succ, i64_w, i32_w]
    rfl
  refine pure_ (i := 10) (N := some 12) (v := ?_) (a' := ?_) #[true, true, true, true, true, true, true, true, true, true, true, false, false, false, false] rfl rfl (by kernel_rfl) (fun _ _ _ h => h) (Or.inl ⟨by rfl, ?_⟩) ?_ ?_
  rotate_left
  · intro w'
    go_simp
    with_reducible rfl
  rotate_left
  · simp only [Act.put, List.setIfInBounds_toArray, List.set_cons_zero, List.set_cons_succ, i64_w, i32_w]
    rfl
  refine pure_ (i := 11) (N := some 13) (v := ?_) (a' := ?_) #[true, true, true, true, true, true, true, true, true, true, true, true, false, false, false] rfl rfl (by kernel_rfl) (fun _ _ _ h => h) (Or.inl ⟨by rfl, ?_⟩) ?_ ?_
  rotate_left
  · intro w'
    go_simp
    with_reducible rfl
  rotate_left
  · simp only [Act.put, List.setIfInBounds_toArray, List.set_cons_zero, List.set_cons_succ, i64_w, i32_w]
    rfl
  refine pure_ (i := 12) (N := some 14) (v := ?_) (a' := ?_) #[true, true, true, true, true, true, true, true, true, true, true, true, true, false, false] rfl rfl (by kernel_rfl) (fun _ _ _ h => h) (Or.inl ⟨by rfl, ?_⟩) ?_ ?_
  rotate_left
  · intro w'
    go_simp
    with_reducible rfl
  rotate_left
  · simp only [Act.put, List.setIfInBounds_toArray, List.set_cons_zero, List.set_cons_succ, i64_w, i32_w]
    rfl
  refine pure_ (i := 13) (N := some 15) (v := ?_) (a' := ?_) #[true, true, true, true, true, true, true, true, true, true, true, true, true, true, false] rfl rfl (by kernel_rfl) (fun _ _ _ h => h) (Or.inl ⟨by rfl, ?_⟩) ?_ ?_
  rotate_left
  · intro w'
    go_simp
    with_reducible rfl
  rotate_left
  · simp only [Act.put, List.setIfInBounds_toArray, List.set_cons_zero, List.set_cons_succ, i64_w, i32_w]
    rfl
  refine last_ (i := 14) (N := none) #[true, true, true, true, true, true, true, true, true, true, true, true, true, true, true] rfl rfl (by kernel_rfl) (by decide) (fun K hK => ?_)
  refine skip_ (w1 := ?_) (by rfl) rfl ?_ ?_
  rotate_left
  · go_simp
    rfl
  refine hK.out _ _ ?_
  clear hK K
  refine done_ (by kernel_rfl) ?_

  go_end0
  have hd : Below w.heap.size w w.drew := below_drew1 (Below.refl _ _)
  have hb3 : Fr (fun j => j = b) w.drew (w.drew.setCell ⟨b, 3, none⟩ (.slice (some ⟨g, 0, none⟩) m c1)) := Fr.set b 3 _
  have hA' := HA.out.move ((Fr.of_new hd).then_ hb3 (fun j hj => .inl hj)) (fun j hj e => HC.out.no (e ▸ hj))
  have e1 : (fun x => rest x + zf x + kc c.kids x) = fun x => rest x + kc c.kids x := by funext x; show rest x + 0 + _ = _; omega
  rw [e1] at hA'
  have hln : (c.vals.take m).length ≤ 1000000000 := Nat.le_trans (List.length_take_le _ _) (Nat.le_trans hl (by decide))
  exact ⟨rfl, O, f, live, {c with vals := c.vals.take m}, _, _, hA', HCV.out.1, (Fr.of_new (S := Wr O b (.slice (some ⟨g, 0, none⟩) (m + 1) c1) k) hd).then_ HCV.out.2 (fun j hj => .inl hj), fun j hj => .inl hj, by omega, KeepR.refl _ _ _, rfl, rfl, hkl, hln, hkn⟩
end Go.Proofs.Ytnipbfhfaefieaa.Pv
/-! pvec: a value of a cell is another one. -/
namespace Go.Proofs.Ytnipbfhfaefieaa.Pv
open Go.RowKit Go Go.Proofs.YtnipbfhfaefieaaW.PrintWords Go.Proofs.YtnipbfhfaefieaaW.PrintMore Go.Proofs.YtnipbfhfaefieaaW.PrintLast Go.Proofs.Ytnipbfhfaefieaa.Bts Go.Proofs.Ytnipbfhfaefieaa.Fra Go.Proofs.Ytnipbfhfaefieaa.ArnP Go.Proofs.Ytnipbfhfaefieaa.Arn Go.Proofs.Ytnipbfhfaefieaa.Ao
theorem reps_put {R : Int × Int × ByteArray → List Value → Prop} {xs : List (Int × Int × ByteArray)} {cs : List Value} (h : Reps R 3 xs cs) (i : Nat) (x : Int × Int × ByteArray) (a b c : Value) (hi : i < xs.length) (hx : R x [a, b, c]) : Reps R 3 (xs.set i x) (((cs.set (i * 3) a).set (i * 3 + 1) b).set (i * 3 + 2) c) := by
  obtain ⟨h1, h2⟩ := h
  refine ⟨by simp [h1], fun j p hj => ?_⟩
  have hget : ∀ k, k < 3 → (((cs.set (i * 3) a).set (i * 3 + 1) b).set (i * 3 + 2) c)[j * 3 + k]? = if j = i then [a, b, c][k]? else cs[j * 3 + k]? := by
    intro k hk
    by_cases e : j = i
    · subst e
      rw [if_pos rfl]
      rcases (by omega : k = 0 ∨ k = 1 ∨ k = 2) with rfl | rfl | rfl
      · rw [List.getElem?_set_ne (by omega), List.getElem?_set_ne (by omega), Nat.add_zero, List.getElem?_set_self (by omega)]; rfl
      · rw [List.getElem?_set_ne (by omega), List.getElem?_set_self (by simp; omega)]; rfl
      · rw [List.getElem?_set_self (by simp; omega)]; rfl
    · rw [if_neg e, List.getElem?_set_ne (by omega), List.getElem?_set_ne (by omega), List.getElem?_set_ne (by omega)]
  by_cases e : j = i
  · subst e
    rw [List.getElem?_set_self hi] at hj
    obtain rfl := Option.some.inj hj
    have : (((((cs.set (j * 3) a).set (j * 3 + 1) b).set (j * 3 + 2) c).drop (j * 3)).take 3) = [a, b, c] := by
      apply List.ext_getElem?
      intro k
      rw [List.getElem?_take]
      split
      · rename_i hk
        rw [List.getElem?_drop, hget k hk, if_pos rfl]
      · rename_i hk
        rw [List.getElem?_eq_none (by simp; omega)]
    rw [this]
    exact hx
  · rw [List.getElem?_set_ne (fun q => e q.symm)] at hj
    have : (((((cs.set (i * 3) a).set (i * 3 + 1) b).set (i * 3 + 2) c).drop (j * 3)).take 3) = (cs.drop (j * 3)).take 3 := by
      apply List.ext_getElem?
      intro k
      rw [List.getElem?_take, List.getElem?_take]
      split
      · rename_i hk
        rw [List.getElem?_drop, List.getElem?_drop, hget k hk, if_neg e]
      · rfl
    rw [this]
    exact h2 j p hj
theorem VR.put {w : World} {lo g n cap : Nat} {xs : List (Int × Int × ByteArray)} (h : VR w lo (.slice (some ⟨g, 0, none⟩) n cap) xs) (hn : xs.length = n) (i : Nat) (hi : i < xs.length) (q m : Int) (s : ByteArray) :
    VR (((w.setCell ⟨g, i * 3, none⟩ (.int .u8 q)).setCell ⟨g, i * 3 + 1, none⟩ (.int .i64 m)).setCell ⟨g, i * 3 + 2, none⟩ (.string s)) lo (.slice (some ⟨g, 0, none⟩) n cap) (xs.set i (q, m, s)) := by
  subst hn
  obtain ⟨h0, inner, ho, hr⟩ := h
  have h1 := (ho.stored (i * 3) (.int .u8 q)).1
  have h2 := (h1.stored (i * 3 + 1) (.int .i64 m)).1
  have h3 := (h2.stored (i * 3 + 2) (.string s)).1
  exact ⟨h0, _, by rw [List.length_set]; exact h3, reps_put hr i (q, m, s) _ _ _ hi ⟨_, _, rfl, rfl, _, _, rfl, rfl, rfl⟩⟩
/-- A cell's values become others, in their own row. -/
theorem CBO.row {w w1 : World} {O : Nat → Prop} {lo b g n cap : Nat} {k : Value} {c : Cell} {vals : List (Int × Int × ByteArray)} (h : CBO w O lo b (.slice (some ⟨g, 0, none⟩) n cap) k c) (hf : Fr (fun j => j = g) w w1) (hr : VR w1 lo (.slice (some ⟨g, 0, none⟩) n cap) vals) :
    CBO w1 O lo b (.slice (some ⟨g, 0, none⟩) n cap) k {c with vals := vals} :=
  ⟨hf.blk h.blk (fun e => (h.vk g rfl).2.1 e.symm), hr, Kd.R_mono (Kd.R_kept (Kd.R_tight2 (d := Kd.int .i64) rfl h.kr) hf.kept (fun j hj e => by subst e; exact (h.vk j rfl).1 hj.1.symm)) (fun j hj => hj.2), h.vk, h.kk, h.no⟩
theorem fr3w (w : World) (g o : Nat) (x y z : Value) : Fr (fun j => j = g) w (((w.setCell ⟨g, o, none⟩ x).setCell ⟨g, o + 1, none⟩ y).setCell ⟨g, o + 2, none⟩ z) :=
  Fr.put (S := fun k => k = g) (Fr.put (S := fun k => k = g) (Fr.put (S := fun k => k = g) (Fr.refl (fun k => k = g) w) (p := ⟨g, o, none⟩) (.inl rfl) x) (p := ⟨g, o + 1, none⟩) (.inl rfl) y) (p := ⟨g, o + 2, none⟩) (.inl rfl) z
abbrev IntB (w : World) (b : Nat) (i : Int) : Prop := w.heap[b]? = some (.cells #[.int .i64 i] 3 (0, 0))
set_option maxHeartbeats 2000000 in
set_option maxRecDepth 100000 in
theorem cb_set0 {O0 : Nat → Prop} {a : Nat} {f0 : Nat → Cell} {most : Int} {rest : Nat → Nat} {op : Nat → Bool} {c : Cell} {lb xb ib wb : Nat} {q n : Int} {s : ByteArray} (i : Nat) (w0 : World) (hL : IntB w0 lb 0) (hx : ValB w0 xb q n s) (hI : IntB w0 ib i) (hO0 : ¬ O0 lb ∧ ¬ O0 xb ∧ ¬ O0 ib) (hil : i ≤ 1024) (hi : i % 32 < c.vals.length) (hl : c.vals.length ≤ 1000) (hkl : c.kids.length ≤ 1000) (hkn : ∀ z ∈ c.kids, 0 ≤ z) :
    Cb 98 (fun p => #[p, .pointer (some ⟨lb, 0, none⟩), .pointer (some ⟨xb, 0, none⟩), .pointer (some ⟨ib, 0, none⟩), .pointer (some ⟨wb, 0, none⟩)]) w0 O0 a most rest zf op f0 0 c (fun _ c' => c' = {c with vals := c.vals.set (i % 32) (q, n, s)}) := by
  intro w O f live lo b v k hA hF hO hlo hlo2 hb0 hC hK hS hlm
  have hLw := hF.blk hL hO0.1
  have hxw := hF.blk hx hO0.2.1
  have hIw := hF.blk hI hO0.2.2
  have hil' : (i : Int) ≤ 1024 := by omega
  obtain ⟨r, hr⟩ : ∃ r : Nat, i % 32 = r := ⟨_, rfl⟩
  rw [hr] at hi
  obtain ⟨inner, ho⟩ := Kd.R_own hC.vr
  obtain ⟨g, c1, e1, hmc, _⟩ := own_some ho (by omega)
  subst e1
  obtain ⟨V, hV⟩ : ∃ V, w.drew = V := ⟨_, rfl⟩
  have hd : Below w.heap.size w V := by rw [← hV]; exact below_drew1 (Below.refl _ _)
  have HD := Lib.hid hd
  have hCd := hC.below hd
  have hxd := blk_below hxw hd
  have hId := blk_below hIw hd
  have l0 := blk_cell hLw 0
  have p3 := blk_cell hCd.blk 3
  have x0 := blk_cell hxd 0
  have x1 := blk_cell hxd 1
  have x2 := blk_cell hxd 2
  have i0 := blk_cell hId 0
  have hod := own_fr ho (Fr.of_new (S := fun _ => False) hd) (fun _ _ => id)
  have hin : inner.length = c.vals.length * 3 := ho.1
  obtain ⟨y0, t0⟩ : ∃ y, V.cell? ⟨g, r * 3, none⟩ = some y := ⟨_, (hod.cellAt (r * 3) (by show r * 3 < c.vals.length * 3; omega)).trans (List.getElem?_eq_getElem (by omega))⟩
  obtain ⟨y1, t1⟩ : ∃ y, V.cell? ⟨g, r * 3 + 1, none⟩ = some y := ⟨_, (hod.cellAt (r * 3 + 1) (by show r * 3 + 1 < c.vals.length * 3; omega)).trans (List.getElem?_eq_getElem (by omega))⟩
  obtain ⟨y2, t2⟩ : ∃ y, V.cell? ⟨g, r * 3 + 2, none⟩ = some y := ⟨_, (hod.cellAt (r * 3 + 2) (by show r * 3 + 2 < c.vals.length * 3; omega)).trans (List.getElem?_eq_getElem (by omega))⟩
  have u0 := hod.frozenAt (r * 3)
  have u1 := hod.frozenAt (r * 3 + 1)
  have u2 := hod.frozenAt (r * 3 + 2)
  have HA := Lib.hid hA
  have HC := Lib.hid hCd
  have HR := Lib.hid hr
  have HRL := Lib.hid hi
  have hrl : (r : Int) < (c.vals.length : Int) := by omega
  have hrm : ((i : Int).tmod 32) = (r : Int) := by rw [Int.tmod_eq_emod_of_nonneg (by omega)]; omega
  clear hod hin hK hS hF hO hC hCd hA hd ho hmc hx hI hL hLw hxw hIw hxd hId hr
  go_enter Try.func98, Try.ntmps98
  go_wp2
  refine start_ (n := 9) (S := fun w' => w'.cell? ⟨b, 3, none⟩ = some (.slice (some ⟨g, 0, none⟩) c.vals.length c1) ∧ w'.cell? ⟨xb, 0, none⟩ = some (.int .u8 q) ∧ w'.cell? ⟨xb, 1, none⟩ = some (.int .i64 n) ∧ w'.cell? ⟨xb, 2, none⟩ = some (.string s) ∧ w'.cell? ⟨ib, 0, none⟩ = some (.int .i64 (i : Int))) (ds := [8]) #[false, false, false, false, false, false, false, false, false] (by kernel_rfl) rfl rfl ⟨(by rw [hV]; exact p3), (by rw [hV]; exact x0), (by rw [hV]; exact x1), (by rw [hV]; exact x2), (by rw [hV]; exact i0)⟩ (fun hHeld => ?_)
  refine pure_ (i := 0) (N := some 9) (v := ?_) (a' := ?_) #[true, false, false, false, false, false, false, false, false] rfl rfl (by kernel_rfl) (fun _ _ _ h => h) (Or.inl ⟨by rfl, ?_⟩) ?_ ?_
  rotate_left
  · intro w'
    go_simp
    with_reducible rfl
  rotate_left
  · simp only [Act.put, List.setIfInBounds_toArray, List.set_cons_zero, List.set_cons_succ, i64_w, i32_w]
    rfl
  refine pure_ (i := 1) (N := some 10) (v := ?_) (a' := ?_) #[true, true, false, false, false, false, false, false, false] rfl rfl (by kernel_rfl) (fun _ _ _ h => h) (Or.inl ⟨by rfl, ?_⟩) ?_ ?_
  rotate_left
  · intro w'
    go_simp
    with_reducible rfl
  rotate_left
  · simp only [Act.put, List.setIfInBounds_toArray, List.set_cons_zero, List.set_cons_succ, i64_w, i32_w]
    rfl
  refine pure_ (i := 2) (N := some 11) (v := ?_) (a' := ?_) #[true, true, true, false, false, false, false, false, false] rfl rfl (by kernel_rfl) (fun _ _ _ h => h) (Or.inl ⟨by rfl, ?_⟩) ?_ ?_
  rotate_left
  · intro w'
    go_simp
    with_reducible rfl
  rotate_left
  · simp only [Act.put, List.setIfInBounds_toArray, List.set_cons_zero, List.set_cons_succ, i64_w, i32_w]
    rfl
  refine take_ (i := 3) (N := some 12) (v := ?_) (a' := ?_) #[true, true, true, true, false, false, false, false, false] rfl rfl (by kernel_rfl) (fun _ _ _ h => h) (Or.inl ⟨by rfl, ?_⟩) hHeld ?_ ?_
  rotate_left
  · rintro w' ⟨s0, s1, s2, s3, s4⟩
    go_simp
    with_reducible rfl
  rotate_left
  · simp only [Act.put, List.setIfInBounds_toArray, List.set_cons_zero, List.set_cons_succ, i64_w, i32_w]
    rfl
  refine take_ (i := 4) (N := some 13) (v := ?_) (a' := ?_) #[true, true, true, true, true, false, false, false, false] rfl rfl (by kernel_rfl) (fun _ _ _ h => h) (Or.inl ⟨by rfl, ?_⟩) hHeld ?_ ?_
  rotate_left
  · rintro w' ⟨s0, s1, s2, s3, s4⟩
    go_simp
    with_reducible rfl
  rotate_left
  · simp only [Act.put, List.setIfInBounds_toArray, List.set_cons_zero, List.set_cons_succ, i64_w, i32_w]
    rfl
  refine pure_ (i := 5) (N := some 14) (v := ?_) (a' := ?_) #[true, true, true, true, true, true, false, false, false] rfl rfl (by kernel_rfl) (fun _ _ _ h => h) (Or.inl ⟨by rfl, ?_⟩) ?_ ?_
  rotate_left
  · intro w'
    go_simp
    with_reducible rfl
  rotate_left
  · simp only [Act.put, List.setIfInBounds_toArray, List.set_cons_zero, List.set_cons_succ, i64_w, i32_w]
    rfl
  refine take_ (i := 6) (N := some 15) (v := ?_) (a' := ?_) #[true, true, true, true, true, true, true, false, false] rfl rfl (by kernel_rfl) (fun _ _ _ h => h) (Or.inl ⟨by rfl, ?_⟩) hHeld ?_ ?_
  rotate_left
  · rintro w' ⟨s0, s1, s2, s3, s4⟩
    go_simp
    with_reducible rfl
  rotate_left
  · simp only [Act.put, List.setIfInBounds_toArray, List.set_cons_zero, List.set_cons_succ, i64_w, i32_w]
    rfl
  refine pure_ (i := 7) (N := some 16) (v := ?_) (a' := ?_) #[true, true, true, true, true, true, true, true, false] rfl rfl (by kernel_rfl) (fun _ _ _ h => h) (Or.inl ⟨by rfl, ?_⟩) ?_ ?_
  rotate_left
  · intro w'
    go_simp
    with_reducible rfl
  rotate_left
  · simp only [Act.put, List.setIfInBounds_toArray, List.set_cons_zero, List.set_cons_succ, i64_w, i32_w]
    rfl
  refine last_ (i := 8) (N := none) #[true, true, true, true, true, true, true, true, true] rfl rfl (by kernel_rfl) (by decide) (fun K hK => ?_)
  refine skip_ (w1 := ?_) (by rfl) rfl ?_ ?_
  rotate_left
  · go_simp
    rfl
  refine hK.out _ _ ?_
  clear hK K
  refine done_ (by kernel_rfl) ?_

  clear hHeld t0 t1 t2 u0 u1 u2 p3 x0 x1 x2 i0 l0
  go_wp2
  refine bodyPost_ret (results_none rfl _ _ _) rfl ?_
  have hd := HD.out
  have hf3 := fr3w V g (r * 3) (.int .u8 q) (.int .i64 n) (.string s)
  have hvr := VR.put HC.out.vr rfl r HRL.out q n s
  have hcb := HC.out.row hf3 hvr
  have hA' := HA.out.move ((Fr.of_new hd).then_ hf3 (fun j hj => .inl hj)) (fun j hj e => by subst e; exact (HC.out.vk j rfl).2.2 hj)
  have e1 : (fun x => rest x + zf x + kc c.kids x) = fun x => rest x + kc c.kids x := by funext x; show rest x + 0 + _ = _; omega
  rw [e1] at hA'
  have hln : (c.vals.set r (q, n, s)).length ≤ 1000000000 := by rw [List.length_set]; exact Nat.le_trans hl (by decide)
  rw [HR.out]
  exact ⟨rfl, O, f, live, {c with vals := c.vals.set r (q, n, s)}, _, _, hA', hcb, (Fr.of_new (S := Wr O b (.slice (some ⟨g, 0, none⟩) c.vals.length c1) k) hd).then_ hf3 (fun j hj => .inl (.inr (.inr (.inl (by rw [hj]; rfl))))), fun j hj => .inl hj, by omega, KeepR.refl _ _ _, rfl, rfl, hkl, hln, hkn⟩
end Go.Proofs.Ytnipbfhfaefieaa.Pv
/-! pvec: make and change, for set 1. Printed by wip/tools/gen_pvd.py. -/
namespace Go.Proofs.Ytnipbfhfaefieaa.Pv
open Go.RowKit Go Go.Proofs.YtnipbfhfaefieaaW.PrintWords Go.Proofs.YtnipbfhfaefieaaW.PrintMore Go.Proofs.YtnipbfhfaefieaaW.PrintLast Go.Proofs.Ytnipbfhfaefieaa.Bts Go.Proofs.Ytnipbfhfaefieaa.Fra Go.Proofs.Ytnipbfhfaefieaa.ArnP Go.Proofs.Ytnipbfhfaefieaa.Arn Go.Proofs.Ytnipbfhfaefieaa.Ao
set_option maxHeartbeats 4000000 in
set_option maxRecDepth 100000 in
theorem make_set {O O0 : Nat → Prop} {a : Nat} {f f0 : Nat → Cell} {live most need : Int} {rest ex : Nat → Nat} {op : Nat → Bool} {c : Cell} {R : (Nat → Cell) → Cell → Prop} (o : Int) (v k p1 p2 p3 p4 : Value) (lo : Nat) (w0 w : World) (h : AO w O a f live most (fun z => rest z + ex z + kc c.kids z) op) (hv : VR w lo v c.vals) (hk : KR w lo k c.kids) (hvk : ∀ j, v.ownBlock = some j → k.ownBlock ≠ some j) (hno : ∀ j, v.ownBlock = some j ∨ k.ownBlock = some j → ¬ O j)
    (hcb : Cb 98 (fun p => #[p, p1, p2, p3, p4]) w0 O0 a most rest ex op f0 need c R) (hF : Fr O0 w0 w) (hO : ∀ j, O j → O0 j ∨ w0.heap.size ≤ j) (hlo : w0.heap.size ≤ lo) (hlo2 : lo ≤ w.heap.size) (hK : KeepR (fun x => rest x + ex x) op f0 f) (hS : ∀ x ∈ kidsOf c.kids, Same f0 f x) (hlm : live + need < most) (hro : ∀ z, op z = true → 1 ≤ rest z) :
    Calls Try.prog 82 #[workV a o, cellV c.ow c.a c.b v k, .func (.func 98) #[] #[p1, p2, p3, p4]] w fun e w' => ∃ (i : Nat) (O' : Nat → Prop) (f' : Nat → Cell) (live' : Int) (c' : Cell), e = .returned (.int .i64 i) ∧ AO w' O' a (upd f' i {c' with ow := o, r := 1}) live' most (fun z => rest z + one i z) op ∧ live' ≤ live + need + 1 ∧ R f' c' ∧ (∀ x ∈ kidsOf c'.kids, Same f' (upd f' i {c' with ow := o, r := 1}) x) ∧ 0 < i ∧ op i = false ∧ KeepR rest op f (upd f' i {c' with ow := o, r := 1}) ∧ (∀ j, O' j → O j ∨ w.heap.size ≤ j) ∧ Fr (fun j => O j ∨ v.ownBlock = some j ∨ k.ownBlock = some j) w w' := by
  obtain ⟨A1, c1, e1⟩ := Kd.R_slice hv
  obtain ⟨A2, c2, e2⟩ := Kd.R_slice hk
  subst e1 e2
  have hb : Below w.heap.size w ((w.alloc (.cells #[.pointer (some ⟨a, 0, none⟩), .int .u32 o] 133)).alloc (.cells #[.int .u32 c.ow, .int .u32 c.a, .int .u32 c.b, .slice A1 c.vals.length c1, .slice A2 c.kids.length c2] 43)) := below_alloc (below_alloc (Below.refl _ _) _) _
  have hbw := blk_alloc (blk_new w (.cells #[.pointer (some ⟨a, 0, none⟩), .int .u32 o] 133)) (.cells #[.int .u32 c.ow, .int .u32 c.a, .int .u32 c.b, .slice A1 c.vals.length c1, .slice A2 c.kids.length c2] 43)
  have hbc := new1 w (.cells #[.pointer (some ⟨a, 0, none⟩), .int .u32 o] 133) (.cells #[.int .u32 c.ow, .int .u32 c.a, .int .u32 c.b, .slice A1 c.vals.length c1, .slice A2 c.kids.length c2] 43)
  have hlt := h.lt
  have hvl : ∀ j, (Value.slice A1 c.vals.length c1).ownBlock = some j → j < w.heap.size := fun j hj => by obtain ⟨q, ho⟩ := Kd.R_own hv; exact own_lt ho j hj
  have hkl : ∀ j, (Value.slice A2 c.kids.length c2).ownBlock = some j → j < w.heap.size := fun j hj => by obtain ⟨q, ho⟩ := Kd.R_own hk; exact own_lt ho j hj
  have hcbo : CBO _ O lo (w.heap.size + 1) (.slice A1 c.vals.length c1) (.slice A2 c.kids.length c2) c := ⟨hbc, Kd.R_below hv hb, Kd.R_below hk hb, fun j hj => ⟨hvk j hj, by have := hvl j hj; omega, hno j (.inl hj)⟩, fun j hj => ⟨by have := hkl j hj; omega, hno j (.inr hj)⟩, fun e => by have := hlt _ e; omega⟩
  have hnf : ∀ w : World, (binOp .neq 138 (.func (.func 98) #[] #[p1, p2, p3, p4]) .nilFunc).run Try.prog w = .ok (.bool true) w := fun _ => by kernel_rfl
  have HB := Lib.hid hb
  have HBW := Lib.hid hbw
  have HCB := Lib.hid hcbo
  have HA := Lib.hid (h.below hb)
  have HC := Lib.hid hcb
  have HF := Lib.hid (hF.more hb)
  have HO := Lib.hid hO
  have HK := Lib.hid hK
  have HS := Lib.hid hS
  have HVL := Lib.hid hvl
  have HKL := Lib.hid hkl
  have HLT := Lib.hid hlt
  have HSZ := Lib.hid (show w0.heap.size ≤ w.heap.size from hF.size)
  clear h hcb hbc hbw hcbo hb hF hO hK hS hv hk hvl hkl hlt
  go_enter Try.func82, Try.ntmps82
  go_wp2_with (first
    | (go_at_call 21; go_loud (refine (make_ao o _ _ _ _ c3.vals c3.kids _ HA4.out HV4.out HK4.out (fun j hj => hj) HZ3.out.2.2 (by have := HLL3.out; omega) HZ3.out.1 HZ3.out.2.1 hro).mono ?_; rintro e w5 ⟨i, O5, rfl, hA5, h0, hr, hoi, hK5, hO5, hF5⟩; have HA5 := Lib.hid hA5; have HK5 := Lib.hid hK5; have HO5 := Lib.hid hO5; have HF5 := Lib.hid hF5; clear hA5 hK5 hO5 hF5))
    | (go_at_call 98; go_loud (refine (HC.out _ O f live lo (w.heap.size + 1) _ _ HA.out HF.out HO.out hlo (by simp; omega) (by have := HSZ.out; omega) HCB.out HK.out HS.out (by omega)).mono ?_; rintro e w3 ⟨rfl, O3, f3, live3, c3, v3, k3, hA3, hC3, hF3, hO3, hll3, hK3, hR3, how3, hz1, hz2, hz3⟩; have hbw3 := hF3.blk HBW.out (fun e => by rcases e with e | e | e | e; (have := HLT.out _ e; omega); omega; (have := HVL.out _ e; omega); (have := HKL.out _ e; omega)); obtain ⟨A3, d3, e3⟩ := Kd.R_slice hC3.vr; subst e3; obtain ⟨A4, d4, e4⟩ := Kd.R_slice hC3.kr; subst e4; have r0 := blk_cell hC3.blk 0; have r1 := blk_cell hC3.blk 1; have r2 := blk_cell hC3.blk 2; have r3 := blk_cell hC3.blk 3; have r4 := blk_cell hC3.blk 4; have z0 := blk_frozen hC3.blk 0; have q0 := blk_cell hbw3 0; have q1 := blk_cell hbw3 1; have hF4 : Fr (fun j => j = w.heap.size + 1) w3 (w3.setCell ⟨w.heap.size + 1, 0, none⟩ (.int .u32 o)) := Fr.set _ 0 _; have HF4 := Lib.hid hF4; have HA4 := Lib.hid (hA3.move hF4 (fun j hj e => hC3.no (e ▸ hj))); have HV4 := Lib.hid ((row_ne hC3.rows.1 (fun j hj => (hC3.vk j hj).2.1)).fr kVal_K hF4 (fun j hj => hj.2) |>.mono (fun j hj => hj.1)); have HK4 := Lib.hid ((row_ne hC3.rows.2 (fun j hj => (hC3.kk j hj).1)).fr kInt_K hF4 (fun j hj => hj.2) |>.mono (fun j hj => hj.1)); have HZ3 := Lib.hid (show c3.kids.length ≤ 1000 ∧ c3.vals.length ≤ 1000000000 ∧ ∀ z ∈ c3.kids, 0 ≤ z from ⟨hz1, hz2, hz3⟩); have HLL3 := Lib.hid hll3; have HK3 := Lib.hid hK3; have HR3 := Lib.hid hR3; have HF3 := Lib.hid hF3; have HO3 := Lib.hid hO3; clear hA3 hC3 hF3 hO3 hll3 hK3 hR3 hz1 hz2 hz3 hbw3 hF4)))
  go_ret
  have hll := HLL3.out
  have e5 : (⟨o, c3.a, c3.b, c3.vals, c3.kids, 1⟩ : Cell) = {c3 with ow := o, r := 1} := rfl
  refine ⟨i, O5, f3, live3 + 1, c3, rfl, HA5.out, by omega, HR3.out, fun x hx => ?_, h0, hoi, HK3.out.trans HK5.out, fun j hj => ?_, ?_⟩
  · have hA4 := HA4.out
    have hp : 0 < x := by obtain ⟨z, hz1, hz2, rfl⟩ := kidsOf_mem hx; have := HZ3.out.2.2 z hz1; omega
    have hc : 0 < kc c3.kids x := List.count_pos_iff.2 hx
    have hlx := hA4.ext_lv hp (by show 0 < rest x + kc c3.kids x; omega)
    have hox : op x = false := by
      cases hq : op x
      · rfl
      · have := op_kc hA4 hro x hq; omega
    refine same_step hA4 (fun _ => True) (fun y hy _ => ?_) (fun _ _ _ _ _ => trivial) x ⟨hp, hlx, hox⟩ trivial
    rw [upd_ne _ (fun e => by have := hy.2.1; rw [e] at this; omega)]
  · rcases HO5.out j hj with q | q
    · rcases HO3.out j q with q | q
      · exact .inl q
      · exact .inr (Nat.le_trans HB.out.size q)
    · have h1 := HF3.out.size
      have h2 := HB.out.size
      have h3 := HF4.out.size
      exact .inr (by omega)
  · have h2 := HB.out.size
    have hF34 : Fr (Wr O (w.heap.size + 1) (.slice A1 c.vals.length c1) (.slice A2 c.kids.length c2)) _ _ := HF3.out.then_ HF4.out (fun j hj => .inl (.inr (.inl hj)))
    refine ((Fr.of_new (S := fun j => O j ∨ (Value.slice A1 c.vals.length c1).ownBlock = some j ∨ (Value.slice A2 c.kids.length c2).ownBlock = some j) HB.out).then_ hF34 (fun j hj => ?_)).then_ HF5.out (fun j hj => ?_)
    · rcases hj with e | e | e | e
      · exact .inl (.inl e)
      · exact .inr (by omega)
      · exact .inl (.inr (.inl e))
      · exact .inl (.inr (.inr e))
    · rcases HO3.out j hj with q | q
      · exact .inl (.inl q)
      · exact .inr (by omega)
set_option maxHeartbeats 2000000 in
set_option maxRecDepth 100000 in
theorem change_set {O O0 : Nat → Prop} {a : Nat} {f : Nat → Cell} {live most need : Int} {rest ex : Nat → Nat} {op : Nat → Bool} {R : (Nat → Cell) → Cell → Prop} (o : Int) (i : Nat) (p1 p2 p3 p4 : Value) (w0 w : World) (h : AO w O a f live most (fun z => rest z + ex z + one i z) op) (hi : 0 < i) (ho : op i = false) (hb : ∀ x, rest x + ex x ≤ 80000000000) (hro : ∀ z, op z = true → 1 ≤ rest z)
    (hF : Fr O0 w0 w) (hO : ∀ j, O j → O0 j ∨ w0.heap.size ≤ j) (hc1 : Cb 98 (fun p => #[p, p1, p2, p3, p4]) w0 O0 a most rest ex op f need (f i) R) (hc2 : Cb 98 (fun p => #[p, p1, p2, p3, p4]) w0 O0 a most (fun z => rest z + one i z) ex (fun x => x == i || op x) f need (f i) R) (hlm : live + need < most) :
    Calls Try.prog 78 #[workV a o, .int .i64 i, .func (.func 98) #[] #[p1, p2, p3, p4]] w fun e w' => ∃ (i' : Nat) (O' : Nat → Prop) (f' : Nat → Cell) (live' : Int) (c' : Cell), e = .returned (.int .i64 i') ∧ AO w' O' a (upd f' i' {c' with ow := o, r := 1}) live' most (fun z => rest z + one i' z) op ∧ live' ≤ live + need + 1 ∧ R f' c' ∧ (∀ x ∈ kidsOf c'.kids, Same f' (upd f' i' {c' with ow := o, r := 1}) x) ∧ 0 < i' ∧ op i' = false ∧ KeepR rest op f (upd f' i' {c' with ow := o, r := 1}) ∧ (∀ j, O' j → O j ∨ w.heap.size ≤ j) ∧ Fr O w w' := by
  have hone : one i i = 1 := if_pos rfl
  have hlive : 0 < (f i).r := h.ext_lv hi (by show 0 < rest i + ex i + one i i; omega)
  have hLv : Lv f op i := ⟨hi, hlive, ho⟩
  have hkn := AO.kn h hLv
  have hkl := AO.kl h hlive
  have H := Lib.hid h
  have HF := Lib.hid hF
  have HO := Lib.hid hO
  have HC1 := Lib.hid hc1
  have HC2 := Lib.hid hc2
  have HLT := Lib.hid h.lt
  have HBB := Lib.hid hb
  have HRO := Lib.hid hro
  have HKN := Lib.hid hkn
  have HKL := Lib.hid hkl
  have HSZ := Lib.hid (show w0.heap.size ≤ w.heap.size from hF.size)
  have hnB : ∀ b, w.heap.size ≤ b → ¬ O b := fun b hb e => by have := HLT.out b e; omega
  have HNB := Lib.hid hnB
  clear h hc1 hc2 hkn hkl hF hO hb hro hnB
  by_cases hin : o ≠ 0 ∧ (f i).ow = o ∧ (f i).r = 1
  · obtain ⟨g0, g1, g2⟩ := hin
    have b0 : (o != 0) = true := by simpa using g0
    have b1 : ((f i).ow == o) = true := by simpa using g1
    have b2 : ((f i).r == 1) = true := by simpa using g2
    have hri : rest i = 0 := by
      have h1 : ((rest i + ex i + one i i : Nat) : Int) ≤ (f i).r := H.out.ext_r hi
      omega
    have HG := Lib.hid g1
    have HG2 := Lib.hid g2
    have HRI := Lib.hid hri
    clear g1 g2 hri
    go_enter Try.func78, Try.ntmps78
    go_wp2_with (first
      | (go_at_call 28; go_loud (refine HE.out.mono ?_; rintro e w5 ⟨rfl, O5, hA5, hO5, hF5⟩; have HA5 := Lib.hid hA5; have HO5 := Lib.hid hO5; have HF5 := Lib.hid hF5; clear hA5 hO5 hF5))
      | (go_at_call 98; go_loud (refine (HC2.out _ O f live (w.heap.size + 1) w1.heap.size _ _ HAO.out HF2.out HO.out (by have := HSZ.out; omega) HS2.out.1 (by have := HSZ.out; have := HS2.out.2; omega) HCB2.out (KeepR.refl _ _ _) (fun x _ => Same.refl _ _) (by omega)).mono ?_; rintro e w3 ⟨rfl, O3, f3, live3, c3, v3, k3, hA3, hC3, hF3, hO3, hll3, hK3, hR3, how3, hz1, hz2, hz3⟩; have hbw3 := hF3.blk HBW2.out (HNW.out); have q0 := blk_cell hbw3 0; have q1 := blk_cell hbw3 1; obtain ⟨A3, d3, e3⟩ := Kd.R_slice hC3.vr; subst e3; obtain ⟨A4, d4, e4⟩ := Kd.R_slice hC3.kr; subst e4; have r0 := blk_cell hC3.blk 0; have r1 := blk_cell hC3.blk 1; have r2 := blk_cell hC3.blk 2; have r3 := blk_cell hC3.blk 3; have r4 := blk_cell hC3.blk 4; have hf3i : f3 i = f i := (hK3 i hi (by show 0 < rest i + one i i; omega)).1 (by simp); have HE := Lib.hid (edit_in hA3 hC3 hf3i g0 hi HG2.out HG.out ho hone (fun x => Nat.le_trans (Nat.le_add_right _ _) (HBB.out x)) HRO.out hz1 hz2 hz3); have HA3 := Lib.hid hA3; have HZ3 := Lib.hid (show c3.kids.length ≤ 1000 ∧ c3.vals.length ≤ 1000000000 ∧ ∀ z ∈ c3.kids, 0 ≤ z from ⟨hz1, hz2, hz3⟩); have HLL3 := Lib.hid hll3; have HK3 := Lib.hid hK3; have HR3 := Lib.hid hR3; have HF3 := Lib.hid hF3; have HO3 := Lib.hid hO3; clear how3 hA3 hC3 hF3 hO3 hll3 hK3 hR3 hz1 hz2 hz3 hbw3 hf3i))
      | (go_at_call 26; go_loud (refine (refs_ao i _ (H.out.below HB2.out) hi hlive).mono ?_; rintro e w2 ⟨rfl, hB2⟩; have hb3 := below_step HB2.out hB2; have hbw := blk_below HBW1.out hB2; have q0 := blk_cell hbw 0; have q1 := blk_cell hbw 1; have hcb2 := HCB1.out.below hB2; have HBW2 := Lib.hid hbw; have HCB2 := Lib.hid hcb2; have HF2 := Lib.hid (HF.out.more hb3); have HAO := Lib.hid (open_ex (H.out.below hb3) hi HG2.out ho hone HBB.out); have HS2 := Lib.hid (show w.heap.size + 1 ≤ w2.heap.size ∧ w.heap.size + 1 ≤ w1.heap.size from ⟨by have h1 := hB2.size; simp at h1; have h2 := HS1.out; omega, HS1.out⟩); have HNW := Lib.hid (wr_no HNB.out HVK1.out (show w.heap.size + 1 ≤ w1.heap.size from HS1.out)); have HB3 := Lib.hid hb3; clear hB2 hbw hcb2 hb3))
      | (go_at_call 24; go_loud (refine (get_AO i _ (H.out.below (by repeat (first | (with_reducible first | exact Below.refl _ _ | apply below_alloc | apply pw_below_drewN | apply below_drew1)))) hi hlive).mono ?_; rintro e w1 ⟨v, k, rfl, hv1, hk1, hd1, hB1⟩; obtain ⟨A1, c1, e1⟩ := Kd.R_slice hv1; subst e1; obtain ⟨A2, c2, e2⟩ := Kd.R_slice hk1; subst e2; have HS1 := Lib.hid (show w.heap.size + 1 ≤ w1.heap.size by have := hB1.size; simpa using this); have hb2 := below_alloc (below_step (below_alloc (Below.refl w.heap.size w) (.cells #[.pointer (some ⟨a, 0, none⟩), .int .u32 o] 133)) hB1) (.cells #[.int .u32 (f i).ow, .int .u32 (f i).a, .int .u32 (f i).b, .slice A1 (f i).vals.length c1, .slice A2 (f i).kids.length c2] 43); have HBW1 := Lib.hid (blk_alloc (blk_below (blk_new w (.cells #[.pointer (some ⟨a, 0, none⟩), .int .u32 o] 133)) hB1) (.cells #[.int .u32 (f i).ow, .int .u32 (f i).a, .int .u32 (f i).b, .slice A1 (f i).vals.length c1, .slice A2 (f i).kids.length c2] 43)); have q0 := blk_cell HBW1.out 0; have q1 := blk_cell HBW1.out 1; have HCB1 := Lib.hid (cbo_new hv1 hk1 hd1 HNB.out (by simp) HS1.out); have HVK1 := Lib.hid (rows_from (w := w) hv1 hk1 (by simp)); have HB2 := Lib.hid hb2; clear hv1 hk1 hd1 hB1 hb2)))
    go_ret
    have hll := HLL3.out
    have hA3 := HA3.out
    have hlvE : ∀ j, Lv f3 (fun x => x == i || op x) j → Same f3 (upd f3 i {c3 with ow := o, r := 1}) j := fun j hj => same_step hA3 (fun _ => True) (fun y hy _ => by rw [upd_ne _ (fun (e : y = i) => by have h1 : (y == i || op y) = false := hy.2.2; rw [e] at h1; simp at h1)]) (fun _ _ _ _ _ => trivial) j hj trivial
    have hro' : ∀ z, (fun x => x == i || op x) z = true → 1 ≤ rest z + one i z := by
      intro z hz
      by_cases e : z = i
      · subst e; omega
      · have hz2 : (z == i || op z) = true := hz
        rw [show (z == i) = false by simpa using e, Bool.false_or] at hz2
        have := HRO.out z hz2
        omega
    refine ⟨i, O5, f3, live3, c3, rfl, HA5.out, by omega, HR3.out, fun x hx => ?_, hi, ho, fun j h0 hj => ?_, fun j hj => ?_, ?_⟩
    · have hp : 0 < x := by obtain ⟨z, hz1, hz2, rfl⟩ := kidsOf_mem hx; have := HZ3.out.2.2 z hz1; omega
      have hc : 0 < kc c3.kids x := List.count_pos_iff.2 hx
      refine hlvE x ⟨hp, hA3.ext_lv hp (by show 0 < rest x + one i x + kc c3.kids x; omega), ?_⟩
      cases hq : (fun x => x == i || op x) x
      · rfl
      · have := op_kc (rest := fun z => rest z + one i z) hA3 hro' x hq; omega
    · have hji : j ≠ i := fun e => by have := HRI.out; rw [e] at hj; omega
      have hji' : (j == i) = false := by simpa using hji
      have hk := HK3.out j h0 (by show 0 < rest j + one i j; omega)
      refine ⟨fun hoj => by rw [upd_ne _ hji]; exact hk.1 (by show (j == i || op j) = true; rw [hoj, Bool.or_true]), fun hoj => ?_⟩
      have hoj' : (j == i || op j) = false := by rw [hji', hoj]; rfl
      exact (hk.2 hoj').trans (hlvE j ⟨h0, hA3.ext_lv h0 (by show 0 < rest j + one i j + kc c3.kids j; omega), hoj'⟩)
    · have h1 := HF3.out.size
      have h2 := HB3.out.size
      rcases HO5.out j hj with q | q
      · rcases HO3.out j q with q | q
        · exact .inl q
        · exact .inr (by omega)
      · exact .inr (by omega)
    · have h1 := HS2.out
      have h2 := HB3.out.size
      refine ((Fr.of_new (S := O) HB3.out).then_ HF3.out (fun j hj => ?_)).then_ HF5.out (fun j hj => ?_)
      · rcases hj with e | e | e | e
        · exact .inl e
        · exact .inr (by omega)
        · exact .inr (by have := HVK1.out j (.inl e); omega)
        · exact .inr (by have := HVK1.out j (.inr e); omega)
      · rcases HO3.out j hj with q | q
        · exact .inl q
        · exact .inr (by omega)
  · have hcs : (o != 0) = false ∨ ((o != 0) = true ∧ ((f i).ow == o) = false) ∨ ((o != 0) = true ∧ ((f i).ow == o) = true ∧ ((f i).r == 1) = false) := by
      by_cases g0 : o = 0
      · exact .inl (by simpa using g0)
      · by_cases g1 : (f i).ow = o
        · exact .inr (.inr ⟨by simpa using g0, by simpa using g1, by simpa using fun g2 => hin ⟨g0, g1, g2⟩⟩)
        · exact .inr (.inl ⟨by simpa using g0, by simpa using g1⟩)
    clear hin
    rcases hcs with b0 | ⟨b0, b1⟩ | ⟨b0, b1, b2⟩
    all_goals (
      go_enter Try.func78, Try.ntmps78
      go_wp2_with (first
        | (go_at_call 26; go_loud (refine (refs_ao i _ (H.out.below HB2x.out) hi hlive).mono ?_; rintro e w2 ⟨rfl, hB2⟩; have hb3 := below_step HB2x.out hB2; have hbw := blk_below HBWx.out hB2; have q0 := blk_cell hbw 0; have q1 := blk_cell hbw 1; have HBWx := Lib.hid hbw; have HB2x := Lib.hid hb3; clear hB2 hbw hb3))
        | (go_at_call 24; go_loud (refine (get_AO i _ (H.out.below (by repeat (first | (with_reducible first | exact Below.refl _ _ | apply below_alloc | apply pw_below_drewN | apply below_drew1)))) hi hlive).mono ?_; rintro e w1 ⟨v, k, rfl, hv1, hk1, hd1, hB1⟩; obtain ⟨A1, c1, e1⟩ := Kd.R_slice hv1; subst e1; obtain ⟨A2, c2, e2⟩ := Kd.R_slice hk1; subst e2; have hb2 := below_alloc (below_step (below_alloc (Below.refl w.heap.size w) (.cells #[.pointer (some ⟨a, 0, none⟩), .int .u32 o] 133)) hB1) (.cells #[.int .u32 (f i).ow, .int .u32 (f i).a, .int .u32 (f i).b, .slice A1 (f i).vals.length c1, .slice A2 (f i).kids.length c2] 43); have HBWx := Lib.hid (blk_alloc (blk_below (blk_new w (.cells #[.pointer (some ⟨a, 0, none⟩), .int .u32 o] 133)) hB1) (.cells #[.int .u32 (f i).ow, .int .u32 (f i).a, .int .u32 (f i).b, .slice A1 (f i).vals.length c1, .slice A2 (f i).kids.length c2] 43)); have q0 := blk_cell HBWx.out 0; have q1 := blk_cell HBWx.out 1; have HB2x := Lib.hid hb2; clear hv1 hk1 hd1 hB1 hb2)))
      have hbd := below_drew1 HB2x.out
      have hAd := H.out.below hbd
      have hbwd := blk_drew HBWx.out
      have HBD := Lib.hid hbd
      have HAD := Lib.hid hAd
      have HBWD := Lib.hid hbwd
      have HBB9 := Lib.hid (fun x => Nat.le_trans (HBB.out x) (show 80000000000 ≤ 90000000000 by decide))
      clear hbd hAd hbwd q0 q1
      refine start_ (n := 7) (S := fun w' => w'.cell? ⟨w.heap.size, 0, none⟩ = some (.pointer (some ⟨a, 0, none⟩)) ∧ w'.cell? ⟨w.heap.size, 1, none⟩ = some (.int .u32 o)) (ds := [5]) #[false, false, false, false, false, false, false] (by kernel_rfl) rfl rfl ⟨(blk_cell HBWD.out 0), (blk_cell HBWD.out 1)⟩ (fun hHeld => ?_)
      refine pure_ (i := 2) (N := some 45) (v := ?_) (a' := ?_) #[false, false, true, false, false, false, false] rfl rfl (by kernel_rfl) (fun _ _ _ h => h) (Or.inl ⟨by rfl, ?_⟩) ?_ ?_
      rotate_left
      · intro w'
        go_simp
        with_reducible rfl
      rotate_left
      · simp only [Act.put, List.setIfInBounds_toArray, List.set_cons_zero, List.set_cons_succ, i64_w, i32_w]
        rfl
      refine pure_ (i := 4) (N := some 47) (v := ?_) (a' := ?_) #[false, false, true, false, true, false, false] rfl rfl (by kernel_rfl) (fun _ _ _ h => h) (Or.inl ⟨by rfl, ?_⟩) ?_ ?_
      rotate_left
      · intro w'
        go_simp
        with_reducible rfl
      rotate_left
      · simp only [Act.put, List.setIfInBounds_toArray, List.set_cons_zero, List.set_cons_succ, i64_w, i32_w]
        rfl
      refine take_ (i := 0) (N := some 43) (v := ?_) (a' := ?_) #[true, false, true, false, true, false, false] rfl rfl (by kernel_rfl) (fun _ _ _ h => h) (Or.inl ⟨by rfl, ?_⟩) hHeld ?_ ?_
      rotate_left
      · rintro w' ⟨s0, s1⟩
        go_simp
        with_reducible rfl
      rotate_left
      · simp only [Act.put, List.setIfInBounds_toArray, List.set_cons_zero, List.set_cons_succ, i64_w, i32_w]
        rfl
      refine take_ (i := 1) (N := some 44) (v := ?_) (a' := ?_) #[true, true, true, false, true, false, false] rfl rfl (by kernel_rfl) (fun _ _ _ h => h) (Or.inl ⟨by rfl, ?_⟩) hHeld ?_ ?_
      rotate_left
      · rintro w' ⟨s0, s1⟩
        go_simp
        with_reducible rfl
      rotate_left
      · simp only [Act.put, List.setIfInBounds_toArray, List.set_cons_zero, List.set_cons_succ, i64_w, i32_w]
        rfl
      refine one_ (i := 3) (N := some 46) #[true, true, true, true, true, false, false] rfl rfl (by kernel_rfl) (by decide) (fun K hK => ?_)
      refine goes_ Try.func87 (by kernel_rfl) rfl #[workV a o, .int .i64 i] (by rfl) rfl rfl (by simp only [List.map_toArray, List.map_cons, List.map_nil]; rfl) ?_
      with_reducible refine (open_calls o i _ HAD.out hi ho HBB9.out).mono ?_
      rintro e w3 ⟨v3, k3, O3, f3, live3, rfl, hv3, hk3, hd3, hn3, hA3, hK3, hS3, hll3, hO3, hF3⟩
      refine ⟨_, rfl, ?_⟩
      have hbw3 := hF3.blk HBWD.out (HNB.out _ (Nat.le_refl _))
      refine hK.out _ _ ⟨(blk_cell hbw3 0), (blk_cell hbw3 1)⟩ (fun hHeld => ?_)
      clear hK K
      refine norm_ (a' := ?_) ?_ ?_
      rotate_left
      · show Act.put _ (some 46) _ = _
        simp only [Act.put, List.setIfInBounds_toArray, List.set_cons_zero, List.set_cons_succ, i64_w, i32_w]
        rfl
      refine last_ (i := 5) (N := some 48) #[true, true, true, true, true, true, false] rfl rfl (by kernel_rfl) (by decide) (fun K hK => ?_)
      refine goes_ Try.func82 (by kernel_rfl) rfl #[workV a o, cellV (f i).ow (f i).a (f i).b v3 k3, .func (.func 98) #[] #[p1, p2, p3, p4]] (by rfl) rfl rfl (by simp only [List.map_toArray, List.map_cons, List.map_nil]; rfl) ?_
      with_reducible refine (make_set o v3 k3 p1 p2 p3 p4 _ w0 _ hA3 hv3 hk3 hd3 hn3 HC1.out ((HF.out.more HBD.out).then_ hF3 (fun j hj => HO.out j hj)) (fun j hj => (hO3 j hj).elim (HO.out j) (fun q => .inr (Nat.le_trans HSZ.out (Nat.le_trans HBD.out.size q)))) (Nat.le_trans HSZ.out HBD.out.size) hF3.size hK3 hS3 (by omega) HRO.out).mono ?_
      rintro e w4 ⟨i4, O4, f4, live4, c4, rfl, hA4, hll4, hR4, hk4, hi4, ho4, hK4, hO4, hF4⟩
      refine ⟨_, rfl, ?_⟩
      refine hK.out _ _ ?_
      clear hK K
      refine norm_ (a' := ?_) ?_ ?_
      rotate_left
      · show Act.put _ (some 48) _ = _
        simp only [Act.put, List.setIfInBounds_toArray, List.set_cons_zero, List.set_cons_succ, i64_w, i32_w]
        rfl
      refine pure_ (i := 6) (N := some 6) (v := ?_) (a' := ?_) #[true, true, true, true, true, true, true] rfl rfl (by kernel_rfl) (fun _ _ _ h => h) (Or.inl ⟨by rfl, ?_⟩) ?_ ?_
      rotate_left
      · intro w'
        go_simp
        with_reducible rfl
      rotate_left
      · simp only [Act.put, List.setIfInBounds_toArray, List.set_cons_zero, List.set_cons_succ, i64_w, i32_w]
        rfl
      refine done_ (by kernel_rfl) ?_

      have HA4 := Lib.hid hA4
      have HR4 := Lib.hid hR4
      have HKS4 := Lib.hid hk4
      have HK4 := Lib.hid ((hK3.mono (rest' := rest) (fun j hj => by show 0 < rest j + ex j; omega)).trans hK4)
      have HLL4 := Lib.hid (show live4 ≤ live + need + 1 by omega)
      have HO4 := Lib.hid (show ∀ j, O4 j → O j ∨ w.heap.size ≤ j from fun j hj => by
        have h1 := HBD.out.size
        have h2 := hF3.size
        rcases hO4 j hj with q | q
        · rcases hO3 j q with q | q
          · exact .inl q
          · exact .inr (by omega)
        · exact .inr (by omega))
      have HF4 := Lib.hid (show Fr O w w4 from ((Fr.of_new (S := O) HBD.out).trans hF3).then_ hF4 (fun j hj => by
        have h1 := HBD.out.size
        rcases hj with q | q | q
        · rcases hO3 j q with q | q
          · exact .inl q
          · exact .inr (by omega)
        · obtain ⟨q1, o1⟩ := Kd.R_own hv3
          have := own_base o1 j q
          exact .inr (by omega)
        · obtain ⟨q1, o1⟩ := Kd.R_own hk3
          have := own_base o1 j q
          exact .inr (by omega)))
      clear hHeld hA4 hR4 hk4 hK3 hK4 hll3 hll4 hO3 hO4 hF3 hF4 hA3 hv3 hk3 hd3 hn3 hS3 hbw3
      go_wp2
      go_ret
      exact ⟨i4, O4, f4, live4, c4, rfl, HA4.out, HLL4.out, HR4.out, HKS4.out, hi4, ho4, HK4.out, HO4.out, HF4.out⟩)
end Go.Proofs.Ytnipbfhfaefieaa.Pv
/-! pvec: a value of a leaf is set. -/
namespace Go.Proofs.Ytnipbfhfaefieaa.Pv
open Go.RowKit Go Go.Proofs.YtnipbfhfaefieaaW.PrintWords Go.Proofs.YtnipbfhfaefieaaW.PrintMore Go.Proofs.YtnipbfhfaefieaaW.PrintLast Go.Proofs.Ytnipbfhfaefieaa.Bts Go.Proofs.Ytnipbfhfaefieaa.Fra Go.Proofs.Ytnipbfhfaefieaa.ArnP Go.Proofs.Ytnipbfhfaefieaa.Arn Go.Proofs.Ytnipbfhfaefieaa.Ao
abbrev valV (q n : Int) (s : ByteArray) : Value := .agg #[.int .u8 q, .int .i64 n, .string s]
theorem new2 (w : World) (o1 o2 o3 : Obj) : (((w.alloc o1).alloc o2).alloc o3).heap[w.heap.size + 2]? = some o3 := by
  have h := new1 (w.alloc o1) o2 o3
  have e : (w.alloc o1).heap.size = w.heap.size + 1 := by simp
  rwa [e] at h
theorem new3 (w : World) (o1 o2 o3 o4 : Obj) : ((((w.alloc o1).alloc o2).alloc o3).alloc o4).heap[w.heap.size + 3]? = some o4 := by
  have h := new2 (w.alloc o1) o2 o3 o4
  have e : (w.alloc o1).heap.size = w.heap.size + 1 := by simp
  rwa [e] at h
set_option maxHeartbeats 2000000 in
set_option maxRecDepth 100000 in
theorem set0_calls {O : Nat → Prop} {a : Nat} {f : Nat → Cell} {live most : Int} {rest : Nat → Nat} {op : Nat → Bool} (o : Int) (k i : Nat) (q n : Int) (s : ByteArray) (w : World) (h : AO w O a f live most (fun z => rest z + one k z) op) (hk : 0 < k) (ho : op k = false) (hb : ∀ x, rest x ≤ 80000000000) (hro : ∀ z, op z = true → 1 ≤ rest z) (hil : i ≤ 1024) (hi : i % 32 < (f k).vals.length) (hl : (f k).vals.length ≤ 1000) (hlm : live < most) :
    Calls Try.prog 83 #[workV a o, .int .i64 k, .int .i64 0, .int .i64 i, valV q n s] w fun e w' => ∃ (k' : Nat) (O' : Nat → Prop) (f' : Nat → Cell) (live' : Int), e = .returned (.int .i64 k') ∧ AO w' O' a f' live' most (fun z => rest z + one k' z) op ∧ live' ≤ live + 1 ∧ f' k' = {f k with vals := (f k).vals.set (i % 32) (q, n, s), ow := o, r := 1} ∧ (∀ x ∈ kidsOf (f k).kids, 0 < kc (f k).kids x) ∧ 0 < k' ∧ op k' = false ∧ KeepR rest op f f' ∧ (∀ j, O' j → O j ∨ w.heap.size ≤ j) ∧ Fr O w w' := by
  have hlive : 0 < (f k).r := h.ext_lv hk (by show 0 < rest k + one k k; unfold one; rw [if_pos rfl]; omega)
  have hkl := (AO.kl h hlive).1
  have hkn := AO.kn h ⟨hk, hlive, ho⟩
  have hlt := h.lt
  have hbx := below_alloc (below_alloc (below_alloc (below_alloc (Below.refl w.heap.size w) (.cells #[.pointer (some ⟨a, 0, none⟩), .int .u32 o] 133)) (.cells #[.int .i64 0] 3)) (.cells #[.int .i64 (i : Int)] 3)) (.cells #[.int .u8 q, .int .i64 n, .string s] 66)
  have hX : ValB _ (w.heap.size + 3) q n s := new3 w (.cells #[.pointer (some ⟨a, 0, none⟩), .int .u32 o] 133) (.cells #[.int .i64 0] 3) (.cells #[.int .i64 (i : Int)] 3) (.cells #[.int .u8 q, .int .i64 n, .string s] 66)
  have hI : IntB _ (w.heap.size + 2) (i : Int) := blk_alloc (new2 w (.cells #[.pointer (some ⟨a, 0, none⟩), .int .u32 o] 133) (.cells #[.int .i64 0] 3) (.cells #[.int .i64 (i : Int)] 3)) (.cells #[.int .u8 q, .int .i64 n, .string s] 66)
  have hL : IntB _ (w.heap.size + 1) 0 := blk_alloc (blk_alloc (new1 w (.cells #[.pointer (some ⟨a, 0, none⟩), .int .u32 o] 133) (.cells #[.int .i64 0] 3)) (.cells #[.int .i64 (i : Int)] 3)) (.cells #[.int .u8 q, .int .i64 n, .string s] 66)
  have hA := h.below hbx
  obtain ⟨W, hW⟩ : ∃ W, ((((w.alloc (.cells #[.pointer (some ⟨a, 0, none⟩), .int .u32 o] 133)).alloc (.cells #[.int .i64 0] 3)).alloc (.cells #[.int .i64 (i : Int)] 3)).alloc (.cells #[.int .u8 q, .int .i64 n, .string s] 66)) = W := ⟨_, rfl⟩
  have hnB : ∀ b, w.heap.size ≤ b → ¬ O b := fun b hb e => by have := hlt b e; omega
  have hA' : AO W O a f live most (fun z => rest z + zf z + one k z) op := by rw [← hW]; exact hA
  have hbW : Below w.heap.size w W := by rw [← hW]; exact hbx
  have hch := change_set (need := 0) o k (.pointer (some ⟨w.heap.size + 1, 0, none⟩)) (.pointer (some ⟨w.heap.size + 3, 0, none⟩)) (.pointer (some ⟨w.heap.size + 2, 0, none⟩)) (.pointer (some ⟨w.heap.size, 0, none⟩)) W W hA' hk ho hb hro (Fr.refl O W) (fun j hj => .inl hj)
    (cb_set0 (wb := w.heap.size) i W (by rw [← hW]; exact hL) (by rw [← hW]; exact hX) (by rw [← hW]; exact hI) ⟨hnB _ (by omega), hnB _ (by omega), hnB _ (by omega)⟩ hil hi hl hkl hkn)
    (cb_set0 (wb := w.heap.size) i W (by rw [← hW]; exact hL) (by rw [← hW]; exact hX) (by rw [← hW]; exact hI) ⟨hnB _ (by omega), hnB _ (by omega), hnB _ (by omega)⟩ hil hi hl hkl hkn) (by omega)
  rw [← hW] at hch
  have HC := Lib.hid hch
  have HB := Lib.hid hbW
  have HW := Lib.hid hW
  clear hch hA hA' hbW hbx hX hI hL h hW
  go_enter Try.func83, Try.ntmps83
  go_wp2_with (go_at_call 78; go_loud (refine HC.out.mono ?_; rintro e w5 ⟨k', O5, f5, live5, c5, rfl, hA5, hll5, hR5, hS5, hk5, ho5, hK5, hO5, hF5⟩; have HR5 := Lib.hid hR5; clear hR5))
  go_ret
  have hc := HR5.out
  subst hc
  have hF6 : Fr O w w5 := by
    have h1 := HB.out
    rw [← HW.out] at h1
    exact (Fr.of_new h1).trans hF5
  refine ⟨k', O5, _, live5, rfl, hA5, by omega, upd_eq _ _ _, fun x hx => List.count_pos_iff.2 hx, hk5, ho5, hK5, fun j hj => (hO5 j hj).imp id (fun q => ?_), hF6⟩
  have h1 := HB.out.size
  rw [← HW.out] at h1
  omega
end Go.Proofs.Ytnipbfhfaefieaa.Pv
/-! pvec: a list of cells' numbers in which one is another. -/
namespace Go.Proofs.Ytnipbfhfaefieaa.Pv
open Go.RowKit Go Go.Proofs.YtnipbfhfaefieaaW.PrintWords Go.Proofs.YtnipbfhfaefieaaW.PrintMore Go.Proofs.YtnipbfhfaefieaaW.PrintLast Go.Proofs.Ytnipbfhfaefieaa.Bts Go.Proofs.Ytnipbfhfaefieaa.Fra Go.Proofs.Ytnipbfhfaefieaa.ArnP Go.Proofs.Ytnipbfhfaefieaa.Arn Go.Proofs.Ytnipbfhfaefieaa.Ao
theorem reps_put1 {R : Int → List Value → Prop} {xs : List Int} {cs : List Value} (h : Reps R 1 xs cs) (i : Nat) (x : Int) (a : Value) (hi : i < xs.length) (hx : R x [a]) : Reps R 1 (xs.set i x) (cs.set i a) := by
  obtain ⟨h1, h2⟩ := h
  refine ⟨by simp [h1], fun j p hj => ?_⟩
  by_cases e : j = i
  · subst e
    rw [List.getElem?_set_self hi] at hj
    obtain rfl := Option.some.inj hj
    have : ((cs.set j a).drop (j * 1)).take 1 = [a] := by
      apply List.ext_getElem?
      intro k
      rw [List.getElem?_take]
      split
      · rename_i hk
        obtain rfl : k = 0 := by omega
        rw [List.getElem?_drop, show j * 1 + 0 = j by omega, List.getElem?_set_self (by omega)]; rfl
      · rename_i hk
        rw [List.getElem?_eq_none (by simp; omega)]
    rw [this]
    exact hx
  · rw [List.getElem?_set_ne (fun q => e q.symm)] at hj
    have : ((cs.set i a).drop (j * 1)).take 1 = (cs.drop (j * 1)).take 1 := by
      apply List.ext_getElem?
      intro k
      rw [List.getElem?_take, List.getElem?_take]
      split
      · rename_i hk
        rw [List.getElem?_drop, List.getElem?_drop, List.getElem?_set_ne (by omega)]
      · rfl
    rw [this]
    exact h2 j p hj
theorem KR.put {w : World} {lo g n cap : Nat} {xs : List Int} (h : KR w lo (.slice (some ⟨g, 0, none⟩) n cap) xs) (hn : xs.length = n) (i : Nat) (hi : i < xs.length) (m : Int) :
    KR (w.setCell ⟨g, i, none⟩ (.int .i64 m)) lo (.slice (some ⟨g, 0, none⟩) n cap) (xs.set i m) := by
  subst hn
  obtain ⟨h0, inner, ho, hr⟩ := h
  have h1 := (ho.stored i (.int .i64 m)).1
  exact ⟨h0, _, by rw [List.length_set]; exact h1, reps_put1 hr i m _ hi rfl⟩
/-- A cell's kids become others, in their own row. -/
theorem CBO.krow {w w1 : World} {O : Nat → Prop} {lo b g n cap : Nat} {v : Value} {c : Cell} {kids : List Int} (h : CBO w O lo b v (.slice (some ⟨g, 0, none⟩) n cap) c) (hf : Fr (fun j => j = g) w w1) (hr : KR w1 lo (.slice (some ⟨g, 0, none⟩) n cap) kids) :
    CBO w1 O lo b v (.slice (some ⟨g, 0, none⟩) n cap) {c with kids := kids} :=
  ⟨hf.blk h.blk (fun e => (h.kk g rfl).1 e.symm), Kd.R_mono (Kd.R_kept (Kd.R_tight2 (d := kVal) rfl h.vr) hf.kept (fun j hj e => by subst e; exact (h.vk j hj.1.symm).1 rfl)) (fun j hj => hj.2), hr, h.vk, h.kk, h.no⟩
/-- The others of a list. -/
def oth (l : List Int) (i : Nat) : List Int := l.take i ++ l.drop (i + 1)
theorem kc_app (a b : List Int) (x : Nat) : kc (a ++ b) x = kc a x + kc b x := by
  unfold kc kidsOf
  rw [List.filter_append, List.map_append, List.count_append]
theorem kc_cons (z : Nat) (l : List Int) (hz : 0 < z) (x : Nat) : kc ((z : Int) :: l) x = kc l x + one z x := by
  unfold kc kidsOf one
  rw [List.filter_cons_of_pos (by simp; omega), List.map_cons, List.count_cons, Int.toNat_natCast]
  by_cases e : x = z
  · subst e; simp
  · rw [if_neg e, if_neg (by simpa using fun q => e q.symm)]
theorem kc_at (l : List Int) (i z : Nat) (hi : i < l.length) (hz : l[i]? = some (z : Int)) (h0 : 0 < z) : kc l = fun x => kc (oth l i) x + one z x := by
  funext x
  have e : l = l.take i ++ (z : Int) :: l.drop (i + 1) := by
    have h1 := List.drop_eq_getElem_cons hi
    have h2 : l[i] = (z : Int) := by rw [List.getElem?_eq_getElem hi] at hz; exact Option.some.inj hz
    rw [h2] at h1
    rw [← h1, List.take_append_drop]
  unfold oth
  conv => lhs; rw [e]
  rw [kc_app, kc_cons z _ h0, kc_app]
  omega
theorem kc_set (l : List Int) (i z : Nat) (hi : i < l.length) (h0 : 0 < z) : kc (l.set i (z : Int)) = fun x => kc (oth l i) x + one z x := by
  funext x
  unfold oth
  rw [List.set_eq_take_append_cons_drop, if_pos hi, kc_app, kc_cons z _ h0, kc_app]
  omega
theorem fr1w (w : World) (g o : Nat) (x : Value) : Fr (fun j => j = g) w (w.setCell ⟨g, o, none⟩ x) :=
  Fr.put (S := fun k => k = g) (Fr.refl (fun k => k = g) w) (p := ⟨g, o, none⟩) (.inl rfl) x
end Go.Proofs.Ytnipbfhfaefieaa.Pv
