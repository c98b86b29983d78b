/- Texts of this claim, laid together: ArnL, ArnN, ArnO. -/
import Derived.Test.YtnipbfhfaefieaaUe
/-! arena: an arena of a caller who holds cells as often as ext tells; each call, as a contract. -/
namespace Go.Proofs.Ytnipbfhfaefieaa.Arn
open Go.RowKit Go Go.Proofs.YtnipbfhfaefieaaW.PrintWords Go.Proofs.YtnipbfhfaefieaaW.PrintMore Go.Proofs.YtnipbfhfaefieaaW.PrintLast Go.Proofs.Ytnipbfhfaefieaa.Bts Go.Proofs.Ytnipbfhfaefieaa.Fra Go.Proofs.Ytnipbfhfaefieaa.ArnP
/-- In memory: O are all blocks that it stands on. -/
structure Mem (W : World) (O : Nat → Prop) (a : Nat) (cl : List Cell) (fr : List Int) (live most : Int) : Prop where
  m : ∃ (base gs cs : Nat) (vf : Value) (sl : List Slot) (V : Nat → Prop), RawA W base a gs cs vf sl fr live most ∧ O a ∧ O gs ∧ (∀ k, vf.ownBlock = some k → O k) ∧ (∀ k, V k → O k) ∧ (∀ k, V k → k ≠ a ∧ k ≠ gs ∧ vf.ownBlock ≠ some k) ∧ sl.length = cl.length ∧
    ∀ (i : Nat) (s : Slot) (c : Cell), sl[i]? = some s → cl[i]? = some c → CellIn W V s c
  ol : ∀ k, O k → k < W.heap.size
structure AR (W : World) (O : Nat → Prop) (a : Nat) (cl : List Cell) (fr : List Int) (live most : Int) (ext : Nat → Nat) : Prop where
  mem : Mem W O a cl fr live most
  wf : WF cl fr live ext []
  cnt : (fr.length : Int) + live + 1 = cl.length
  m0 : 1 ≤ most
  m1 : most ≤ 1048576
  lm : live ≤ most
  kb : ∀ (i : Nat) (c : Cell), cl[i]? = some c → 0 < c.r → c.kids.length ≤ 1000 ∧ c.vals.length ≤ 1000000000
  eb : ∀ i, ext i ≤ 100000000000
  lc : cl.length ≤ 1048577
theorem Mem.fr {W W' : World} {O S : Nat → Prop} {a : Nat} {cl : List Cell} {fr : List Int} {live most : Int} (h : Mem W O a cl fr live most) (hf : Fr S W W') (hs : ∀ k, O k → ¬ S k) : Mem W' O a cl fr live most := by
  obtain ⟨⟨base, gs, cs, vf, sl, V, h1, h2, h3, h4, h5, h6, h7, h8⟩, h9⟩ := h
  exact ⟨⟨base, gs, cs, vf, sl, V, h1.kept hf (hs _ h2) (hs _ h3) (fun k hk => hs _ (h4 k hk)), h2, h3, h4, h5, h6, h7, fun i s c hi hc => (h8 i s c hi hc).fr hf (fun k hk => hs _ (h5 k hk))⟩, fun k hk => Nat.lt_of_lt_of_le (h9 k hk) hf.size⟩
section
variable {W W' : World} {O S : Nat → Prop} {a : Nat} {cl : List Cell} {fr : List Int} {live most : Int} {ext : Nat → Nat}
theorem AR.move (h : AR W O a cl fr live most ext) (hf : Fr S W W') (hs : ∀ k, O k → ¬ S k) : AR W' O a cl fr live most ext := ⟨h.mem.fr hf hs, h.wf, h.cnt, h.m0, h.m1, h.lm, h.kb, h.eb, h.lc⟩
theorem AR.below (h : AR W O a cl fr live most ext) (hb : Below W.heap.size W W') : AR W' O a cl fr live most ext := h.move (Fr.of_new (S := fun _ => False) hb) (fun _ _ => id)
theorem AR.live0 (h : AR W O a cl fr live most ext) : 0 ≤ live := by rw [h.wf.lv]; omega
/-- How often live cells hold one, at most. -/
theorem held_le {g : G} (n K x : Nat) (h : ∀ y, y < n → 0 < g.refs y → (g.kids y).length ≤ K) : held g n x ≤ n * K := by
  unfold held
  have key : ∀ m, m ≤ n → sm (fun y => if 0 < g.refs y then (g.kids y).count x else 0) m ≤ m * K := by
    intro m
    induction m with
    | zero => intro _; simp [sm]
    | succ m ih =>
      intro hm
      have h1 := ih (by omega)
      simp only [sm]
      have h2 : (if 0 < g.refs m then (g.kids m).count x else 0) ≤ K := by
        split
        · rename_i hp
          exact Nat.le_trans (List.count_le_length ..) (h m (by omega) hp)
        · exact Nat.zero_le _
      rw [Nat.succ_mul]
      omega
  exact key n (Nat.le_refl _)
theorem kidsOf_len (l : List Int) : (kidsOf l).length ≤ l.length := by unfold kidsOf; rw [List.length_map]; exact List.length_filter_le ..
/-- How many hold a cell, at most. -/
theorem AR.rb (h : AR W O a cl fr live most ext) (i : Nat) (c : Cell) (hc : cl[i]? = some c) : c.r ≤ 200000000000 := by
  by_cases i0 : 0 < i
  · have hi : i < cl.length := (List.getElem?_eq_some_iff.1 hc).1
    have hr := h.wf.acc i hi i0
    rw [gOf_refs hc] at hr
    have h1 := h.eb i
    have h2 := held_le (g := gOf cl) cl.length 1000 i (fun y hy hp => by
      obtain ⟨d, hd⟩ : ∃ d, cl[y]? = some d := ⟨cl[y], List.getElem?_eq_getElem hy⟩
      rw [gOf_refs hd] at hp
      rw [gOf_kids hd]
      exact Nat.le_trans (kidsOf_len _) (h.kb y d hd (by omega)).1)
    have h3 := h.lc
    have h4 : cl.length * 1000 ≤ 1048577000 := by omega
    simp only [List.count_nil] at hr
    omega
  · obtain rfl : i = 0 := by omega
    rw [h.wf.z] at hc
    cases hc
    decide
theorem ksum_le (cl : List Cell) (K : Nat) (h : ∀ c ∈ cl, 0 < c.r → c.kids.length ≤ K) : ksum cl ≤ cl.length * K := by
  induction cl with
  | nil => simp [ksum]
  | cons x l ih =>
    have h1 := ih (fun c hc => h c (List.mem_cons_of_mem _ hc))
    unfold ksum at h1 ⊢
    rw [List.map_cons, List.sum_cons, List.length_cons, Nat.succ_mul]
    have : (if 0 < x.r then (kidsOf x.kids).length else 0) ≤ K := by
      split
      · rename_i hp
        exact Nat.le_trans (kidsOf_len _) (h x (List.mem_cons_self ..) hp)
      · exact Nat.zero_le _
    omega
theorem AR.ks (h : AR W O a cl fr live most ext) : ksum cl ≤ 1048577000 := by
  have h1 := ksum_le cl 1000 (fun c hc hp => by
    obtain ⟨i, hi, rfl⟩ := List.getElem_of_mem hc
    exact (h.kb i _ (List.getElem?_eq_getElem hi) hp).1)
  have := h.lc
  omega
/-- A number is a live cell's, in the cells' own words. -/
def isC (cl : List Cell) (i : Int) : Bool := decide (0 < i) && decide (0 < (cl.getD i.toNat nobC).r)
theorem isC_at {i : Nat} {c : Cell} (hc : cl[i]? = some c) (h0 : 0 < i) : isC cl (i : Int) = decide (0 < c.r) := by
  unfold isC
  rw [Int.toNat_natCast, getD_at hc, decide_eq_true (show 0 < (i : Int) by omega), Bool.true_and]
theorem isC_inv {i : Int} (h : isC cl i = true) : ∃ (k : Nat) (c : Cell), i = k ∧ 0 < k ∧ cl[k]? = some c ∧ 0 < c.r := by
  unfold isC at h
  simp only [Bool.and_eq_true, decide_eq_true_eq] at h
  obtain ⟨h0, h1⟩ := h
  by_cases hl : i.toNat < cl.length
  · refine ⟨i.toNat, cl[i.toNat], by omega, by omega, List.getElem?_eq_getElem hl, ?_⟩
    rwa [getD_at (List.getElem?_eq_getElem hl)] at h1
  · rw [List.getD, List.getElem?_eq_none (by omega)] at h1
    exact absurd h1 (by decide)
theorem isB_isC {sl : List Slot} {V : Nat → Prop} (hl : sl.length = cl.length) (hk : ∀ (i : Nat) (s : Slot) (c : Cell), sl[i]? = some s → cl[i]? = some c → CellIn W V s c) (i : Int) : isB sl i = isC cl i := by
  unfold isB isC
  by_cases h0 : 0 < i
  · by_cases h1 : i.toNat < cl.length
    · have h1' : i.toNat < sl.length := by omega
      have hs := List.getElem?_eq_getElem h1'
      have hc := List.getElem?_eq_getElem h1
      have := (hk _ _ _ hs hc).r
      rw [getD_at hc]
      have hg : sl.getD i.toNat nob = sl[i.toNat] := by simp [List.getD, h1']
      rw [hg, this, decide_eq_true (show i < (sl.length : Int) by omega), Bool.true_and]
    · have e : decide (i < (sl.length : Int)) = false := by simp; omega
      rw [e]
      have : cl.getD i.toNat nobC = nobC := by rw [List.getD, List.getElem?_eq_none (by omega)]; rfl
      rw [this]
      simp [nobC]
  · simp [h0]
/-- One of some numbers is not 0, and no cell's. -/
def badC (cl : List Cell) (l : List Int) : Bool := l.any fun x => x != 0 && !isC cl x
theorem badAt_badC {sl : List Slot} (h : ∀ i, isB sl i = isC cl i) (l : List Int) : badAt sl l = badC cl l := by
  induction l with
  | nil => rfl
  | cons x l ih => show ((_ && !isB sl x) || badAt sl l) = ((_ && !isC cl x) || badC cl l); rw [ih, h]
theorem badC_inv {l : List Int} (h : badC cl l = false) : ∀ y ∈ l, 0 ≤ y ∧ y < cl.length ∨ y = 0 := by
  intro y hy
  unfold badC at h
  rw [List.any_eq_false] at h
  have := h y hy
  by_cases y0 : y = 0
  · exact .inr y0
  · have hc : isC cl y = true := by simpa [y0] using this
    obtain ⟨k, c, rfl, h1, h2, _⟩ := isC_inv hc
    have := (List.getElem?_eq_some_iff.1 h2).1
    exact .inl ⟨by omega, by omega⟩
/-! ## what only reads -/
theorem live_AR (w : World) (h : AR w O a cl fr live most ext) : Calls Try.prog 22 #[.pointer (some ⟨a, 0, none⟩)] w fun e w' => e = .returned (.int .i64 live) ∧ w' = w := by
  obtain ⟨base, gs, cs, vf, sl, V, h1, _⟩ := h.mem.m
  exact live_calls w h1
theorem room_AR (w : World) (h : AR w O a cl fr live most ext) : Calls Try.prog 25 #[.pointer (some ⟨a, 0, none⟩)] w fun e w' => e = .returned (.int .i64 (most - live)) ∧ Below w.heap.size w w' := by
  obtain ⟨base, gs, cs, vf, sl, V, h1, _⟩ := h.mem.m
  have e : wrap64 (most - live) = most - live := by
    have := h.live0; have := h.lm; have := h.m1
    unfold wrap64; omega
  have := room_calls w h1
  rwa [e] at this
theorem refs_AR (i : Int) (w : World) (h : AR w O a cl fr live most ext) : Calls Try.prog 26 #[.pointer (some ⟨a, 0, none⟩), .int .i64 i] w fun e w' => e = .returned (.int .i64 (if isC cl i then (cl.getD i.toNat nobC).r else 0)) ∧ Below w.heap.size w w' := by
  obtain ⟨base, gs, cs, vf, sl, V, h1, h2, h3, h4, h5, h6, h7, h8⟩ := h.mem.m
  have hl := h.lc
  cases hi : isC cl i
  · exact refs_none i w h1 (by omega) (by rw [isB_isC h7 h8]; exact hi)
  · obtain ⟨k, c, rfl, hk0, hc, hr⟩ := isC_inv hi
    obtain ⟨s, hs⟩ : ∃ s, sl[k]? = some s := ⟨sl[k]'(by rw [h7]; exact (List.getElem?_eq_some_iff.1 hc).1), List.getElem?_eq_getElem _⟩
    have hcr := (h8 k s c hs hc).r
    have := refs_raw k s w h1 (by omega) hs hk0 (by omega)
    rw [hcr] at this
    rw [if_pos rfl, Int.toNat_natCast, getD_at hc]
    exact this
theorem getn_AR (i : Int) (w : World) (h : AR w O a cl fr live most ext) (hi : isC cl i = false) : Calls Try.prog 24 #[.pointer (some ⟨a, 0, none⟩), .int .i64 i] w fun e w' => e = .returned (.tuple #[zeroCell, .bool false]) ∧ Below w.heap.size w w' := by
  obtain ⟨base, gs, cs, vf, sl, V, h1, h2, h3, h4, h5, h6, h7, h8⟩ := h.mem.m
  have hl := h.lc
  exact get_none i w h1 (by omega) (by rw [isB_isC h7 h8]; exact hi)
theorem get_AR (k : Nat) (c : Cell) (w : World) (h : AR w O a cl fr live most ext) (hk : 0 < k) (hc : cl[k]? = some c) (hr : 0 < c.r) :
    Calls Try.prog 24 #[.pointer (some ⟨a, 0, none⟩), .int .i64 k] w fun e w' => ∃ v' k', e = .returned (.tuple #[cellV c.ow c.a c.b v' k', .bool true]) ∧ RowIn kVal w' (fun j => w.heap.size ≤ j) v' c.vals ∧ RowIn (Kd.int .i64) w' (fun j => w.heap.size ≤ j) k' c.kids ∧ Below w.heap.size w w' := by
  obtain ⟨base, gs, cs, vf, sl, V, h1, h2, h3, h4, h5, h6, h7, h8⟩ := h.mem.m
  have hl := h.lc
  obtain ⟨s, hs⟩ : ∃ s, sl[k]? = some s := ⟨sl[k]'(by rw [h7]; exact (List.getElem?_eq_some_iff.1 hc).1), List.getElem?_eq_getElem _⟩
  have hci := h8 k s c hs hc
  have hb := h.kb k c hc hr
  have := get_raw k s c.vals c.kids w h1 (by omega) hs hk (by rw [hci.r]; exact hr) hci.v hci.k (by omega) (by omega)
  rw [hci.ow, hci.a, hci.b] at this
  exact this
/-! ## what turns -/
theorem keep_AR (k : Nat) (c : Cell) (w : World) (h : AR w O a cl fr live most ext) (hk : 0 < k) (hc : cl[k]? = some c) (hr : 0 < c.r) (he : ext k < 100000000000) :
    Calls Try.prog 27 #[.pointer (some ⟨a, 0, none⟩), .int .i64 k] w fun e w' => e = .returned (.int .i64 0) ∧ AR w' O a (cl.set k {c with r := c.r + 1}) fr live most (fun x => if x = k then ext x + 1 else ext x) ∧ Fr O w w' := by
  obtain ⟨base, gs, cs, vf, sl, V, h1, h2, h3, h4, h5, h6, h7, h8⟩ := h.mem.m
  have hl := h.lc
  have hkl : k < cl.length := (List.getElem?_eq_some_iff.1 hc).1
  obtain ⟨s, hs⟩ : ∃ s, sl[k]? = some s := ⟨sl[k]'(by omega), List.getElem?_eq_getElem _⟩
  have hci := h8 k s c hs hc
  have hrb := h.rb k c hc
  refine (keep_raw k s w h1 (by omega) hs hk (by rw [hci.r]; exact hr) (by rw [hci.r]; omega)).mono ?_
  rintro e w' ⟨rfl, hraw, w1, hb, hw'⟩
  have hF : Fr (fun j => j = gs) w w' := by rw [hw']; exact (Fr.of_new hb).then_ (Fr.set gs _ _) (fun j hj => .inl hj)
  have hVg : ∀ j, V j → ¬ j = gs := fun j hj => (h6 j hj).2.1
  refine ⟨rfl, ⟨⟨⟨base, gs, cs, vf, _, V, hraw, h2, h3, h4, h5, h6, by rw [List.length_set, List.length_set]; exact h7, ?_⟩, fun j hj => Nat.lt_of_lt_of_le (h.mem.ol j hj) hF.size⟩, h.wf.keep hc hr, by rw [List.length_set]; exact h.cnt, h.m0, h.m1, h.lm, ?_, ?_, by rw [List.length_set]; exact h.lc⟩, hF.mono (fun j hj => .inl (by rw [hj]; exact h3))⟩
  · intro i s2 c2 hi hc2
    by_cases e : i = k
    · subst e
      rw [List.getElem?_set_self (by omega)] at hi hc2
      cases hi
      cases hc2
      have := hci.fr hF hVg
      exact ⟨this.ow, this.a, this.b, show s.r + 1 = c.r + 1 by rw [hci.r], this.v, this.k⟩
    · rw [List.getElem?_set_ne (fun h => e h.symm)] at hi hc2
      exact (h8 i s2 c2 hi hc2).fr hF hVg
  · intro i c2 hc2 hr2
    rcases at_set hc hc2 with ⟨rfl, rfl⟩ | ⟨_, hc2⟩
    · exact h.kb _ c hc hr
    · exact h.kb i c2 hc2 hr2
  · intro i
    split
    · rename_i e; subst e; omega
    · exact h.eb i
theorem left_kb {cl' : List Cell} (hl : Left cl cl') (h : ∀ (i : Nat) (c : Cell), cl[i]? = some c → 0 < c.r → c.kids.length ≤ 1000 ∧ c.vals.length ≤ 1000000000) : ∀ (i : Nat) (c : Cell), cl'[i]? = some c → 0 < c.r → c.kids.length ≤ 1000 ∧ c.vals.length ≤ 1000000000 := by
  intro i c hc hr
  obtain ⟨c0, h0, h1, h2⟩ := hl.at_ i c hc hr
  have := h i c0 h0 (by omega)
  rw [h1]
  exact this
/-- What a Drop leaves lies in memory as the cells say. -/
theorem left_link {sl sl' : List Slot} {cl' : List Cell} {V : Nat → Prop} {e' : Nat → Nat} (h8 : ∀ (i : Nat) (s : Slot) (c : Cell), sl[i]? = some s → cl[i]? = some c → CellIn W V s c) (q4a : ∀ (i : Nat) (s : Slot) (c : Cell), sl'[i]? = some s → cl'[i]? = some c → s.r = c.r ∧ (e' i = 0 ∨ i = 0 → CellIn W' V s c))
    (q4b : ∀ (i : Nat) (s' : Slot), sl'[i]? = some s' → 0 < s'.r → ∃ s, sl[i]? = some s ∧ s' = {s with r := s'.r}) (q6 : Left cl cl') (h7 : sl.length = cl.length) (hF : Fr S W W') (hV : ∀ j, V j → ¬ S j) (hd : ∀ i, 0 < i → 0 < e' i → ∀ c, cl'[i]? = some c → 0 < c.r) :
    ∀ (i : Nat) (s : Slot) (c : Cell), sl'[i]? = some s → cl'[i]? = some c → CellIn W' V s c := by
  intro i s c hs hc
  obtain ⟨hr, hci⟩ := q4a i s c hs hc
  by_cases he : e' i = 0 ∨ i = 0
  · exact hci he
  · have hp := hd i (by omega) (by omega) c hc
    obtain ⟨s0, g1, g2⟩ := q4b i s hs (by omega)
    obtain ⟨c0, g3, g4, _⟩ := q6.at_ i c hc hp
    have := (h8 i s0 c0 g1 g3).fr hF hV
    rw [g2, g4]
    exact ⟨this.ow, this.a, this.b, hr, this.v, this.k⟩
/-- Whom a caller holds is live. -/
theorem WF.ext_live {todo : List Nat} (h : WF cl fr live ext todo) (i : Nat) (h0 : 0 < i) (he : 0 < ext i) : ∀ c, cl[i]? = some c → 0 < c.r := by
  intro c hc
  have hi : i < cl.length := (List.getElem?_eq_some_iff.1 hc).1
  have := h.acc i hi h0
  rw [gOf_refs hc] at this
  omega
theorem liveN_left {cl' : List Cell} (q6 : Left cl cl') : liveN cl' ≤ liveN cl := by
  have hlen := q6.len
  have key : ∀ n, n ≤ cl.length → (cl'.take n).countP (fun c => decide (0 < c.r)) ≤ (cl.take n).countP (fun c => decide (0 < c.r)) := by
    intro n
    induction n with
    | zero => intro _; simp
    | succ n ih =>
      intro hn
      have hn1 : n < cl.length := by omega
      have hn2 : n < cl'.length := by omega
      rw [List.take_succ_eq_append_getElem hn1, List.take_succ_eq_append_getElem hn2, List.countP_append, List.countP_append]
      have := ih (by omega)
      have h9 : List.countP (fun c => decide (0 < c.r)) [cl'[n]] ≤ List.countP (fun c => decide (0 < c.r)) [cl[n]] := by
        by_cases hp : 0 < (cl'[n]).r
        · obtain ⟨c0, g1, g2, g3⟩ := q6.at_ n _ (List.getElem?_eq_getElem hn2) hp
          rw [List.getElem?_eq_getElem hn1] at g1
          cases g1
          simp [hp, show 0 < (cl[n]).r by omega]
        · simp [hp]
      omega
  have := key cl.length (Nat.le_refl _)
  rwa [List.take_length, ← hlen, List.take_length] at this
theorem drop_AR (k : Nat) (w : World) (h : AR w O a cl fr live most ext) (hk : 0 < k) (he : 0 < ext k) :
    Calls Try.prog 23 #[.pointer (some ⟨a, 0, none⟩), .int .i64 k] w fun e w' => e = .returned (.int .i64 0) ∧ ∃ O' cl' fr' live', AR w' O' a cl' fr' live' most (fun x => if x = k then ext x - 1 else ext x) ∧ Left cl cl' ∧ (∀ j, O' j → O j ∨ w.heap.size ≤ j) ∧ Fr O w w' := by
  obtain ⟨base, gs, cs, vf, sl, V, h1, h2, h3, h4, h5, h6, h7, h8⟩ := h.mem.m
  have hl := h.lc
  refine (drop_walk k cl (fun x => if x = k then ext x - 1 else ext x) w h1 (by omega) h7 (fun i s c hi hc => ⟨(h8 i s c hi hc).r, fun _ => h8 i s c hi hc⟩) (fun j hj => ⟨h.mem.ol j (h5 j hj), h6 j hj⟩) (h.wf.drop hk he) h.cnt (by have := h.ks; omega) (fun i c hc hr => ⟨by have := h.rb i c hc; omega, by have := h.kb i c hc hr; omega⟩)).mono ?_
  rintro e w' ⟨rfl, vf', sl', cl', fr', live', q1, q2, q3, q4a, q4b, q5, q6, q7, q8⟩
  have q4 : ∀ (i : Nat) (s : Slot) (c : Cell), sl'[i]? = some s → cl'[i]? = some c → CellIn w' V s c := left_link h8 q4a q4b q6 h7 q8 (fun j hj e => by
    rcases e with e | e | e
    · exact (h6 j hj).1 e
    · exact (h6 j hj).2.1 e
    · exact (h6 j hj).2.2 e) (fun i i0 he c hc => q5.ext_live i i0 he c hc)
  have hfr : Fr O w w' := q8.mono (fun j hj => .inl (by
    rcases hj with e | e | e
    · rw [e]; exact h2
    · rw [e]; exact h3
    · exact h4 j e))
  have hll : live' ≤ live := by
    have e1 := q5.lv
    have e2 := h.wf.lv
    have : liveN cl' ≤ liveN cl := liveN_left q6
    omega
  refine ⟨rfl, fun j => (O j ∨ vf'.ownBlock = some j), cl', fr', live', ⟨⟨⟨base, gs, cs, vf', sl', V, q1, .inl h2, .inl h3, fun j hj => .inr hj, fun j hj => .inl (h5 j hj), fun j hj => ⟨(h6 j hj).1, (h6 j hj).2.1, fun e => ?_⟩, q3, q4⟩, ?_⟩, q5, q7, h.m0, h.m1, by have := h.lm; omega, left_kb q6 h.kb, ?_, by rw [q6.len]; exact h.lc⟩, q6, ?_, hfr⟩
  · rcases q2 j e with e | e
    · exact (h6 j hj).2.2 e
    · have := h.mem.ol j (h5 j hj); omega
  · intro j hj
    rcases hj with hj | hj
    · exact Nat.lt_of_lt_of_le (h.mem.ol j hj) hfr.size
    · exact own_lt q1.free j hj
  · intro i
    have := h.eb i
    split <;> omega
  · intro j hj
    rcases hj with hj | hj
    · exact .inl hj
    · rcases q2 j hj with e | e
      · exact .inl (h4 j e)
      · exact .inr e
end
end Go.Proofs.Ytnipbfhfaefieaa.Arn
/-! arena: New, Make and Edit, as contracts over cells. -/
namespace Go.Proofs.Ytnipbfhfaefieaa.Arn
open Go.RowKit Go Go.Proofs.YtnipbfhfaefieaaW.PrintWords Go.Proofs.YtnipbfhfaefieaaW.PrintMore Go.Proofs.YtnipbfhfaefieaaW.PrintLast Go.Proofs.Ytnipbfhfaefieaa.Bts Go.Proofs.Ytnipbfhfaefieaa.Fra Go.Proofs.Ytnipbfhfaefieaa.ArnP
theorem new_AR (n : Int) (w : World) (h1 : 1 ≤ n) (h2 : n ≤ 1048576) : Calls Try.prog 20 #[.int .i64 n] w fun e w' => ∃ a O, e = .returned (.tuple #[.pointer (some ⟨a, 0, none⟩), .int .i64 0]) ∧ AR w' O a [nobC] [] 0 n (fun _ => 0) ∧ (∀ j, O j → w.heap.size ≤ j) ∧ Below w.heap.size w w' := by
  refine (new_ok n w h1 h2).mono ?_
  rintro e w' ⟨a, gs, rfl, hr, hb⟩
  refine ⟨a, fun j => j = a ∨ j = gs, rfl, ⟨⟨⟨w.heap.size, gs, 1, .slice none 0 0, [nob], fun _ => False, hr, .inl rfl, .inr rfl, fun k hk => (by cases hk), fun k hk => hk.elim, fun k hk => hk.elim, rfl, ?_⟩, ?_⟩, WF.new, rfl, h1, h2, by omega, ?_, fun _ => by omega, by decide⟩, ?_, hb⟩
  · intro i s c hs hc
    match i, hs, hc with
    | 0, hs, hc =>
      obtain rfl : nob = s := by simpa using hs
      obtain rfl : nobC = c := by simpa using hc
      exact ⟨rfl, rfl, rfl, rfl, ⟨none, 0, rfl, Nat.le_refl _, fun _ => rfl, ⟨rfl, by simp [nobC], fun h => absurd h (by simp [nobC])⟩, fun ad h => by cases h⟩, ⟨none, 0, rfl, Nat.le_refl _, fun _ => rfl, ⟨rfl, by simp [nobC], fun h => absurd h (by simp [nobC])⟩, fun ad h => by cases h⟩⟩
    | i + 1, hs, hc => simp at hs
  · intro k hk
    rcases hk with rfl | rfl
    · exact blk_lt hr.obj
    · exact own_lt hr.row _ rfl
  · intro i c hc hp
    match i, hc with
    | 0, hc =>
      obtain rfl : nobC = c := by simpa using hc
      exact absurd hp (Int.lt_irrefl 0)
    | i + 1, hc => simp at hc
  · intro j hj
    rcases hj with rfl | rfl
    · exact hr.ba
    · exact hr.bs
section
variable {W W' : World} {O S Q : Nat → Prop} {a : Nat} {cl : List Cell} {fr : List Int} {live most : Int} {ext : Nat → Nat}
/-- A row's block is there, or it is read nowhere. -/
theorem row_lt {α : Type} {d : Kd α} {w : World} {O O' : Nat → Prop} {v : Value} {xs : List α} (h : RowIn d w O v xs) (ho : ∀ j, O j → j < w.heap.size → O' j) : RowIn d w O' v xs := by
  obtain ⟨A, c, e, h1, h2, h3, h4⟩ := h
  exact ⟨A, c, e, h1, h2, h3, fun ad ha => ⟨ho _ (h4 ad ha).1 (h4 ad ha).2, (h4 ad ha).2⟩⟩
theorem makea_AR (ow x y : Int) (v k : Value) (kids : List Int) (w : World) (h : AR w O a cl fr live most ext) (hv : ∃ A n c, v = .slice A n c) (hk : RowIn (Kd.int .i64) w Q k kids) (hl : kids.length ≤ 1000000000) (hb : badC cl kids = true) :
    Calls Try.prog 21 #[.pointer (some ⟨a, 0, none⟩), cellV ow x y v k] w fun e w' => e = .returned (.tuple #[.int .i64 0, .int .i64 1]) ∧ Below w.heap.size w w' := by
  obtain ⟨base, gs, cs, vf, sl, V, h1, h2, h3, h4, h5, h6, h7, h8⟩ := h.mem.m
  have := h.lc
  exact make_arg ow x y v k kids w h1 (by omega) hv hk hl (by rw [badAt_badC (isB_isC h7 h8)]; exact hb)
/-- What Make does to the cells. -/
def Made (cl cl' : List Cell) (fr fr' : List Int) (i : Nat) (c : Cell) : Prop := (fr = [] ∧ i = cl.length ∧ cl' = cl ++ [c] ∧ fr' = []) ∨ (fr = fr' ++ [(i : Int)] ∧ i < cl.length ∧ cl' = cl.set i c)
theorem make_AR (ow x y : Int) (v k : Value) (vals : List (Int × Int × ByteArray)) (kids : List Int) (w : World) (h : AR w O a cl fr live most ext) (hv : RowIn kVal w Q v vals) (hk : RowIn (Kd.int .i64) w Q k kids) (hQ : ∀ j, Q j → ¬ O j) (hb : badC cl kids = false) (hlm : live < most) (hkl : kids.length ≤ 1000) (hvl : vals.length ≤ 1000000000) (hct : ∀ x, 0 < x → (kidsOf kids).count x ≤ ext x) :
    Calls Try.prog 21 #[.pointer (some ⟨a, 0, none⟩), cellV ow x y v k] w fun e w' => ∃ (i : Nat) (O' : Nat → Prop) (cl' : List Cell) (fr' : List Int), e = .returned (.tuple #[.int .i64 i, .int .i64 0]) ∧ AR w' O' a cl' fr' (live + 1) most (fun x => if x = i then 1 else ext x - (kidsOf kids).count x) ∧ 0 < i ∧ Made cl cl' fr fr' i ⟨ow, x, y, vals, kids, 1⟩ ∧ (∀ j, O' j → O j ∨ w.heap.size ≤ j) ∧ Fr O w w' := by
  obtain ⟨base, gs, cs, vf, sl, V, h1, h2, h3, h4, h5, h6, h7, h8⟩ := h.mem.m
  have hl := h.lc
  have hl0 := h.live0
  have hbA : badAt sl kids = false := by rw [badAt_badC (isB_isC h7 h8)]; exact hb
  have hcnt := h.cnt
  have hm1 := h.m1
  have hz : 0 < cl.length := (List.getElem?_eq_some_iff.1 h.wf.z).1
  have hkn : ∀ (n : Nat), cl.length ≤ n → ∀ z ∈ kids, 0 ≤ z ∧ z < n := by
    intro n hn z hz2
    rcases badC_inv hb z hz2 with q | q
    · omega
    · omega
  have heb : ∀ (i j : Nat), (if j = i then 1 else ext j - (kidsOf kids).count j) ≤ 100000000000 := by
    intro i j
    have := h.eb j
    split <;> omega
  rcases List.eq_nil_or_concat fr with rfl | ⟨fr', i, rfl⟩
  · refine (make_grow ow x y v k vals kids w h1 (by omega) (by omega) hv hk (by omega) (by omega) hbA hl0 hlm hm1 (fun j hj => ⟨fun e => hQ j hj (e ▸ h2), fun e => hQ j hj (e ▸ h3), fun e => hQ j hj (h4 j e)⟩)).mono ?_
    rintro e w' ⟨v', k', vf', gs', cs', rfl, hr, hvf, hgs, hv', hk', hF⟩
    have hFO : Fr O w w' := hF.mono (fun j hj => .inl (by
      rcases hj with e | e | e
      · rw [e]; exact h2
      · rw [e]; exact h3
      · exact h4 j e))
    have hww := h.wf.grow
    have hwf := WF.make (fr := []) (i := (cl.length : Int)) hww ⟨ow, x, y, vals, kids, 1⟩ rfl (hkn _ (by simp)) hct
    rw [Int.toNat_natCast] at hwf
    have hcl : (cl ++ [nobC]).set cl.length ⟨ow, x, y, vals, kids, 1⟩ = cl ++ [⟨ow, x, y, vals, kids, 1⟩] := by
      rw [List.set_append_right _ _ (Nat.le_refl _), Nat.sub_self]; rfl
    have hsl : ∀ t : Slot, (sl ++ [nob]).set sl.length t = sl ++ [t] := by
      intro t
      rw [List.set_append_right _ _ (Nat.le_refl _), Nat.sub_self]; rfl
    rw [hcl] at hwf
    rw [hsl] at hr
    have hin : ∀ (i : Nat) (s : Slot) (c : Cell), (sl ++ [⟨ow, x, y, v', k', 1⟩])[i]? = some s → (cl ++ [⟨ow, x, y, vals, kids, 1⟩])[i]? = some c → (i < cl.length ∧ sl[i]? = some s ∧ cl[i]? = some c) ∨ (s = ⟨ow, x, y, v', k', 1⟩ ∧ c = ⟨ow, x, y, vals, kids, 1⟩) := by
      intro i s c hs hc
      by_cases e : i < cl.length
      · rw [List.getElem?_append_left (by omega)] at hs hc
        exact .inl ⟨e, hs, hc⟩
      · have hi := (List.getElem?_eq_some_iff.1 hc).1
        simp at hi
        obtain rfl : i = cl.length := by omega
        rw [List.getElem?_append_right (by omega)] at hs hc
        rw [h7, Nat.sub_self] at hs
        rw [Nat.sub_self] at hc
        exact .inr ⟨(Option.some.inj hs).symm, (Option.some.inj hc).symm⟩
    refine ⟨sl.length, fun j => O j ∨ (w.heap.size ≤ j ∧ j < w'.heap.size), cl ++ [⟨ow, x, y, vals, kids, 1⟩], [], rfl, ⟨⟨⟨base, gs', cs', vf', _, fun j => V j ∨ (w.heap.size ≤ j ∧ j < w'.heap.size ∧ j ≠ gs' ∧ vf'.ownBlock ≠ some j), hr, .inl h2, ?_, ?_, ?_, ?_, by simp [h7], ?_⟩, ?_⟩, by rw [h7]; exact hwf, ?_, h.m0, h.m1, by omega, ?_, heb _, ?_⟩, by omega, .inl ⟨rfl, h7, rfl, rfl⟩, fun j hj => hj.imp id And.left, hFO⟩
    · rcases hgs with e | e
      · rw [e]; exact .inl h3
      · exact .inr ⟨e, own_lt hr.row gs' rfl⟩
    · intro j hj
      rcases hvf j hj with e | e
      · exact .inl (h4 j e)
      · exact .inr ⟨e, own_lt hr.free j hj⟩
    · intro j hj
      rcases hj with hj | hj
      · exact .inl (h5 j hj)
      · exact .inr ⟨hj.1, hj.2.1⟩
    · intro j hj
      rcases hj with hj | hj
      · obtain ⟨g1, g2, g3⟩ := h6 j hj
        have hjl := h.mem.ol j (h5 j hj)
        refine ⟨g1, fun e => ?_, fun e => ?_⟩
        · rcases hgs with q | q
          · exact g2 (e.trans q)
          · omega
        · rcases hvf j e with q | q
          · exact g3 q
          · omega
      · have := h.mem.ol a h2
        exact ⟨by omega, hj.2.2.1, hj.2.2.2⟩
    · intro i s c hs hc
      rcases hin i s c hs hc with ⟨_, hs, hc⟩ | ⟨rfl, rfl⟩
      · exact ((h8 i s c hs hc).fr hF (fun j hj e => by
          obtain ⟨g1, g2, g3⟩ := h6 j hj
          rcases e with e | e | e
          · exact g1 e
          · exact g2 e
          · exact g3 e)).mono (fun j hj => .inl hj)
      · exact ⟨rfl, rfl, rfl, rfl, row_lt hv' (fun j hj hjl => .inr ⟨hj.1, hjl, hj.2⟩), row_lt hk' (fun j hj hjl => .inr ⟨hj.1, hjl, hj.2⟩)⟩
    · intro j hj
      rcases hj with hj | hj
      · exact Nat.lt_of_lt_of_le (h.mem.ol j hj) hFO.size
      · exact hj.2
    · simp only [List.length_append, List.length_nil, List.length_singleton]
      simp only [List.length_nil] at hcnt
      omega
    · intro i c hc hp
      by_cases e : i < cl.length
      · rw [List.getElem?_append_left e] at hc
        exact h.kb i c hc hp
      · rw [List.getElem?_append_right (by omega)] at hc
        have hi := (List.getElem?_eq_some_iff.1 hc).1
        simp at hi
        rw [show i - cl.length = 0 by omega] at hc
        obtain rfl : (⟨ow, x, y, vals, kids, 1⟩ : Cell) = c := Option.some.inj hc
        exact ⟨hkl, hvl⟩
    · simp only [List.length_append, List.length_singleton]
      simp only [List.length_nil] at hcnt
      omega
  · rw [List.concat_eq_append] at h1 h ⊢
    have hfd := h.wf.fd i (by simp)
    obtain ⟨n, rfl⟩ : ∃ n : Nat, i = n := ⟨i.toNat, by omega⟩
    have hnl : n < sl.length := by omega
    have hcntl : (fr'.concat (n : Int)).length = fr'.length + 1 := by simp
    rw [hcntl] at hcnt
    refine (make_at ow x y v k vals kids fr' n sl[n] w h1 (by omega) (List.getElem?_eq_getElem hnl) hv hk (by omega) (by omega) hbA hl0 hlm hm1 (by omega) (fun j hj e => hQ j hj (e ▸ h2))).mono ?_
    rintro e w' ⟨v', k', vf', rfl, hr, hvf, hv', hk', hF⟩
    have hFO : Fr O w w' := hF.mono (fun j hj => .inl (by
      rcases hj with e | e
      · rw [e]; exact h2
      · rw [e]; exact h3))
    have hwf := WF.make (i := (n : Int)) h.wf ⟨ow, x, y, vals, kids, 1⟩ rfl (hkn _ (Nat.le_refl _)) hct
    rw [Int.toNat_natCast] at hwf
    have hga := h.mem.ol a h2
    have hgg := h.mem.ol gs h3
    refine ⟨n, fun j => O j ∨ (w.heap.size ≤ j ∧ j < w'.heap.size), cl.set n ⟨ow, x, y, vals, kids, 1⟩, fr', rfl, ⟨⟨⟨base, gs, cs, vf', _, fun j => V j ∨ (w.heap.size ≤ j ∧ j < w'.heap.size), hr, .inl h2, .inl h3, fun j hj => .inl (h4 j (hvf ▸ hj)), fun j hj => hj.imp (h5 j) id, ?_, by rw [List.length_set, List.length_set]; exact h7, ?_⟩, ?_⟩, hwf, by rw [List.length_set]; omega, h.m0, h.m1, by omega, ?_, heb _, by rw [List.length_set]; exact hl⟩, by omega, .inr ⟨rfl, by omega, rfl⟩, fun j hj => hj.imp id And.left, hFO⟩
    · intro j hj
      rw [hvf]
      rcases hj with hj | hj
      · exact h6 j hj
      · exact ⟨by omega, by omega, fun e => by have := h.mem.ol j (h4 j e); omega⟩
    · intro i s c hs hc
      by_cases e : i = n
      · subst e
        rw [List.getElem?_set_self (by omega)] at hs hc
        cases hs
        cases hc
        exact ⟨rfl, rfl, rfl, rfl, row_lt hv' (fun j hj hjl => .inr ⟨hj, hjl⟩), row_lt hk' (fun j hj hjl => .inr ⟨hj, hjl⟩)⟩
      · rw [List.getElem?_set_ne (fun h => e h.symm)] at hs hc
        exact ((h8 i s c hs hc).fr hF (fun j hj e => by
          obtain ⟨g1, g2, g3⟩ := h6 j hj
          rcases e with e | e
          · exact g1 e
          · exact g2 e)).mono (fun j hj => .inl hj)
    · intro j hj
      rcases hj with hj | hj
      · exact Nat.lt_of_lt_of_le (h.mem.ol j hj) hFO.size
      · exact hj.2
    · intro i c hc hp
      by_cases e : i = n
      · subst e
        rw [List.getElem?_set_self (by omega)] at hc
        cases hc
        exact ⟨hkl, hvl⟩
      · rw [List.getElem?_set_ne (fun h => e h.symm)] at hc
        exact h.kb i c hc hp
end
end Go.Proofs.Ytnipbfhfaefieaa.Arn
/-! arena: Edit, as a contract over cells. -/
namespace Go.Proofs.Ytnipbfhfaefieaa.Arn
open Go.RowKit Go Go.Proofs.YtnipbfhfaefieaaW.PrintWords Go.Proofs.YtnipbfhfaefieaaW.PrintMore Go.Proofs.YtnipbfhfaefieaaW.PrintLast Go.Proofs.Ytnipbfhfaefieaa.Bts Go.Proofs.Ytnipbfhfaefieaa.Fra Go.Proofs.Ytnipbfhfaefieaa.ArnP
section
variable {W W' : World} {O S Q : Nat → Prop} {a : Nat} {cl : List Cell} {fr : List Int} {live most : Int} {ext : Nat → Nat}
end
end Go.Proofs.Ytnipbfhfaefieaa.Arn
