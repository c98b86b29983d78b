/- arena: the slots' row in memory, cell by cell. No program is named here (the types are given). -/
import Derived.Test.YtnipbfhfaefieaaFrame
import Derived.Laws.OwnMore
import Derived.WalkSmall
namespace Go.Proofs.Ytnipbfhfaefieaa.Arn
open Go.RowKit Go Go.Proofs.YtnipbfhfaefieaaW.PrintWords Go.Proofs.Ytnipbfhfaefieaa.Bts Go.Proofs.Ytnipbfhfaefieaa.Fra
/-- A slot's cells: an owner, two words, values, others' numbers, how many hold it. -/
structure Slot where
  ow : Int := 0
  a : Int := 0
  b : Int := 0
  v : Value := .slice none 0 0
  k : Value := .slice none 0 0
  r : Int := 0
/-- Nobody's. -/
def nob : Slot := {}
def Slot.cells (s : Slot) : List Value := [.int .u32 s.ow, .int .u32 s.a, .int .u32 s.b, s.v, s.k, .int .i64 s.r]
def flat (l : List Slot) : List Value := l.flatMap Slot.cells
theorem flat_nil : flat [] = [] := rfl
theorem flat_cons (s : Slot) (l : List Slot) : flat (s :: l) = s.cells ++ flat l := rfl
theorem flat_len : ∀ l : List Slot, (flat l).length = l.length * 6
  | [] => rfl
  | s :: l => by rw [flat_cons, List.length_append, flat_len l, List.length_cons]; show 6 + _ = _; omega
theorem flat_app (l m : List Slot) : flat (l ++ m) = flat l ++ flat m := by unfold flat; rw [List.flatMap_append]
theorem flat_at : ∀ (l : List Slot) (i j : Nat) (s : Slot), l[i]? = some s → j < 6 → (flat l)[i * 6 + j]? = s.cells[j]?
  | [], i, j, s, h, _ => by simp at h
  | x :: l, 0, j, s, h, hj => by
    obtain rfl : x = s := by simpa using h
    rw [flat_cons, List.getElem?_append_left (by show 0 * 6 + j < 6; omega)]
    rw [show 0 * 6 + j = j by omega]
  | x :: l, i + 1, j, s, h, hj => by
    have h' : l[i]? = some s := by simpa using h
    rw [flat_cons, List.getElem?_append_right (by show 6 ≤ _; omega)]
    rw [show (i + 1) * 6 + j - x.cells.length = i * 6 + j by show (i + 1) * 6 + j - 6 = _; omega]
    exact flat_at l i j s h' hj
theorem flat_set : ∀ (l : List Slot) (i j : Nat) (u : Value) (s s' : Slot), l[i]? = some s → j < 6 → s'.cells = s.cells.set j u → (flat l).set (i * 6 + j) u = flat (l.set i s')
  | [], i, j, u, s, s', h, _, _ => by simp at h
  | x :: l, 0, j, u, s, s', h, hj, e => by
    obtain rfl : x = s := by simpa using h
    rw [flat_cons, List.set_cons_zero, flat_cons, e, show 0 * 6 + j = j by omega, List.set_append_left _ _ (by show j < 6; omega)]
  | x :: l, i + 1, j, u, s, s', h, hj, e => by
    have h' : l[i]? = some s := by simpa using h
    rw [flat_cons, List.set_cons_succ, flat_cons, List.set_append_right _ _ (by show 6 ≤ _; omega)]
    rw [show (i + 1) * 6 + j - x.cells.length = i * 6 + j by show (i + 1) * 6 + j - 6 = _; omega]
    rw [flat_set l i j u s s' h' hj e]
section
variable {tA tS tI : TypeId}
/-- An arena in memory: its slots, the numbers that are free, how many are live, how many there may be. -/
structure Raw (tA tS tI : TypeId) (W : World) (base a gs cs : Nat) (vf : Value) (sl : List Slot) (fr : List Int) (live most : Int) : Prop where
  obj : W.heap[a]? = some (.cells #[.slice (some ⟨gs, 0, none⟩) sl.length cs, vf, .int .i64 live, .int .i64 most] tA (0, 0))
  row : W.ownsRow base tS 6 (.slice (some ⟨gs, 0, none⟩) sl.length cs) sl.length (flat sl)
  free : W.ownsRow base tI 1 vf fr.length (nums .i64 fr)
  ga : gs ≠ a
  fa : ∀ k, vf.ownBlock = some k → k ≠ a ∧ k ≠ gs
  ba : base ≤ a
  bs : base ≤ gs
theorem Raw.cell {W : World} {base a gs cs : Nat} {vf : Value} {sl : List Slot} {fr : List Int} {live most : Int} (h : Raw tA tS tI W base a gs cs vf sl fr live most) (i : Nat) (s : Slot) (hs : sl[i]? = some s) (j : Nat) (hj : j < 6) : W.cell? ⟨gs, i * 6 + j, none⟩ = s.cells[j]? := by
  have hi : i < sl.length := (List.getElem?_eq_some_iff.1 hs).1
  rw [h.row.cellAt (i * 6 + j) (by omega)]
  exact flat_at sl i j s hs hj
theorem Raw.frozen {W : World} {base a gs cs : Nat} {vf : Value} {sl : List Slot} {fr : List Int} {live most : Int} (h : Raw tA tS tI W base a gs cs vf sl fr live most) (j : Nat) : W.frozen? ⟨gs, j, none⟩ = false := h.row.frozenAt j
/-- Another block turns. -/
theorem Raw.kept {W W' : World} {base a gs cs : Nat} {vf : Value} {sl : List Slot} {fr : List Int} {live most : Int} {S : Nat → Prop} (h : Raw tA tS tI W base a gs cs vf sl fr live most) (hf : Fr S W W') (ha : ¬ S a) (hs : ¬ S gs) (hv : ∀ k, vf.ownBlock = some k → ¬ S k) : Raw tA tS tI W' base a gs cs vf sl fr live most := by
  have own : ∀ {e : TypeId} {sz n : Nat} {v : Value} {xs : List Value}, W.ownsRow base e sz v n xs → (∀ k, v.ownBlock = some k → ¬ S k) → W'.ownsRow base e sz v n xs := by
    intro e sz n v xs ho hk
    obtain ⟨h1, h2⟩ := ho
    refine ⟨h1, ?_⟩
    rcases h2 with h2 | ⟨g, cap, cur, rfl, hg, hh, h3⟩
    · exact .inl h2
    · exact .inr ⟨g, cap, cur, rfl, hg, hf.blk hh (hk g rfl), h3⟩
  exact ⟨hf.blk h.obj ha, own h.row (fun k hk => by cases hk; exact hs), own h.free hv, h.ga, h.fa, h.ba, h.bs⟩
/-- One cell of a slot turns. -/
theorem Raw.put {W : World} {base a gs cs : Nat} {vf : Value} {sl : List Slot} {fr : List Int} {live most : Int} (h : Raw tA tS tI W base a gs cs vf sl fr live most) (i j : Nat) (u : Value) (s s' : Slot) (hs : sl[i]? = some s) (hj : j < 6) (he : s'.cells = s.cells.set j u) :
    Raw tA tS tI (W.setCell ⟨gs, i * 6 + j, none⟩ u) base a gs cs vf (sl.set i s') fr live most := by
  obtain ⟨h1, h2⟩ := h.row.stored (i * 6 + j) u
  rw [flat_set sl i j u s s' hs hj he] at h1
  have hl : (sl.set i s').length = sl.length := List.length_set
  have hfr : Fr (· = gs) W (W.setCell ⟨gs, i * 6 + j, none⟩ u) := Fr.set gs _ u
  refine ⟨by rw [hl]; exact hfr.blk h.obj (fun e => h.ga e.symm), by rw [hl]; exact h1, ?_, h.ga, h.fa, h.ba, h.bs⟩
  obtain ⟨g1, g2⟩ := h.free
  refine ⟨g1, ?_⟩
  rcases g2 with g2 | ⟨g, cap, cur, rfl, hg, hh, g3⟩
  · exact .inl g2
  · exact .inr ⟨g, cap, cur, rfl, hg, hfr.blk hh (fun e => (h.fa g rfl).2 e), g3⟩
end
/-- What lies in a row of fixed kinds is kept where its block is. -/
theorem C_fr {α : Type} {d : Kd α} {W W' : World} {A : Option Addr} {n : Nat} {xs : List α} {S : Nat → Prop} (hK : ∀ x c, d.K W x c → d.K W' x c) (h : d.C W A n xs) (hf : Fr S W W') (hs : ∀ ad, A = some ad → ¬ S ad.block) : d.C W' A n xs := by
  obtain ⟨h1, h2, h3⟩ := h
  refine ⟨h1, h2, fun hn => ?_⟩
  obtain ⟨ad, e, h4⟩ := h3 hn
  refine ⟨ad, e, fun j p hj => ?_⟩
  obtain ⟨c, e1, e2, e3⟩ := h4 j p hj
  refine ⟨c, e1, hK p c e2, fun i u hi => ?_⟩
  have hb : (ad.add (j * d.sz + i)).block = ad.block := by unfold Addr.add; split <;> rfl
  exact hf.cell (e3 i u hi) (by rw [hb]; exact hs ad e)
/-- Values, as cells have them. -/
abbrev kVal : Kd (Int × Int × ByteArray) := Kd.pair (Kd.int .u8) (Kd.pair (Kd.int .i64) Kd.string)
/-- A cell, as the document has it. -/
structure Cell where
  ow : Int := 0
  a : Int := 0
  b : Int := 0
  vals : List (Int × Int × ByteArray) := []
  kids : List Int := []
  r : Int := 0
/-- A list that lies in a block of the arena's own. -/
def RowIn {α : Type} (d : Kd α) (W : World) (O : Nat → Prop) (v : Value) (xs : List α) : Prop :=
  ∃ A c, v = .slice A xs.length c ∧ xs.length ≤ c ∧ (A = none → c = 0) ∧ d.C W A xs.length xs ∧ ∀ ad, A = some ad → O ad.block ∧ ad.block < W.heap.size
structure CellIn (W : World) (O : Nat → Prop) (s : Slot) (c : Cell) : Prop where
  ow : s.ow = c.ow
  a : s.a = c.a
  b : s.b = c.b
  r : s.r = c.r
  v : RowIn kVal W O s.v c.vals
  k : RowIn (Kd.int .i64) W O s.k c.kids
theorem RowIn.fr {α : Type} {d : Kd α} {W W' : World} {O S : Nat → Prop} {v : Value} {xs : List α} (hK : ∀ x c, d.K W x c → d.K W' x c) (h : RowIn d W O v xs) (hf : Fr S W W') (hs : ∀ k, O k → ¬ S k) : RowIn d W' O v xs := by
  obtain ⟨A, c, e, h1, h2, h3, h4⟩ := h
  exact ⟨A, c, e, h1, h2, C_fr hK h3 hf (fun ad ha => hs _ (h4 ad ha).1), fun ad ha => ⟨(h4 ad ha).1, Nat.lt_of_lt_of_le (h4 ad ha).2 hf.size⟩⟩
theorem RowIn.mono {α : Type} {d : Kd α} {W : World} {O O' : Nat → Prop} {v : Value} {xs : List α} (h : RowIn d W O v xs) (ho : ∀ k, O k → O' k) : RowIn d W O' v xs := by
  obtain ⟨A, c, e, h1, h2, h3, h4⟩ := h
  exact ⟨A, c, e, h1, h2, h3, fun ad ha => ⟨ho _ (h4 ad ha).1, (h4 ad ha).2⟩⟩
theorem kVal_K {W W' : World} (x : Int × Int × ByteArray) (c : List Value) (h : kVal.K W x c) : kVal.K W' x c := h
theorem kInt_K {W W' : World} (x : Int) (c : List Value) (h : (Kd.int .i64).K W x c) : (Kd.int .i64).K W' x c := h
theorem CellIn.fr {W W' : World} {O S : Nat → Prop} {s : Slot} {c : Cell} (h : CellIn W O s c) (hf : Fr S W W') (hs : ∀ k, O k → ¬ S k) : CellIn W' O s c :=
  ⟨h.ow, h.a, h.b, h.r, h.v.fr kVal_K hf hs, h.k.fr kInt_K hf hs⟩
theorem CellIn.mono {W : World} {O O' : Nat → Prop} {s : Slot} {c : Cell} (h : CellIn W O s c) (ho : ∀ k, O k → O' k) : CellIn W O' s c :=
  ⟨h.ow, h.a, h.b, h.r, h.v.mono ho, h.k.mono ho⟩
/-- An arena: its cells, the numbers that are free, how many are live, how many there may be; O: all blocks that it stands on; V: those of lists, that are never written. -/
structure Ar (tA tS tI : TypeId) (W : World) (O : Nat → Prop) (base a : Nat) (cl : List Cell) (fr : List Int) (live most : Int) : Prop where
  raw : ∃ (gs cs : Nat) (vf : Value) (sl : List Slot) (V : Nat → Prop), Raw tA tS tI W base a gs cs vf sl fr live most ∧ O a ∧ O gs ∧ (∀ k, vf.ownBlock = some k → O k) ∧ (∀ k, V k → O k) ∧ ¬ V a ∧ ¬ V gs ∧ (∀ k, vf.ownBlock = some k → ¬ V k) ∧ sl.length = cl.length ∧ ∀ (i : Nat) (s : Slot) (c : Cell), sl[i]? = some s → cl[i]? = some c → CellIn W V s c
/-- What others do is nothing to it. -/
theorem Ar.fr {tA tS tI : TypeId} {W W' : World} {O S : Nat → Prop} {base a : Nat} {cl : List Cell} {fr : List Int} {live most : Int} (h : Ar tA tS tI W O base a cl fr live most) (hf : Fr S W W') (hs : ∀ k, O k → ¬ S k) : Ar tA tS tI W' O base a cl fr live most := by
  obtain ⟨gs, cs, vf, sl, V, h1, h2, h3, h4, h5, h6, h7, h8, h9, h10⟩ := h
  exact ⟨gs, cs, vf, sl, V, h1.kept hf (hs _ h2) (hs _ h3) (fun k hk => hs _ (h4 k hk)), h2, h3, h4, h5, h6, h7, h8, h9, fun i s c hi hc => (h10 i s c hi hc).fr hf (fun k hk => hs _ (h5 k hk))⟩
section
variable {tA tS tI : TypeId}
/-- A block's own row, where another one turns. -/
theorem own_fr {W W' : World} {S : Nat → Prop} {base sz n : Nat} {e : TypeId} {v : Value} {xs : List Value} (ho : W.ownsRow base e sz v n xs) (hf : Fr S W W') (hk : ∀ k, v.ownBlock = some k → ¬ S k) : W'.ownsRow base e sz v n xs := by
  obtain ⟨h1, h2⟩ := ho
  refine ⟨h1, ?_⟩
  rcases h2 with h2 | ⟨g, cap, cur, rfl, hg, hh, h3⟩
  · exact .inl h2
  · exact .inr ⟨g, cap, cur, rfl, hg, hf.blk hh (hk g rfl), h3⟩
/-- How many are live is told anew. -/
theorem Raw.live {W : World} {base a gs cs : Nat} {vf : Value} {sl : List Slot} {fr : List Int} {live most : Int} (h : Raw tA tS tI W base a gs cs vf sl fr live most) (l' : Int) : Raw tA tS tI (W.setCell ⟨a, 2, none⟩ (.int .i64 l')) base a gs cs vf sl fr l' most := by
  have hf : Fr (· = a) W (W.setCell ⟨a, 2, none⟩ (.int .i64 l')) := Fr.set a 2 _
  exact ⟨(blk_set h.obj 2 _).trans rfl, own_fr h.row hf (fun k hk e => by cases hk; exact h.ga e), own_fr h.free hf (fun k hk e => (h.fa k hk).1 e), h.ga, h.fa, h.ba, h.bs⟩
/-- Another list of free numbers: in its old block, or in a new one. -/
theorem Raw.frees {W W1 : World} {base a gs cs : Nat} {vf vf' : Value} {sl : List Slot} {fr fr' : List Int} {live most : Int} (h : Raw tA tS tI W base a gs cs vf sl fr live most)
    (hf : Fr (fun k => vf.ownBlock = some k) W W1) (ho : W1.ownsRow base tI 1 vf' fr'.length (nums .i64 fr')) (hv : ∀ k, vf'.ownBlock = some k → vf.ownBlock = some k ∨ W.heap.size ≤ k) :
    Raw tA tS tI (W1.setCell ⟨a, 1, none⟩ vf') base a gs cs vf' sl fr' live most := by
  have ha : a < W.heap.size := blk_lt h.obj
  have hg : gs < W.heap.size := by
    obtain ⟨_, h2⟩ := h.row
    rcases h2 with ⟨e, _⟩ | ⟨g, cap, cur, e, _, hh, _⟩
    · cases e
    · cases e; exact blk_lt hh
  have hna : ∀ k, vf'.ownBlock = some k → k ≠ a ∧ k ≠ gs := by
    intro k hk
    rcases hv k hk with h1 | h1
    · exact h.fa k h1
    · exact ⟨by omega, by omega⟩
  have h1 : W1.heap[a]? = _ := hf.blk h.obj (fun e => (h.fa a e).1 rfl)
  have hs : Fr (· = a) W1 (W1.setCell ⟨a, 1, none⟩ vf') := Fr.set a 1 _
  exact ⟨(blk_set h1 1 _).trans rfl, own_fr (own_fr h.row hf (fun k hk e => by cases hk; exact (h.fa _ e).2 rfl)) hs (fun k hk e => by cases hk; exact h.ga e), own_fr ho hs (fun k hk e => (hna k hk).1 e), h.ga, hna, h.ba, h.bs⟩
/-- One more slot, nobody's: in the old block, or in a new one. -/
theorem Raw.grow {W W1 : World} {base a gs cs gs' cs' : Nat} {vf : Value} {sl : List Slot} {fr : List Int} {live most : Int} (h : Raw tA tS tI W base a gs cs vf sl fr live most)
    (hf : Fr (fun k => k = gs) W W1) (ho : W1.ownsRow base tS 6 (.slice (some ⟨gs', 0, none⟩) (sl.length + 1) cs') (sl.length + 1) (flat (sl ++ [nob]))) (hv : gs' = gs ∨ W.heap.size ≤ gs') :
    Raw tA tS tI (W1.setCell ⟨a, 0, none⟩ (.slice (some ⟨gs', 0, none⟩) (sl.length + 1) cs')) base a gs' cs' vf (sl ++ [nob]) fr live most := by
  have ha : a < W.heap.size := blk_lt h.obj
  have hl : (sl ++ [nob]).length = sl.length + 1 := by rw [List.length_append]; rfl
  have hvb : ∀ k, vf.ownBlock = some k → k < W.heap.size := by
    intro k hk
    obtain ⟨_, h2⟩ := h.free
    rcases h2 with ⟨e, _⟩ | ⟨g, cap, cur, e, _, hh, _⟩
    · rw [e] at hk; cases hk
    · rw [e] at hk; cases hk; exact blk_lt hh
  have hga : gs' ≠ a := by
    rcases hv with e | e
    · rw [e]; exact h.ga
    · omega
  have hgb : base ≤ gs' := by
    obtain ⟨_, h2⟩ := ho
    rcases h2 with ⟨e, _⟩ | ⟨g, cap, cur, e, hb, _⟩
    · cases e
    · cases e; exact hb
  have h1 : W1.heap[a]? = _ := hf.blk h.obj (fun e => h.ga e.symm)
  have hs : Fr (· = a) W1 (W1.setCell ⟨a, 0, none⟩ (.slice (some ⟨gs', 0, none⟩) (sl.length + 1) cs')) := Fr.set a 0 _
  refine ⟨by rw [hl]; exact (blk_set h1 0 _).trans rfl, by rw [hl]; exact own_fr ho hs (fun k hk e => by cases hk; exact hga e), own_fr (own_fr h.free hf (fun k hk e => (h.fa k hk).2 e)) hs (fun k hk e => (h.fa k hk).1 e), hga, fun k hk => ⟨(h.fa k hk).1, ?_⟩, h.ba, hgb⟩
  rcases hv with e | e
  · rw [e]; exact (h.fa k hk).2
  · have := hvb k hk; omega
/-- A whole slot is laid anew. -/
theorem Raw.lay {W : World} {base a gs cs : Nat} {vf : Value} {sl : List Slot} {fr : List Int} {live most : Int} (h : Raw tA tS tI W base a gs cs vf sl fr live most) (i : Nat) (s s' : Slot) (hs : sl[i]? = some s) :
    Raw tA tS tI ((((((W.setCell ⟨gs, i * 6 + 0, none⟩ (.int .u32 s'.ow)).setCell ⟨gs, i * 6 + 1, none⟩ (.int .u32 s'.a)).setCell ⟨gs, i * 6 + 2, none⟩ (.int .u32 s'.b)).setCell ⟨gs, i * 6 + 3, none⟩ s'.v).setCell ⟨gs, i * 6 + 4, none⟩ s'.k).setCell ⟨gs, i * 6 + 5, none⟩ (.int .i64 s'.r)) base a gs cs vf (sl.set i s') fr live most := by
  have hi : i < sl.length := (List.getElem?_eq_some_iff.1 hs).1
  have at_ : ∀ (l : List Slot) (x : Slot), l.length = sl.length → (l.set i x)[i]? = some x := fun l x hl => by rw [List.getElem?_set_self (by omega)]
  have h0 := h.put i 0 (.int .u32 s'.ow) s ⟨s'.ow, s.a, s.b, s.v, s.k, s.r⟩ hs (by decide) rfl
  have h1 := h0.put i 1 (.int .u32 s'.a) _ ⟨s'.ow, s'.a, s.b, s.v, s.k, s.r⟩ (at_ _ _ rfl) (by decide) rfl
  have h2 := h1.put i 2 (.int .u32 s'.b) _ ⟨s'.ow, s'.a, s'.b, s.v, s.k, s.r⟩ (at_ _ _ (by simp)) (by decide) rfl
  have h3 := h2.put i 3 s'.v _ ⟨s'.ow, s'.a, s'.b, s'.v, s.k, s.r⟩ (at_ _ _ (by simp)) (by decide) rfl
  have h4 := h3.put i 4 s'.k _ ⟨s'.ow, s'.a, s'.b, s'.v, s'.k, s.r⟩ (at_ _ _ (by simp)) (by decide) rfl
  have h5 := h4.put i 5 (.int .i64 s'.r) _ s' (at_ _ _ (by simp)) (by decide) rfl
  simpa only [List.set_set] using h5
end
end Go.Proofs.Ytnipbfhfaefieaa.Arn
