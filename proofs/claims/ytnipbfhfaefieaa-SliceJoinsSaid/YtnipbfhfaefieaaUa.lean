/- Texts of this claim, laid together: Bytes, Frame, ArnM, ArnP, ArnG. -/
import Derived.Test.YtnipbfhfaefieaaWWords
import Derived.Test.YtnipbfhfaefieaaWLast
import Derived.Test.YtnipbfhfaefieaaWMore
import Derived.Test.YtnipbfhfaefieaaWKept
import Derived.DataElems
import Derived.Laws.OwnMore
import Derived.WalkSmall
/-! Rows that are read: what a slice's value leads to, kept while nobody writes its block. No program is named here. -/
namespace Go.Proofs.Ytnipbfhfaefieaa.Bts
open Go.RowKit Go Go.Proofs.YtnipbfhfaefieaaW.PrintWords

/-- The slice v holds n elements, of size sz, whose cells are cs. -/
def SlR (w : World) (sz : Nat) (v : Value) (n : Nat) (cs : List Value) : Prop :=
  cs.length = n * sz ∧ ∃ A c, v = .slice A n c ∧ n ≤ c ∧ (A = none → c = 0) ∧ ∀ ad, A = some ad → ∀ j u, cs[j]? = some u → w.cell? (ad.add j) = some u
section
variable {w w' : World} {sz n : Nat} {v : Value} {cs : List Value} {S : Nat → Prop}
theorem SlR.nil (w : World) (sz : Nat) : SlR w sz (.slice none 0 0) 0 [] := ⟨by simp, none, 0, rfl, Nat.le_refl _, fun _ => rfl, fun ad h => by cases h⟩
theorem SlR.kept (h : SlR w sz v n cs) (hk : Kept w w' S) (hS : ∀ k, v.ownBlock = some k → ¬ S k) : SlR w' sz v n cs := by
  obtain ⟨h1, A, c, rfl, h2, h3, h4⟩ := h
  refine ⟨h1, A, c, rfl, h2, h3, fun ad hA j u hj => ?_⟩
  have hb : (ad.add j).block = ad.block := by unfold Addr.add; split <;> rfl
  exact cell_kept (h4 ad hA j u hj) hk (by rw [hb]; exact hS ad.block (by rw [hA]; rfl))
theorem SlR.below (h : SlR w sz v n cs) (hb : Below w.heap.size w w') : SlR w' sz v n cs := h.kept (Kept.of_below hb (fun _ => False)) (fun _ _ h => h)
theorem SlR.C {k : IntKind} {xs : List Int} (h : SlR w 1 v xs.length (nums k xs)) (hm : xs.length ≤ 9223372036854775807) : ∃ A c, v = .slice A xs.length c ∧ xs.length ≤ c ∧ (A = none → c = 0) ∧ (Kd.int k).C w A xs.length xs := by
  obtain ⟨_, A, c, rfl, h2, h3, h4⟩ := h
  refine ⟨A, c, rfl, h2, h3, rfl, hm, fun hn => ?_⟩
  cases A with
  | none => have := h3 rfl; omega
  | some ad =>
    refine ⟨ad, rfl, fun j p hj => ⟨[.int k p], rfl, rfl, fun i u hi => ?_⟩⟩
    have hi0 : i = 0 := by
      have := (List.getElem?_eq_some_iff.1 hi).1
      simpa using this
    subst hi0
    refine h4 ad rfl _ u ?_
    show (nums k xs)[j * 1 + 0]? = some u
    have hj' : (nums k xs)[j]? = some (.int k p) := by simp [nums, hj]
    rw [Nat.mul_one, Nat.add_zero, hj']
    simpa using hi
theorem SlR.at_ (h : SlR w 1 v n cs) (i : Nat) (hi : i < n) : ∃ ad c, v = .slice (some ad) n c ∧ n ≤ c ∧ ∀ u, cs[i]? = some u → w.cell? (ad.add i) = some u := by
  obtain ⟨h1, A, c, rfl, h2, h3, h4⟩ := h
  cases A with
  | none => have := h3 rfl; omega
  | some ad => exact ⟨ad, c, rfl, h2, fun u hu => h4 ad rfl i u hu⟩
theorem SlR.len (h : SlR w sz v n cs) : cs.length = n * sz := h.1
end
end Go.Proofs.Ytnipbfhfaefieaa.Bts
/-! What a call may write: blocks of S, and what is new. -/
namespace Go.Proofs.Ytnipbfhfaefieaa.Fra
open Go.RowKit Go Go.Proofs.YtnipbfhfaefieaaW.PrintWords Go.Proofs.Ytnipbfhfaefieaa.Bts

structure Fr (S : Nat → Prop) (w w' : World) : Prop where
  os : w'.os = w.os
  tape : w'.tape = w.tape
  output : w'.output = w.output
  size : w.heap.size ≤ w'.heap.size
  block : ∀ k, k < w.heap.size → ¬ S k → w'.heap[k]? = w.heap[k]?
section
variable {S S' : Nat → Prop} {w w' w2 : World}
theorem Fr.refl (S : Nat → Prop) (w : World) : Fr S w w := ⟨rfl, rfl, rfl, Nat.le_refl _, fun _ _ _ => rfl⟩
theorem Fr.then_ (h : Fr S w w') (k : Fr S' w' w2) (hs : ∀ k, S' k → S k ∨ w.heap.size ≤ k) : Fr S w w2 :=
  ⟨k.os.trans h.os, k.tape.trans h.tape, k.output.trans h.output, Nat.le_trans h.size k.size, fun i hi hn => (k.block i (Nat.lt_of_lt_of_le hi h.size) (fun h2 => (hs i h2).elim hn (fun h3 => by omega))).trans (h.block i hi hn)⟩
theorem Fr.trans (h : Fr S w w') (k : Fr S w' w2) : Fr S w w2 := h.then_ k fun _ h => .inl h
theorem Fr.mono (h : Fr S w w') (hs : ∀ k, S k → S' k ∨ w.heap.size ≤ k) : Fr S' w w' := (Fr.refl S' w).then_ h hs
theorem Fr.of_below {B : Nat} (h : Below B w w') (hs : ∀ k, B ≤ k → S k ∨ w.heap.size ≤ k) : Fr S w w' :=
  ⟨h.os, h.tape, h.output, h.size, fun i hi hn => by
    by_cases hb : i < B
    · exact h.block i hb
    · exact ((hs i (by omega)).elim hn (fun h3 => by omega)).elim⟩
theorem Fr.of_new (h : Below w.heap.size w w') : Fr S w w' := Fr.of_below h fun _ h => .inr h
theorem Fr.below {B : Nat} (h : Fr S w w') (hs : ∀ k, S k → B ≤ k) (hB : B ≤ w.heap.size) : Below B w w' :=
  ⟨h.os, h.tape, h.output, h.size, fun i hi => h.block i (by omega) (fun h2 => by have := hs i h2; omega)⟩
theorem Fr.kept (h : Fr S w w') : Kept w w' S := ⟨h.size, h.block⟩
theorem Fr.setCell {p : Addr} (hp : S p.block ∨ w.heap.size ≤ p.block) (u : Value) : Fr S w (w.setCell p u) :=
  ⟨rfl, rfl, rfl, by simp [World.setCell], fun i hi hn => Below.heap_setCell w p u i (fun e => by subst e; exact hp.elim hn (fun h => by omega))⟩
theorem Fr.set (g i : Nat) (u : Value) : Fr (· = g) w (w.setCell ⟨g, i, none⟩ u) := Fr.setCell (S := (· = g)) (.inl rfl) u
theorem Fr.alloc (o : Obj) : Fr S w (w.alloc o) := Fr.of_new (below_alloc (Below.refl _ _) o)
theorem Fr.put (h : Fr S w w') {p : Addr} (hp : S p.block ∨ w.heap.size ≤ p.block) (u : Value) : Fr S w (w'.setCell p u) :=
  h.then_ (S' := fun k => k = p.block) (Fr.setCell (S := fun k => k = p.block) (.inl rfl) u) (fun k hk => by rw [hk]; exact hp)
theorem Fr.more (h : Fr S w w') (hb : Below w'.heap.size w' w2) : Fr S w w2 := h.then_ (S' := fun _ => False) (Fr.of_new hb) (fun _ hk => hk.elim)
theorem Fr.new (h : Fr S w w') (o : Obj) : Fr S w (w'.alloc o) := h.more (below_alloc (Below.refl _ _) o)
theorem ret3 {g : Nat} {t : TypeId} {a b c : Value} (h : w.heap[g]? = some (.cells #[a, b, c] t (0, 0))) (x y z : Value) :
    (((w.setCell ⟨g, 0, none⟩ x).setCell ⟨g, 1, none⟩ y).setCell ⟨g, 2, none⟩ z).heap[g]? = some (.cells #[x, y, z] t (0, 0)) :=
  blk_put (blk_put (blk_put h 0 x rfl) 1 y rfl) 2 z rfl
theorem Fr.blk {g : Nat} {o : Obj} (h : Fr S w w') (hb : w.heap[g]? = some o) (hg : ¬ S g) : w'.heap[g]? = some o := blk_kept hb h.kept hg
theorem Fr.cell {a : Addr} {v : Value} (h : Fr S w w') (hb : w.cell? a = some v) (hg : ¬ S a.block) : w'.cell? a = some v := cell_kept hb h.kept hg
end
end Go.Proofs.Ytnipbfhfaefieaa.Fra
/-! arena: the slots' row in memory, cell by cell. No program is named here (the types are given). -/
namespace Go.Proofs.Ytnipbfhfaefieaa.Arn
open Go.RowKit Go Go.Proofs.YtnipbfhfaefieaaW.PrintWords Go.Proofs.Ytnipbfhfaefieaa.Bts Go.Proofs.Ytnipbfhfaefieaa.Fra
/-- A slot's cells: an owner, two words, values, others' numbers, how many hold it. -/
structure Slot where
  ow : Int := 0
  a : Int := 0
  b : Int := 0
  v : Value := .slice none 0 0
  k : Value := .slice none 0 0
  r : Int := 0
/-- Nobody's. -/
def nob : Slot := {}
def Slot.cells (s : Slot) : List Value := [.int .u32 s.ow, .int .u32 s.a, .int .u32 s.b, s.v, s.k, .int .i64 s.r]
def flat (l : List Slot) : List Value := l.flatMap Slot.cells
theorem flat_cons (s : Slot) (l : List Slot) : flat (s :: l) = s.cells ++ flat l := rfl
theorem flat_app (l m : List Slot) : flat (l ++ m) = flat l ++ flat m := by unfold flat; rw [List.flatMap_append]
theorem flat_at : ∀ (l : List Slot) (i j : Nat) (s : Slot), l[i]? = some s → j < 6 → (flat l)[i * 6 + j]? = s.cells[j]?
  | [], i, j, s, h, _ => by simp at h
  | x :: l, 0, j, s, h, hj => by
    obtain rfl : x = s := by simpa using h
    rw [flat_cons, List.getElem?_append_left (by show 0 * 6 + j < 6; omega)]
    rw [show 0 * 6 + j = j by omega]
  | x :: l, i + 1, j, s, h, hj => by
    have h' : l[i]? = some s := by simpa using h
    rw [flat_cons, List.getElem?_append_right (by show 6 ≤ _; omega)]
    rw [show (i + 1) * 6 + j - x.cells.length = i * 6 + j by show (i + 1) * 6 + j - 6 = _; omega]
    exact flat_at l i j s h' hj
theorem flat_set : ∀ (l : List Slot) (i j : Nat) (u : Value) (s s' : Slot), l[i]? = some s → j < 6 → s'.cells = s.cells.set j u → (flat l).set (i * 6 + j) u = flat (l.set i s')
  | [], i, j, u, s, s', h, _, _ => by simp at h
  | x :: l, 0, j, u, s, s', h, hj, e => by
    obtain rfl : x = s := by simpa using h
    rw [flat_cons, List.set_cons_zero, flat_cons, e, show 0 * 6 + j = j by omega, List.set_append_left _ _ (by show j < 6; omega)]
  | x :: l, i + 1, j, u, s, s', h, hj, e => by
    have h' : l[i]? = some s := by simpa using h
    rw [flat_cons, List.set_cons_succ, flat_cons, List.set_append_right _ _ (by show 6 ≤ _; omega)]
    rw [show (i + 1) * 6 + j - x.cells.length = i * 6 + j by show (i + 1) * 6 + j - 6 = _; omega]
    rw [flat_set l i j u s s' h' hj e]
section
variable {tA tS tI : TypeId}
/-- An arena in memory: its slots, the numbers that are free, how many are live, how many there may be. -/
structure Raw (tA tS tI : TypeId) (W : World) (base a gs cs : Nat) (vf : Value) (sl : List Slot) (fr : List Int) (live most : Int) : Prop where
  obj : W.heap[a]? = some (.cells #[.slice (some ⟨gs, 0, none⟩) sl.length cs, vf, .int .i64 live, .int .i64 most] tA (0, 0))
  row : W.ownsRow base tS 6 (.slice (some ⟨gs, 0, none⟩) sl.length cs) sl.length (flat sl)
  free : W.ownsRow base tI 1 vf fr.length (nums .i64 fr)
  ga : gs ≠ a
  fa : ∀ k, vf.ownBlock = some k → k ≠ a ∧ k ≠ gs
  ba : base ≤ a
  bs : base ≤ gs
theorem Raw.cell {W : World} {base a gs cs : Nat} {vf : Value} {sl : List Slot} {fr : List Int} {live most : Int} (h : Raw tA tS tI W base a gs cs vf sl fr live most) (i : Nat) (s : Slot) (hs : sl[i]? = some s) (j : Nat) (hj : j < 6) : W.cell? ⟨gs, i * 6 + j, none⟩ = s.cells[j]? := by
  have hi : i < sl.length := (List.getElem?_eq_some_iff.1 hs).1
  rw [h.row.cellAt (i * 6 + j) (by omega)]
  exact flat_at sl i j s hs hj
theorem Raw.frozen {W : World} {base a gs cs : Nat} {vf : Value} {sl : List Slot} {fr : List Int} {live most : Int} (h : Raw tA tS tI W base a gs cs vf sl fr live most) (j : Nat) : W.frozen? ⟨gs, j, none⟩ = false := h.row.frozenAt j
/-- Another block turns. -/
theorem Raw.kept {W W' : World} {base a gs cs : Nat} {vf : Value} {sl : List Slot} {fr : List Int} {live most : Int} {S : Nat → Prop} (h : Raw tA tS tI W base a gs cs vf sl fr live most) (hf : Fr S W W') (ha : ¬ S a) (hs : ¬ S gs) (hv : ∀ k, vf.ownBlock = some k → ¬ S k) : Raw tA tS tI W' base a gs cs vf sl fr live most := by
  have own : ∀ {e : TypeId} {sz n : Nat} {v : Value} {xs : List Value}, W.ownsRow base e sz v n xs → (∀ k, v.ownBlock = some k → ¬ S k) → W'.ownsRow base e sz v n xs := by
    intro e sz n v xs ho hk
    obtain ⟨h1, h2⟩ := ho
    refine ⟨h1, ?_⟩
    rcases h2 with h2 | ⟨g, cap, cur, rfl, hg, hh, h3⟩
    · exact .inl h2
    · exact .inr ⟨g, cap, cur, rfl, hg, hf.blk hh (hk g rfl), h3⟩
  exact ⟨hf.blk h.obj ha, own h.row (fun k hk => by cases hk; exact hs), own h.free hv, h.ga, h.fa, h.ba, h.bs⟩
/-- One cell of a slot turns. -/
theorem Raw.put {W : World} {base a gs cs : Nat} {vf : Value} {sl : List Slot} {fr : List Int} {live most : Int} (h : Raw tA tS tI W base a gs cs vf sl fr live most) (i j : Nat) (u : Value) (s s' : Slot) (hs : sl[i]? = some s) (hj : j < 6) (he : s'.cells = s.cells.set j u) :
    Raw tA tS tI (W.setCell ⟨gs, i * 6 + j, none⟩ u) base a gs cs vf (sl.set i s') fr live most := by
  obtain ⟨h1, h2⟩ := h.row.stored (i * 6 + j) u
  rw [flat_set sl i j u s s' hs hj he] at h1
  have hl : (sl.set i s').length = sl.length := List.length_set
  have hfr : Fr (· = gs) W (W.setCell ⟨gs, i * 6 + j, none⟩ u) := Fr.set gs _ u
  refine ⟨by rw [hl]; exact hfr.blk h.obj (fun e => h.ga e.symm), by rw [hl]; exact h1, ?_, h.ga, h.fa, h.ba, h.bs⟩
  obtain ⟨g1, g2⟩ := h.free
  refine ⟨g1, ?_⟩
  rcases g2 with g2 | ⟨g, cap, cur, rfl, hg, hh, g3⟩
  · exact .inl g2
  · exact .inr ⟨g, cap, cur, rfl, hg, hfr.blk hh (fun e => (h.fa g rfl).2 e), g3⟩
end
/-- What lies in a row of fixed kinds is kept where its block is. -/
theorem C_fr {α : Type} {d : Kd α} {W W' : World} {A : Option Addr} {n : Nat} {xs : List α} {S : Nat → Prop} (hK : ∀ x c, d.K W x c → d.K W' x c) (h : d.C W A n xs) (hf : Fr S W W') (hs : ∀ ad, A = some ad → ¬ S ad.block) : d.C W' A n xs := by
  obtain ⟨h1, h2, h3⟩ := h
  refine ⟨h1, h2, fun hn => ?_⟩
  obtain ⟨ad, e, h4⟩ := h3 hn
  refine ⟨ad, e, fun j p hj => ?_⟩
  obtain ⟨c, e1, e2, e3⟩ := h4 j p hj
  refine ⟨c, e1, hK p c e2, fun i u hi => ?_⟩
  have hb : (ad.add (j * d.sz + i)).block = ad.block := by unfold Addr.add; split <;> rfl
  exact hf.cell (e3 i u hi) (by rw [hb]; exact hs ad e)
/-- Values, as cells have them. -/
abbrev kVal : Kd (Int × Int × ByteArray) := Kd.pair (Kd.int .u8) (Kd.pair (Kd.int .i64) Kd.string)
/-- A cell, as the document has it. -/
structure Cell where
  ow : Int := 0
  a : Int := 0
  b : Int := 0
  vals : List (Int × Int × ByteArray) := []
  kids : List Int := []
  r : Int := 0
/-- A list that lies in a block of the arena's own. -/
def RowIn {α : Type} (d : Kd α) (W : World) (O : Nat → Prop) (v : Value) (xs : List α) : Prop :=
  ∃ A c, v = .slice A xs.length c ∧ xs.length ≤ c ∧ (A = none → c = 0) ∧ d.C W A xs.length xs ∧ ∀ ad, A = some ad → O ad.block ∧ ad.block < W.heap.size
structure CellIn (W : World) (O : Nat → Prop) (s : Slot) (c : Cell) : Prop where
  ow : s.ow = c.ow
  a : s.a = c.a
  b : s.b = c.b
  r : s.r = c.r
  v : RowIn kVal W O s.v c.vals
  k : RowIn (Kd.int .i64) W O s.k c.kids
theorem RowIn.fr {α : Type} {d : Kd α} {W W' : World} {O S : Nat → Prop} {v : Value} {xs : List α} (hK : ∀ x c, d.K W x c → d.K W' x c) (h : RowIn d W O v xs) (hf : Fr S W W') (hs : ∀ k, O k → ¬ S k) : RowIn d W' O v xs := by
  obtain ⟨A, c, e, h1, h2, h3, h4⟩ := h
  exact ⟨A, c, e, h1, h2, C_fr hK h3 hf (fun ad ha => hs _ (h4 ad ha).1), fun ad ha => ⟨(h4 ad ha).1, Nat.lt_of_lt_of_le (h4 ad ha).2 hf.size⟩⟩
theorem RowIn.mono {α : Type} {d : Kd α} {W : World} {O O' : Nat → Prop} {v : Value} {xs : List α} (h : RowIn d W O v xs) (ho : ∀ k, O k → O' k) : RowIn d W O' v xs := by
  obtain ⟨A, c, e, h1, h2, h3, h4⟩ := h
  exact ⟨A, c, e, h1, h2, h3, fun ad ha => ⟨ho _ (h4 ad ha).1, (h4 ad ha).2⟩⟩
theorem kVal_K {W W' : World} (x : Int × Int × ByteArray) (c : List Value) (h : kVal.K W x c) : kVal.K W' x c := h
theorem kInt_K {W W' : World} (x : Int) (c : List Value) (h : (Kd.int .i64).K W x c) : (Kd.int .i64).K W' x c := h
theorem CellIn.fr {W W' : World} {O S : Nat → Prop} {s : Slot} {c : Cell} (h : CellIn W O s c) (hf : Fr S W W') (hs : ∀ k, O k → ¬ S k) : CellIn W' O s c :=
  ⟨h.ow, h.a, h.b, h.r, h.v.fr kVal_K hf hs, h.k.fr kInt_K hf hs⟩
theorem CellIn.mono {W : World} {O O' : Nat → Prop} {s : Slot} {c : Cell} (h : CellIn W O s c) (ho : ∀ k, O k → O' k) : CellIn W O' s c :=
  ⟨h.ow, h.a, h.b, h.r, h.v.mono ho, h.k.mono ho⟩
/-- An arena: its cells, the numbers that are free, how many are live, how many there may be; O: all blocks that it stands on; V: those of lists, that are never written. -/
structure Ar (tA tS tI : TypeId) (W : World) (O : Nat → Prop) (base a : Nat) (cl : List Cell) (fr : List Int) (live most : Int) : Prop where
  raw : ∃ (gs cs : Nat) (vf : Value) (sl : List Slot) (V : Nat → Prop), Raw tA tS tI W base a gs cs vf sl fr live most ∧ O a ∧ O gs ∧ (∀ k, vf.ownBlock = some k → O k) ∧ (∀ k, V k → O k) ∧ ¬ V a ∧ ¬ V gs ∧ (∀ k, vf.ownBlock = some k → ¬ V k) ∧ sl.length = cl.length ∧ ∀ (i : Nat) (s : Slot) (c : Cell), sl[i]? = some s → cl[i]? = some c → CellIn W V s c
/-- What others do is nothing to it. -/
theorem Ar.fr {tA tS tI : TypeId} {W W' : World} {O S : Nat → Prop} {base a : Nat} {cl : List Cell} {fr : List Int} {live most : Int} (h : Ar tA tS tI W O base a cl fr live most) (hf : Fr S W W') (hs : ∀ k, O k → ¬ S k) : Ar tA tS tI W' O base a cl fr live most := by
  obtain ⟨gs, cs, vf, sl, V, h1, h2, h3, h4, h5, h6, h7, h8, h9, h10⟩ := h
  exact ⟨gs, cs, vf, sl, V, h1.kept hf (hs _ h2) (hs _ h3) (fun k hk => hs _ (h4 k hk)), h2, h3, h4, h5, h6, h7, h8, h9, fun i s c hi hc => (h10 i s c hi hc).fr hf (fun k hk => hs _ (h5 k hk))⟩
section
variable {tA tS tI : TypeId}
/-- A block's own row, where another one turns. -/
theorem own_fr {W W' : World} {S : Nat → Prop} {base sz n : Nat} {e : TypeId} {v : Value} {xs : List Value} (ho : W.ownsRow base e sz v n xs) (hf : Fr S W W') (hk : ∀ k, v.ownBlock = some k → ¬ S k) : W'.ownsRow base e sz v n xs := by
  obtain ⟨h1, h2⟩ := ho
  refine ⟨h1, ?_⟩
  rcases h2 with h2 | ⟨g, cap, cur, rfl, hg, hh, h3⟩
  · exact .inl h2
  · exact .inr ⟨g, cap, cur, rfl, hg, hf.blk hh (hk g rfl), h3⟩
/-- How many are live is told anew. -/
theorem Raw.live {W : World} {base a gs cs : Nat} {vf : Value} {sl : List Slot} {fr : List Int} {live most : Int} (h : Raw tA tS tI W base a gs cs vf sl fr live most) (l' : Int) : Raw tA tS tI (W.setCell ⟨a, 2, none⟩ (.int .i64 l')) base a gs cs vf sl fr l' most := by
  have hf : Fr (· = a) W (W.setCell ⟨a, 2, none⟩ (.int .i64 l')) := Fr.set a 2 _
  exact ⟨(blk_set h.obj 2 _).trans rfl, own_fr h.row hf (fun k hk e => by cases hk; exact h.ga e), own_fr h.free hf (fun k hk e => (h.fa k hk).1 e), h.ga, h.fa, h.ba, h.bs⟩
/-- Another list of free numbers: in its old block, or in a new one. -/
theorem Raw.frees {W W1 : World} {base a gs cs : Nat} {vf vf' : Value} {sl : List Slot} {fr fr' : List Int} {live most : Int} (h : Raw tA tS tI W base a gs cs vf sl fr live most)
    (hf : Fr (fun k => vf.ownBlock = some k) W W1) (ho : W1.ownsRow base tI 1 vf' fr'.length (nums .i64 fr')) (hv : ∀ k, vf'.ownBlock = some k → vf.ownBlock = some k ∨ W.heap.size ≤ k) :
    Raw tA tS tI (W1.setCell ⟨a, 1, none⟩ vf') base a gs cs vf' sl fr' live most := by
  have ha : a < W.heap.size := blk_lt h.obj
  have hg : gs < W.heap.size := by
    obtain ⟨_, h2⟩ := h.row
    rcases h2 with ⟨e, _⟩ | ⟨g, cap, cur, e, _, hh, _⟩
    · cases e
    · cases e; exact blk_lt hh
  have hna : ∀ k, vf'.ownBlock = some k → k ≠ a ∧ k ≠ gs := by
    intro k hk
    rcases hv k hk with h1 | h1
    · exact h.fa k h1
    · exact ⟨by omega, by omega⟩
  have h1 : W1.heap[a]? = _ := hf.blk h.obj (fun e => (h.fa a e).1 rfl)
  have hs : Fr (· = a) W1 (W1.setCell ⟨a, 1, none⟩ vf') := Fr.set a 1 _
  exact ⟨(blk_set h1 1 _).trans rfl, own_fr (own_fr h.row hf (fun k hk e => by cases hk; exact (h.fa _ e).2 rfl)) hs (fun k hk e => by cases hk; exact h.ga e), own_fr ho hs (fun k hk e => (hna k hk).1 e), h.ga, hna, h.ba, h.bs⟩
/-- One more slot, nobody's: in the old block, or in a new one. -/
theorem Raw.grow {W W1 : World} {base a gs cs gs' cs' : Nat} {vf : Value} {sl : List Slot} {fr : List Int} {live most : Int} (h : Raw tA tS tI W base a gs cs vf sl fr live most)
    (hf : Fr (fun k => k = gs) W W1) (ho : W1.ownsRow base tS 6 (.slice (some ⟨gs', 0, none⟩) (sl.length + 1) cs') (sl.length + 1) (flat (sl ++ [nob]))) (hv : gs' = gs ∨ W.heap.size ≤ gs') :
    Raw tA tS tI (W1.setCell ⟨a, 0, none⟩ (.slice (some ⟨gs', 0, none⟩) (sl.length + 1) cs')) base a gs' cs' vf (sl ++ [nob]) fr live most := by
  have ha : a < W.heap.size := blk_lt h.obj
  have hl : (sl ++ [nob]).length = sl.length + 1 := by rw [List.length_append]; rfl
  have hvb : ∀ k, vf.ownBlock = some k → k < W.heap.size := by
    intro k hk
    obtain ⟨_, h2⟩ := h.free
    rcases h2 with ⟨e, _⟩ | ⟨g, cap, cur, e, _, hh, _⟩
    · rw [e] at hk; cases hk
    · rw [e] at hk; cases hk; exact blk_lt hh
  have hga : gs' ≠ a := by
    rcases hv with e | e
    · rw [e]; exact h.ga
    · omega
  have hgb : base ≤ gs' := by
    obtain ⟨_, h2⟩ := ho
    rcases h2 with ⟨e, _⟩ | ⟨g, cap, cur, e, hb, _⟩
    · cases e
    · cases e; exact hb
  have h1 : W1.heap[a]? = _ := hf.blk h.obj (fun e => h.ga e.symm)
  have hs : Fr (· = a) W1 (W1.setCell ⟨a, 0, none⟩ (.slice (some ⟨gs', 0, none⟩) (sl.length + 1) cs')) := Fr.set a 0 _
  refine ⟨by rw [hl]; exact (blk_set h1 0 _).trans rfl, by rw [hl]; exact own_fr ho hs (fun k hk e => by cases hk; exact hga e), own_fr (own_fr h.free hf (fun k hk e => (h.fa k hk).2 e)) hs (fun k hk e => (h.fa k hk).1 e), hga, fun k hk => ⟨(h.fa k hk).1, ?_⟩, h.ba, hgb⟩
  rcases hv with e | e
  · rw [e]; exact (h.fa k hk).2
  · have := hvb k hk; omega
/-- A whole slot is laid anew. -/
theorem Raw.lay {W : World} {base a gs cs : Nat} {vf : Value} {sl : List Slot} {fr : List Int} {live most : Int} (h : Raw tA tS tI W base a gs cs vf sl fr live most) (i : Nat) (s s' : Slot) (hs : sl[i]? = some s) :
    Raw tA tS tI ((((((W.setCell ⟨gs, i * 6 + 0, none⟩ (.int .u32 s'.ow)).setCell ⟨gs, i * 6 + 1, none⟩ (.int .u32 s'.a)).setCell ⟨gs, i * 6 + 2, none⟩ (.int .u32 s'.b)).setCell ⟨gs, i * 6 + 3, none⟩ s'.v).setCell ⟨gs, i * 6 + 4, none⟩ s'.k).setCell ⟨gs, i * 6 + 5, none⟩ (.int .i64 s'.r)) base a gs cs vf (sl.set i s') fr live most := by
  have hi : i < sl.length := (List.getElem?_eq_some_iff.1 hs).1
  have at_ : ∀ (l : List Slot) (x : Slot), l.length = sl.length → (l.set i x)[i]? = some x := fun l x hl => by rw [List.getElem?_set_self (by omega)]
  have h0 := h.put i 0 (.int .u32 s'.ow) s ⟨s'.ow, s.a, s.b, s.v, s.k, s.r⟩ hs (by decide) rfl
  have h1 := h0.put i 1 (.int .u32 s'.a) _ ⟨s'.ow, s'.a, s.b, s.v, s.k, s.r⟩ (at_ _ _ rfl) (by decide) rfl
  have h2 := h1.put i 2 (.int .u32 s'.b) _ ⟨s'.ow, s'.a, s'.b, s.v, s.k, s.r⟩ (at_ _ _ (by simp)) (by decide) rfl
  have h3 := h2.put i 3 s'.v _ ⟨s'.ow, s'.a, s'.b, s'.v, s.k, s.r⟩ (at_ _ _ (by simp)) (by decide) rfl
  have h4 := h3.put i 4 s'.k _ ⟨s'.ow, s'.a, s'.b, s'.v, s'.k, s.r⟩ (at_ _ _ (by simp)) (by decide) rfl
  have h5 := h4.put i 5 (.int .i64 s'.r) _ s' (at_ _ _ (by simp)) (by decide) rfl
  simpa only [List.set_set] using h5
end
end Go.Proofs.Ytnipbfhfaefieaa.Arn
/-! arena: who holds whom, in plain words. -/
namespace Go.Proofs.Ytnipbfhfaefieaa.ArnP
/-- Cells: how often each is held, and whom each holds. -/
structure G where
  refs : Nat → Nat
  kids : Nat → List Nat
/-- A sum over the first ones. -/
def sm (f : Nat → Nat) : Nat → Nat
  | 0 => 0
  | n + 1 => sm f n + f n
theorem sm_congr {f h : Nat → Nat} : ∀ n, (∀ y, y < n → f y = h y) → sm f n = sm h n
  | 0, _ => rfl
  | n + 1, e => by simp only [sm]; rw [sm_congr n (fun y hy => e y (by omega)), e n (by omega)]
theorem sm_le {f : Nat → Nat} : ∀ n y, y < n → f y ≤ sm f n
  | 0, _, h => by omega
  | n + 1, y, h => by
    simp only [sm]
    by_cases e : y = n
    · subst e; omega
    · have := sm_le (f := f) n y (by omega); omega
/-- One term is another: the sum turns as it does. -/
theorem sm_upd {f h : Nat → Nat} (k : Nat) : ∀ n, k < n → (∀ y, y < n → y ≠ k → f y = h y) → sm f n + h k = sm h n + f k
  | 0, hk, _ => by omega
  | n + 1, hk, e => by
    simp only [sm]
    by_cases c : k = n
    · subst c
      rw [sm_congr k (fun y hy => e y (by omega) (by omega))]; omega
    · have ih := sm_upd k n (by omega) (fun y hy hn => e y (by omega) hn)
      have := e n (by omega) (fun h => c h.symm)
      omega
/-- How often live cells hold one. -/
def held (g : G) (n x : Nat) : Nat := sm (fun y => if 0 < g.refs y then (g.kids y).count x else 0) n
/-- Every hold is somebody's: the callers' (ext), the list's that is worked off, the live cells'. -/
def Acc (n : Nat) (g : G) (ext : Nat → Nat) (todo : List Nat) : Prop := ∀ x, x < n → 0 < x → g.refs x = ext x + todo.count x + held g n x
def setR (g : G) (k r : Nat) : G := ⟨fun x => if x = k then r else g.refs x, g.kids⟩
theorem held_set {g : G} {n k r : Nat} (x : Nat) (hk : k < n) : held (setR g k r) n x + (if 0 < g.refs k then (g.kids k).count x else 0) = held g n x + (if 0 < r then (g.kids k).count x else 0) := by
  have h := sm_upd (f := fun y => if 0 < (setR g k r).refs y then (g.kids y).count x else 0) (h := fun y => if 0 < g.refs y then (g.kids y).count x else 0) k n hk (fun y _ hn => by simp [setR, hn])
  simp only [setR, if_true] at h
  exact h
/-- One that is on the list is held at all. -/
theorem Acc.pos {n : Nat} {g : G} {ext : Nat → Nat} {k : Nat} {todo : List Nat} (h : Acc n g ext (k :: todo)) (hk : k < n) (h0 : 0 < k) : 0 < g.refs k := by
  have := h k hk h0
  rw [List.count_cons_self] at this
  omega
/-- One hold less; others are left. -/
theorem Acc.less {n : Nat} {g : G} {ext : Nat → Nat} {k : Nat} {todo : List Nat} (h : Acc n g ext (k :: todo)) (hk : k < n) (h0 : 0 < k) (hr : 1 < g.refs k) : Acc n (setR g k (g.refs k - 1)) ext todo := by
  intro x hx hx0
  have h1 := h x hx hx0
  have h2 := held_set (g := g) (r := g.refs k - 1) x hk
  rw [if_pos (show 0 < g.refs k by omega), if_pos (show 0 < g.refs k - 1 by omega)] at h2
  have h3 : (setR g k (g.refs k - 1)).refs x = if x = k then g.refs k - 1 else g.refs x := rfl
  by_cases e : x = k
  · subst e
    rw [h3, if_pos rfl]
    rw [List.count_cons_self] at h1
    omega
  · rw [h3, if_neg e]
    rw [List.count_cons_of_ne (fun h => e h.symm)] at h1
    omega
/-- The last hold goes: its own holds come onto the list. -/
theorem Acc.last {n : Nat} {g : G} {ext : Nat → Nat} {k : Nat} {todo : List Nat} (h : Acc n g ext (k :: todo)) (hk : k < n) (h0 : 0 < k) (hr : g.refs k = 1) : Acc n (setR g k 0) ext (todo ++ g.kids k) := by
  intro x hx hx0
  have h1 := h x hx hx0
  have h2 := held_set (g := g) (r := 0) x hk
  rw [if_pos (show 0 < g.refs k by omega), if_neg (Nat.lt_irrefl 0)] at h2
  have h3 : (setR g k 0).refs x = if x = k then 0 else g.refs x := rfl
  rw [List.count_append]
  by_cases e : x = k
  · subst e
    rw [h3, if_pos rfl]
    rw [List.count_cons_self] at h1
    omega
  · rw [h3, if_neg e]
    rw [List.count_cons_of_ne (fun h => e h.symm)] at h1
    omega
/-- Two that hold the same, by the same callers, are one: who holds lies behind whom he holds (rank). -/
theorem acc_unique {n : Nat} {g g' : G} {ext : Nat → Nat} (rank : Nat → Nat) (h : Acc n g ext []) (h' : Acc n g' ext []) (z : g.refs 0 = 0) (z' : g'.refs 0 = 0)
    (hk : ∀ y, y < n → g.kids y = g'.kids y) (hr : ∀ y x, y < n → x ∈ g.kids y → (0 < g.refs y ∨ 0 < g'.refs y) → rank x < rank y) (B : Nat) (hB : ∀ y, y < n → rank y < B) :
    ∀ x, x < n → 0 < x → g.refs x = g'.refs x := by
  have key : ∀ d x, x < n → 0 < x → B ≤ rank x + d → g.refs x = g'.refs x := by
    intro d
    induction d with
    | zero => intro x hx _ hd; have := hB x hx; omega
    | succ d ih =>
      intro x hx hx0 hd
      rw [h x hx hx0, h' x hx hx0]
      congr 1
      refine sm_congr n (fun y hy => ?_)
      by_cases hm : x ∈ g.kids y
      · by_cases c : 0 < g.refs y ∨ 0 < g'.refs y
        · have hlt := hr y x hy hm c
          by_cases y0 : 0 < y
          · have := ih y hy y0 (by omega)
            rw [this, hk y hy]
          · obtain rfl : y = 0 := by omega
            omega
        · rw [if_neg (fun h => c (.inl h)), if_neg (fun h => c (.inr h))]
      · have h1 : (g.kids y).count x = 0 := List.count_eq_zero.2 hm
        have h2 : (g'.kids y).count x = 0 := by rw [← hk y hy]; exact h1
        simp only [h1, h2, ite_self]
  intro x hx hx0
  exact key B x hx hx0 (by omega)
/-- One more place, that nobody holds. -/
theorem Acc.grow {n : Nat} {g : G} {ext : Nat → Nat} (h : Acc n g ext []) (hd : g.refs n = 0) (he : ext n = 0) (hk : ∀ y, y < n → 0 < g.refs y → n ∉ g.kids y) : Acc (n + 1) g ext [] := by
  intro x hx hx0
  have hh : held g (n + 1) x = held g n x := by
    unfold held
    simp only [sm]
    rw [hd, if_neg (Nat.lt_irrefl 0)]
    omega
  rw [hh]
  by_cases c : x = n
  · subst c
    rw [hd, he]
    have : held g x x = 0 := by
      unfold held
      have : ∀ m, m ≤ x → sm (fun y => if 0 < g.refs y then (g.kids y).count x else 0) m = 0 := by
        intro m
        induction m with
        | zero => intro _; rfl
        | succ m ih =>
          intro hm
          simp only [sm]
          rw [ih (by omega)]
          by_cases p : 0 < g.refs m
          · rw [if_pos p, List.count_eq_zero.2 (hk m (by omega) p)]
          · rw [if_neg p]
      exact this x (Nat.le_refl x)
    rw [this]
    rfl
  · exact h x (by omega) hx0
def setC (g : G) (k r : Nat) (l : List Nat) : G := ⟨fun x => if x = k then r else g.refs x, fun x => if x = k then l else g.kids x⟩
theorem held_setC {g : G} {n k r : Nat} {l : List Nat} (x : Nat) (hk : k < n) : held (setC g k r l) n x + (if 0 < g.refs k then (g.kids k).count x else 0) = held g n x + (if 0 < r then l.count x else 0) := by
  have h := sm_upd (f := fun y => if 0 < (setC g k r l).refs y then ((setC g k r l).kids y).count x else 0) (h := fun y => if 0 < g.refs y then (g.kids y).count x else 0) k n hk (fun y _ hn => by simp [setC, hn])
  simp only [setC, if_true] at h
  exact h
/-- A cell is made: it takes the callers' holds on its others over, and the caller holds it. -/
theorem Acc.make {n : Nat} {g : G} {ext : Nat → Nat} (h : Acc n g ext []) (i : Nat) (hi : i < n) (i0 : 0 < i) (hd : g.refs i = 0) (l : List Nat) (hl : ∀ x, 0 < x → l.count x ≤ ext x) :
    Acc n (setC g i 1 l) (fun x => if x = i then 1 else ext x - l.count x) [] := by
  intro x hx hx0
  have h1 := h x hx hx0
  have h2 := held_setC (g := g) (r := 1) (l := l) x hi
  rw [hd, if_neg (Nat.lt_irrefl 0), if_pos Nat.zero_lt_one] at h2
  have h3 : (setC g i 1 l).refs x = if x = i then 1 else g.refs x := rfl
  have hlx := hl x hx0
  rw [h3]
  by_cases e : x = i
  · subst e
    rw [if_pos rfl]
    dsimp only
    rw [if_pos rfl]
    simp only [List.count_nil] at h1 ⊢
    omega
  · rw [if_neg e]
    dsimp only
    rw [if_neg e]
    simp only [List.count_nil] at h1 ⊢
    omega
/-- One hold more, by the caller. -/
theorem Acc.keep {n : Nat} {g : G} {ext : Nat → Nat} (h : Acc n g ext []) (i : Nat) (hi : i < n) (hp : 0 < g.refs i) : Acc n (setR g i (g.refs i + 1)) (fun x => if x = i then ext x + 1 else ext x) [] := by
  intro x hx hx0
  have h1 := h x hx hx0
  have h2 := held_set (g := g) (r := g.refs i + 1) x hi
  rw [if_pos hp, if_pos (Nat.succ_pos _)] at h2
  have h3 : (setR g i (g.refs i + 1)).refs x = if x = i then g.refs i + 1 else g.refs x := rfl
  rw [h3]
  by_cases e : x = i
  · subst e
    rw [if_pos rfl]
    dsimp only
    rw [if_pos rfl]
    simp only [List.count_nil] at h1 ⊢
    omega
  · rw [if_neg e]
    dsimp only
    rw [if_neg e]
    simp only [List.count_nil] at h1 ⊢
    omega
/-- A caller's hold comes onto the list. -/
theorem Acc.drop {n : Nat} {g : G} {ext : Nat → Nat} (h : Acc n g ext []) (i : Nat) (he : 0 < ext i) : Acc n g (fun x => if x = i then ext x - 1 else ext x) [i] := by
  intro x hx hx0
  have h1 := h x hx hx0
  dsimp only
  by_cases e : x = i
  · subst e
    rw [if_pos rfl, List.count_cons_self]
    simp only [List.count_nil] at h1 ⊢
    omega
  · rw [if_neg e, List.count_cons_of_ne (fun h => e h.symm)]
    simp only [List.count_nil] at h1 ⊢
    omega
/-- A live cell becomes another one: the holds on its others change as they do. -/
theorem Acc.edit {n : Nat} {g : G} {ext : Nat → Nat} (h : Acc n g ext []) (i : Nat) (hi : i < n) (hp : 0 < g.refs i) (l : List Nat) (hl : ∀ x, 0 < x → l.count x ≤ ext x + (g.kids i).count x) :
    Acc n (setC g i (g.refs i) l) (fun x => ext x + (g.kids i).count x - l.count x) [] := by
  intro x hx hx0
  have h1 := h x hx hx0
  have h2 := held_setC (g := g) (r := g.refs i) (l := l) x hi
  rw [if_pos hp, if_pos hp] at h2
  have h3 : (setC g i (g.refs i) l).refs x = g.refs x := by
    show (if x = i then g.refs i else g.refs x) = _
    split
    · rename_i e; rw [e]
    · rfl
  have hlx := hl x hx0
  rw [h3]
  dsimp only
  simp only [List.count_nil] at h1 ⊢
  omega
end Go.Proofs.Ytnipbfhfaefieaa.ArnP
/-! arena: a list of cells, and who holds whom in it. -/
namespace Go.Proofs.Ytnipbfhfaefieaa.Arn
open Go.RowKit Go Go.Proofs.Ytnipbfhfaefieaa.ArnP
/-- Nobody's cell. -/
def nobC : Cell := {}
/-- The others that a cell holds. -/
def kidsOf (l : List Int) : List Nat := (l.filter fun y => decide (y ≠ 0)).map Int.toNat
def gOf (cl : List Cell) : G := ⟨fun x => (cl.getD x nobC).r.toNat, fun x => kidsOf (cl.getD x nobC).kids⟩
theorem getD_at {cl : List Cell} {i : Nat} {c : Cell} (h : cl[i]? = some c) : cl.getD i nobC = c := by simp [List.getD, h]
theorem getD_set {cl : List Cell} {i : Nat} (c : Cell) (hi : i < cl.length) (x : Nat) : (cl.set i c).getD x nobC = if x = i then c else cl.getD x nobC := by
  unfold List.getD
  by_cases e : x = i
  · subst e; rw [List.getElem?_set_self hi, if_pos rfl]; rfl
  · rw [List.getElem?_set_ne (fun h => e h.symm), if_neg e]
theorem gOf_r {cl : List Cell} {i : Nat} {c : Cell} (h : cl[i]? = some c) (r : Int) : gOf (cl.set i {c with r := r}) = setR (gOf cl) i r.toNat := by
  have hi : i < cl.length := (List.getElem?_eq_some_iff.1 h).1
  unfold gOf setR
  congr 1
  · funext x
    rw [getD_set _ hi]
    split <;> rfl
  · funext x
    rw [getD_set _ hi]
    split
    · rename_i e
      subst e
      show kidsOf c.kids = kidsOf (cl.getD x nobC).kids
      rw [getD_at h]
    · rfl
theorem gOf_c {cl : List Cell} {i : Nat} (hi : i < cl.length) (c : Cell) : gOf (cl.set i c) = setC (gOf cl) i c.r.toNat (kidsOf c.kids) := by
  unfold gOf setC
  congr 1
  · funext x; rw [getD_set _ hi]; split <;> rfl
  · funext x; rw [getD_set _ hi]; split <;> rfl
/-- Who is dead holds nobody: his others may be anything. -/
theorem held_congr {g g' : G} {n : Nat} (hr : ∀ y, y < n → g.refs y = g'.refs y) (hk : ∀ y, y < n → 0 < g.refs y → g.kids y = g'.kids y) (x : Nat) : held g n x = held g' n x :=
  sm_congr n (fun y hy => by
    rw [hr y hy]
    by_cases p : 0 < g'.refs y
    · rw [if_pos p, if_pos p, hk y hy (by rw [hr y hy]; exact p)]
    · rw [if_neg p, if_neg p])
theorem Acc_congr {g g' : G} {n : Nat} {ext : Nat → Nat} {todo : List Nat} (h : Acc n g ext todo) (hr : ∀ y, y < n → g.refs y = g'.refs y) (hk : ∀ y, y < n → 0 < g.refs y → g.kids y = g'.kids y) : Acc n g' ext todo := by
  intro x hx hx0
  rw [← hr x hx, h x hx hx0, held_congr hr hk x]
/-- A cell that nobody holds any more becomes nobody's. -/
theorem Acc_kill {cl : List Cell} {i : Nat} {c : Cell} {ext : Nat → Nat} {todo : List Nat} (h : Acc cl.length (gOf (cl.set i {c with r := 0})) ext todo) (hi : cl[i]? = some c) : Acc cl.length (gOf (cl.set i nobC)) ext todo := by
  have hl : i < cl.length := (List.getElem?_eq_some_iff.1 hi).1
  refine Acc_congr h (fun y _ => ?_) (fun y _ hp => ?_)
  · show ((cl.set i _).getD y nobC).r.toNat = ((cl.set i _).getD y nobC).r.toNat
    rw [getD_set _ hl, getD_set _ hl]
    split <;> rfl
  · have hp : 0 < ((cl.set i {c with r := 0}).getD y nobC).r.toNat := hp
    rw [getD_set _ hl] at hp
    show kidsOf ((cl.set i _).getD y nobC).kids = kidsOf ((cl.set i _).getD y nobC).kids
    rw [getD_set _ hl, getD_set _ hl]
    split
    · rename_i e; rw [if_pos e] at hp; exact absurd hp (by simp)
    · rfl
/-- How many are live. -/
def liveN (cl : List Cell) : Nat := cl.countP fun c => decide (0 < c.r)
theorem liveN_set {cl : List Cell} {i : Nat} {c : Cell} (h : cl[i]? = some c) (c' : Cell) : liveN (cl.set i c') + (if 0 < c.r then 1 else 0) = liveN cl + (if 0 < c'.r then 1 else 0) := by
  induction cl generalizing i with
  | nil => simp at h
  | cons x l ih =>
    unfold liveN at ih ⊢
    cases i with
    | zero =>
      obtain rfl : x = c := by simpa using h
      rw [List.set_cons_zero, List.countP_cons, List.countP_cons]
      simp only [decide_eq_true_eq]
      omega
    | succ i =>
      have h' : l[i]? = some c := by simpa using h
      have := ih h'
      rw [List.set_cons_succ, List.countP_cons, List.countP_cons]
      omega
end Go.Proofs.Ytnipbfhfaefieaa.Arn
