/- Texts of this claim, laid together: Bytes, Frame, ArnM, ArnP, ArnG, ArnW, ArnA, ArnB, CloneI, CloneV, ArnC, ArnD, ArnE, ArnF, ArnH, ArnI, ArnJ, ArnK, ArnR. -/
import Derived.Test.YtnipbfhfaefieaaWWords
import Derived.Test.YtnipbfhfaefieaaWLast
import Derived.Test.YtnipbfhfaefieaaWMore
import Derived.Test.YtnipbfhfaefieaaWKept
import Derived.DataElems
import Derived.Laws.OwnMore
import Derived.WalkSmall
import Derived.Test.YtnipbfhfaefieaaProg
import Derived.WalkKit
import Derived.WalkSpells
import Derived.OwnWalk
import Derived.KernelRfl
import Derived.BigQuiet
import Derived.Lib.Hide
import Derived.Lib.SliceRun
import Derived.Laws.LoneSync
import Derived.Deep.LoopGhost
/-! Rows that are read: what a slice's value leads to, kept while nobody writes its block. No program is named here. -/
namespace Go.Proofs.Ytnipbfhfaefieaa.Bts
open Go.RowKit Go Go.Proofs.YtnipbfhfaefieaaW.PrintWords

/-- The slice v holds n elements, of size sz, whose cells are cs. -/
def SlR (w : World) (sz : Nat) (v : Value) (n : Nat) (cs : List Value) : Prop :=
  cs.length = n * sz ∧ ∃ A c, v = .slice A n c ∧ n ≤ c ∧ (A = none → c = 0) ∧ ∀ ad, A = some ad → ∀ j u, cs[j]? = some u → w.cell? (ad.add j) = some u
abbrev Byt (w : World) (v : Value) (xs : List Int) : Prop := SlR w 1 v xs.length (nums .u8 xs)

section
variable {w w' : World} {sz n : Nat} {v : Value} {cs : List Value} {S : Nat → Prop}
theorem SlR.nil (w : World) (sz : Nat) : SlR w sz (.slice none 0 0) 0 [] := ⟨by simp, none, 0, rfl, Nat.le_refl _, fun _ => rfl, fun ad h => by cases h⟩
theorem SlR.kept (h : SlR w sz v n cs) (hk : Kept w w' S) (hS : ∀ k, v.ownBlock = some k → ¬ S k) : SlR w' sz v n cs := by
  obtain ⟨h1, A, c, rfl, h2, h3, h4⟩ := h
  refine ⟨h1, A, c, rfl, h2, h3, fun ad hA j u hj => ?_⟩
  have hb : (ad.add j).block = ad.block := by unfold Addr.add; split <;> rfl
  exact cell_kept (h4 ad hA j u hj) hk (by rw [hb]; exact hS ad.block (by rw [hA]; rfl))
theorem SlR.below (h : SlR w sz v n cs) (hb : Below w.heap.size w w') : SlR w' sz v n cs := h.kept (Kept.of_below hb (fun _ => False)) (fun _ _ h => h)
theorem SlR.of_own {base : Nat} {e : TypeId} (h : w.ownsRow base e sz v n cs) : SlR w sz v n cs := by
  obtain ⟨h1, h2⟩ := h
  rcases h2 with ⟨rfl, rfl⟩ | ⟨g, cap, cur, rfl, hg, hh, hn, hm, hc, ht⟩
  · have : cs = [] := by cases cs with
      | nil => rfl
      | cons => simp at h1
    subst this
    exact SlR.nil _ _
  · refine ⟨h1, some ⟨g, 0, none⟩, cap, rfl, hn, fun h => (by cases h), fun ad hA j u hj => ?_⟩
    cases hA
    have hlt : j < cs.length := (List.getElem?_eq_some_iff.1 hj).1
    rw [add_plain, blk_cell hh]
    rw [← ht, List.getElem?_take] at hj
    split at hj
    · simpa using hj
    · cases hj
theorem SlR.of_C {A : Option Addr} {c : Nat} {k : IntKind} {xs : List Int} (h : (Kd.int k).C w A xs.length xs) (hl : xs.length ≤ c) (hn : A = none → c = 0) : SlR w 1 (.slice A xs.length c) xs.length (nums k xs) := by
  refine ⟨by rw [nums_length]; simp, A, c, rfl, hl, hn, fun ad hA j u hj => ?_⟩
  have hlt : j < xs.length := by have := (List.getElem?_eq_some_iff.1 hj).1; rw [nums_length] at this; exact this
  obtain ⟨ad', e, hx⟩ := Kd.at_int h (j : Int) (by omega) (by omega)
  rw [hA] at e
  cases e
  rw [Int.toNat_natCast] at hx
  rw [hx]
  have : (nums k xs)[j]? = some (.int k (rd xs (j : Int))) := by simp [nums, rd, List.getD, hlt]
  rw [this] at hj
  exact hj
theorem SlR.C {k : IntKind} {xs : List Int} (h : SlR w 1 v xs.length (nums k xs)) (hm : xs.length ≤ 9223372036854775807) : ∃ A c, v = .slice A xs.length c ∧ xs.length ≤ c ∧ (A = none → c = 0) ∧ (Kd.int k).C w A xs.length xs := by
  obtain ⟨_, A, c, rfl, h2, h3, h4⟩ := h
  refine ⟨A, c, rfl, h2, h3, rfl, hm, fun hn => ?_⟩
  cases A with
  | none => have := h3 rfl; omega
  | some ad =>
    refine ⟨ad, rfl, fun j p hj => ⟨[.int k p], rfl, rfl, fun i u hi => ?_⟩⟩
    have hi0 : i = 0 := by
      have := (List.getElem?_eq_some_iff.1 hi).1
      simpa using this
    subst hi0
    refine h4 ad rfl _ u ?_
    show (nums k xs)[j * 1 + 0]? = some u
    have hj' : (nums k xs)[j]? = some (.int k p) := by simp [nums, hj]
    rw [Nat.mul_one, Nat.add_zero, hj']
    simpa using hi
theorem SlR.at_ (h : SlR w 1 v n cs) (i : Nat) (hi : i < n) : ∃ ad c, v = .slice (some ad) n c ∧ n ≤ c ∧ ∀ u, cs[i]? = some u → w.cell? (ad.add i) = some u := by
  obtain ⟨h1, A, c, rfl, h2, h3, h4⟩ := h
  cases A with
  | none => have := h3 rfl; omega
  | some ad => exact ⟨ad, c, rfl, h2, fun u hu => h4 ad rfl i u hu⟩
theorem SlR.take_ {A : Option Addr} {c : Nat} (h : SlR w sz (.slice A n c) n cs) (m : Nat) (hm : m ≤ n) : SlR w sz (.slice A m c) m (cs.take (m * sz)) := by
  obtain ⟨h1, A', c', e, h2, h3, h4⟩ := h
  cases e
  refine ⟨by rw [List.length_take, h1]; exact Nat.min_eq_left (Nat.mul_le_mul_right _ hm), A, c, rfl, by omega, h3, fun ad hA j u hj => ?_⟩
  rw [List.getElem?_take] at hj
  split at hj
  · exact h4 ad hA j u hj
  · cases hj
theorem SlR.drop_ {A : Option Addr} {c : Nat} (h : SlR w sz (.slice A n c) n cs) (m : Nat) (hm : m ≤ n) : SlR w sz (.slice (if c = m then A else A.map (·.add (m * sz))) (n - m) (c - m)) (n - m) (cs.drop (m * sz)) := by
  obtain ⟨h1, A', c', e, h2, h3, h4⟩ := h
  cases e
  refine ⟨by rw [List.length_drop, h1, Nat.sub_mul], _, _, rfl, by omega, fun hA => ?_, fun ad hA j u hj => ?_⟩
  · split at hA
    · omega
    · cases A with
      | none => have := h3 rfl; omega
      | some ad => cases hA
  · rw [List.getElem?_drop] at hj
    split at hA
    · rename_i hcm
      have hlt := (List.getElem?_eq_some_iff.1 hj).1
      have : n = m := by omega
      rw [h1, this] at hlt
      omega
    · cases A with
      | none => cases hA
      | some a0 =>
        cases hA
        rw [Go.Addr.add_add]
        exact h4 a0 rfl _ u hj
theorem SlR.len (h : SlR w sz v n cs) : cs.length = n * sz := h.1
end
theorem nums_take (k : IntKind) (xs : List Int) (m : Nat) : nums k (xs.take m) = (nums k xs).take m := by simp [nums, List.map_take]
theorem nums_drop (k : IntKind) (xs : List Int) (m : Nat) : nums k (xs.drop m) = (nums k xs).drop m := by simp [nums, List.map_drop]
theorem nums_get (k : IntKind) (xs : List Int) (i : Nat) (h : i < xs.length) : (nums k xs)[i]? = some (.int k (xs.getD i 0)) := by simp [nums, List.getD, h]
theorem byt_take {w : World} {A : Option Addr} {c : Nat} {xs : List Int} (h : Byt w (.slice A xs.length c) xs) (m : Nat) (hm : m ≤ xs.length) : Byt w (.slice A m c) (xs.take m) := by
  have := h.take_ m hm
  rw [Nat.mul_one, ← nums_take] at this
  have hl : (xs.take m).length = m := by rw [List.length_take]; omega
  unfold Byt
  rw [hl]; exact this
theorem byt_drop {w : World} {A : Option Addr} {c : Nat} {xs : List Int} (h : Byt w (.slice A xs.length c) xs) (m : Nat) (hm : m ≤ xs.length) : Byt w (.slice (if c = m then A else A.map (·.add m)) (xs.length - m) (c - m)) (xs.drop m) := by
  have := h.drop_ m hm
  rw [Nat.mul_one, ← nums_drop] at this
  have hl : (xs.drop m).length = xs.length - m := by rw [List.length_drop]
  unfold Byt
  rw [hl]; exact this
end Go.Proofs.Ytnipbfhfaefieaa.Bts
/-! What a call may write: blocks of S, and what is new. -/
namespace Go.Proofs.Ytnipbfhfaefieaa.Fra
open Go.RowKit Go Go.Proofs.YtnipbfhfaefieaaW.PrintWords Go.Proofs.Ytnipbfhfaefieaa.Bts

structure Fr (S : Nat → Prop) (w w' : World) : Prop where
  os : w'.os = w.os
  tape : w'.tape = w.tape
  output : w'.output = w.output
  size : w.heap.size ≤ w'.heap.size
  block : ∀ k, k < w.heap.size → ¬ S k → w'.heap[k]? = w.heap[k]?
section
variable {S S' : Nat → Prop} {w w' w2 : World}
theorem Fr.refl (S : Nat → Prop) (w : World) : Fr S w w := ⟨rfl, rfl, rfl, Nat.le_refl _, fun _ _ _ => rfl⟩
theorem Fr.then_ (h : Fr S w w') (k : Fr S' w' w2) (hs : ∀ k, S' k → S k ∨ w.heap.size ≤ k) : Fr S w w2 :=
  ⟨k.os.trans h.os, k.tape.trans h.tape, k.output.trans h.output, Nat.le_trans h.size k.size, fun i hi hn => (k.block i (Nat.lt_of_lt_of_le hi h.size) (fun h2 => (hs i h2).elim hn (fun h3 => by omega))).trans (h.block i hi hn)⟩
theorem Fr.trans (h : Fr S w w') (k : Fr S w' w2) : Fr S w w2 := h.then_ k fun _ h => .inl h
theorem Fr.mono (h : Fr S w w') (hs : ∀ k, S k → S' k ∨ w.heap.size ≤ k) : Fr S' w w' := (Fr.refl S' w).then_ h hs
theorem Fr.of_below {B : Nat} (h : Below B w w') (hs : ∀ k, B ≤ k → S k ∨ w.heap.size ≤ k) : Fr S w w' :=
  ⟨h.os, h.tape, h.output, h.size, fun i hi hn => by
    by_cases hb : i < B
    · exact h.block i hb
    · exact ((hs i (by omega)).elim hn (fun h3 => by omega)).elim⟩
theorem Fr.of_new (h : Below w.heap.size w w') : Fr S w w' := Fr.of_below h fun _ h => .inr h
theorem Fr.below {B : Nat} (h : Fr S w w') (hs : ∀ k, S k → B ≤ k) (hB : B ≤ w.heap.size) : Below B w w' :=
  ⟨h.os, h.tape, h.output, h.size, fun i hi => h.block i (by omega) (fun h2 => by have := hs i h2; omega)⟩
theorem Fr.kept (h : Fr S w w') : Kept w w' S := ⟨h.size, h.block⟩
theorem Fr.setCell {p : Addr} (hp : S p.block ∨ w.heap.size ≤ p.block) (u : Value) : Fr S w (w.setCell p u) :=
  ⟨rfl, rfl, rfl, by simp [World.setCell], fun i hi hn => Below.heap_setCell w p u i (fun e => by subst e; exact hp.elim hn (fun h => by omega))⟩
theorem Fr.set (g i : Nat) (u : Value) : Fr (· = g) w (w.setCell ⟨g, i, none⟩ u) := Fr.setCell (S := (· = g)) (.inl rfl) u
theorem Fr.alloc (o : Obj) : Fr S w (w.alloc o) := Fr.of_new (below_alloc (Below.refl _ _) o)
theorem Fr.put (h : Fr S w w') {p : Addr} (hp : S p.block ∨ w.heap.size ≤ p.block) (u : Value) : Fr S w (w'.setCell p u) :=
  h.then_ (S' := fun k => k = p.block) (Fr.setCell (S := fun k => k = p.block) (.inl rfl) u) (fun k hk => by rw [hk]; exact hp)
theorem Fr.more (h : Fr S w w') (hb : Below w'.heap.size w' w2) : Fr S w w2 := h.then_ (S' := fun _ => False) (Fr.of_new hb) (fun _ hk => hk.elim)
theorem Fr.new (h : Fr S w w') (o : Obj) : Fr S w (w'.alloc o) := h.more (below_alloc (Below.refl _ _) o)
theorem ret3 {g : Nat} {t : TypeId} {a b c : Value} (h : w.heap[g]? = some (.cells #[a, b, c] t (0, 0))) (x y z : Value) :
    (((w.setCell ⟨g, 0, none⟩ x).setCell ⟨g, 1, none⟩ y).setCell ⟨g, 2, none⟩ z).heap[g]? = some (.cells #[x, y, z] t (0, 0)) :=
  blk_put (blk_put (blk_put h 0 x rfl) 1 y rfl) 2 z rfl
theorem Fr.blk {g : Nat} {o : Obj} (h : Fr S w w') (hb : w.heap[g]? = some o) (hg : ¬ S g) : w'.heap[g]? = some o := blk_kept hb h.kept hg
theorem Fr.cell {a : Addr} {v : Value} (h : Fr S w w') (hb : w.cell? a = some v) (hg : ¬ S a.block) : w'.cell? a = some v := cell_kept hb h.kept hg
theorem Fr.slr {sz n : Nat} {v : Value} {cs : List Value} (h : Fr S w w') (hb : SlR w sz v n cs) (hg : ∀ k, v.ownBlock = some k → ¬ S k) : SlR w' sz v n cs := hb.kept h.kept hg
end
end Go.Proofs.Ytnipbfhfaefieaa.Fra
/-! arena: the slots' row in memory, cell by cell. No program is named here (the types are given). -/
namespace Go.Proofs.Ytnipbfhfaefieaa.Arn
open Go.RowKit Go Go.Proofs.YtnipbfhfaefieaaW.PrintWords Go.Proofs.Ytnipbfhfaefieaa.Bts Go.Proofs.Ytnipbfhfaefieaa.Fra
/-- A slot's cells: an owner, two words, values, others' numbers, how many hold it. -/
structure Slot where
  ow : Int := 0
  a : Int := 0
  b : Int := 0
  v : Value := .slice none 0 0
  k : Value := .slice none 0 0
  r : Int := 0
/-- Nobody's. -/
def nob : Slot := {}
def Slot.cells (s : Slot) : List Value := [.int .u32 s.ow, .int .u32 s.a, .int .u32 s.b, s.v, s.k, .int .i64 s.r]
def flat (l : List Slot) : List Value := l.flatMap Slot.cells
theorem flat_nil : flat [] = [] := rfl
theorem flat_cons (s : Slot) (l : List Slot) : flat (s :: l) = s.cells ++ flat l := rfl
theorem flat_len : ∀ l : List Slot, (flat l).length = l.length * 6
  | [] => rfl
  | s :: l => by rw [flat_cons, List.length_append, flat_len l, List.length_cons]; show 6 + _ = _; omega
theorem flat_app (l m : List Slot) : flat (l ++ m) = flat l ++ flat m := by unfold flat; rw [List.flatMap_append]
theorem flat_at : ∀ (l : List Slot) (i j : Nat) (s : Slot), l[i]? = some s → j < 6 → (flat l)[i * 6 + j]? = s.cells[j]?
  | [], i, j, s, h, _ => by simp at h
  | x :: l, 0, j, s, h, hj => by
    obtain rfl : x = s := by simpa using h
    rw [flat_cons, List.getElem?_append_left (by show 0 * 6 + j < 6; omega)]
    rw [show 0 * 6 + j = j by omega]
  | x :: l, i + 1, j, s, h, hj => by
    have h' : l[i]? = some s := by simpa using h
    rw [flat_cons, List.getElem?_append_right (by show 6 ≤ _; omega)]
    rw [show (i + 1) * 6 + j - x.cells.length = i * 6 + j by show (i + 1) * 6 + j - 6 = _; omega]
    exact flat_at l i j s h' hj
theorem flat_set : ∀ (l : List Slot) (i j : Nat) (u : Value) (s s' : Slot), l[i]? = some s → j < 6 → s'.cells = s.cells.set j u → (flat l).set (i * 6 + j) u = flat (l.set i s')
  | [], i, j, u, s, s', h, _, _ => by simp at h
  | x :: l, 0, j, u, s, s', h, hj, e => by
    obtain rfl : x = s := by simpa using h
    rw [flat_cons, List.set_cons_zero, flat_cons, e, show 0 * 6 + j = j by omega, List.set_append_left _ _ (by show j < 6; omega)]
  | x :: l, i + 1, j, u, s, s', h, hj, e => by
    have h' : l[i]? = some s := by simpa using h
    rw [flat_cons, List.set_cons_succ, flat_cons, List.set_append_right _ _ (by show 6 ≤ _; omega)]
    rw [show (i + 1) * 6 + j - x.cells.length = i * 6 + j by show (i + 1) * 6 + j - 6 = _; omega]
    rw [flat_set l i j u s s' h' hj e]
section
variable {tA tS tI : TypeId}
/-- An arena in memory: its slots, the numbers that are free, how many are live, how many there may be. -/
structure Raw (tA tS tI : TypeId) (W : World) (base a gs cs : Nat) (vf : Value) (sl : List Slot) (fr : List Int) (live most : Int) : Prop where
  obj : W.heap[a]? = some (.cells #[.slice (some ⟨gs, 0, none⟩) sl.length cs, vf, .int .i64 live, .int .i64 most] tA (0, 0))
  row : W.ownsRow base tS 6 (.slice (some ⟨gs, 0, none⟩) sl.length cs) sl.length (flat sl)
  free : W.ownsRow base tI 1 vf fr.length (nums .i64 fr)
  ga : gs ≠ a
  fa : ∀ k, vf.ownBlock = some k → k ≠ a ∧ k ≠ gs
  ba : base ≤ a
  bs : base ≤ gs
theorem Raw.cell {W : World} {base a gs cs : Nat} {vf : Value} {sl : List Slot} {fr : List Int} {live most : Int} (h : Raw tA tS tI W base a gs cs vf sl fr live most) (i : Nat) (s : Slot) (hs : sl[i]? = some s) (j : Nat) (hj : j < 6) : W.cell? ⟨gs, i * 6 + j, none⟩ = s.cells[j]? := by
  have hi : i < sl.length := (List.getElem?_eq_some_iff.1 hs).1
  rw [h.row.cellAt (i * 6 + j) (by omega)]
  exact flat_at sl i j s hs hj
theorem Raw.frozen {W : World} {base a gs cs : Nat} {vf : Value} {sl : List Slot} {fr : List Int} {live most : Int} (h : Raw tA tS tI W base a gs cs vf sl fr live most) (j : Nat) : W.frozen? ⟨gs, j, none⟩ = false := h.row.frozenAt j
/-- Another block turns. -/
theorem Raw.kept {W W' : World} {base a gs cs : Nat} {vf : Value} {sl : List Slot} {fr : List Int} {live most : Int} {S : Nat → Prop} (h : Raw tA tS tI W base a gs cs vf sl fr live most) (hf : Fr S W W') (ha : ¬ S a) (hs : ¬ S gs) (hv : ∀ k, vf.ownBlock = some k → ¬ S k) : Raw tA tS tI W' base a gs cs vf sl fr live most := by
  have own : ∀ {e : TypeId} {sz n : Nat} {v : Value} {xs : List Value}, W.ownsRow base e sz v n xs → (∀ k, v.ownBlock = some k → ¬ S k) → W'.ownsRow base e sz v n xs := by
    intro e sz n v xs ho hk
    obtain ⟨h1, h2⟩ := ho
    refine ⟨h1, ?_⟩
    rcases h2 with h2 | ⟨g, cap, cur, rfl, hg, hh, h3⟩
    · exact .inl h2
    · exact .inr ⟨g, cap, cur, rfl, hg, hf.blk hh (hk g rfl), h3⟩
  exact ⟨hf.blk h.obj ha, own h.row (fun k hk => by cases hk; exact hs), own h.free hv, h.ga, h.fa, h.ba, h.bs⟩
/-- One cell of a slot turns. -/
theorem Raw.put {W : World} {base a gs cs : Nat} {vf : Value} {sl : List Slot} {fr : List Int} {live most : Int} (h : Raw tA tS tI W base a gs cs vf sl fr live most) (i j : Nat) (u : Value) (s s' : Slot) (hs : sl[i]? = some s) (hj : j < 6) (he : s'.cells = s.cells.set j u) :
    Raw tA tS tI (W.setCell ⟨gs, i * 6 + j, none⟩ u) base a gs cs vf (sl.set i s') fr live most := by
  obtain ⟨h1, h2⟩ := h.row.stored (i * 6 + j) u
  rw [flat_set sl i j u s s' hs hj he] at h1
  have hl : (sl.set i s').length = sl.length := List.length_set
  have hfr : Fr (· = gs) W (W.setCell ⟨gs, i * 6 + j, none⟩ u) := Fr.set gs _ u
  refine ⟨by rw [hl]; exact hfr.blk h.obj (fun e => h.ga e.symm), by rw [hl]; exact h1, ?_, h.ga, h.fa, h.ba, h.bs⟩
  obtain ⟨g1, g2⟩ := h.free
  refine ⟨g1, ?_⟩
  rcases g2 with g2 | ⟨g, cap, cur, rfl, hg, hh, g3⟩
  · exact .inl g2
  · exact .inr ⟨g, cap, cur, rfl, hg, hfr.blk hh (fun e => (h.fa g rfl).2 e), g3⟩
end
/-- What lies in a row of fixed kinds is kept where its block is. -/
theorem C_fr {α : Type} {d : Kd α} {W W' : World} {A : Option Addr} {n : Nat} {xs : List α} {S : Nat → Prop} (hK : ∀ x c, d.K W x c → d.K W' x c) (h : d.C W A n xs) (hf : Fr S W W') (hs : ∀ ad, A = some ad → ¬ S ad.block) : d.C W' A n xs := by
  obtain ⟨h1, h2, h3⟩ := h
  refine ⟨h1, h2, fun hn => ?_⟩
  obtain ⟨ad, e, h4⟩ := h3 hn
  refine ⟨ad, e, fun j p hj => ?_⟩
  obtain ⟨c, e1, e2, e3⟩ := h4 j p hj
  refine ⟨c, e1, hK p c e2, fun i u hi => ?_⟩
  have hb : (ad.add (j * d.sz + i)).block = ad.block := by unfold Addr.add; split <;> rfl
  exact hf.cell (e3 i u hi) (by rw [hb]; exact hs ad e)
/-- Values, as cells have them. -/
abbrev kVal : Kd (Int × Int × ByteArray) := Kd.pair (Kd.int .u8) (Kd.pair (Kd.int .i64) Kd.string)
/-- A cell, as the document has it. -/
structure Cell where
  ow : Int := 0
  a : Int := 0
  b : Int := 0
  vals : List (Int × Int × ByteArray) := []
  kids : List Int := []
  r : Int := 0
/-- A list that lies in a block of the arena's own. -/
def RowIn {α : Type} (d : Kd α) (W : World) (O : Nat → Prop) (v : Value) (xs : List α) : Prop :=
  ∃ A c, v = .slice A xs.length c ∧ xs.length ≤ c ∧ (A = none → c = 0) ∧ d.C W A xs.length xs ∧ ∀ ad, A = some ad → O ad.block ∧ ad.block < W.heap.size
structure CellIn (W : World) (O : Nat → Prop) (s : Slot) (c : Cell) : Prop where
  ow : s.ow = c.ow
  a : s.a = c.a
  b : s.b = c.b
  r : s.r = c.r
  v : RowIn kVal W O s.v c.vals
  k : RowIn (Kd.int .i64) W O s.k c.kids
theorem RowIn.fr {α : Type} {d : Kd α} {W W' : World} {O S : Nat → Prop} {v : Value} {xs : List α} (hK : ∀ x c, d.K W x c → d.K W' x c) (h : RowIn d W O v xs) (hf : Fr S W W') (hs : ∀ k, O k → ¬ S k) : RowIn d W' O v xs := by
  obtain ⟨A, c, e, h1, h2, h3, h4⟩ := h
  exact ⟨A, c, e, h1, h2, C_fr hK h3 hf (fun ad ha => hs _ (h4 ad ha).1), fun ad ha => ⟨(h4 ad ha).1, Nat.lt_of_lt_of_le (h4 ad ha).2 hf.size⟩⟩
theorem RowIn.mono {α : Type} {d : Kd α} {W : World} {O O' : Nat → Prop} {v : Value} {xs : List α} (h : RowIn d W O v xs) (ho : ∀ k, O k → O' k) : RowIn d W O' v xs := by
  obtain ⟨A, c, e, h1, h2, h3, h4⟩ := h
  exact ⟨A, c, e, h1, h2, h3, fun ad ha => ⟨ho _ (h4 ad ha).1, (h4 ad ha).2⟩⟩
theorem kVal_K {W W' : World} (x : Int × Int × ByteArray) (c : List Value) (h : kVal.K W x c) : kVal.K W' x c := h
theorem kInt_K {W W' : World} (x : Int) (c : List Value) (h : (Kd.int .i64).K W x c) : (Kd.int .i64).K W' x c := h
theorem CellIn.fr {W W' : World} {O S : Nat → Prop} {s : Slot} {c : Cell} (h : CellIn W O s c) (hf : Fr S W W') (hs : ∀ k, O k → ¬ S k) : CellIn W' O s c :=
  ⟨h.ow, h.a, h.b, h.r, h.v.fr kVal_K hf hs, h.k.fr kInt_K hf hs⟩
theorem CellIn.mono {W : World} {O O' : Nat → Prop} {s : Slot} {c : Cell} (h : CellIn W O s c) (ho : ∀ k, O k → O' k) : CellIn W O' s c :=
  ⟨h.ow, h.a, h.b, h.r, h.v.mono ho, h.k.mono ho⟩
/-- An arena: its cells, the numbers that are free, how many are live, how many there may be; O: all blocks that it stands on; V: those of lists, that are never written. -/
structure Ar (tA tS tI : TypeId) (W : World) (O : Nat → Prop) (base a : Nat) (cl : List Cell) (fr : List Int) (live most : Int) : Prop where
  raw : ∃ (gs cs : Nat) (vf : Value) (sl : List Slot) (V : Nat → Prop), Raw tA tS tI W base a gs cs vf sl fr live most ∧ O a ∧ O gs ∧ (∀ k, vf.ownBlock = some k → O k) ∧ (∀ k, V k → O k) ∧ ¬ V a ∧ ¬ V gs ∧ (∀ k, vf.ownBlock = some k → ¬ V k) ∧ sl.length = cl.length ∧ ∀ (i : Nat) (s : Slot) (c : Cell), sl[i]? = some s → cl[i]? = some c → CellIn W V s c
/-- What others do is nothing to it. -/
theorem Ar.fr {tA tS tI : TypeId} {W W' : World} {O S : Nat → Prop} {base a : Nat} {cl : List Cell} {fr : List Int} {live most : Int} (h : Ar tA tS tI W O base a cl fr live most) (hf : Fr S W W') (hs : ∀ k, O k → ¬ S k) : Ar tA tS tI W' O base a cl fr live most := by
  obtain ⟨gs, cs, vf, sl, V, h1, h2, h3, h4, h5, h6, h7, h8, h9, h10⟩ := h
  exact ⟨gs, cs, vf, sl, V, h1.kept hf (hs _ h2) (hs _ h3) (fun k hk => hs _ (h4 k hk)), h2, h3, h4, h5, h6, h7, h8, h9, fun i s c hi hc => (h10 i s c hi hc).fr hf (fun k hk => hs _ (h5 k hk))⟩
section
variable {tA tS tI : TypeId}
/-- A block's own row, where another one turns. -/
theorem own_fr {W W' : World} {S : Nat → Prop} {base sz n : Nat} {e : TypeId} {v : Value} {xs : List Value} (ho : W.ownsRow base e sz v n xs) (hf : Fr S W W') (hk : ∀ k, v.ownBlock = some k → ¬ S k) : W'.ownsRow base e sz v n xs := by
  obtain ⟨h1, h2⟩ := ho
  refine ⟨h1, ?_⟩
  rcases h2 with h2 | ⟨g, cap, cur, rfl, hg, hh, h3⟩
  · exact .inl h2
  · exact .inr ⟨g, cap, cur, rfl, hg, hf.blk hh (hk g rfl), h3⟩
/-- How many are live is told anew. -/
theorem Raw.live {W : World} {base a gs cs : Nat} {vf : Value} {sl : List Slot} {fr : List Int} {live most : Int} (h : Raw tA tS tI W base a gs cs vf sl fr live most) (l' : Int) : Raw tA tS tI (W.setCell ⟨a, 2, none⟩ (.int .i64 l')) base a gs cs vf sl fr l' most := by
  have hf : Fr (· = a) W (W.setCell ⟨a, 2, none⟩ (.int .i64 l')) := Fr.set a 2 _
  exact ⟨(blk_set h.obj 2 _).trans rfl, own_fr h.row hf (fun k hk e => by cases hk; exact h.ga e), own_fr h.free hf (fun k hk e => (h.fa k hk).1 e), h.ga, h.fa, h.ba, h.bs⟩
/-- Another list of free numbers: in its old block, or in a new one. -/
theorem Raw.frees {W W1 : World} {base a gs cs : Nat} {vf vf' : Value} {sl : List Slot} {fr fr' : List Int} {live most : Int} (h : Raw tA tS tI W base a gs cs vf sl fr live most)
    (hf : Fr (fun k => vf.ownBlock = some k) W W1) (ho : W1.ownsRow base tI 1 vf' fr'.length (nums .i64 fr')) (hv : ∀ k, vf'.ownBlock = some k → vf.ownBlock = some k ∨ W.heap.size ≤ k) :
    Raw tA tS tI (W1.setCell ⟨a, 1, none⟩ vf') base a gs cs vf' sl fr' live most := by
  have ha : a < W.heap.size := blk_lt h.obj
  have hg : gs < W.heap.size := by
    obtain ⟨_, h2⟩ := h.row
    rcases h2 with ⟨e, _⟩ | ⟨g, cap, cur, e, _, hh, _⟩
    · cases e
    · cases e; exact blk_lt hh
  have hna : ∀ k, vf'.ownBlock = some k → k ≠ a ∧ k ≠ gs := by
    intro k hk
    rcases hv k hk with h1 | h1
    · exact h.fa k h1
    · exact ⟨by omega, by omega⟩
  have h1 : W1.heap[a]? = _ := hf.blk h.obj (fun e => (h.fa a e).1 rfl)
  have hs : Fr (· = a) W1 (W1.setCell ⟨a, 1, none⟩ vf') := Fr.set a 1 _
  exact ⟨(blk_set h1 1 _).trans rfl, own_fr (own_fr h.row hf (fun k hk e => by cases hk; exact (h.fa _ e).2 rfl)) hs (fun k hk e => by cases hk; exact h.ga e), own_fr ho hs (fun k hk e => (hna k hk).1 e), h.ga, hna, h.ba, h.bs⟩
/-- One more slot, nobody's: in the old block, or in a new one. -/
theorem Raw.grow {W W1 : World} {base a gs cs gs' cs' : Nat} {vf : Value} {sl : List Slot} {fr : List Int} {live most : Int} (h : Raw tA tS tI W base a gs cs vf sl fr live most)
    (hf : Fr (fun k => k = gs) W W1) (ho : W1.ownsRow base tS 6 (.slice (some ⟨gs', 0, none⟩) (sl.length + 1) cs') (sl.length + 1) (flat (sl ++ [nob]))) (hv : gs' = gs ∨ W.heap.size ≤ gs') :
    Raw tA tS tI (W1.setCell ⟨a, 0, none⟩ (.slice (some ⟨gs', 0, none⟩) (sl.length + 1) cs')) base a gs' cs' vf (sl ++ [nob]) fr live most := by
  have ha : a < W.heap.size := blk_lt h.obj
  have hl : (sl ++ [nob]).length = sl.length + 1 := by rw [List.length_append]; rfl
  have hvb : ∀ k, vf.ownBlock = some k → k < W.heap.size := by
    intro k hk
    obtain ⟨_, h2⟩ := h.free
    rcases h2 with ⟨e, _⟩ | ⟨g, cap, cur, e, _, hh, _⟩
    · rw [e] at hk; cases hk
    · rw [e] at hk; cases hk; exact blk_lt hh
  have hga : gs' ≠ a := by
    rcases hv with e | e
    · rw [e]; exact h.ga
    · omega
  have hgb : base ≤ gs' := by
    obtain ⟨_, h2⟩ := ho
    rcases h2 with ⟨e, _⟩ | ⟨g, cap, cur, e, hb, _⟩
    · cases e
    · cases e; exact hb
  have h1 : W1.heap[a]? = _ := hf.blk h.obj (fun e => h.ga e.symm)
  have hs : Fr (· = a) W1 (W1.setCell ⟨a, 0, none⟩ (.slice (some ⟨gs', 0, none⟩) (sl.length + 1) cs')) := Fr.set a 0 _
  refine ⟨by rw [hl]; exact (blk_set h1 0 _).trans rfl, by rw [hl]; exact own_fr ho hs (fun k hk e => by cases hk; exact hga e), own_fr (own_fr h.free hf (fun k hk e => (h.fa k hk).2 e)) hs (fun k hk e => (h.fa k hk).1 e), hga, fun k hk => ⟨(h.fa k hk).1, ?_⟩, h.ba, hgb⟩
  rcases hv with e | e
  · rw [e]; exact (h.fa k hk).2
  · have := hvb k hk; omega
/-- A whole slot is laid anew. -/
theorem Raw.lay {W : World} {base a gs cs : Nat} {vf : Value} {sl : List Slot} {fr : List Int} {live most : Int} (h : Raw tA tS tI W base a gs cs vf sl fr live most) (i : Nat) (s s' : Slot) (hs : sl[i]? = some s) :
    Raw tA tS tI ((((((W.setCell ⟨gs, i * 6 + 0, none⟩ (.int .u32 s'.ow)).setCell ⟨gs, i * 6 + 1, none⟩ (.int .u32 s'.a)).setCell ⟨gs, i * 6 + 2, none⟩ (.int .u32 s'.b)).setCell ⟨gs, i * 6 + 3, none⟩ s'.v).setCell ⟨gs, i * 6 + 4, none⟩ s'.k).setCell ⟨gs, i * 6 + 5, none⟩ (.int .i64 s'.r)) base a gs cs vf (sl.set i s') fr live most := by
  have hi : i < sl.length := (List.getElem?_eq_some_iff.1 hs).1
  have at_ : ∀ (l : List Slot) (x : Slot), l.length = sl.length → (l.set i x)[i]? = some x := fun l x hl => by rw [List.getElem?_set_self (by omega)]
  have h0 := h.put i 0 (.int .u32 s'.ow) s ⟨s'.ow, s.a, s.b, s.v, s.k, s.r⟩ hs (by decide) rfl
  have h1 := h0.put i 1 (.int .u32 s'.a) _ ⟨s'.ow, s'.a, s.b, s.v, s.k, s.r⟩ (at_ _ _ rfl) (by decide) rfl
  have h2 := h1.put i 2 (.int .u32 s'.b) _ ⟨s'.ow, s'.a, s'.b, s.v, s.k, s.r⟩ (at_ _ _ (by simp)) (by decide) rfl
  have h3 := h2.put i 3 s'.v _ ⟨s'.ow, s'.a, s'.b, s'.v, s.k, s.r⟩ (at_ _ _ (by simp)) (by decide) rfl
  have h4 := h3.put i 4 s'.k _ ⟨s'.ow, s'.a, s'.b, s'.v, s'.k, s.r⟩ (at_ _ _ (by simp)) (by decide) rfl
  have h5 := h4.put i 5 (.int .i64 s'.r) _ s' (at_ _ _ (by simp)) (by decide) rfl
  simpa only [List.set_set] using h5
end
end Go.Proofs.Ytnipbfhfaefieaa.Arn
/-! arena: who holds whom, in plain words. -/
namespace Go.Proofs.Ytnipbfhfaefieaa.ArnP
/-- Cells: how often each is held, and whom each holds. -/
structure G where
  refs : Nat → Nat
  kids : Nat → List Nat
/-- A sum over the first ones. -/
def sm (f : Nat → Nat) : Nat → Nat
  | 0 => 0
  | n + 1 => sm f n + f n
theorem sm_congr {f h : Nat → Nat} : ∀ n, (∀ y, y < n → f y = h y) → sm f n = sm h n
  | 0, _ => rfl
  | n + 1, e => by simp only [sm]; rw [sm_congr n (fun y hy => e y (by omega)), e n (by omega)]
theorem sm_le {f : Nat → Nat} : ∀ n y, y < n → f y ≤ sm f n
  | 0, _, h => by omega
  | n + 1, y, h => by
    simp only [sm]
    by_cases e : y = n
    · subst e; omega
    · have := sm_le (f := f) n y (by omega); omega
/-- One term is another: the sum turns as it does. -/
theorem sm_upd {f h : Nat → Nat} (k : Nat) : ∀ n, k < n → (∀ y, y < n → y ≠ k → f y = h y) → sm f n + h k = sm h n + f k
  | 0, hk, _ => by omega
  | n + 1, hk, e => by
    simp only [sm]
    by_cases c : k = n
    · subst c
      rw [sm_congr k (fun y hy => e y (by omega) (by omega))]; omega
    · have ih := sm_upd k n (by omega) (fun y hy hn => e y (by omega) hn)
      have := e n (by omega) (fun h => c h.symm)
      omega
/-- How often live cells hold one. -/
def held (g : G) (n x : Nat) : Nat := sm (fun y => if 0 < g.refs y then (g.kids y).count x else 0) n
/-- Every hold is somebody's: the callers' (ext), the list's that is worked off, the live cells'. -/
def Acc (n : Nat) (g : G) (ext : Nat → Nat) (todo : List Nat) : Prop := ∀ x, x < n → 0 < x → g.refs x = ext x + todo.count x + held g n x
def setR (g : G) (k r : Nat) : G := ⟨fun x => if x = k then r else g.refs x, g.kids⟩
theorem held_set {g : G} {n k r : Nat} (x : Nat) (hk : k < n) : held (setR g k r) n x + (if 0 < g.refs k then (g.kids k).count x else 0) = held g n x + (if 0 < r then (g.kids k).count x else 0) := by
  have h := sm_upd (f := fun y => if 0 < (setR g k r).refs y then (g.kids y).count x else 0) (h := fun y => if 0 < g.refs y then (g.kids y).count x else 0) k n hk (fun y _ hn => by simp [setR, hn])
  simp only [setR, if_true] at h
  exact h
/-- One that is on the list is held at all. -/
theorem Acc.pos {n : Nat} {g : G} {ext : Nat → Nat} {k : Nat} {todo : List Nat} (h : Acc n g ext (k :: todo)) (hk : k < n) (h0 : 0 < k) : 0 < g.refs k := by
  have := h k hk h0
  rw [List.count_cons_self] at this
  omega
/-- One hold less; others are left. -/
theorem Acc.less {n : Nat} {g : G} {ext : Nat → Nat} {k : Nat} {todo : List Nat} (h : Acc n g ext (k :: todo)) (hk : k < n) (h0 : 0 < k) (hr : 1 < g.refs k) : Acc n (setR g k (g.refs k - 1)) ext todo := by
  intro x hx hx0
  have h1 := h x hx hx0
  have h2 := held_set (g := g) (r := g.refs k - 1) x hk
  rw [if_pos (show 0 < g.refs k by omega), if_pos (show 0 < g.refs k - 1 by omega)] at h2
  have h3 : (setR g k (g.refs k - 1)).refs x = if x = k then g.refs k - 1 else g.refs x := rfl
  by_cases e : x = k
  · subst e
    rw [h3, if_pos rfl]
    rw [List.count_cons_self] at h1
    omega
  · rw [h3, if_neg e]
    rw [List.count_cons_of_ne (fun h => e h.symm)] at h1
    omega
/-- The last hold goes: its own holds come onto the list. -/
theorem Acc.last {n : Nat} {g : G} {ext : Nat → Nat} {k : Nat} {todo : List Nat} (h : Acc n g ext (k :: todo)) (hk : k < n) (h0 : 0 < k) (hr : g.refs k = 1) : Acc n (setR g k 0) ext (todo ++ g.kids k) := by
  intro x hx hx0
  have h1 := h x hx hx0
  have h2 := held_set (g := g) (r := 0) x hk
  rw [if_pos (show 0 < g.refs k by omega), if_neg (Nat.lt_irrefl 0)] at h2
  have h3 : (setR g k 0).refs x = if x = k then 0 else g.refs x := rfl
  rw [List.count_append]
  by_cases e : x = k
  · subst e
    rw [h3, if_pos rfl]
    rw [List.count_cons_self] at h1
    omega
  · rw [h3, if_neg e]
    rw [List.count_cons_of_ne (fun h => e h.symm)] at h1
    omega
/-- All holds together. -/
def total (g : G) (n : Nat) : Nat := sm g.refs n
theorem total_set {g : G} {n k r : Nat} (hk : k < n) : total (setR g k r) n + g.refs k = total g n + r := by
  have h := sm_upd (f := (setR g k r).refs) (h := g.refs) k n hk (fun y _ hn => by simp [setR, hn])
  simp only [setR, if_true] at h
  exact h
/-- Two that hold the same, by the same callers, are one: who holds lies behind whom he holds (rank). -/
theorem acc_unique {n : Nat} {g g' : G} {ext : Nat → Nat} (rank : Nat → Nat) (h : Acc n g ext []) (h' : Acc n g' ext []) (z : g.refs 0 = 0) (z' : g'.refs 0 = 0)
    (hk : ∀ y, y < n → g.kids y = g'.kids y) (hr : ∀ y x, y < n → x ∈ g.kids y → (0 < g.refs y ∨ 0 < g'.refs y) → rank x < rank y) (B : Nat) (hB : ∀ y, y < n → rank y < B) :
    ∀ x, x < n → 0 < x → g.refs x = g'.refs x := by
  have key : ∀ d x, x < n → 0 < x → B ≤ rank x + d → g.refs x = g'.refs x := by
    intro d
    induction d with
    | zero => intro x hx _ hd; have := hB x hx; omega
    | succ d ih =>
      intro x hx hx0 hd
      rw [h x hx hx0, h' x hx hx0]
      congr 1
      refine sm_congr n (fun y hy => ?_)
      by_cases hm : x ∈ g.kids y
      · by_cases c : 0 < g.refs y ∨ 0 < g'.refs y
        · have hlt := hr y x hy hm c
          by_cases y0 : 0 < y
          · have := ih y hy y0 (by omega)
            rw [this, hk y hy]
          · obtain rfl : y = 0 := by omega
            omega
        · rw [if_neg (fun h => c (.inl h)), if_neg (fun h => c (.inr h))]
      · have h1 : (g.kids y).count x = 0 := List.count_eq_zero.2 hm
        have h2 : (g'.kids y).count x = 0 := by rw [← hk y hy]; exact h1
        simp only [h1, h2, ite_self]
  intro x hx hx0
  exact key B x hx hx0 (by omega)
/-- Less is left to do. -/
theorem total_less {g : G} {n k r : Nat} (hk : k < n) (hr : r < g.refs k) : total (setR g k r) n < total g n := by
  have := total_set (g := g) (r := r) hk
  omega
/-- One more place, that nobody holds. -/
theorem Acc.grow {n : Nat} {g : G} {ext : Nat → Nat} (h : Acc n g ext []) (hd : g.refs n = 0) (he : ext n = 0) (hk : ∀ y, y < n → 0 < g.refs y → n ∉ g.kids y) : Acc (n + 1) g ext [] := by
  intro x hx hx0
  have hh : held g (n + 1) x = held g n x := by
    unfold held
    simp only [sm]
    rw [hd, if_neg (Nat.lt_irrefl 0)]
    omega
  rw [hh]
  by_cases c : x = n
  · subst c
    rw [hd, he]
    have : held g x x = 0 := by
      unfold held
      have : ∀ m, m ≤ x → sm (fun y => if 0 < g.refs y then (g.kids y).count x else 0) m = 0 := by
        intro m
        induction m with
        | zero => intro _; rfl
        | succ m ih =>
          intro hm
          simp only [sm]
          rw [ih (by omega)]
          by_cases p : 0 < g.refs m
          · rw [if_pos p, List.count_eq_zero.2 (hk m (by omega) p)]
          · rw [if_neg p]
      exact this x (Nat.le_refl x)
    rw [this]
    rfl
  · exact h x (by omega) hx0
def setC (g : G) (k r : Nat) (l : List Nat) : G := ⟨fun x => if x = k then r else g.refs x, fun x => if x = k then l else g.kids x⟩
theorem held_setC {g : G} {n k r : Nat} {l : List Nat} (x : Nat) (hk : k < n) : held (setC g k r l) n x + (if 0 < g.refs k then (g.kids k).count x else 0) = held g n x + (if 0 < r then l.count x else 0) := by
  have h := sm_upd (f := fun y => if 0 < (setC g k r l).refs y then ((setC g k r l).kids y).count x else 0) (h := fun y => if 0 < g.refs y then (g.kids y).count x else 0) k n hk (fun y _ hn => by simp [setC, hn])
  simp only [setC, if_true] at h
  exact h
/-- A cell is made: it takes the callers' holds on its others over, and the caller holds it. -/
theorem Acc.make {n : Nat} {g : G} {ext : Nat → Nat} (h : Acc n g ext []) (i : Nat) (hi : i < n) (i0 : 0 < i) (hd : g.refs i = 0) (l : List Nat) (hl : ∀ x, 0 < x → l.count x ≤ ext x) :
    Acc n (setC g i 1 l) (fun x => if x = i then 1 else ext x - l.count x) [] := by
  intro x hx hx0
  have h1 := h x hx hx0
  have h2 := held_setC (g := g) (r := 1) (l := l) x hi
  rw [hd, if_neg (Nat.lt_irrefl 0), if_pos Nat.zero_lt_one] at h2
  have h3 : (setC g i 1 l).refs x = if x = i then 1 else g.refs x := rfl
  have hlx := hl x hx0
  rw [h3]
  by_cases e : x = i
  · subst e
    rw [if_pos rfl]
    dsimp only
    rw [if_pos rfl]
    simp only [List.count_nil] at h1 ⊢
    omega
  · rw [if_neg e]
    dsimp only
    rw [if_neg e]
    simp only [List.count_nil] at h1 ⊢
    omega
/-- One hold more, by the caller. -/
theorem Acc.keep {n : Nat} {g : G} {ext : Nat → Nat} (h : Acc n g ext []) (i : Nat) (hi : i < n) (hp : 0 < g.refs i) : Acc n (setR g i (g.refs i + 1)) (fun x => if x = i then ext x + 1 else ext x) [] := by
  intro x hx hx0
  have h1 := h x hx hx0
  have h2 := held_set (g := g) (r := g.refs i + 1) x hi
  rw [if_pos hp, if_pos (Nat.succ_pos _)] at h2
  have h3 : (setR g i (g.refs i + 1)).refs x = if x = i then g.refs i + 1 else g.refs x := rfl
  rw [h3]
  by_cases e : x = i
  · subst e
    rw [if_pos rfl]
    dsimp only
    rw [if_pos rfl]
    simp only [List.count_nil] at h1 ⊢
    omega
  · rw [if_neg e]
    dsimp only
    rw [if_neg e]
    simp only [List.count_nil] at h1 ⊢
    omega
/-- A caller's hold comes onto the list. -/
theorem Acc.drop {n : Nat} {g : G} {ext : Nat → Nat} (h : Acc n g ext []) (i : Nat) (he : 0 < ext i) : Acc n g (fun x => if x = i then ext x - 1 else ext x) [i] := by
  intro x hx hx0
  have h1 := h x hx hx0
  dsimp only
  by_cases e : x = i
  · subst e
    rw [if_pos rfl, List.count_cons_self]
    simp only [List.count_nil] at h1 ⊢
    omega
  · rw [if_neg e, List.count_cons_of_ne (fun h => e h.symm)]
    simp only [List.count_nil] at h1 ⊢
    omega
/-- A live cell becomes another one: the holds on its others change as they do. -/
theorem Acc.edit {n : Nat} {g : G} {ext : Nat → Nat} (h : Acc n g ext []) (i : Nat) (hi : i < n) (hp : 0 < g.refs i) (l : List Nat) (hl : ∀ x, 0 < x → l.count x ≤ ext x + (g.kids i).count x) :
    Acc n (setC g i (g.refs i) l) (fun x => ext x + (g.kids i).count x - l.count x) [] := by
  intro x hx hx0
  have h1 := h x hx hx0
  have h2 := held_setC (g := g) (r := g.refs i) (l := l) x hi
  rw [if_pos hp, if_pos hp] at h2
  have h3 : (setC g i (g.refs i) l).refs x = g.refs x := by
    show (if x = i then g.refs i else g.refs x) = _
    split
    · rename_i e; rw [e]
    · rfl
  have hlx := hl x hx0
  rw [h3]
  dsimp only
  simp only [List.count_nil] at h1 ⊢
  omega
end Go.Proofs.Ytnipbfhfaefieaa.ArnP
/-! arena: a list of cells, and who holds whom in it. -/
namespace Go.Proofs.Ytnipbfhfaefieaa.Arn
open Go.RowKit Go Go.Proofs.Ytnipbfhfaefieaa.ArnP
/-- Nobody's cell. -/
def nobC : Cell := {}
/-- The others that a cell holds. -/
def kidsOf (l : List Int) : List Nat := (l.filter fun y => decide (y ≠ 0)).map Int.toNat
def gOf (cl : List Cell) : G := ⟨fun x => (cl.getD x nobC).r.toNat, fun x => kidsOf (cl.getD x nobC).kids⟩
theorem getD_at {cl : List Cell} {i : Nat} {c : Cell} (h : cl[i]? = some c) : cl.getD i nobC = c := by simp [List.getD, h]
theorem getD_set {cl : List Cell} {i : Nat} (c : Cell) (hi : i < cl.length) (x : Nat) : (cl.set i c).getD x nobC = if x = i then c else cl.getD x nobC := by
  unfold List.getD
  by_cases e : x = i
  · subst e; rw [List.getElem?_set_self hi, if_pos rfl]; rfl
  · rw [List.getElem?_set_ne (fun h => e h.symm), if_neg e]
theorem gOf_r {cl : List Cell} {i : Nat} {c : Cell} (h : cl[i]? = some c) (r : Int) : gOf (cl.set i {c with r := r}) = setR (gOf cl) i r.toNat := by
  have hi : i < cl.length := (List.getElem?_eq_some_iff.1 h).1
  unfold gOf setR
  congr 1
  · funext x
    rw [getD_set _ hi]
    split <;> rfl
  · funext x
    rw [getD_set _ hi]
    split
    · rename_i e
      subst e
      show kidsOf c.kids = kidsOf (cl.getD x nobC).kids
      rw [getD_at h]
    · rfl
theorem gOf_c {cl : List Cell} {i : Nat} (hi : i < cl.length) (c : Cell) : gOf (cl.set i c) = setC (gOf cl) i c.r.toNat (kidsOf c.kids) := by
  unfold gOf setC
  congr 1
  · funext x; rw [getD_set _ hi]; split <;> rfl
  · funext x; rw [getD_set _ hi]; split <;> rfl
/-- Who is dead holds nobody: his others may be anything. -/
theorem held_congr {g g' : G} {n : Nat} (hr : ∀ y, y < n → g.refs y = g'.refs y) (hk : ∀ y, y < n → 0 < g.refs y → g.kids y = g'.kids y) (x : Nat) : held g n x = held g' n x :=
  sm_congr n (fun y hy => by
    rw [hr y hy]
    by_cases p : 0 < g'.refs y
    · rw [if_pos p, if_pos p, hk y hy (by rw [hr y hy]; exact p)]
    · rw [if_neg p, if_neg p])
theorem Acc_congr {g g' : G} {n : Nat} {ext : Nat → Nat} {todo : List Nat} (h : Acc n g ext todo) (hr : ∀ y, y < n → g.refs y = g'.refs y) (hk : ∀ y, y < n → 0 < g.refs y → g.kids y = g'.kids y) : Acc n g' ext todo := by
  intro x hx hx0
  rw [← hr x hx, h x hx hx0, held_congr hr hk x]
/-- A cell that nobody holds any more becomes nobody's. -/
theorem Acc_kill {cl : List Cell} {i : Nat} {c : Cell} {ext : Nat → Nat} {todo : List Nat} (h : Acc cl.length (gOf (cl.set i {c with r := 0})) ext todo) (hi : cl[i]? = some c) : Acc cl.length (gOf (cl.set i nobC)) ext todo := by
  have hl : i < cl.length := (List.getElem?_eq_some_iff.1 hi).1
  refine Acc_congr h (fun y _ => ?_) (fun y _ hp => ?_)
  · show ((cl.set i _).getD y nobC).r.toNat = ((cl.set i _).getD y nobC).r.toNat
    rw [getD_set _ hl, getD_set _ hl]
    split <;> rfl
  · have hp : 0 < ((cl.set i {c with r := 0}).getD y nobC).r.toNat := hp
    rw [getD_set _ hl] at hp
    show kidsOf ((cl.set i _).getD y nobC).kids = kidsOf ((cl.set i _).getD y nobC).kids
    rw [getD_set _ hl, getD_set _ hl]
    split
    · rename_i e; rw [if_pos e] at hp; exact absurd hp (by simp)
    · rfl
/-- How many are live. -/
def liveN (cl : List Cell) : Nat := cl.countP fun c => decide (0 < c.r)
theorem liveN_set {cl : List Cell} {i : Nat} {c : Cell} (h : cl[i]? = some c) (c' : Cell) : liveN (cl.set i c') + (if 0 < c.r then 1 else 0) = liveN cl + (if 0 < c'.r then 1 else 0) := by
  induction cl generalizing i with
  | nil => simp at h
  | cons x l ih =>
    unfold liveN at ih ⊢
    cases i with
    | zero =>
      obtain rfl : x = c := by simpa using h
      rw [List.set_cons_zero, List.countP_cons, List.countP_cons]
      simp only [decide_eq_true_eq]
      omega
    | succ i =>
      have h' : l[i]? = some c := by simpa using h
      have := ih h'
      rw [List.set_cons_succ, List.countP_cons, List.countP_cons]
      omega
end Go.Proofs.Ytnipbfhfaefieaa.Arn
/-! arena: what always holds of its cells, and that each call keeps it. -/
namespace Go.Proofs.Ytnipbfhfaefieaa.Arn
open Go.RowKit Go Go.Proofs.Ytnipbfhfaefieaa.ArnP
/-- Cells, free numbers, how many are live; ext: how often callers hold each; todo: the holds that are being let go. -/
structure WF (cl : List Cell) (fr : List Int) (live : Int) (ext : Nat → Nat) (todo : List Nat) : Prop where
  acc : Acc cl.length (gOf cl) ext todo
  z : cl[0]? = some nobC
  rn : ∀ (i : Nat) (c : Cell), cl[i]? = some c → 0 ≤ c.r
  kn : ∀ (i : Nat) (c : Cell), cl[i]? = some c → 0 < c.r → ∀ y ∈ c.kids, 0 ≤ y ∧ y < cl.length
  fd : ∀ x ∈ fr, 0 < x ∧ x < cl.length ∧ ∃ c, cl[x.toNat]? = some c ∧ c.r = 0
  fn : fr.Nodup
  lv : live = liveN cl
  en : ∀ x, cl.length ≤ x → ext x = 0
  tn : ∀ x ∈ todo, 0 < x ∧ x < cl.length
theorem gOf_refs {cl : List Cell} {i : Nat} {c : Cell} (h : cl[i]? = some c) : (gOf cl).refs i = c.r.toNat := by
  show (cl.getD i nobC).r.toNat = _
  rw [getD_at h]
theorem gOf_kids {cl : List Cell} {i : Nat} {c : Cell} (h : cl[i]? = some c) : (gOf cl).kids i = kidsOf c.kids := by
  show kidsOf (cl.getD i nobC).kids = _
  rw [getD_at h]
theorem kidsOf_mem {l : List Int} {x : Nat} (h : x ∈ kidsOf l) : ∃ y ∈ l, y ≠ 0 ∧ y.toNat = x := by
  unfold kidsOf at h
  rw [List.mem_map] at h
  obtain ⟨y, hy, e⟩ := h
  rw [List.mem_filter] at hy
  exact ⟨y, hy.1, by simpa using hy.2, e⟩
theorem at_set {cl : List Cell} {i : Nat} {c c' : Cell} (h : cl[i]? = some c) {j : Nat} {d : Cell} (hd : (cl.set i c')[j]? = some d) : (j = i ∧ d = c') ∨ (j ≠ i ∧ cl[j]? = some d) := by
  have hi : i < cl.length := (List.getElem?_eq_some_iff.1 h).1
  by_cases e : j = i
  · subst e
    rw [List.getElem?_set_self hi] at hd
    exact .inl ⟨rfl, (Option.some.inj hd).symm⟩
  · rw [List.getElem?_set_ne (fun h => e h.symm)] at hd
    exact .inr ⟨e, hd⟩
theorem WF.perm {cl : List Cell} {fr : List Int} {live : Int} {ext : Nat → Nat} {todo todo' : List Nat} (h : WF cl fr live ext todo) (hc : ∀ x, todo'.count x = todo.count x) : WF cl fr live ext todo' :=
  ⟨fun x hx hx0 => by rw [hc x]; exact h.acc x hx hx0, h.z, h.rn, h.kn, h.fd, h.fn, h.lv, h.en, fun x hx => h.tn x (by rw [← List.count_pos_iff, ← hc x, List.count_pos_iff]; exact hx)⟩
/-- One that is on the list is live. -/
theorem WF.live_of {cl : List Cell} {fr : List Int} {live : Int} {ext : Nat → Nat} {k : Nat} {todo : List Nat} (h : WF cl fr live ext (k :: todo)) : ∃ c, cl[k]? = some c ∧ 0 < c.r ∧ 0 < k := by
  obtain ⟨h0, h1⟩ := h.tn k (List.mem_cons_self ..)
  obtain ⟨c, hc⟩ : ∃ c, cl[k]? = some c := ⟨cl[k], List.getElem?_eq_getElem h1⟩
  have hp := h.acc.pos h1 h0
  rw [gOf_refs hc] at hp
  exact ⟨c, hc, by omega, h0⟩
/-- One hold less; others are left. -/
theorem WF.less {cl : List Cell} {fr : List Int} {live : Int} {ext : Nat → Nat} {k : Nat} {todo : List Nat} {c : Cell} (h : WF cl fr live ext (k :: todo)) (hc : cl[k]? = some c) (hr : 1 < c.r) : WF (cl.set k {c with r := c.r - 1}) fr live ext todo := by
  obtain ⟨h0, h1⟩ := h.tn k (List.mem_cons_self ..)
  have hl : (cl.set k {c with r := c.r - 1}).length = cl.length := List.length_set
  have ha := h.acc.less h1 h0 (by rw [gOf_refs hc]; omega)
  rw [gOf_refs hc] at ha
  refine ⟨?_, ?_, ?_, ?_, ?_, h.fn, ?_, by rw [hl]; exact h.en, fun x hx => by rw [hl]; exact h.tn x (List.mem_cons_of_mem _ hx)⟩
  · rw [hl, gOf_r hc, show (c.r - 1).toNat = c.r.toNat - 1 by omega]; exact ha
  · rw [List.getElem?_set_ne (by omega)]; exact h.z
  · intro i d hd
    rcases at_set hc hd with ⟨rfl, rfl⟩ | ⟨_, hd⟩
    · show 0 ≤ c.r - 1; omega
    · exact h.rn i d hd
  · intro i d hd hp y hy
    rw [hl]
    rcases at_set hc hd with ⟨rfl, rfl⟩ | ⟨_, hd⟩
    · exact h.kn _ c hc (by omega) y hy
    · exact h.kn i d hd hp y hy
  · intro x hx
    obtain ⟨f1, f2, d, f3, f4⟩ := h.fd x hx
    refine ⟨f1, by rw [hl]; exact f2, d, ?_, f4⟩
    have : x.toNat ≠ k := fun e => by rw [e, hc] at f3; cases f3; omega
    rw [List.getElem?_set_ne (fun e => this e.symm)]; exact f3
  · have := liveN_set hc {c with r := c.r - 1}
    rw [if_pos (by omega), if_pos (by show 0 < c.r - 1; omega)] at this
    rw [h.lv]; omega
/-- The last hold goes: the number is free, its own holds come onto the list. -/
theorem WF.last {cl : List Cell} {fr : List Int} {live : Int} {ext : Nat → Nat} {k : Nat} {todo : List Nat} {c : Cell} (h : WF cl fr live ext (k :: todo)) (hc : cl[k]? = some c) (hr : c.r = 1) : WF (cl.set k nobC) (fr ++ [(k : Int)]) (live - 1) ext (todo ++ kidsOf c.kids) := by
  obtain ⟨h0, h1⟩ := h.tn k (List.mem_cons_self ..)
  have hl : (cl.set k nobC).length = cl.length := List.length_set
  have ha := h.acc.last h1 h0 (by rw [gOf_refs hc, hr]; rfl)
  rw [gOf_kids hc] at ha
  have hkf : (k : Int) ∉ fr := fun hm => by
    obtain ⟨_, _, d, f3, f4⟩ := h.fd _ hm
    rw [Int.toNat_natCast, hc] at f3
    cases f3
    omega
  refine ⟨?_, ?_, ?_, ?_, ?_, ?_, ?_, by rw [hl]; exact h.en, ?_⟩
  · rw [hl]
    refine Acc_kill (c := c) ?_ hc
    rw [gOf_r hc]
    exact ha
  · rw [List.getElem?_set_ne (by omega)]; exact h.z
  · intro i d hd
    rcases at_set hc hd with ⟨rfl, rfl⟩ | ⟨_, hd⟩
    · exact Int.le_refl 0
    · exact h.rn i d hd
  · intro i d hd hp y hy
    rw [hl]
    rcases at_set hc hd with ⟨rfl, rfl⟩ | ⟨_, hd⟩
    · exact absurd hp (Int.lt_irrefl 0)
    · exact h.kn i d hd hp y hy
  · intro x hx
    rw [hl]
    rcases List.mem_append.1 hx with hx | hx
    · obtain ⟨f1, f2, d, f3, f4⟩ := h.fd x hx
      refine ⟨f1, f2, d, ?_, f4⟩
      have : x.toNat ≠ k := fun e => by rw [e, hc] at f3; cases f3; omega
      rw [List.getElem?_set_ne (fun e => this e.symm)]; exact f3
    · obtain rfl : x = (k : Int) := by simpa using hx
      refine ⟨by omega, by omega, nobC, ?_, rfl⟩
      rw [Int.toNat_natCast, List.getElem?_set_self h1]
  · rw [List.nodup_append]
    refine ⟨h.fn, by simp, fun a ha b hb e => ?_⟩
    obtain rfl : b = (k : Int) := by simpa using hb
    exact hkf (e ▸ ha)
  · have := liveN_set hc nobC
    rw [if_pos (by omega), if_neg (show ¬ 0 < nobC.r from Int.lt_irrefl 0)] at this
    rw [h.lv]; omega
  · intro x hx
    rw [hl]
    rcases List.mem_append.1 hx with hx | hx
    · exact h.tn x (List.mem_cons_of_mem _ hx)
    · obtain ⟨y, hy, y0, rfl⟩ := kidsOf_mem hx
      obtain ⟨q1, q2⟩ := h.kn k c hc (by omega) y hy
      omega
/-- One more place. -/
theorem WF.grow {cl : List Cell} {live : Int} {ext : Nat → Nat} (h : WF cl [] live ext []) : WF (cl ++ [nobC]) [(cl.length : Int)] live ext [] := by
  have hz : 0 < cl.length := (List.getElem?_eq_some_iff.1 h.z).1
  have hl : (cl ++ [nobC]).length = cl.length + 1 := by simp
  have hg : ∀ y, (cl ++ [nobC]).getD y nobC = cl.getD y nobC := by
    intro y
    unfold List.getD
    by_cases e : y < cl.length
    · rw [List.getElem?_append_left e]
    · rw [List.getElem?_append_right (by omega), List.getElem?_eq_none (l := cl) (by omega)]
      by_cases e2 : y - cl.length = 0
      · rw [e2]; rfl
      · rw [List.getElem?_eq_none (by simp; omega)]
  have hgg : gOf (cl ++ [nobC]) = gOf cl := by
    unfold gOf
    congr 1 <;> funext y <;> rw [hg y]
  have at_ : ∀ (i : Nat) (d : Cell), (cl ++ [nobC])[i]? = some d → (i < cl.length ∧ cl[i]? = some d) ∨ (i = cl.length ∧ d = nobC) := by
    intro i d hd
    by_cases e : i < cl.length
    · rw [List.getElem?_append_left e] at hd; exact .inl ⟨e, hd⟩
    · have hi : i < (cl ++ [nobC]).length := (List.getElem?_eq_some_iff.1 hd).1
      have e2 : i = cl.length := by omega
      subst e2
      rw [List.getElem?_append_right (Nat.le_refl _), Nat.sub_self] at hd
      exact .inr ⟨rfl, (Option.some.inj hd).symm⟩
  refine ⟨?_, ?_, ?_, ?_, ?_, by simp, ?_, fun x hx => h.en x (by omega), fun x hx => by cases hx⟩
  · rw [hl, hgg]
    refine h.acc.grow ?_ (h.en _ (Nat.le_refl _)) ?_
    · show (cl.getD cl.length nobC).r.toNat = 0
      unfold List.getD
      rw [List.getElem?_eq_none (Nat.le_refl _)]; rfl
    · intro y hy hp hm
      obtain ⟨c, hc⟩ : ∃ c, cl[y]? = some c := ⟨cl[y], List.getElem?_eq_getElem hy⟩
      rw [gOf_refs hc] at hp
      rw [gOf_kids hc] at hm
      obtain ⟨z, hz1, _, hz2⟩ := kidsOf_mem hm
      obtain ⟨q1, q2⟩ := h.kn y c hc (by omega) z hz1
      omega
  · rw [List.getElem?_append_left hz]; exact h.z
  · intro i d hd
    rcases at_ i d hd with ⟨_, hd⟩ | ⟨_, rfl⟩
    · exact h.rn i d hd
    · exact Int.le_refl 0
  · intro i d hd hp y hy
    rw [hl]
    rcases at_ i d hd with ⟨_, hd⟩ | ⟨_, rfl⟩
    · obtain ⟨q1, q2⟩ := h.kn i d hd hp y hy; exact ⟨q1, by omega⟩
    · cases hy
  · intro x hx
    obtain rfl : x = (cl.length : Int) := by simpa using hx
    rw [hl]
    refine ⟨by omega, by omega, nobC, ?_, rfl⟩
    rw [Int.toNat_natCast, List.getElem?_append_right (Nat.le_refl _), Nat.sub_self]; rfl
  · rw [h.lv]
    unfold liveN
    rw [List.countP_append]
    rfl
/-- A new arena. -/
theorem WF.new : WF [nobC] [] 0 (fun _ => 0) [] := by
  refine ⟨?_, rfl, ?_, ?_, (fun x hx => by cases hx), List.nodup_nil, rfl, fun _ _ => rfl, (fun x hx => by cases hx)⟩
  · intro x hx hx0
    have : ([nobC] : List Cell).length = 1 := rfl
    omega
  · intro i c hc
    match i, hc with
    | 0, hc => obtain rfl : nobC = c := by simpa using hc
               exact Int.le_refl 0
    | i + 1, hc => simp at hc
  · intro i c hc hp
    match i, hc with
    | 0, hc => obtain rfl : nobC = c := by simpa using hc
               exact absurd hp (Int.lt_irrefl 0)
    | i + 1, hc => simp at hc
/-- A cell is made, at the last free number: the callers' holds on its others are its own now, and the caller holds it. -/
theorem WF.make {cl : List Cell} {fr : List Int} {live : Int} {ext : Nat → Nat} {i : Int} (h : WF cl (fr ++ [i]) live ext []) (c : Cell) (hr : c.r = 1) (hk : ∀ y ∈ c.kids, 0 ≤ y ∧ y < cl.length) (hl : ∀ x, 0 < x → (kidsOf c.kids).count x ≤ ext x) :
    WF (cl.set i.toNat c) fr (live + 1) (fun x => if x = i.toNat then 1 else ext x - (kidsOf c.kids).count x) [] := by
  obtain ⟨f1, f2, d, f3, f4⟩ := h.fd i (List.mem_append_right _ (List.mem_singleton.2 rfl))
  have hi : i.toNat < cl.length := by omega
  have hlen : (cl.set i.toNat c).length = cl.length := List.length_set
  have hnf : i ∉ fr := fun hm => by
    have := h.fn
    rw [List.nodup_append] at this
    exact this.2.2 i hm i (List.mem_singleton.2 rfl) rfl
  refine ⟨?_, ?_, ?_, ?_, ?_, (List.nodup_append.1 h.fn).1, ?_, ?_, fun x hx => by cases hx⟩
  · rw [hlen, gOf_c hi, hr]
    exact h.acc.make i.toNat hi (by omega) (by rw [gOf_refs f3, f4]; rfl) _ hl
  · rw [List.getElem?_set_ne (by omega)]; exact h.z
  · intro j e he
    rcases at_set f3 he with ⟨rfl, rfl⟩ | ⟨_, he⟩
    · omega
    · exact h.rn j e he
  · intro j e he hp y hy
    rw [hlen]
    rcases at_set f3 he with ⟨rfl, rfl⟩ | ⟨_, he⟩
    · exact hk y hy
    · exact h.kn j e he hp y hy
  · intro x hx
    obtain ⟨g1, g2, e, g3, g4⟩ := h.fd x (List.mem_append_left _ hx)
    refine ⟨g1, by rw [hlen]; exact g2, e, ?_, g4⟩
    have : x.toNat ≠ i.toNat := fun q => hnf (by rw [show i = x by omega]; exact hx)
    rw [List.getElem?_set_ne (fun q => this q.symm)]; exact g3
  · have := liveN_set f3 c
    rw [if_neg (by omega), if_pos (by omega)] at this
    rw [h.lv]; omega
  · intro x hx
    rw [hlen] at hx
    rw [if_neg (by omega), h.en x hx]
    omega
/-- One hold more, by the caller. -/
theorem WF.keep {cl : List Cell} {fr : List Int} {live : Int} {ext : Nat → Nat} {k : Nat} {c : Cell} (h : WF cl fr live ext []) (hc : cl[k]? = some c) (hr : 0 < c.r) : WF (cl.set k {c with r := c.r + 1}) fr live (fun x => if x = k then ext x + 1 else ext x) [] := by
  have h1 : k < cl.length := (List.getElem?_eq_some_iff.1 hc).1
  have h0 : k ≠ 0 := fun e => by subst e; rw [h.z] at hc; cases hc; exact absurd hr (Int.lt_irrefl 0)
  have hl : (cl.set k {c with r := c.r + 1}).length = cl.length := List.length_set
  have ha := h.acc.keep k h1 (by rw [gOf_refs hc]; omega)
  rw [gOf_refs hc] at ha
  refine ⟨?_, ?_, ?_, ?_, ?_, h.fn, ?_, ?_, fun x hx => by cases hx⟩
  · rw [hl, gOf_r hc, show (c.r + 1).toNat = c.r.toNat + 1 by omega]; exact ha
  · rw [List.getElem?_set_ne h0]; exact h.z
  · intro i d hd
    rcases at_set hc hd with ⟨rfl, rfl⟩ | ⟨_, hd⟩
    · show 0 ≤ c.r + 1; omega
    · exact h.rn i d hd
  · intro i d hd hp y hy
    rw [hl]
    rcases at_set hc hd with ⟨rfl, rfl⟩ | ⟨_, hd⟩
    · exact h.kn _ c hc hr y hy
    · exact h.kn i d hd hp y hy
  · intro x hx
    obtain ⟨f1, f2, d, f3, f4⟩ := h.fd x hx
    refine ⟨f1, by rw [hl]; exact f2, d, ?_, f4⟩
    have : x.toNat ≠ k := fun e => by rw [e, hc] at f3; cases f3; omega
    rw [List.getElem?_set_ne (fun e => this e.symm)]; exact f3
  · have := liveN_set hc {c with r := c.r + 1}
    rw [if_pos hr, if_pos (by show 0 < c.r + 1; omega)] at this
    rw [h.lv]; omega
  · intro x hx
    rw [hl] at hx
    rw [if_neg (by omega)]
    exact h.en x hx
/-- A caller's hold comes onto the list. -/
theorem WF.drop {cl : List Cell} {fr : List Int} {live : Int} {ext : Nat → Nat} {i : Nat} (h : WF cl fr live ext []) (hi : 0 < i) (he : 0 < ext i) : WF cl fr live (fun x => if x = i then ext x - 1 else ext x) [i] := by
  have hl : i < cl.length := by
    by_cases c : i < cl.length
    · exact c
    · have := h.en i (by omega); omega
  refine ⟨h.acc.drop i he, h.z, h.rn, h.kn, h.fd, h.fn, h.lv, fun x hx => ?_, fun x hx => ?_⟩
  · rw [if_neg (by omega)]
    exact h.en x hx
  · obtain rfl : x = i := by simpa using hx
    exact ⟨hi, hl⟩
/-- A live cell becomes another one. -/
theorem WF.edit {cl : List Cell} {fr : List Int} {live : Int} {ext : Nat → Nat} {k : Nat} {c c' : Cell} (h : WF cl fr live ext []) (hc : cl[k]? = some c) (hr : 0 < c.r) (he : c'.r = c.r) (hk : ∀ y ∈ c'.kids, 0 ≤ y ∧ y < cl.length) (hl : ∀ x, 0 < x → (kidsOf c'.kids).count x ≤ ext x + (kidsOf c.kids).count x) :
    WF (cl.set k c') fr live (fun x => ext x + (kidsOf c.kids).count x - (kidsOf c'.kids).count x) [] := by
  have h1 : k < cl.length := (List.getElem?_eq_some_iff.1 hc).1
  have h0 : k ≠ 0 := fun e => by subst e; rw [h.z] at hc; cases hc; exact absurd hr (Int.lt_irrefl 0)
  have hlen : (cl.set k c').length = cl.length := List.length_set
  have big : ∀ (d : Cell) (x : Nat), (∀ y ∈ d.kids, 0 ≤ y ∧ y < cl.length) → cl.length ≤ x → (kidsOf d.kids).count x = 0 := by
    intro d x hd hx
    rw [List.count_eq_zero]
    intro hm
    obtain ⟨y, hy, _, e⟩ := kidsOf_mem hm
    have := hd y hy
    omega
  refine ⟨?_, ?_, ?_, ?_, ?_, h.fn, ?_, ?_, fun x hx => by cases hx⟩
  · rw [hlen, gOf_c h1, he]
    have := h.acc.edit k h1 (by rw [gOf_refs hc]; omega) (kidsOf c'.kids) (by rw [gOf_kids hc]; exact hl)
    rw [gOf_refs hc, gOf_kids hc] at this
    exact this
  · rw [List.getElem?_set_ne h0]; exact h.z
  · intro i d hd
    rcases at_set hc hd with ⟨rfl, rfl⟩ | ⟨_, hd⟩
    · omega
    · exact h.rn i d hd
  · intro i d hd hp y hy
    rw [hlen]
    rcases at_set hc hd with ⟨rfl, rfl⟩ | ⟨_, hd⟩
    · exact hk y hy
    · exact h.kn i d hd hp y hy
  · intro x hx
    obtain ⟨f1, f2, d, f3, f4⟩ := h.fd x hx
    refine ⟨f1, by rw [hlen]; exact f2, d, ?_, f4⟩
    have : x.toNat ≠ k := fun e => by rw [e, hc] at f3; cases f3; omega
    rw [List.getElem?_set_ne (fun e => this e.symm)]; exact f3
  · have := liveN_set hc c'
    rw [if_pos hr, if_pos (by omega)] at this
    rw [h.lv]; omega
  · intro x hx
    rw [hlen] at hx
    rw [h.en x hx, big c x (h.kn k c hc hr) hx]
    omega
/-- What a Drop leaves: who is live is what he was, but for how many hold him. -/
structure Left (cl cl' : List Cell) : Prop where
  len : cl'.length = cl.length
  at_ : ∀ (i : Nat) (c' : Cell), cl'[i]? = some c' → 0 < c'.r → ∃ c, cl[i]? = some c ∧ c' = {c with r := c'.r} ∧ c'.r ≤ c.r
theorem Left.refl (cl : List Cell) : Left cl cl := ⟨rfl, fun _ c h _ => ⟨c, h, rfl, Int.le_refl _⟩⟩
theorem Left.less {cl cl' : List Cell} {k : Nat} {c : Cell} {r : Int} (h : Left cl cl') (hc : cl'[k]? = some c) (hp : 0 < c.r) (hr : r ≤ c.r) : Left cl (cl'.set k {c with r := r}) := by
  refine ⟨by rw [List.length_set]; exact h.len, fun i d hd h0 => ?_⟩
  rcases at_set hc hd with ⟨rfl, rfl⟩ | ⟨_, hd⟩
  · obtain ⟨e, he, h1, h2⟩ := h.at_ _ c hc hp
    refine ⟨e, he, ?_, Int.le_trans hr h2⟩
    show ({c with r := r} : Cell) = {e with r := r}
    rw [h1]
  · exact h.at_ i d hd h0
theorem Left.last {cl cl' : List Cell} {k : Nat} {c : Cell} (h : Left cl cl') (hc : cl'[k]? = some c) : Left cl (cl'.set k nobC) := by
  refine ⟨by rw [List.length_set]; exact h.len, fun i d hd h0 => ?_⟩
  rcases at_set hc hd with ⟨rfl, rfl⟩ | ⟨_, hd⟩
  · exact absurd h0 (Int.lt_irrefl 0)
  · exact h.at_ i d hd h0
/-- Where no caller holds any, and none holds itself in a ring, none is live. -/
theorem none_live {cl : List Cell} {fr : List Int} {live : Int} (h : WF cl fr live (fun _ => 0) []) (rank : Nat → Nat)
    (hr : ∀ (y : Nat) (c : Cell), cl[y]? = some c → 0 < c.r → ∀ x ∈ kidsOf c.kids, rank x < rank y) (B : Nat) (hB : ∀ y, y < cl.length → rank y < B) : live = 0 := by
  have hz : (gOf cl).refs 0 = 0 := by rw [gOf_refs h.z]; rfl
  have hu := acc_unique (n := cl.length) (g := gOf cl) (g' := ⟨fun _ => 0, (gOf cl).kids⟩) (ext := fun _ => 0) rank h.acc (by
    intro x _ _
    have : held ⟨fun _ => 0, (gOf cl).kids⟩ cl.length x = 0 := by
      unfold held
      have : ∀ m, sm (fun y => if 0 < (⟨fun _ => 0, (gOf cl).kids⟩ : G).refs y then ((gOf cl).kids y).count x else 0) m = 0 := by
        intro m
        induction m with
        | zero => rfl
        | succ m ih =>
          simp only [sm]
          rw [ih, if_neg (Nat.lt_irrefl 0)]
      exact this _
    rw [this]
    rfl) hz rfl (fun _ _ => rfl) (by
    intro y x hy hx hp
    obtain ⟨c, hc⟩ : ∃ c, cl[y]? = some c := ⟨cl[y], List.getElem?_eq_getElem hy⟩
    rw [gOf_kids hc] at hx
    rcases hp with hp | hp
    · rw [gOf_refs hc] at hp
      exact hr y c hc (by omega) x hx
    · exact absurd hp (Nat.lt_irrefl 0)) B hB
  rw [h.lv]
  have : liveN cl = 0 := by
    unfold liveN
    rw [List.countP_eq_zero]
    intro c hc
    obtain ⟨i, hi, rfl⟩ := List.getElem_of_mem hc
    have hg : cl[i]? = some cl[i] := List.getElem?_eq_getElem hi
    by_cases i0 : i = 0
    · subst i0
      have := h.z
      rw [hg] at this
      rw [Option.some.inj this]
      decide
    · have := hu i hi (by omega)
      rw [gOf_refs hg] at this
      have h2 : (cl[i]).r.toNat = 0 := this
      simp
      omega
  rw [this]
  rfl
end Go.Proofs.Ytnipbfhfaefieaa.Arn
/-! arena: is, Refs, Keep, Live, as contracts. -/
namespace Go.Proofs.Ytnipbfhfaefieaa.Arn
open Go.RowKit Go Go.Proofs.YtnipbfhfaefieaaW.PrintWords Go.Proofs.YtnipbfhfaefieaaW.PrintMore Go.Proofs.YtnipbfhfaefieaaW.PrintLast Go.Proofs.Ytnipbfhfaefieaa.Bts Go.Proofs.Ytnipbfhfaefieaa.Fra
abbrev RawA (W : World) (base a gs cs : Nat) (vf : Value) (sl : List Slot) (fr : List Int) (live most : Int) : Prop := Raw 112 115 3 W base a gs cs vf sl fr live most
theorem is_nil (i : Int) (w : World) : Calls Try.prog 68 #[.pointer none, .int .i64 i] w fun e w' => e = .returned (.bool false) ∧ Below w.heap.size w w' := by
  go_enter Try.func68, Try.ntmps68
  go_wp2
  go_ret
  exact ⟨rfl, Below.refl _ _⟩
set_option maxHeartbeats 2000000 in
theorem is_calls {base a gs cs : Nat} {vf : Value} {sl : List Slot} {fr : List Int} {live most : Int} (i : Int) (w : World) (h : RawA w base a gs cs vf sl fr live most) (hs : sl.length ≤ 1000000000) :
    Calls Try.prog 68 #[.pointer (some ⟨a, 0, none⟩), .int .i64 i] w fun e w' => e = .returned (.bool (decide (0 < i) && (decide (i < sl.length) && decide (0 < (sl.getD i.toNat nob).r)))) ∧ Below w.heap.size w w' := by
  have p0 := blk_cell h.obj 0
  have HR := Lib.hid h
  have hs' : (sl.length : Int) ≤ 1000000000 := by omega
  clear h
  by_cases h0 : 0 < i
  · by_cases h1 : i < sl.length
    · obtain ⟨k, rfl⟩ : ∃ k : Nat, i = k := ⟨i.toNat, by omega⟩
      have hk : k < sl.length := by omega
      obtain ⟨s, hsl⟩ : ∃ s, sl[k]? = some s := ⟨sl[k], List.getElem?_eq_getElem hk⟩
      have hc := HR.out.cell k s hsl 5 (by decide)
      replace hc : w.cell? ⟨gs, k * 6 + 5, none⟩ = some (.int .i64 s.r) := hc
      have hg : sl.getD k nob = s := by simp [List.getD, hsl]
      rw [Int.toNat_natCast, hg]
      clear hsl hg
      go_enter Try.func68, Try.ntmps68
      go_wp2
      go_ret
      exact ⟨by rw [decide_eq_true h0, decide_eq_true h1, Bool.true_and, Bool.true_and]; rfl, Below.refl _ _⟩
    · have e : (decide (0 < i) && (decide (i < (sl.length : Int)) && decide (0 < (sl.getD i.toNat nob).r))) = false := by simp [h1]
      rw [e]
      have b1 : decide (i < (sl.length : Int)) = false := by simpa using h1
      go_enter Try.func68, Try.ntmps68
      go_wp2
      go_ret
      exact ⟨rfl, Below.refl _ _⟩
  · have e : (decide (0 < i) && (decide (i < (sl.length : Int)) && decide (0 < (sl.getD i.toNat nob).r))) = false := by simp [h0]
    rw [e]
    go_enter Try.func68, Try.ntmps68
    go_wp2
    go_ret
    exact ⟨by simp [h0], Below.refl _ _⟩
theorem keep_none {base a gs cs : Nat} {vf : Value} {sl : List Slot} {fr : List Int} {live most : Int} (i : Int) (w : World) (h : RawA w base a gs cs vf sl fr live most) (hs : sl.length ≤ 1000000000) (hi : (decide (0 < i) && (decide (i < sl.length) && decide (0 < (sl.getD i.toNat nob).r))) = false) :
    Calls Try.prog 27 #[.pointer (some ⟨a, 0, none⟩), .int .i64 i] w fun e w' => e = .returned (.int .i64 4) ∧ Below w.heap.size w w' := by
  have HI := Lib.hid (is_calls i w h hs)
  rw [hi] at HI
  clear h hi
  go_enter Try.func27, Try.ntmps27
  go_wp2_with (go_at_call 68; go_loud (refine HI.out.mono ?_; rintro e w1 ⟨rfl, hB⟩))
  go_ret
  exact ⟨rfl, hB⟩
set_option maxHeartbeats 2000000 in
/-- A live cell is held once more. -/
theorem keep_raw {base a gs cs : Nat} {vf : Value} {sl : List Slot} {fr : List Int} {live most : Int} (k : Nat) (s : Slot) (w : World) (h : RawA w base a gs cs vf sl fr live most) (hs : sl.length ≤ 1000000000) (hk : sl[k]? = some s) (h0 : 0 < k) (hr : 0 < s.r) (hr2 : s.r < 9223372036854775807) :
    Calls Try.prog 27 #[.pointer (some ⟨a, 0, none⟩), .int .i64 k] w fun e w' => e = .returned (.int .i64 0) ∧ RawA w' base a gs cs vf (sl.set k {s with r := s.r + 1}) fr live most ∧ ∃ w1, Below w.heap.size w w1 ∧ w' = w1.setCell ⟨gs, k * 6 + 5, none⟩ (.int .i64 (s.r + 1)) := by
  have hl : k < sl.length := (List.getElem?_eq_some_iff.1 hk).1
  have hg : sl.getD k nob = s := by simp [List.getD, hk]
  have hi := is_calls (k : Int) w h hs
  rw [Int.toNat_natCast, hg, decide_eq_true (show 0 < (k : Int) by omega), decide_eq_true (show (k : Int) < sl.length by omega), decide_eq_true hr] at hi
  have HI := Lib.hid hi
  have HR := Lib.hid h
  have HK := Lib.hid hk
  have hs' : (sl.length : Int) ≤ 1000000000 := by omega
  clear h hi hk hg
  go_enter Try.func27, Try.ntmps27
  go_wp2_with (go_at_call 68; go_loud (refine HI.out.mono ?_; rintro e w1 ⟨rfl, hB⟩; have hr1 := HR.out.kept (Fr.of_new (S := fun _ => False) hB) id id (fun _ _ => id); have p0 := blk_cell hr1.obj 0; have q5 : w1.cell? ⟨gs, k * 6 + 5, none⟩ = some (.int .i64 s.r) := hr1.cell k s HK.out 5 (by decide); have z5 := hr1.frozen (k * 6 + 5); have HR1 := Lib.hid hr1; have HB := Lib.hid hB; clear hr1 hB))
  go_ret
  exact ⟨rfl, HR1.out.put k 5 _ s _ HK.out (by decide) rfl, _, HB.out, rfl⟩
end Go.Proofs.Ytnipbfhfaefieaa.Arn
/-! arena: Live, Room, Refs, New, as contracts. -/
namespace Go.Proofs.Ytnipbfhfaefieaa.Arn
open Go.RowKit Go Go.Proofs.YtnipbfhfaefieaaW.PrintWords Go.Proofs.YtnipbfhfaefieaaW.PrintMore Go.Proofs.YtnipbfhfaefieaaW.PrintLast Go.Proofs.Ytnipbfhfaefieaa.Bts Go.Proofs.Ytnipbfhfaefieaa.Fra
theorem load_calls (p : Addr) (x : Int) (w : World) (hp : p.spot = none) (hc : w.cell? p = some (.int .i64 x)) : Calls Try.prog 67 #[.pointer (some p)] w fun e w' => e = .returned (.int .i64 x) ∧ w' = w := by
  obtain ⟨b, o, q⟩ := p
  obtain rfl : q = none := hp
  have hl := run_call_load (P := Try.prog) Try.func94 (by kernel_rfl) (by kernel_rfl) (by kernel_rfl) .i64 (by kernel_rfl) hc
  go_enter Try.func67, Try.ntmps67
  go_wp2
  go_ret
  exact ⟨rfl, rfl⟩
theorem add_calls (p : Addr) (x y : Int) (w : World) (hp : p.spot = none) (hc : w.cell? p = some (.int .i64 x)) (hz : w.frozen? p = false) : Calls Try.prog 66 #[.pointer (some p), .int .i64 y] w fun e w' => e = .returned (.int .i64 (wrap64 (x + y))) ∧ w' = w.setCell p (.int .i64 (wrap64 (x + y))) := by
  obtain ⟨b, o, q⟩ := p
  obtain rfl : q = none := hp
  have hl := run_call_add (P := Try.prog) Try.func93 (by kernel_rfl) (by kernel_rfl) (by kernel_rfl) .i64 (by kernel_rfl) (y := y) (s := wrap64 (x + y)) hc hz (by simp [go_sem, wrap64, IntKind.wrap_i64])
  go_enter Try.func66, Try.ntmps66
  go_wp2
  go_ret
  exact ⟨rfl, rfl⟩
theorem live_nil (w : World) : Calls Try.prog 22 #[.pointer none] w fun e w' => e = .returned (.int .i64 0) ∧ w' = w := by
  go_enter Try.func22, Try.ntmps22
  go_wp2
  go_ret
  exact ⟨rfl, rfl⟩
theorem room_nil (w : World) : Calls Try.prog 25 #[.pointer none] w fun e w' => e = .returned (.int .i64 0) ∧ w' = w := by
  go_enter Try.func25, Try.ntmps25
  go_wp2
  go_ret
  exact ⟨rfl, rfl⟩
section
variable {base a gs cs : Nat} {vf : Value} {sl : List Slot} {fr : List Int} {live most : Int}
theorem live_calls (w : World) (h : RawA w base a gs cs vf sl fr live most) : Calls Try.prog 22 #[.pointer (some ⟨a, 0, none⟩)] w fun e w' => e = .returned (.int .i64 live) ∧ w' = w := by
  have p2 := blk_cell h.obj 2
  have H := Lib.hid h
  clear h
  go_enter Try.func22, Try.ntmps22
  go_wp2_with (go_at_call 67; go_loud (refine (load_calls _ live _ rfl p2).mono ?_; rintro e w1 ⟨rfl, rfl⟩))
  go_ret
  exact ⟨rfl, rfl⟩
theorem room_calls (w : World) (h : RawA w base a gs cs vf sl fr live most) : Calls Try.prog 25 #[.pointer (some ⟨a, 0, none⟩)] w fun e w' => e = .returned (.int .i64 (wrap64 (most - live))) ∧ Below w.heap.size w w' := by
  have p3 := blk_cell h.obj 3
  have hl := fun n => live_calls (w.drewN n) (h.kept (Fr.of_new (S := fun _ => False) (pw_below_drewN (Below.refl _ _) n)) id id (fun _ _ => id))
  have H := Lib.hid h
  clear h
  go_enter Try.func25, Try.ntmps25
  go_wp2
  go_quiet (exact Calls.quiet_of_same (hl _))
  go_wp2
  go_ret
  exact ⟨rfl, pw_below_drewN (Below.refl _ _) _⟩
theorem refs_nil (i : Int) (w : World) : Calls Try.prog 26 #[.pointer none, .int .i64 i] w fun e w' => e = .returned (.int .i64 0) ∧ Below w.heap.size w w' := by
  go_enter Try.func26, Try.ntmps26
  go_wp2_with (go_at_call 68; go_loud (refine (is_nil _ _).mono ?_; rintro e w1 ⟨rfl, hB⟩))
  go_ret
  exact ⟨rfl, hB⟩
theorem keep_nil (i : Int) (w : World) : Calls Try.prog 27 #[.pointer none, .int .i64 i] w fun e w' => e = .returned (.int .i64 4) ∧ Below w.heap.size w w' := by
  go_enter Try.func27, Try.ntmps27
  go_wp2_with (go_at_call 68; go_loud (refine (is_nil _ _).mono ?_; rintro e w1 ⟨rfl, hB⟩))
  go_ret
  exact ⟨rfl, hB⟩
theorem drop_nil (i : Int) (w : World) : Calls Try.prog 23 #[.pointer none, .int .i64 i] w fun e w' => e = .returned (.int .i64 4) ∧ Below w.heap.size w w' := by
  go_enter Try.func23, Try.ntmps23
  go_wp2_with (go_at_call 68; go_loud (refine (is_nil _ _).mono ?_; rintro e w1 ⟨rfl, hB⟩))
  go_ret
  exact ⟨rfl, hB⟩
/-- Is a number a live cell's? -/
def isB (sl : List Slot) (i : Int) : Bool := decide (0 < i) && (decide (i < sl.length) && decide (0 < (sl.getD i.toNat nob).r))
theorem is_raw (i : Int) (w : World) (h : RawA w base a gs cs vf sl fr live most) (hs : sl.length ≤ 1000000000) : Calls Try.prog 68 #[.pointer (some ⟨a, 0, none⟩), .int .i64 i] w fun e w' => e = .returned (.bool (isB sl i)) ∧ Below w.heap.size w w' := is_calls i w h hs
theorem refs_none (i : Int) (w : World) (h : RawA w base a gs cs vf sl fr live most) (hs : sl.length ≤ 1000000000) (hi : isB sl i = false) :
    Calls Try.prog 26 #[.pointer (some ⟨a, 0, none⟩), .int .i64 i] w fun e w' => e = .returned (.int .i64 0) ∧ Below w.heap.size w w' := by
  have HI := Lib.hid (is_raw i w h hs)
  rw [hi] at HI
  clear h hi
  go_enter Try.func26, Try.ntmps26
  go_wp2_with (go_at_call 68; go_loud (refine HI.out.mono ?_; rintro e w1 ⟨rfl, hB⟩))
  go_ret
  exact ⟨rfl, hB⟩
theorem drop_none (i : Int) (w : World) (h : RawA w base a gs cs vf sl fr live most) (hs : sl.length ≤ 1000000000) (hi : isB sl i = false) :
    Calls Try.prog 23 #[.pointer (some ⟨a, 0, none⟩), .int .i64 i] w fun e w' => e = .returned (.int .i64 4) ∧ Below w.heap.size w w' := by
  have HI := Lib.hid (is_raw i w h hs)
  rw [hi] at HI
  clear h hi
  go_enter Try.func23, Try.ntmps23
  go_wp2_with (go_at_call 68; go_loud (refine HI.out.mono ?_; rintro e w1 ⟨rfl, hB⟩))
  go_ret
  exact ⟨rfl, hB⟩
theorem isB_at {k : Nat} {s : Slot} (hk : sl[k]? = some s) (h0 : 0 < k) (hr : 0 < s.r) : isB sl (k : Int) = true := by
  have hl : k < sl.length := (List.getElem?_eq_some_iff.1 hk).1
  have hg : sl.getD k nob = s := by simp [List.getD, hk]
  unfold isB
  rw [Int.toNat_natCast, hg, decide_eq_true (show 0 < (k : Int) by omega), decide_eq_true (show (k : Int) < sl.length by omega), decide_eq_true hr]
  rfl
theorem isB_inv {i : Int} (h : isB sl i = true) : ∃ (k : Nat) (s : Slot), i = k ∧ 0 < k ∧ sl[k]? = some s ∧ 0 < s.r := by
  unfold isB at h
  simp only [Bool.and_eq_true, decide_eq_true_eq] at h
  obtain ⟨h0, h1, h2⟩ := h
  have hl : i.toNat < sl.length := by omega
  refine ⟨i.toNat, sl[i.toNat], by omega, by omega, List.getElem?_eq_getElem hl, ?_⟩
  have : sl.getD i.toNat nob = sl[i.toNat] := by simp [List.getD, hl]
  rw [this] at h2
  exact h2
theorem refs_raw (k : Nat) (s : Slot) (w : World) (h : RawA w base a gs cs vf sl fr live most) (hs : sl.length ≤ 1000000000) (hk : sl[k]? = some s) (h0 : 0 < k) (hr : 0 < s.r) :
    Calls Try.prog 26 #[.pointer (some ⟨a, 0, none⟩), .int .i64 k] w fun e w' => e = .returned (.int .i64 s.r) ∧ Below w.heap.size w w' := by
  have hl : k < sl.length := (List.getElem?_eq_some_iff.1 hk).1
  have hi := is_raw (k : Int) w h hs
  rw [isB_at hk h0 hr] at hi
  have HI := Lib.hid hi
  have HR := Lib.hid h
  have HK := Lib.hid hk
  have hs' : (sl.length : Int) ≤ 1000000000 := by omega
  clear h hi hk
  go_enter Try.func26, Try.ntmps26
  go_wp2_with (go_at_call 68; go_loud (refine HI.out.mono ?_; rintro e w1 ⟨rfl, hB⟩; have hr1 := HR.out.kept (Fr.of_new (S := fun _ => False) hB) id id (fun _ _ => id); have p0 := blk_cell hr1.obj 0; have q5 : w1.cell? ⟨gs, k * 6 + 5, none⟩ = some (.int .i64 s.r) := hr1.cell k s HK.out 5 (by decide); have HR1 := Lib.hid hr1; have HB := Lib.hid hB; clear hr1 hB))
  go_ret
  exact ⟨rfl, HB.out⟩
end
theorem new_err (n : Int) (w : World) (h : ¬ (1 ≤ n ∧ n ≤ 1048576)) : Calls Try.prog 20 #[.int .i64 n] w fun e w' => e = .returned (.tuple #[.pointer none, .int .i64 1]) ∧ Below w.heap.size w w' := by
  by_cases h1 : n < 1
  · go_enter Try.func20, Try.ntmps20
    go_wp2
    go_ret2
    exact ⟨rfl, Below.refl _ _⟩
  · have h2 : 1048576 < n := by omega
    go_enter Try.func20, Try.ntmps20
    go_wp2
    go_ret2
    exact ⟨rfl, Below.refl _ _⟩
end Go.Proofs.Ytnipbfhfaefieaa.Arn
/-! slices.Clone of whole numbers: a new row that reads the same. -/
namespace Go.Proofs.Ytnipbfhfaefieaa.ClI
open Go.RowKit Go Go.Proofs.YtnipbfhfaefieaaW.PrintWords Go.Proofs.YtnipbfhfaefieaaW.PrintMore

theorem infoInt : (Try.prog.info? 3).map (fun i => (i.zero, i.size, i.bytes)) = some (some (.int .i64 0), 1, 8) := by kernel_rfl
/-- A new row of no elements. -/
theorem R_empty (w : World) : (Kd.int .i64).R 3 (w.alloc (.cells #[] 3)) w.heap.size (fun _ => True) (.slice (some ⟨w.heap.size, 0, none⟩) 0 0) [] :=
  ⟨fun _ _ => trivial, [], ⟨rfl, .inr ⟨w.heap.size, 0, #[], rfl, Nat.le_refl _, heap_alloc_new w _, Nat.le_refl _, by unfold maxLen; omega, rfl, rfl⟩⟩, Reps.none _ _⟩
set_option maxHeartbeats 2000000 in
set_option maxRecDepth 100000 in
theorem clone_ints (A : Option Addr) (c : Nat) (xs : List Int) (w : World) (hC : (Kd.int .i64).C w A xs.length xs) (hl : xs.length * 8 ≤ 140737488355328) (hn : A = none → xs = [] ∧ c = 0) :
    Calls Try.prog 75 #[.slice A xs.length c] w fun e w' => ∃ v, e = .returned v ∧ (Kd.int .i64).R 3 w' w.heap.size (fun _ => True) v xs ∧ Below w.heap.size w w' := by
  have eq0 := fun (w : World) (a : Option Addr) (n c : Nat) => Lib.run_eql_slice_nil (P := Try.prog) w 27 3 a n c 0 0 Try.underlying27
  cases A with
  | none =>
    obtain ⟨rfl, rfl⟩ := hn rfl
    go_enter Try.func75, Try.ntmps75
    go_wp2
    go_ret
    exact ⟨_, rfl, Kd.R_nil _ _ _ _ _, Below.refl _ _⟩
  | some ad =>
    have HC := Lib.hid hC
    clear hC hn
    go_enter Try.func75, Try.ntmps75
    go_wp2_with (at_builtin; refine Kd.R_append_rows (Kd.int .i64) (Rr := (Kd.int .i64).K w) (w0 := w) w.heap.size rfl (.tmp 5) (.tmp 6) 27 3 (.int .i64 0) 8 rfl Try.underlying27 infoInt rfl (by decide) (by decide) (.slice (some ⟨w.heap.size, 0, none⟩) 0 0) [] xs (some ad) xs.length c (fun _ => True) (fun k => False) rfl rfl ?r1 ?r2 (fun _ _ h => h) (fun _ h => h.elim) (fun _ _ => trivial) ?r6 ?r7 ?r8 ?_)
    case r1 => exact R_empty w
    case r2 => exact Kd.C_below HC.out (below_alloc (Below.refl _ _) _)
    case r6 => exact below_alloc (Below.refl _ _) _
    case r7 => simp
    case r8 => simp; omega
    intro v1 w1 hR hB _ _
    go_wp2
    go_ret
    exact ⟨_, rfl, hR, hB⟩
end Go.Proofs.Ytnipbfhfaefieaa.ClI
/-! slices.Clone of values: a new row that reads the same. -/
namespace Go.Proofs.Ytnipbfhfaefieaa.ClV
open Go.RowKit Go Go.Proofs.YtnipbfhfaefieaaW.PrintWords Go.Proofs.YtnipbfhfaefieaaW.PrintMore Go.Proofs.Ytnipbfhfaefieaa.Arn

theorem infoVal : (Try.prog.info? 66).map (fun i => (i.zero, i.size, i.bytes)) = some (some (.agg #[.int .u8 0, .int .i64 0, .string (⟨#[]⟩ : ByteArray)]), 3, 32) := by kernel_rfl
/-- A new row of no elements. -/
theorem R_empty (w : World) : kVal.R 66 (w.alloc (.cells #[] 66)) w.heap.size (fun _ => True) (.slice (some ⟨w.heap.size, 0, none⟩) 0 0) [] :=
  ⟨fun _ _ => trivial, [], ⟨rfl, .inr ⟨w.heap.size, 0, #[], rfl, Nat.le_refl _, heap_alloc_new w _, Nat.le_refl _, by unfold maxLen; omega, rfl, rfl⟩⟩, Reps.none _ _⟩
set_option maxHeartbeats 2000000 in
set_option maxRecDepth 100000 in
theorem clone_vals (A : Option Addr) (c : Nat) (xs : List (Int × Int × ByteArray)) (w : World) (hC : kVal.C w A xs.length xs) (hl : xs.length * 32 ≤ 140737488355328) (hn : A = none → xs = [] ∧ c = 0) :
    Calls Try.prog 47 #[.slice A xs.length c] w fun e w' => ∃ v, e = .returned v ∧ kVal.R 66 w' w.heap.size (fun _ => True) v xs ∧ Below w.heap.size w w' := by
  have eq0 := fun (w : World) (a : Option Addr) (n c : Nat) => Lib.run_eql_slice_nil (P := Try.prog) w 41 66 a n c 0 0 Try.underlying41
  cases A with
  | none =>
    obtain ⟨rfl, rfl⟩ := hn rfl
    go_enter Try.func47, Try.ntmps47
    go_wp2
    go_ret
    exact ⟨_, rfl, Kd.R_nil _ _ _ _ _, Below.refl _ _⟩
  | some ad =>
    have HC := Lib.hid hC
    clear hC hn
    go_enter Try.func47, Try.ntmps47
    go_wp2_with (at_builtin; refine Kd.R_append_rows kVal (Rr := kVal.K w) (w0 := w) w.heap.size rfl (.tmp 5) (.tmp 6) 41 66 (.agg #[.int .u8 0, .int .i64 0, .string (⟨#[]⟩ : ByteArray)]) 32 rfl Try.underlying41 infoVal rfl (by decide) (by decide) (.slice (some ⟨w.heap.size, 0, none⟩) 0 0) [] xs (some ad) xs.length c (fun _ => True) (fun k => False) rfl rfl ?r1 ?r2 (fun _ _ h => h) (fun _ h => h.elim) (fun _ _ => trivial) ?r6 ?r7 ?r8 ?_)
    case r1 => exact R_empty w
    case r2 => exact Kd.C_below HC.out (below_alloc (Below.refl _ _) _)
    case r6 => exact below_alloc (Below.refl _ _) _
    case r7 => simp
    case r8 => simp; omega
    intro v1 w1 hR hB _ _
    go_wp2
    go_ret
    exact ⟨_, rfl, hR, hB⟩
end Go.Proofs.Ytnipbfhfaefieaa.ClV
/-! arena: a cell of its own; Get; New. -/
namespace Go.Proofs.Ytnipbfhfaefieaa.Arn
open Go.RowKit Go Go.Proofs.YtnipbfhfaefieaaW.PrintWords Go.Proofs.YtnipbfhfaefieaaW.PrintMore Go.Proofs.YtnipbfhfaefieaaW.PrintLast Go.Proofs.Ytnipbfhfaefieaa.Bts Go.Proofs.Ytnipbfhfaefieaa.Fra
/-- A cell as a value. -/
abbrev cellV (ow a b : Int) (v k : Value) : Value := .agg #[.int .u32 ow, .int .u32 a, .int .u32 b, v, k]
/-- A row that a call has laid. -/
theorem RowIn.of_R {α : Type} {d : Kd α} {W : World} {e base : Nat} {ok : Nat → Prop} {v : Value} {xs : List α} (h : d.R e W base ok v xs) : RowIn d W (fun k => base ≤ k) v xs := by
  obtain ⟨A, c, rfl, hl, hC⟩ := Kd.R_reads h
  obtain ⟨inner, ho⟩ := Kd.R_own h
  refine ⟨A, c, rfl, hl, fun hA => ?_, hC, fun ad hA => ⟨own_base ho ad.block (by rw [hA]; rfl), own_lt ho ad.block (by rw [hA]; rfl)⟩⟩
  rcases ho.2 with ⟨e, _⟩ | ⟨g, cap, cur, e, _⟩
  · injection e
  · injection e with e1
    rw [hA] at e1
    cases e1
theorem RowIn.below {α : Type} {d : Kd α} {W W' : World} {O : Nat → Prop} {v : Value} {xs : List α} (h : RowIn d W O v xs) (hb : Below W.heap.size W W') : RowIn d W' O v xs := by
  obtain ⟨A, c, e, h1, h2, h3, h4⟩ := h
  exact ⟨A, c, e, h1, h2, Kd.C_below h3 hb, fun ad ha => ⟨(h4 ad ha).1, Nat.lt_of_lt_of_le (h4 ad ha).2 hb.size⟩⟩
abbrev CellB (w : World) (b : Nat) (ow a c : Int) (v k : Value) : Prop := w.heap[b]? = some (.cells #[.int .u32 ow, .int .u32 a, .int .u32 c, v, k] 43 (0, 0))
theorem ret5 {g : Nat} {t : TypeId} {a b c d e : Value} {w : World} (h : w.heap[g]? = some (.cells #[a, b, c, d, e] t (0, 0))) (x y z u v : Value) :
    (((((w.setCell ⟨g, 0, none⟩ x).setCell ⟨g, 1, none⟩ y).setCell ⟨g, 2, none⟩ z).setCell ⟨g, 3, none⟩ u).setCell ⟨g, 4, none⟩ v).heap[g]? = some (.cells #[x, y, z, u, v] t (0, 0)) :=
  blk_put (blk_put (blk_put (blk_put (blk_put h 0 x rfl) 1 y rfl) 2 z rfl) 3 u rfl) 4 v rfl
theorem fr5 (w : World) (g : Nat) (x y z u v : Value) : Fr (· = g) w (((((w.setCell ⟨g, 0, none⟩ x).setCell ⟨g, 1, none⟩ y).setCell ⟨g, 2, none⟩ z).setCell ⟨g, 3, none⟩ u).setCell ⟨g, 4, none⟩ v) :=
  Fr.put (S := fun k => k = g) (Fr.put (S := fun k => k = g) (Fr.put (S := fun k => k = g) (Fr.put (S := fun k => k = g) (Fr.put (S := fun k => k = g) (Fr.refl (fun k => k = g) w) (p := ⟨g, 0, none⟩) (.inl rfl) x) (p := ⟨g, 1, none⟩) (.inl rfl) y) (p := ⟨g, 2, none⟩) (.inl rfl) z) (p := ⟨g, 3, none⟩) (.inl rfl) u) (p := ⟨g, 4, none⟩) (.inl rfl) v
/-- Values, and numbers, in a row that a call has laid. -/
abbrev VR (w : World) (base : Nat) (v : Value) (xs : List (Int × Int × ByteArray)) : Prop := kVal.R 66 w base (fun j => base ≤ j) v xs
abbrev KR (w : World) (base : Nat) (v : Value) (xs : List Int) : Prop := (Kd.int .i64).R 3 w base (fun j => base ≤ j) v xs
theorem new1 (w : World) (o1 o2 : Obj) : ((w.alloc o1).alloc o2).heap[w.heap.size + 1]? = some o2 := by
  have h := blk_new (w.alloc o1) o2
  have e : (w.alloc o1).heap.size = w.heap.size + 1 := by simp
  rwa [e] at h
set_option maxHeartbeats 2000000 in
set_option maxRecDepth 100000 in
theorem own_R {O : Nat → Prop} (ow a b : Int) (v k : Value) (vals : List (Int × Int × ByteArray)) (kids : List Int) (w : World) (hv : RowIn kVal w O v vals) (hk : RowIn (Kd.int .i64) w O k kids)
    (hvl : vals.length * 32 ≤ 140737488355328) (hkl : kids.length * 8 ≤ 140737488355328) :
    Calls Try.prog 65 #[cellV ow a b v k] w fun e w' => ∃ v' k', e = .returned (cellV ow a b v' k') ∧ VR w' w.heap.size v' vals ∧ KR w' w.heap.size k' kids ∧ (∀ j, v'.ownBlock = some j → k'.ownBlock ≠ some j) ∧ Below w.heap.size w w' := by
  obtain ⟨A1, c1, rfl, h1, n1, hC1, _⟩ := hv
  obtain ⟨A2, c2, rfl, h2, n2, hC2, _⟩ := hk
  have m1 : A1 = none → vals = [] ∧ c1 = 0 := fun e => by have := n1 e; subst this; exact ⟨List.length_eq_zero_iff.1 (by omega), rfl⟩
  have m2 : A2 = none → kids = [] ∧ c2 = 0 := fun e => by have := n2 e; subst this; exact ⟨List.length_eq_zero_iff.1 (by omega), rfl⟩
  have hB0 : Below w.heap.size w ((w.alloc (.cells #[.int .u32 ow, .int .u32 a, .int .u32 b, .slice A1 vals.length c1, .slice A2 kids.length c2] 43)).alloc (.cells #[.int .u32 0, .int .u32 0, .int .u32 0, .slice none 0 0, .slice none 0 0] 43)).drew := below_drew1 (below_alloc (below_alloc (Below.refl _ _) _) _)
  have hA := blk_drew (blk_alloc (blk_new w (.cells #[.int .u32 ow, .int .u32 a, .int .u32 b, .slice A1 vals.length c1, .slice A2 kids.length c2] 43)) (.cells #[.int .u32 0, .int .u32 0, .int .u32 0, .slice none 0 0, .slice none 0 0] 43))
  have hN := blk_drew (new1 w (.cells #[.int .u32 ow, .int .u32 a, .int .u32 b, .slice A1 vals.length c1, .slice A2 kids.length c2] 43) (.cells #[.int .u32 0, .int .u32 0, .int .u32 0, .slice none 0 0, .slice none 0 0] 43))
  have p3 := blk_cell hA 3
  have p4 := blk_cell hA 4
  have HB0 := Lib.hid hB0
  have HA := Lib.hid hA
  have HN := Lib.hid hN
  have HC1 := Lib.hid (Kd.C_below hC1 hB0)
  have HC2 := Lib.hid (Kd.C_below hC2 hB0)
  clear hC1 hC2 hA hB0 hN h1 h2 n1 n2
  go_enter Try.func65, Try.ntmps65
  go_wp2
  refine start_ (n := 10) (S := fun w' => w'.cell? ⟨w.heap.size, 3, none⟩ = some (.slice A1 vals.length c1) ∧ w'.cell? ⟨w.heap.size, 4, none⟩ = some (.slice A2 kids.length c2)) (ds := [7, 9]) #[false, false, false, false, false, false, false, false, false, false] (by kernel_rfl) rfl rfl ⟨p3, p4⟩ (fun hHeld => ?_)
  refine pure_ (i := 0) (N := some 3) (v := ?_) (a' := ?_) #[true, false, false, false, false, false, false, false, false, false] rfl rfl (by kernel_rfl) (fun _ _ _ h => h) (Or.inl ⟨by rfl, ?_⟩) ?_ ?_
  rotate_left
  · intro w'
    go_simp
    with_reducible rfl
  rotate_left
  · simp only [Act.put, List.setIfInBounds_toArray, List.set_cons_zero, List.set_cons_succ, i64_w, i32_w]
    rfl
  refine pure_ (i := 3) (N := some 6) (v := ?_) (a' := ?_) #[true, false, false, true, false, false, false, false, false, false] rfl rfl (by kernel_rfl) (fun _ _ _ h => h) (Or.inl ⟨by rfl, ?_⟩) ?_ ?_
  rotate_left
  · intro w'
    go_simp
    with_reducible rfl
  rotate_left
  · simp only [Act.put, List.setIfInBounds_toArray, List.set_cons_zero, List.set_cons_succ, i64_w, i32_w]
    rfl
  refine take_ (i := 1) (N := some 4) (v := ?_) (a' := ?_) #[true, true, false, true, false, false, false, false, false, false] rfl rfl (by kernel_rfl) (fun _ _ _ h => h) (Or.inl ⟨by rfl, ?_⟩) hHeld ?_ ?_
  rotate_left
  · rintro w' ⟨s0, s1⟩
    go_simp
    with_reducible rfl
  rotate_left
  · simp only [Act.put, List.setIfInBounds_toArray, List.set_cons_zero, List.set_cons_succ, i64_w, i32_w]
    rfl
  refine take_ (i := 4) (N := some 7) (v := ?_) (a' := ?_) #[true, true, false, true, true, false, false, false, false, false] rfl rfl (by kernel_rfl) (fun _ _ _ h => h) (Or.inl ⟨by rfl, ?_⟩) hHeld ?_ ?_
  rotate_left
  · rintro w' ⟨s0, s1⟩
    go_simp
    with_reducible rfl
  rotate_left
  · simp only [Act.put, List.setIfInBounds_toArray, List.set_cons_zero, List.set_cons_succ, i64_w, i32_w]
    rfl
  refine one_ (i := 2) (N := some 5) #[true, true, true, true, true, false, false, false, false, false] rfl rfl (by kernel_rfl) (by decide) (fun K hK => ?_)
  refine goes_ Try.func47 (by kernel_rfl) rfl #[.slice A1 vals.length c1] (by rfl) rfl rfl (by simp only [List.map_toArray, List.map_cons, List.map_nil]; rfl) ?_
  with_reducible refine (ClV.clone_vals A1 c1 vals _ HC1.out hvl m1).mono ?_
  rintro e w1 ⟨v1, rfl, hR1, hB1⟩
  refine ⟨_, rfl, ?_⟩
  obtain ⟨A3, c3, rfl⟩ := Kd.R_slice hR1
  refine hK.out _ _ ⟨(blk_cell (blk_below HA.out hB1) 3), (blk_cell (blk_below HA.out hB1) 4)⟩ (fun hHeld => ?_)
  clear hK K
  refine norm_ (a' := ?_) ?_ ?_
  rotate_left
  · show Act.put _ (some 5) _ = _
    simp only [Act.put, List.setIfInBounds_toArray, List.set_cons_zero, List.set_cons_succ, i64_w, i32_w]
    rfl
  refine pure_ (i := 6) (N := some 9) (v := ?_) (a' := ?_) #[true, true, true, true, true, false, true, false, false, false] rfl rfl (by kernel_rfl) (fun _ _ _ h => h) (Or.inl ⟨by rfl, ?_⟩) ?_ ?_
  rotate_left
  · intro w'
    go_simp
    with_reducible rfl
  rotate_left
  · simp only [Act.put, List.setIfInBounds_toArray, List.set_cons_zero, List.set_cons_succ, i64_w, i32_w]
    rfl
  refine one_ (i := 5) (N := some 8) #[true, true, true, true, true, true, true, false, false, false] rfl rfl (by kernel_rfl) (by decide) (fun K hK => ?_)
  refine goes_ Try.func75 (by kernel_rfl) rfl #[.slice A2 kids.length c2] (by rfl) rfl rfl (by simp only [List.map_toArray, List.map_cons, List.map_nil]; rfl) ?_
  with_reducible refine (ClI.clone_ints A2 c2 kids _ (Kd.C_below HC2.out hB1) hkl m2).mono ?_
  rintro e w2 ⟨v2, rfl, hR2, hB2⟩
  refine ⟨_, rfl, ?_⟩
  obtain ⟨A4, c4, rfl⟩ := Kd.R_slice hR2
  have hA2 := blk_below (blk_below HA.out hB1) hB2
  have f3 := blk_frozen hA2 3
  have f4 := blk_frozen hA2 4
  have g3 := blk_cell hA2 3
  have g4 := blk_cell hA2 4
  refine hK.out _ _ ⟨(blk_cell (blk_below (blk_below HA.out hB1) hB2) 3), (blk_cell (blk_below (blk_below HA.out hB1) hB2) 4)⟩ (fun hHeld => ?_)
  clear hK K
  refine norm_ (a' := ?_) ?_ ?_
  rotate_left
  · show Act.put _ (some 8) _ = _
    simp only [Act.put, List.setIfInBounds_toArray, List.set_cons_zero, List.set_cons_succ, i64_w, i32_w]
    rfl
  refine last_ (i := 7) (N := none) #[true, true, true, true, true, true, true, true, false, false] rfl rfl (by kernel_rfl) (by decide) (fun K hK => ?_)
  refine skip_ (w1 := ?_) (by rfl) rfl ?_ ?_
  rotate_left
  · go_simp
    rfl
  refine hK.out _ _ ?_
  clear hK K
  refine pure_ (i := 8) (N := some 10) (v := ?_) (a' := ?_) #[true, true, true, true, true, true, true, true, true, false] rfl rfl (by kernel_rfl) (fun _ _ _ h => h) (Or.inl ⟨by rfl, ?_⟩) ?_ ?_
  rotate_left
  · intro w'
    go_simp
    with_reducible rfl
  rotate_left
  · simp only [Act.put, List.setIfInBounds_toArray, List.set_cons_zero, List.set_cons_succ, i64_w, i32_w]
    rfl
  refine last_ (i := 9) (N := none) #[true, true, true, true, true, true, true, true, true, true] rfl rfl (by kernel_rfl) (by decide) (fun K hK => ?_)
  refine skip_ (w1 := ?_) (by rfl) rfl ?_ ?_
  rotate_left
  · go_simp
    rfl
  refine hK.out _ _ ?_
  clear hK K
  refine done_ (by kernel_rfl) ?_

  have hne : ¬ w.heap.size + 1 = w.heap.size := by omega
  have hA4 := blk_put (blk_put hA2 3 (.slice A3 vals.length c3) rfl) 4 (.slice A4 kids.length c4) rfl
  have hN4 := blk_far (blk_far (blk_below (blk_below HN.out hB1) hB2) (p := ⟨w.heap.size, 3, none⟩) hne (.slice A3 vals.length c3)) (p := ⟨w.heap.size, 4, none⟩) hne (.slice A4 kids.length c4)
  have q0 := blk_cell hA4 0
  have q1 := blk_cell hA4 1
  have q2 := blk_cell hA4 2
  have q3 := blk_cell hA4 3
  have q4 := blk_cell hA4 4
  have r0 := blk_cell hN4 0
  have r1 := blk_cell hN4 1
  have r2 := blk_cell hN4 2
  have r3 := blk_cell hN4 3
  have r4 := blk_cell hN4 4
  have z0 := blk_frozen hN4 0
  have z1 := blk_frozen hN4 1
  have z2 := blk_frozen hN4 2
  have z3 := blk_frozen hN4 3
  have z4 := blk_frozen hN4 4
  have HN4 := Lib.hid hN4
  have HB1 := Lib.hid hB1
  have HB2 := Lib.hid hB2
  have HR1 := Lib.hid hR1
  have HR2 := Lib.hid hR2
  clear hHeld hA2 hN4 hA4 f3 f4 g3 g4 p3 p4 hB1 hB2 hR1 hR2 hne
  go_wp2
  refine bodyPost_ret (results_cell_row rfl _ _ (w.heap.size + 1) 43 #[.int .u32 ow, .int .u32 a, .int .u32 b, .slice A3 vals.length c3, .slice A4 kids.length c4] (0, 0) _ rfl (ret5 HN4.out _ _ _ _ _) Try.underlying43 rfl (by kernel_rfl)) rfl ?_
  have hs : w.heap.size + 2 ≤ w2.heap.size := by
    have h1 := HB1.out.size
    have h2 := HB2.out.size
    simp at h1
    omega
  have hF : Fr (fun j => j = w.heap.size ∨ j = w.heap.size + 1) w2 _ := Fr.then_ (Fr.put (S := fun j => j = w.heap.size ∨ j = w.heap.size + 1) (Fr.put (S := fun j => j = w.heap.size ∨ j = w.heap.size + 1) (Fr.refl _ w2) (p := ⟨w.heap.size, 3, none⟩) (.inl (.inl rfl)) (.slice A3 vals.length c3)) (p := ⟨w.heap.size, 4, none⟩) (.inl (.inl rfl)) (.slice A4 kids.length c4)) (fr5 _ (w.heap.size + 1) (.int .u32 ow) (.int .u32 a) (.int .u32 b) (.slice A3 vals.length c3) (.slice A4 kids.length c4)) (fun j hj => .inl (.inr hj))
  have hsz : ((w.alloc (.cells #[.int .u32 ow, .int .u32 a, .int .u32 b, .slice A1 vals.length c1, .slice A2 kids.length c2] 43)).alloc (.cells #[.int .u32 0, .int .u32 0, .int .u32 0, .slice none 0 0, .slice none 0 0] 43)).drew.heap.size = w.heap.size + 2 := by simp
  have hs1 := HB1.out.size
  rw [hsz] at hs1
  have b1 : ∀ j, (Value.slice A3 vals.length c3).ownBlock = some j → w.heap.size + 2 ≤ j ∧ j < w1.heap.size := fun j hj => by
    obtain ⟨inner, ho⟩ := Kd.R_own HR1.out
    have := own_base ho j hj
    rw [hsz] at this
    exact ⟨this, own_lt ho j hj⟩
  have b2 : ∀ j, (Value.slice A4 kids.length c4).ownBlock = some j → w1.heap.size ≤ j := fun j hj => by
    obtain ⟨inner, ho⟩ := Kd.R_own HR2.out
    exact own_base ho j hj
  have i1 := Kd.R_reok (ok := fun j => w.heap.size + 2 ≤ j) rfl (Kd.R_below HR1.out HB2.out) (fun j hj => (b1 j hj).1)
  have i2 := Kd.R_reok (ok := fun j => w.heap.size + 2 ≤ j) rfl HR2.out (fun j hj => by have := b2 j hj; omega)
  refine ⟨_, _, rfl, ?_, ?_, fun j hj hj2 => by have := b1 j hj; have := b2 j hj2; omega, ?_⟩
  · exact Kd.R_lower (Kd.R_mono (Kd.R_kept i1 hF.kept (fun j hj e => by omega)) (fun j hj => by omega)) (by rw [hsz]; omega)
  · exact Kd.R_lower (Kd.R_mono (Kd.R_kept i2 hF.kept (fun j hj e => by omega)) (fun j hj => by omega)) (by omega)
  · exact Fr.below (S := fun j => j = w.heap.size ∨ j = w.heap.size + 1) (Fr.then_ (Fr.more (Fr.of_new HB0.out) HB1.out |>.more HB2.out) hF (fun j hj => .inl hj)) (fun j hj => by omega) (Nat.le_refl _)
theorem own_calls {O : Nat → Prop} (ow a b : Int) (v k : Value) (vals : List (Int × Int × ByteArray)) (kids : List Int) (w : World) (hv : RowIn kVal w O v vals) (hk : RowIn (Kd.int .i64) w O k kids)
    (hvl : vals.length * 32 ≤ 140737488355328) (hkl : kids.length * 8 ≤ 140737488355328) :
    Calls Try.prog 65 #[cellV ow a b v k] w fun e w' => ∃ v' k', e = .returned (cellV ow a b v' k') ∧ RowIn kVal w' (fun j => w.heap.size ≤ j) v' vals ∧ RowIn (Kd.int .i64) w' (fun j => w.heap.size ≤ j) k' kids ∧ Below w.heap.size w w' :=
  (own_R ow a b v k vals kids w hv hk hvl hkl).mono fun _ _ ⟨v', k', h1, h2, h3, _, h5⟩ => ⟨v', k', h1, RowIn.of_R h2, RowIn.of_R h3, h5⟩
abbrev zeroCell : Value := cellV 0 0 0 (.slice none 0 0) (.slice none 0 0)
abbrev zeroBlk : Obj := .cells #[.int .u32 0, .int .u32 0, .int .u32 0, .slice none 0 0, .slice none 0 0] 43
theorem get_nil (i : Int) (w : World) : Calls Try.prog 24 #[.pointer none, .int .i64 i] w fun e w' => e = .returned (.tuple #[zeroCell, .bool false]) ∧ Below w.heap.size w w' := by
  have HI := Lib.hid (is_nil i (w.alloc zeroBlk))
  go_enter Try.func24, Try.ntmps24
  go_wp2_with (go_at_call 68; go_loud (refine HI.out.mono ?_; rintro e w1 ⟨rfl, hB⟩; have hN := blk_below (blk_new w zeroBlk) hB; have r0 := blk_cell hN 0; have r1 := blk_cell hN 1; have r2 := blk_cell hN 2; have r3 := blk_cell hN 3; have r4 := blk_cell hN 4; have z0 := blk_frozen hN 0; have z1 := blk_frozen hN 1; have z2 := blk_frozen hN 2; have z3 := blk_frozen hN 3; have z4 := blk_frozen hN 4; have HN := Lib.hid hN; have HB := Lib.hid hB; clear hN hB))
  refine bodyPost_ret (results_ct rfl _ _ w.heap.size 43 #[.int .u32 0, .int .u32 0, .int .u32 0, .slice none 0 0, .slice none 0 0] (0, 0) _ rfl (ret5 HN.out _ _ _ _ _) Try.underlying43 rfl (by kernel_rfl)) rfl ?_
  exact ⟨rfl, Fr.below (S := fun j => j = w.heap.size) (Fr.then_ (Fr.more (Fr.of_new (below_alloc (Below.refl _ _) zeroBlk)) HB.out) (fr5 w1 w.heap.size _ _ _ _ _) (fun j hj => .inl hj)) (fun j hj => by omega) (Nat.le_refl _)⟩
section
variable {base a gs cs : Nat} {vf : Value} {sl : List Slot} {fr : List Int} {live most : Int}
theorem Raw.below {w w' : World} (h : RawA w base a gs cs vf sl fr live most) (hb : Below w.heap.size w w') : RawA w' base a gs cs vf sl fr live most := h.kept (Fr.of_new (S := fun _ => False) hb) id id (fun _ _ => id)
theorem get_none (i : Int) (w : World) (h : RawA w base a gs cs vf sl fr live most) (hs : sl.length ≤ 1000000000) (hi : isB sl i = false) :
    Calls Try.prog 24 #[.pointer (some ⟨a, 0, none⟩), .int .i64 i] w fun e w' => e = .returned (.tuple #[zeroCell, .bool false]) ∧ Below w.heap.size w w' := by
  have HI := Lib.hid (is_raw i (w.alloc zeroBlk) (Raw.below h (below_alloc (Below.refl _ _) _)) hs)
  rw [hi] at HI
  go_enter Try.func24, Try.ntmps24
  go_wp2_with (go_at_call 68; go_loud (refine HI.out.mono ?_; rintro e w1 ⟨rfl, hB⟩; have hN := blk_below (blk_new w zeroBlk) hB; have r0 := blk_cell hN 0; have r1 := blk_cell hN 1; have r2 := blk_cell hN 2; have r3 := blk_cell hN 3; have r4 := blk_cell hN 4; have z0 := blk_frozen hN 0; have z1 := blk_frozen hN 1; have z2 := blk_frozen hN 2; have z3 := blk_frozen hN 3; have z4 := blk_frozen hN 4; have HN := Lib.hid hN; have HB := Lib.hid hB; clear hN hB))
  refine bodyPost_ret (results_ct rfl _ _ w.heap.size 43 #[.int .u32 0, .int .u32 0, .int .u32 0, .slice none 0 0, .slice none 0 0] (0, 0) _ rfl (ret5 HN.out _ _ _ _ _) Try.underlying43 rfl (by kernel_rfl)) rfl ?_
  exact ⟨rfl, Fr.below (S := fun j => j = w.heap.size) (Fr.then_ (Fr.more (Fr.of_new (below_alloc (Below.refl _ _) zeroBlk)) HB.out) (fr5 w1 w.heap.size _ _ _ _ _) (fun j hj => .inl hj)) (fun j hj => by omega) (Nat.le_refl _)⟩
set_option maxHeartbeats 2000000 in
theorem get_R {V : Nat → Prop} (k : Nat) (s : Slot) (vals : List (Int × Int × ByteArray)) (kids : List Int) (w : World) (h : RawA w base a gs cs vf sl fr live most) (hs : sl.length ≤ 1000000000) (hk : sl[k]? = some s) (h0 : 0 < k) (hr : 0 < s.r)
    (hv : RowIn kVal w V s.v vals) (hkk : RowIn (Kd.int .i64) w V s.k kids) (hvl : vals.length * 32 ≤ 140737488355328) (hkl : kids.length * 8 ≤ 140737488355328) :
    Calls Try.prog 24 #[.pointer (some ⟨a, 0, none⟩), .int .i64 k] w fun e w' => ∃ v' k', e = .returned (.tuple #[cellV s.ow s.a s.b v' k', .bool true]) ∧ VR w' w.heap.size v' vals ∧ KR w' w.heap.size k' kids ∧ (∀ j, v'.ownBlock = some j → k'.ownBlock ≠ some j) ∧ Below w.heap.size w w' := by
  have hl : k < sl.length := (List.getElem?_eq_some_iff.1 hk).1
  have hi := is_raw (k : Int) (w.alloc zeroBlk) (Raw.below h (below_alloc (Below.refl _ _) _)) hs
  rw [isB_at hk h0 hr] at hi
  have HI := Lib.hid hi
  have HR := Lib.hid h
  have HK := Lib.hid hk
  have HV := Lib.hid hv
  have HKK := Lib.hid hkk
  have hs' : (sl.length : Int) ≤ 1000000000 := by omega
  clear h hi hk hv hkk
  obtain ⟨so, sa, sb, sv, sk, sr⟩ := s
  obtain ⟨A1, c1, e1, _⟩ := HV.out
  obtain ⟨A2, c2, e2, _⟩ := HKK.out
  have e1 : sv = .slice A1 vals.length c1 := e1
  have e2 : sk = .slice A2 kids.length c2 := e2
  subst e1 e2
  go_enter Try.func24, Try.ntmps24
  go_wp2_with (first
    | (go_at_call 65; go_loud (refine (own_R (O := V) so sa sb (.slice A1 vals.length c1) (.slice A2 kids.length c2) vals kids _ (HV1.out) (HKK1.out) hvl hkl).mono ?_; rintro e w2 ⟨v', k', rfl, hv2, hk2, hd2, hB2⟩; obtain ⟨A3, c3, e3⟩ := Kd.R_slice hv2; subst e3; obtain ⟨A4, c4, e4⟩ := Kd.R_slice hk2; subst e4; have HD2 := Lib.hid hd2; clear hd2; have hN := blk_below HN1.out hB2; have r0 := blk_cell hN 0; have r1 := blk_cell hN 1; have r2 := blk_cell hN 2; have r3 := blk_cell hN 3; have r4 := blk_cell hN 4; have z0 := blk_frozen hN 0; have z1 := blk_frozen hN 1; have z2 := blk_frozen hN 2; have z3 := blk_frozen hN 3; have z4 := blk_frozen hN 4; have HN2 := Lib.hid hN; have HB2 := Lib.hid hB2; have HV2 := Lib.hid hv2; have HK2 := Lib.hid hk2; clear hN hB2 hv2 hk2))
    | (go_at_call 68; go_loud (refine HI.out.mono ?_; rintro e w1 ⟨rfl, hB⟩; have hb1 := below_step (below_alloc (Below.refl w.heap.size w) zeroBlk) hB; have hr1 := Raw.below HR.out hb1; have p0 := blk_cell hr1.obj 0; have q0 : w1.cell? ⟨gs, k * 6, none⟩ = some (.int .u32 so) := hr1.cell k _ HK.out 0 (by decide); have q1 : w1.cell? ⟨gs, k * 6 + 1, none⟩ = some (.int .u32 sa) := hr1.cell k _ HK.out 1 (by decide); have q2 : w1.cell? ⟨gs, k * 6 + 2, none⟩ = some (.int .u32 sb) := hr1.cell k _ HK.out 2 (by decide); have q3 : w1.cell? ⟨gs, k * 6 + 3, none⟩ = some (.slice A1 vals.length c1) := hr1.cell k _ HK.out 3 (by decide); have q4 : w1.cell? ⟨gs, k * 6 + 4, none⟩ = some (.slice A2 kids.length c2) := hr1.cell k _ HK.out 4 (by decide); have HN1 := Lib.hid (blk_below (blk_new w zeroBlk) hB); have HV1 := Lib.hid (HV.out.below hb1); have HKK1 := Lib.hid (HKK.out.below hb1); have HB := Lib.hid hb1; clear hr1 hB hb1)))
  refine bodyPost_ret (results_ct rfl _ _ w.heap.size 43 #[.int .u32 so, .int .u32 sa, .int .u32 sb, .slice A3 vals.length c3, .slice A4 kids.length c4] (0, 0) _ rfl (ret5 HN2.out _ _ _ _ _) Try.underlying43 rfl (by kernel_rfl)) rfl ?_
  have hf := fr5 w2 w.heap.size (.int .u32 so) (.int .u32 sa) (.int .u32 sb) (.slice A3 vals.length c3) (.slice A4 kids.length c4)
  have hz : w.heap.size < w1.heap.size := blk_lt HN1.out
  refine ⟨_, _, rfl, Kd.R_lower (Kd.R_mono (Kd.R_kept HV2.out hf.kept (fun j hj e => by omega)) (fun j hj => by omega)) (by omega), Kd.R_lower (Kd.R_mono (Kd.R_kept HK2.out hf.kept (fun j hj e => by omega)) (fun j hj => by omega)) (by omega), HD2.out, ?_⟩
  exact Fr.below (S := fun j => j = w.heap.size) (Fr.then_ (Fr.more (Fr.of_new HB.out) HB2.out) hf (fun j hj => .inl hj)) (fun j hj => by omega) (Nat.le_refl _)
theorem get_raw {V : Nat → Prop} (k : Nat) (s : Slot) (vals : List (Int × Int × ByteArray)) (kids : List Int) (w : World) (h : RawA w base a gs cs vf sl fr live most) (hs : sl.length ≤ 1000000000) (hk : sl[k]? = some s) (h0 : 0 < k) (hr : 0 < s.r)
    (hv : RowIn kVal w V s.v vals) (hkk : RowIn (Kd.int .i64) w V s.k kids) (hvl : vals.length * 32 ≤ 140737488355328) (hkl : kids.length * 8 ≤ 140737488355328) :
    Calls Try.prog 24 #[.pointer (some ⟨a, 0, none⟩), .int .i64 k] w fun e w' => ∃ v' k', e = .returned (.tuple #[cellV s.ow s.a s.b v' k', .bool true]) ∧ RowIn kVal w' (fun j => w.heap.size ≤ j) v' vals ∧ RowIn (Kd.int .i64) w' (fun j => w.heap.size ≤ j) k' kids ∧ Below w.heap.size w w' :=
  (get_R k s vals kids w h hs hk h0 hr hv hkk hvl hkl).mono fun _ _ ⟨v', k', h1, h2, h3, _, h5⟩ => ⟨v', k', h1, RowIn.of_R h2, RowIn.of_R h3, h5⟩
end
end Go.Proofs.Ytnipbfhfaefieaa.Arn
/-! arena: New; whether a cell's others are there. -/
namespace Go.Proofs.Ytnipbfhfaefieaa.Arn
open Go.RowKit Go Go.Proofs.YtnipbfhfaefieaaW.PrintWords Go.Proofs.YtnipbfhfaefieaaW.PrintMore Go.Proofs.YtnipbfhfaefieaaW.PrintLast Go.Proofs.Ytnipbfhfaefieaa.Bts Go.Proofs.Ytnipbfhfaefieaa.Fra
theorem infoSlot : (Try.prog.info? 115).map (fun i => (i.zero, i.size, i.bytes)) = some (some (.agg #[.int .u32 0, .int .u32 0, .int .u32 0, .slice none 0 0, .slice none 0 0, .int .i64 0]), 6, 72) := by kernel_rfl
theorem flat_nob : flat [nob] = [.int .u32 0, .int .u32 0, .int .u32 0, .slice none 0 0, .slice none 0 0, .int .i64 0] := rfl
set_option maxHeartbeats 1000000 in
set_option maxRecDepth 100000 in
theorem new_ok (n : Int) (w : World) (h1 : 1 ≤ n) (h2 : n ≤ 1048576) : Calls Try.prog 20 #[.int .i64 n] w fun e w' => ∃ a gs, e = .returned (.tuple #[.pointer (some ⟨a, 0, none⟩), .int .i64 0]) ∧ RawA w' w.heap.size a gs 1 (.slice none 0 0) [nob] [] 0 n ∧ Below w.heap.size w w' := by
  obtain ⟨i0, hi, hi0, hi1, hi2⟩ := info_parts infoSlot
  go_enter Try.func20, Try.ntmps20
  go_wp2_with (at_make; go_loud (refine wpList_make_full _ rfl _ _ 105 rfl w.heap.size 115 i0 _ 6 Try.underlying105 hi hi0 hi1 .i64 .i64 1 1 1 rfl rfl rfl rfl (by omega) (by unfold maxLen; omega) (Nat.le_refl _) ?_; intro w1 hown hg; have hB := (Below.refl w.heap.size w).grown hg (Nat.le_refl _) (fun k hk => by cases hk); have HO := Lib.hid hown; have HB := Lib.hid hB; clear hown hg hB))
  go_ret2
  have hlt : w.heap.size < w1.heap.size := own_lt HO.out w.heap.size rfl
  refine ⟨w1.heap.size, w.heap.size, rfl, ⟨blk_new w1 _, ?_, World.ownsRow_nil _ _ _ _, ?_, ?_, ?_, ?_⟩, below_alloc HB.out _⟩
  · have e : (madeCells (Value.agg #[.int .u32 0, .int .u32 0, .int .u32 0, .slice none 0 0, .slice none 0 0, .int .i64 0]).cells (1 * 6)).toList = flat [nob] := by kernel_rfl
    have hO := HO.out
    rw [e] at hO
    exact own_fr (S := fun _ => False) hO (Fr.alloc _) (fun _ _ h => h)
  · omega
  · intro k hk; cases hk
  · exact HB.out.size
  · exact Nat.le_refl _
/-- The first of some numbers that is not 0, and no cell's. -/
def badAt (sl : List Slot) : List Int → Bool
  | [] => false
  | x :: l => (x != 0 && !isB sl x) || badAt sl l
theorem badAt_app (sl : List Slot) (l m : List Int) : badAt sl (l ++ m) = (badAt sl l || badAt sl m) := by
  induction l with
  | nil => rfl
  | cons x l ih => show (_ || badAt sl (l ++ m)) = ((_ || badAt sl l) || badAt sl m); rw [ih, Bool.or_assoc]
section
variable {base a gs cs : Nat} {vf : Value} {sl : List Slot} {fr : List Int} {live most : Int}
theorem bad_calls (b : Nat) (x : Int) (w : World) (h : RawA w base a gs cs vf sl fr live most) (hs : sl.length ≤ 1000000000) (hb : w.cell? ⟨b, 0, none⟩ = some (.pointer (some ⟨a, 0, none⟩))) :
    Calls Try.prog 92 #[.int .i64 x, .pointer (some ⟨b, 0, none⟩)] w fun e w' => e = .returned (.bool (x != 0 && !isB sl x)) ∧ Below w.heap.size w w' := by
  by_cases hx : x = 0
  · subst hx
    go_enter Try.func92, Try.ntmps92
    go_wp2
    go_ret
    exact ⟨rfl, Below.refl _ _⟩
  · have HI := Lib.hid (is_raw x w h hs)
    have hx' : (x == 0) = false := by simpa using hx
    go_enter Try.func92, Try.ntmps92
    go_wp2_with (go_at_call 68; go_loud (refine HI.out.mono ?_; rintro e w1 ⟨rfl, hB⟩))
    go_ret
    exact ⟨rfl, hB⟩
set_option maxHeartbeats 2000000 in
theorem index_calls (A : Option Addr) (c b : Nat) (l : List Int) (w : World) (h : RawA w base a gs cs vf sl fr live most) (hs : sl.length ≤ 1000000000) (hb : w.cell? ⟨b, 0, none⟩ = some (.pointer (some ⟨a, 0, none⟩)))
    (hC : (Kd.int .i64).C w A l.length l) (hl : l.length ≤ 1000000000) :
    Calls Try.prog 102 #[.slice A l.length c, .func (.func 92) #[] #[.pointer (some ⟨b, 0, none⟩)]] w fun e w' => ∃ i : Int, e = .returned (.int .i64 i) ∧ decide (0 ≤ i) = badAt sl l ∧ Below w.heap.size w w' := by
  have HR := Lib.hid h
  have HBC := Lib.hid hb
  have HC := Lib.hid hC
  have hli : (l.length : Int) ≤ 1000000000 := by omega
  clear h hb hC
  go_enter Try.func102, Try.ntmps102
  go_wp2
  go_loopw [8] (fun i wr => ∃ j : Nat, i = .int .i64 j ∧ j ≤ l.length ∧ badAt sl (l.take j) = false ∧ Below w.heap.size w wr) (fun i _ => l.length - (intOf i).toNat)
  case atStart => exact ⟨0, rfl, Nat.zero_le _, rfl, Below.refl _ _⟩
  case round =>
    obtain ⟨j, rfl, hj, hbad, hB⟩ := hrel
    have HB := Lib.hid hB
    have HBAD := Lib.hid hbad
    clear hB hbad
    by_cases hjl : j < l.length
    · obtain ⟨x, hx⟩ : ∃ x, rd l (j : Int) = x := ⟨_, rfl⟩
      obtain ⟨ad, rfl, hc⟩ := Kd.at_int (Kd.C_below HC.out HB.out) (j : Int) (by omega) (by omega)
      rw [hx] at hc
      rw [Int.toNat_natCast] at hc
      have HX := Lib.hid hx
      have hb1 := pw_cell_below HB.out HBC.out
      have HK := Lib.hid (bad_calls b x wr (Raw.below HR.out HB.out) hs hb1)
      have hjl' : (j : Int) < (l.length : Int) := by omega
      clear hb1 hx
      have htk : badAt sl (l.take (j + 1)) = (x != 0 && !isB sl x) := by
        rw [List.take_succ_eq_append_getElem hjl, badAt_app, HBAD.out, Bool.false_or]
        have : l[j] = x := by rw [← HX.out]; simp [rd, List.getD, hjl]
        rw [this]
        show (_ || false) = _
        rw [Bool.or_false]
      cases hv : (x != 0 && !isB sl x)
      · rw [hv] at HK htk
        have HT := Lib.hid htk
        clear htk hv
        go_wp2_with (go_at_call 92; go_loud (refine HK.out.mono ?_; rintro e w1 ⟨rfl, hB1⟩))
        go_roundw
        case rel => exact ⟨j + 1, by simp, by omega, HT.out, below_step HB.out hB1⟩
        case measure => simp [intOf]; omega
      · rw [hv] at HK htk
        have HT := Lib.hid htk
        clear htk hv
        go_wp2_with (go_at_call 92; go_loud (refine HK.out.mono ?_; rintro e w1 ⟨rfl, hB1⟩))
        go_ret
        refine ⟨_, rfl, ?_, below_step HB.out hB1⟩
        have e2 : badAt sl l = (badAt sl (l.take (j + 1)) || badAt sl (l.drop (j + 1))) := by rw [← badAt_app, List.take_append_drop]
        rw [e2, HT.out]
        simp
    · have hjl' : ¬ (j : Int) < (l.length : Int) := by omega
      go_wp2
      go_ret
      refine ⟨_, rfl, ?_, HB.out⟩
      have e1 : l.take j = l := List.take_of_length_le (by omega)
      rw [← e1, HBAD.out]
      rfl
theorem contains_calls (A : Option Addr) (c b : Nat) (l : List Int) (w : World) (h : RawA w base a gs cs vf sl fr live most) (hs : sl.length ≤ 1000000000) (hb : w.cell? ⟨b, 0, none⟩ = some (.pointer (some ⟨a, 0, none⟩)))
    (hC : (Kd.int .i64).C w A l.length l) (hl : l.length ≤ 1000000000) :
    Calls Try.prog 91 #[.slice A l.length c, .func (.func 92) #[] #[.pointer (some ⟨b, 0, none⟩)]] w fun e w' => e = .returned (.bool (badAt sl l)) ∧ Below w.heap.size w w' := by
  have HI := Lib.hid (index_calls A c b l w h hs hb hC hl)
  clear h hb hC
  go_enter Try.func91, Try.ntmps91
  go_wp2_with (go_at_call 102; go_loud (refine HI.out.mono ?_; rintro e w1 ⟨i, rfl, hi, hB⟩))
  go_ret
  rw [← hi]
  exact ⟨rfl, hB⟩
end
end Go.Proofs.Ytnipbfhfaefieaa.Arn
/-! arena: whether a cell's others are there; Make of what can't be. -/
namespace Go.Proofs.Ytnipbfhfaefieaa.Arn
open Go.RowKit Go Go.Proofs.YtnipbfhfaefieaaW.PrintWords Go.Proofs.YtnipbfhfaefieaaW.PrintMore Go.Proofs.YtnipbfhfaefieaaW.PrintLast Go.Proofs.Ytnipbfhfaefieaa.Bts Go.Proofs.Ytnipbfhfaefieaa.Fra
theorem right_nil (c : Value) (ow x y : Int) (v k : Value) (hc : c = cellV ow x y v k) (w : World) : Calls Try.prog 64 #[.pointer none, c] w fun e w' => e = .returned (.bool false) ∧ Below w.heap.size w w' := by
  subst hc
  go_enter Try.func64, Try.ntmps64
  go_wp2
  go_ret
  exact ⟨rfl, below_alloc (below_alloc (Below.refl _ _) _) _⟩
section
variable {base a gs cs : Nat} {vf : Value} {sl : List Slot} {fr : List Int} {live most : Int} {O : Nat → Prop}
set_option maxHeartbeats 1000000 in
theorem right_calls (ow x y : Int) (v k : Value) (kids : List Int) (w : World) (h : RawA w base a gs cs vf sl fr live most) (hs : sl.length ≤ 1000000000) (hk : RowIn (Kd.int .i64) w O k kids) (hl : kids.length ≤ 1000000000) :
    Calls Try.prog 64 #[.pointer (some ⟨a, 0, none⟩), cellV ow x y v k] w fun e w' => e = .returned (.bool (!badAt sl kids)) ∧ Below w.heap.size w w' := by
  obtain ⟨A, c, rfl, hlc, hn, hC, _⟩ := hk
  have HR := Lib.hid h
  have HC := Lib.hid hC
  clear h hC hn hlc
  go_enter Try.func64, Try.ntmps64
  go_wp2_with (go_at_call 91; go_loud (refine (contains_calls A c w.heap.size kids _ (Raw.below HR.out (by repeat (first | (with_reducible first | exact Below.refl w.heap.size w | apply below_alloc | apply pw_below_drewN | apply below_drew1) | exact Below.refl w.heap.size w))) hs (by exact blk_cell (blk_alloc (blk_new w _) _) 0) (Kd.C_below HC.out (by repeat (first | (with_reducible first | exact Below.refl w.heap.size w | apply below_alloc | apply pw_below_drewN | apply below_drew1) | exact Below.refl w.heap.size w))) hl).mono ?_; rintro e w1 ⟨rfl, hB⟩))
  go_ret
  exact ⟨rfl, below_step (below_alloc (below_alloc (Below.refl _ _) _) _) hB⟩
theorem make_arg (ow x y : Int) (v k : Value) (kids : List Int) (w : World) (h : RawA w base a gs cs vf sl fr live most) (hs : sl.length ≤ 1000000000) (hv : ∃ A n c, v = .slice A n c) (hk : RowIn (Kd.int .i64) w O k kids) (hl : kids.length ≤ 1000000000) (hb : badAt sl kids = true) :
    Calls Try.prog 21 #[.pointer (some ⟨a, 0, none⟩), cellV ow x y v k] w fun e w' => e = .returned (.tuple #[.int .i64 0, .int .i64 1]) ∧ Below w.heap.size w w' := by
  obtain ⟨A1, n1, c1, rfl⟩ := hv
  have HKR := Lib.hid hk
  obtain ⟨A, c, rfl, _⟩ := hk
  have HI := Lib.hid (right_calls ow x y (.slice A1 n1 c1) (.slice A kids.length c) kids (w.alloc (.cells #[.int .u32 ow, .int .u32 x, .int .u32 y, .slice A1 n1 c1, .slice A kids.length c] 43)) (Raw.below h (below_alloc (Below.refl _ _) _)) hs (HKR.out.below (below_alloc (Below.refl _ _) _)) hl)
  rw [hb] at HI
  clear h hb
  go_enter Try.func21, Try.ntmps21
  go_wp2_with (go_at_call 64; go_loud (refine HI.out.mono ?_; rintro e w1 ⟨rfl, hB⟩))
  go_ret2
  exact ⟨rfl, below_step (below_alloc (Below.refl _ _) _) hB⟩
theorem make_nil (ow x y : Int) (v k : Value) (w : World) (hv : ∃ A n c, v = .slice A n c) (hk : ∃ A n c, k = .slice A n c) :
    Calls Try.prog 21 #[.pointer none, cellV ow x y v k] w fun e w' => e = .returned (.tuple #[.int .i64 0, .int .i64 1]) ∧ Below w.heap.size w w' := by
  obtain ⟨A1, n1, c1, rfl⟩ := hv
  obtain ⟨A2, n2, c2, rfl⟩ := hk
  go_enter Try.func21, Try.ntmps21
  go_wp2_with (go_at_call 64; go_loud (refine (right_nil _ ow x y _ _ rfl _).mono ?_; rintro e w1 ⟨rfl, hB⟩))
  go_ret2
  exact ⟨rfl, below_step (below_alloc (Below.refl _ _) _) hB⟩
theorem make_full (ow x y : Int) (v k : Value) (kids : List Int) (w : World) (h : RawA w base a gs cs vf sl fr live most) (hs : sl.length ≤ 1000000000) (hv : ∃ A n c, v = .slice A n c) (hk : RowIn (Kd.int .i64) w O k kids) (hl : kids.length ≤ 1000000000) (hb : badAt sl kids = false) (hr : wrap64 (most - live) < 1) :
    Calls Try.prog 21 #[.pointer (some ⟨a, 0, none⟩), cellV ow x y v k] w fun e w' => e = .returned (.tuple #[.int .i64 0, .int .i64 5]) ∧ Below w.heap.size w w' := by
  obtain ⟨A1, n1, c1, rfl⟩ := hv
  have HKR := Lib.hid hk
  obtain ⟨A, c, rfl, _⟩ := hk
  have HR := Lib.hid h
  have HI := Lib.hid (right_calls ow x y (.slice A1 n1 c1) (.slice A kids.length c) kids (w.alloc (.cells #[.int .u32 ow, .int .u32 x, .int .u32 y, .slice A1 n1 c1, .slice A kids.length c] 43)) (Raw.below h (below_alloc (Below.refl _ _) _)) hs (HKR.out.below (below_alloc (Below.refl _ _) _)) hl)
  rw [hb] at HI
  clear h hb
  go_enter Try.func21, Try.ntmps21
  go_wp2_with (first
    | (go_at_call 25; go_loud (refine (room_calls _ (Raw.below HR.out HB.out)).mono ?_; rintro e w2 ⟨rfl, hB2⟩))
    | (go_at_call 64; go_loud (refine HI.out.mono ?_; rintro e w1 ⟨rfl, hB⟩; have HB := Lib.hid (below_step (below_alloc (Below.refl _ _) _) hB); clear hB)))
  go_ret2
  exact ⟨rfl, below_step HB.out hB2⟩
end
end Go.Proofs.Ytnipbfhfaefieaa.Arn
/-! arena: Make, where a number is free. -/
namespace Go.Proofs.Ytnipbfhfaefieaa.Arn
open Go.RowKit Go Go.Proofs.YtnipbfhfaefieaaW.PrintWords Go.Proofs.YtnipbfhfaefieaaW.PrintMore Go.Proofs.YtnipbfhfaefieaaW.PrintLast Go.Proofs.Ytnipbfhfaefieaa.Bts Go.Proofs.Ytnipbfhfaefieaa.Fra
theorem own_some {w : World} {base n : Nat} {e : TypeId} {size : Nat} {v : Value} {xs : List Value} (h : w.ownsRow base e size v n xs) (hn : 0 < n) : ∃ g c, v = .slice (some ⟨g, 0, none⟩) n c ∧ n ≤ c ∧ c ≤ maxLen := by
  rcases h.2 with ⟨rfl, rfl⟩ | ⟨g, cap, cur, rfl, _, _, h1, h2, _⟩
  · omega
  · exact ⟨g, cap, rfl, h1, h2⟩
section
variable {base a gs cs : Nat} {vf : Value} {sl : List Slot} {fr : List Int} {live most : Int}
theorem fr6 (w : World) (g o : Nat) (x y z u v r : Value) : Fr (· = g) w ((((((w.setCell ⟨g, o, none⟩ x).setCell ⟨g, o + 1, none⟩ y).setCell ⟨g, o + 2, none⟩ z).setCell ⟨g, o + 3, none⟩ u).setCell ⟨g, o + 4, none⟩ v).setCell ⟨g, o + 5, none⟩ r) :=
  Fr.put (S := fun k => k = g) (Fr.put (S := fun k => k = g) (Fr.put (S := fun k => k = g) (Fr.put (S := fun k => k = g) (Fr.put (S := fun k => k = g) (Fr.put (S := fun k => k = g) (Fr.refl (fun k => k = g) w) (p := ⟨g, o, none⟩) (.inl rfl) x) (p := ⟨g, o + 1, none⟩) (.inl rfl) y) (p := ⟨g, o + 2, none⟩) (.inl rfl) z) (p := ⟨g, o + 3, none⟩) (.inl rfl) u) (p := ⟨g, o + 4, none⟩) (.inl rfl) v) (p := ⟨g, o + 5, none⟩) (.inl rfl) r
/-- A slot's six cells. -/
theorem six {w : World} (h : RawA w base a gs cs vf sl fr live most) (i : Nat) (s : Slot) (hs : sl[i]? = some s) :
    w.cell? ⟨gs, i * 6, none⟩ = some (.int .u32 s.ow) ∧ w.cell? ⟨gs, i * 6 + 1, none⟩ = some (.int .u32 s.a) ∧ w.cell? ⟨gs, i * 6 + 2, none⟩ = some (.int .u32 s.b) ∧ w.cell? ⟨gs, i * 6 + 3, none⟩ = some s.v ∧ w.cell? ⟨gs, i * 6 + 4, none⟩ = some s.k ∧ w.cell? ⟨gs, i * 6 + 5, none⟩ = some (.int .i64 s.r) ∧
    w.frozen? ⟨gs, i * 6, none⟩ = false ∧ w.frozen? ⟨gs, i * 6 + 1, none⟩ = false ∧ w.frozen? ⟨gs, i * 6 + 2, none⟩ = false ∧ w.frozen? ⟨gs, i * 6 + 3, none⟩ = false ∧ w.frozen? ⟨gs, i * 6 + 4, none⟩ = false ∧ w.frozen? ⟨gs, i * 6 + 5, none⟩ = false :=
  ⟨h.cell i s hs 0 (by decide), h.cell i s hs 1 (by decide), h.cell i s hs 2 (by decide), h.cell i s hs 3 (by decide), h.cell i s hs 4 (by decide), h.cell i s hs 5 (by decide), h.frozen _, h.frozen _, h.frozen _, h.frozen _, h.frozen _, h.frozen _⟩
end
section
variable {base a gs cs : Nat} {vf : Value} {sl : List Slot} {fr : List Int} {live most : Int} {O : Nat → Prop}
set_option maxHeartbeats 4000000 in
set_option maxRecDepth 100000 in
theorem make_at (ow x y : Int) (v k : Value) (vals : List (Int × Int × ByteArray)) (kids : List Int) (fr' : List Int) (i : Nat) (s0 : Slot) (w : World) (h : RawA w base a gs cs vf sl (fr' ++ [(i : Int)]) live most) (hs : sl.length ≤ 1000000000) (hi : sl[i]? = some s0)
    (hv : RowIn kVal w O v vals) (hk : RowIn (Kd.int .i64) w O k kids) (hvl : vals.length * 32 ≤ 140737488355328) (hkl : kids.length ≤ 1000000000) (hb : badAt sl kids = false) (hl0 : 0 ≤ live) (hlm : live < most) (hm : most ≤ 1048576) (hfl : fr'.length ≤ 1000000000) (hO : ∀ j, O j → j ≠ a) :
    Calls Try.prog 21 #[.pointer (some ⟨a, 0, none⟩), cellV ow x y v k] w fun e w' => ∃ v' k' vf', e = .returned (.tuple #[.int .i64 i, .int .i64 0]) ∧ RawA w' base a gs cs vf' (sl.set i ⟨ow, x, y, v', k', 1⟩) fr' (live + 1) most ∧ vf'.ownBlock = vf.ownBlock ∧
      RowIn kVal w' (fun j => w.heap.size ≤ j) v' vals ∧ RowIn (Kd.int .i64) w' (fun j => w.heap.size ≤ j) k' kids ∧ Fr (fun j => j = a ∨ j = gs) w w' := by
  have HVR := Lib.hid hv
  have HKR := Lib.hid hk
  obtain ⟨A1, c1, rfl, _⟩ := hv
  obtain ⟨A2, c2, rfl, _⟩ := hk
  obtain ⟨m, hmf⟩ : ∃ m, fr'.length = m := ⟨_, rfl⟩
  have hlen : (fr' ++ [(i : Int)]).length = m + 1 := by simp [hmf]
  have hfree := h.free
  rw [hlen] at hfree
  obtain ⟨fg, fc, rfl, hfc, hfm⟩ := own_some hfree (by omega)
  have hbx : Below w.heap.size w (w.alloc (.cells #[.int .u32 ow, .int .u32 x, .int .u32 y, .slice A1 vals.length c1, .slice A2 kids.length c2] 43)) := below_alloc (Below.refl _ _) _
  have HI := Lib.hid (right_calls ow x y (.slice A1 vals.length c1) (.slice A2 kids.length c2) kids _ (Raw.below h hbx) hs (HKR.out.below hbx) hkl)
  rw [hb] at HI
  have hq : ∀ W, RawA W base a gs cs (.slice (some ⟨fg, 0, none⟩) (m + 1) fc) sl (fr' ++ [(i : Int)]) live most → W.cell? ⟨fg, m, none⟩ = some (.int .i64 i) := by
    intro W hW
    have hf := hW.free
    rw [hlen] at hf
    rw [hf.cellAt m (by omega)]
    simp [nums, hmf]
  have HQ := Lib.hid hq
  have HR := Lib.hid h
  have HMF := Lib.hid hmf
  have hml : m ≤ 1000000000 := by omega
  have hil : i < sl.length := (List.getElem?_eq_some_iff.1 hi).1
  have HIS := Lib.hid hi
  have hsi : (sl.length : Int) ≤ 1000000000 := by omega
  have hil' : (i : Int) < (sl.length : Int) := by omega
  clear hq h hb hbx hfree hlen hmf hi
  go_enter Try.func21, Try.ntmps21
  go_wp2_with (first
    | (go_at_call 25; go_loud (refine (room_calls _ (Raw.below HR.out HB.out)).mono ?_; rintro e w2 ⟨rfl, hB2⟩; have hb2 := below_step HB.out hB2; have hr2 := Raw.below HR.out hb2; have hroom : ¬ wrap64 (most - live) < 1 := (by unfold wrap64; omega); have p0 := blk_cell hr2.obj 0; have p1 := blk_cell hr2.obj 1; have z1 := blk_frozen hr2.obj 1; have q0 : w2.cell? ⟨fg, m, none⟩ = some (.int .i64 i) := HQ.out _ hr2; have HR2 := Lib.hid hr2; have HB2 := Lib.hid hb2; have HBX := Lib.hid (blk_below (blk_below (blk_new w _) HBA.out) hB2); clear hB2 hb2 hr2))
    | (go_at_call 64; go_loud (refine HI.out.mono ?_; rintro e w1 ⟨rfl, hB⟩; have HBA := Lib.hid hB; have HB := Lib.hid (below_step (below_alloc (Below.refl w.heap.size w) _) hB); clear hB)))
  have hho : w2.ownsRow base 3 1 (.slice (some ⟨fg, 0, none⟩) m fc) m (nums .i64 fr') := by
    have hf := HR2.out.free
    have e1 : (fr' ++ [(i : Int)]).length = m + 1 := by simp [HMF.out]
    have e2 : nums .i64 (fr' ++ [(i : Int)]) = nums .i64 fr' ++ [.int .i64 i] := by simp [nums]
    rw [e1, e2] at hf
    exact ownsRow_pop (by rw [nums_length, HMF.out]; omega) hf
  have hr3 := HR2.out.frees (vf' := .slice (some ⟨fg, 0, none⟩) m fc) (fr' := fr') (Fr.refl _ w2) (by rw [HMF.out]; exact hho) (fun k hk => .inl (by cases hk; rfl))
  have ha : a < w.heap.size := blk_lt HR.out.obj
  have hg : gs < w.heap.size := own_lt HR.out.row gs rfl
  have hbx3 := blk_far HBX.out (p := ⟨a, 1, none⟩) (show ¬ w.heap.size = a by omega) (.slice (some ⟨fg, 0, none⟩) m fc)
  have hF3 : Fr (fun j => j = a ∨ j = gs) w (w2.setCell ⟨a, 1, none⟩ (.slice (some ⟨fg, 0, none⟩) m fc)) := (Fr.of_new HB2.out).then_ (Fr.set a 1 _) (fun k hk => .inl (.inl hk))
  have hFa : Fr (· = a) w (w2.setCell ⟨a, 1, none⟩ (.slice (some ⟨fg, 0, none⟩) m fc)) := (Fr.of_new HB2.out).then_ (Fr.set a 1 _) (fun k hk => .inl hk)
  have hx := HVR.out.fr kVal_K hFa hO
  have hy := HKR.out.fr kInt_K hFa hO
  obtain ⟨W3, hW3⟩ : ∃ W3, w2.setCell ⟨a, 1, none⟩ (.slice (some ⟨fg, 0, none⟩) m fc) = W3 := ⟨_, rfl⟩
  rw [hW3] at hr3 hbx3 hF3 hFa hx hy ⊢
  have hd : Below W3.heap.size W3 W3.drew := below_drew1 (Below.refl _ _)
  have hr3d := Raw.below hr3 hd
  have hbx3d := blk_below hbx3 hd
  have ps0 := blk_cell hr3d.obj 0
  have b0 := blk_cell hbx3d 0
  have b1 := blk_cell hbx3d 1
  have b2 := blk_cell hbx3d 2
  have b3 := blk_cell hbx3d 3
  have b4 := blk_cell hbx3d 4
  have HR3 := Lib.hid hr3d
  have HB3 := Lib.hid hbx3d
  have HF3 := Lib.hid (hF3.more hd)
  have hsz : w.heap.size ≤ W3.drew.heap.size := (hF3.more hd).size
  have HX := Lib.hid (hx.below hd)
  have HY := Lib.hid (hy.below hd)
  clear hho hr3 hbx3 hF3 hFa hr3d hbx3d hd hx hy p0 p1 z1 q0 HI
  refine start_ (n := 10) (S := fun w' => w'.cell? ⟨a, 0, none⟩ = some (.slice (some ⟨gs, 0, none⟩) sl.length cs) ∧ w'.cell? ⟨w.heap.size, 0, none⟩ = some (.int .u32 ow) ∧ w'.cell? ⟨w.heap.size, 1, none⟩ = some (.int .u32 x) ∧ w'.cell? ⟨w.heap.size, 2, none⟩ = some (.int .u32 y) ∧ w'.cell? ⟨w.heap.size, 3, none⟩ = some (.slice A1 vals.length c1) ∧ w'.cell? ⟨w.heap.size, 4, none⟩ = some (.slice A2 kids.length c2)) (ds := [9]) #[false, false, false, false, false, false, false, false, false, false] (by kernel_rfl) rfl rfl ⟨ps0, b0, b1, b2, b3, b4⟩ (fun hHeld => ?_)
  refine pure_ (i := 0) (N := some 69) (v := ?_) (a' := ?_) #[true, false, false, false, false, false, false, false, false, false] rfl rfl (by kernel_rfl) (fun _ _ _ h => h) (Or.inl ⟨by rfl, ?_⟩) ?_ ?_
  rotate_left
  · intro w'
    go_simp
    with_reducible rfl
  rotate_left
  · simp only [Act.put, List.setIfInBounds_toArray, List.set_cons_zero, List.set_cons_succ, i64_w, i32_w]
    rfl
  refine pure_ (i := 1) (N := some 70) (v := ?_) (a' := ?_) #[true, true, false, false, false, false, false, false, false, false] rfl rfl (by kernel_rfl) (fun _ _ _ h => h) (Or.inl ⟨by rfl, ?_⟩) ?_ ?_
  rotate_left
  · intro w'
    go_simp
    with_reducible rfl
  rotate_left
  · simp only [Act.put, List.setIfInBounds_toArray, List.set_cons_zero, List.set_cons_succ, i64_w, i32_w]
    rfl
  refine pure_ (i := 2) (N := some 71) (v := ?_) (a' := ?_) #[true, true, true, false, false, false, false, false, false, false] rfl rfl (by kernel_rfl) (fun _ _ _ h => h) (Or.inl ⟨by rfl, ?_⟩) ?_ ?_
  rotate_left
  · intro w'
    go_simp
    with_reducible rfl
  rotate_left
  · simp only [Act.put, List.setIfInBounds_toArray, List.set_cons_zero, List.set_cons_succ, i64_w, i32_w]
    rfl
  refine pure_ (i := 4) (N := some 73) (v := ?_) (a' := ?_) #[true, true, true, false, true, false, false, false, false, false] rfl rfl (by kernel_rfl) (fun _ _ _ h => h) (Or.inl ⟨by rfl, ?_⟩) ?_ ?_
  rotate_left
  · intro w'
    go_simp
    with_reducible rfl
  rotate_left
  · simp only [Act.put, List.setIfInBounds_toArray, List.set_cons_zero, List.set_cons_succ, i64_w, i32_w]
    rfl
  refine take_ (i := 3) (N := some 72) (v := ?_) (a' := ?_) #[true, true, true, true, true, false, false, false, false, false] rfl rfl (by kernel_rfl) (fun _ _ _ h => h) (Or.inl ⟨by rfl, ?_⟩) hHeld ?_ ?_
  rotate_left
  · rintro w' ⟨s0, s1, s2, s3, s4, s5⟩
    go_simp
    with_reducible rfl
  rotate_left
  · simp only [Act.put, List.setIfInBounds_toArray, List.set_cons_zero, List.set_cons_succ, i64_w, i32_w]
    rfl
  refine take_ (i := 5) (N := some 74) (v := ?_) (a' := ?_) #[true, true, true, true, true, true, false, false, false, false] rfl rfl (by kernel_rfl) (fun _ _ _ h => h) (Or.inl ⟨by rfl, ?_⟩) hHeld ?_ ?_
  rotate_left
  · rintro w' ⟨s0, s1, s2, s3, s4, s5⟩
    go_simp
    with_reducible rfl
  rotate_left
  · simp only [Act.put, List.setIfInBounds_toArray, List.set_cons_zero, List.set_cons_succ, i64_w, i32_w]
    rfl
  refine one_ (i := 6) (N := some 75) #[true, true, true, true, true, true, true, false, false, false] rfl rfl (by kernel_rfl) (by decide) (fun K hK => ?_)
  refine goes_ Try.func65 (by kernel_rfl) rfl #[cellV ow x y (.slice A1 vals.length c1) (.slice A2 kids.length c2)] (by rfl) rfl rfl (by simp only [List.map_toArray, List.map_cons, List.map_nil]; rfl) ?_
  with_reducible refine (own_calls ow x y _ _ vals kids _ HX.out HY.out hvl (by omega)).mono ?_
  rintro e w5 ⟨v', k', rfl, hv5, hk5, hB5⟩
  refine ⟨_, rfl, ?_⟩
  obtain ⟨A3, c3, e3, _⟩ := id hv5
  subst e3
  obtain ⟨A4, c4, e4, _⟩ := id hk5
  subst e4
  have hr5 := Raw.below HR3.out hB5
  have hb5 := blk_below HB3.out hB5
  obtain ⟨t0, t1, t2, t3, t4, t5, u0, u1, u2, u3, u4, u5⟩ := six hr5 i _ HIS.out
  refine hK.out _ _ ⟨(blk_cell hr5.obj 0), (blk_cell hb5 0), (blk_cell hb5 1), (blk_cell hb5 2), (blk_cell hb5 3), (blk_cell hb5 4)⟩ (fun hHeld => ?_)
  clear hK K
  refine norm_ (a' := ?_) ?_ ?_
  rotate_left
  · show Act.put _ (some 75) _ = _
    simp only [Act.put, List.setIfInBounds_toArray, List.set_cons_zero, List.set_cons_succ, i64_w, i32_w]
    rfl
  refine pure_ (i := 7) (N := some 76) (v := ?_) (a' := ?_) #[true, true, true, true, true, true, true, true, false, false] rfl rfl (by kernel_rfl) (fun _ _ _ h => h) (Or.inl ⟨by rfl, ?_⟩) ?_ ?_
  rotate_left
  · intro w'
    go_simp
    with_reducible rfl
  rotate_left
  · simp only [Act.put, List.setIfInBounds_toArray, List.set_cons_zero, List.set_cons_succ, i64_w, i32_w]
    rfl
  refine pure_ (i := 8) (N := some 77) (v := ?_) (a' := ?_) #[true, true, true, true, true, true, true, true, true, false] rfl rfl (by kernel_rfl) (fun _ _ _ h => h) (Or.inl ⟨by rfl, ?_⟩) ?_ ?_
  rotate_left
  · intro w'
    go_simp
    with_reducible rfl
  rotate_left
  · simp only [Act.put, List.setIfInBounds_toArray, List.set_cons_zero, List.set_cons_succ, i64_w, i32_w]
    rfl
  refine last_ (i := 9) (N := none) #[true, true, true, true, true, true, true, true, true, true] rfl rfl (by kernel_rfl) (by decide) (fun K hK => ?_)
  refine skip_ (w1 := ?_) (by rfl) rfl ?_ ?_
  rotate_left
  · go_simp
    rfl
  refine hK.out _ _ ?_
  clear hK K
  refine done_ (by kernel_rfl) ?_

  have hr6 := hr5.lay i s0 ⟨ow, x, y, .slice A3 vals.length c3, .slice A4 kids.length c4, 1⟩ HIS.out
  have hF6 := fr6 w5 gs (i * 6) (.int .u32 ow) (.int .u32 x) (.int .u32 y) (.slice A3 vals.length c3) (.slice A4 kids.length c4) (.int .i64 1)
  obtain ⟨W6, hW6⟩ : ∃ W6, ((((((w5.setCell ⟨gs, i * 6, none⟩ (.int .u32 ow)).setCell ⟨gs, i * 6 + 1, none⟩ (.int .u32 x)).setCell ⟨gs, i * 6 + 2, none⟩ (.int .u32 y)).setCell ⟨gs, i * 6 + 3, none⟩ (.slice A3 vals.length c3)).setCell ⟨gs, i * 6 + 4, none⟩ (.slice A4 kids.length c4)).setCell ⟨gs, i * 6 + 5, none⟩ (.int .i64 1)) = W6 := ⟨_, rfl⟩
  rw [hW6] at hF6 ⊢
  replace hr6 : RawA W6 base a gs cs (.slice (some ⟨fg, 0, none⟩) m fc) (sl.set i ⟨ow, x, y, .slice A3 vals.length c3, .slice A4 kids.length c4, 1⟩) fr' live most := by rw [← hW6]; exact hr6
  have hv6 := hv5.fr kVal_K hF6 (fun j hj e => by omega)
  have hk6 := hk5.fr kInt_K hF6 (fun j hj e => by omega)
  have l2 := blk_cell hr6.obj 2
  have l3 := blk_frozen hr6.obj 2
  have HR6 := Lib.hid hr6
  have HV6 := Lib.hid hv6
  have HK6 := Lib.hid hk6
  have HF6 := Lib.hid ((HF3.out.more hB5).then_ hF6 (fun j hj => .inl (.inr hj)))
  have hz5 : W3.drew.heap.size ≤ w5.heap.size := hB5.size
  clear hHeld t0 t1 t2 t3 t4 t5 u0 u1 u2 u3 u4 u5 hr5 hb5 hr6 hv6 hk6 hv5 hk5 hF6 hB5
  go_wp2_with (go_at_call 66; go_loud (refine (add_calls _ live 1 _ rfl l2 l3).mono ?_; rintro e w7 ⟨rfl, rfl⟩))
  go_ret2
  have e1 : wrap64 (live + 1) = live + 1 := by unfold wrap64; omega
  rw [e1]
  have hF7 : Fr (· = a) W6 (W6.setCell ⟨a, 2, none⟩ (.int .i64 (live + 1))) := Fr.set a 2 _
  refine ⟨_, _, _, rfl, HR6.out.live (live + 1), rfl, (HV6.out.fr kVal_K hF7 (fun j hj e => by omega)).mono (fun j hj => by omega), (HK6.out.fr kInt_K hF7 (fun j hj e => by omega)).mono (fun j hj => by omega), HF6.out.then_ hF7 (fun j hj => .inl (.inl hj))⟩
end
end Go.Proofs.Ytnipbfhfaefieaa.Arn
/-! arena: Make, where no number is free: one place more. -/
namespace Go.Proofs.Ytnipbfhfaefieaa.Arn
open Go.RowKit Go Go.Proofs.YtnipbfhfaefieaaW.PrintWords Go.Proofs.YtnipbfhfaefieaaW.PrintMore Go.Proofs.YtnipbfhfaefieaaW.PrintLast Go.Proofs.Ytnipbfhfaefieaa.Bts Go.Proofs.Ytnipbfhfaefieaa.Fra
theorem infoInt : (Try.prog.info? 3).map (fun i => (i.zero, i.size, i.bytes)) = some (some (.int .i64 0), 1, 8) := by kernel_rfl
theorem fr_grownBy {w w' : World} {row : Option Nat} (hg : w.grownBy w' row) : Fr (fun k => row = some k) w w' := ⟨hg.os, hg.tape, hg.output, hg.size, fun i hi hne => hg.block i hi (fun e => hne e.symm)⟩
section
variable {base a gs cs : Nat} {vf : Value} {sl : List Slot} {fr : List Int} {live most : Int} {O : Nat → Prop}
set_option maxHeartbeats 4000000 in
set_option maxRecDepth 100000 in
theorem make_grow (ow x y : Int) (v k : Value) (vals : List (Int × Int × ByteArray)) (kids : List Int) (w : World) (h : RawA w base a gs cs vf sl [] live most) (hs : sl.length ≤ 100000000) (hs0 : 0 < sl.length)
    (hv : RowIn kVal w O v vals) (hk : RowIn (Kd.int .i64) w O k kids) (hvl : vals.length * 32 ≤ 140737488355328) (hkl : kids.length ≤ 1000000000) (hb : badAt sl kids = false) (hl0 : 0 ≤ live) (hlm : live < most) (hm : most ≤ 1048576) (hO : ∀ j, O j → j ≠ a ∧ j ≠ gs ∧ vf.ownBlock ≠ some j) :
    Calls Try.prog 21 #[.pointer (some ⟨a, 0, none⟩), cellV ow x y v k] w fun e w' => ∃ v' k' vf' gs' cs', e = .returned (.tuple #[.int .i64 sl.length, .int .i64 0]) ∧ RawA w' base a gs' cs' vf' ((sl ++ [nob]).set sl.length ⟨ow, x, y, v', k', 1⟩) [] (live + 1) most ∧ (∀ j, vf'.ownBlock = some j → vf.ownBlock = some j ∨ w.heap.size ≤ j) ∧ (gs' = gs ∨ w.heap.size ≤ gs') ∧
      RowIn kVal w' (fun j => w.heap.size ≤ j ∧ j ≠ gs' ∧ vf'.ownBlock ≠ some j) v' vals ∧ RowIn (Kd.int .i64) w' (fun j => w.heap.size ≤ j ∧ j ≠ gs' ∧ vf'.ownBlock ≠ some j) k' kids ∧ Fr (fun j => j = a ∨ j = gs ∨ vf.ownBlock = some j) w w' := by
  have HVR := Lib.hid hv
  have HKR := Lib.hid hk
  obtain ⟨A1, c1, rfl, _⟩ := hv
  obtain ⟨A2, c2, rfl, _⟩ := hk
  obtain ⟨fA, fc, hvf⟩ := own_slice h.free
  replace hvf : vf = .slice fA 0 fc := hvf
  subst hvf
  have hbx : Below w.heap.size w (w.alloc (.cells #[.int .u32 ow, .int .u32 x, .int .u32 y, .slice A1 vals.length c1, .slice A2 kids.length c2] 43)) := below_alloc (Below.refl _ _) _
  have HI := Lib.hid (right_calls ow x y (.slice A1 vals.length c1) (.slice A2 kids.length c2) kids _ (Raw.below h hbx) (by omega) (HKR.out.below hbx) hkl)
  rw [hb] at HI
  have HR := Lib.hid h
  have ha : a < w.heap.size := blk_lt h.obj
  have hg : gs < w.heap.size := own_lt h.row gs rfl
  have hbs := h.bs
  have hba := h.ba
  have hfa := h.fa
  clear h hb hbx
  go_enter Try.func21, Try.ntmps21
  go_wp2_with (first
    | (go_at_call 25; go_loud (refine (room_calls _ (Raw.below HR.out HB.out)).mono ?_; rintro e w2 ⟨rfl, hB2⟩; have hb2 := below_step HB.out hB2; have hr2 := Raw.below HR.out hb2; have hroom : ¬ wrap64 (most - live) < 1 := (by unfold wrap64; omega); have p0 := blk_cell hr2.obj 0; have p1 := blk_cell hr2.obj 1; have HR2 := Lib.hid hr2; have HB2 := Lib.hid hb2; have HBX := Lib.hid (blk_below (blk_below (blk_new w _) HBA.out) hB2); clear hB2 hb2 hr2))
    | (go_at_call 64; go_loud (refine HI.out.mono ?_; rintro e w1 ⟨rfl, hB⟩; have HBA := Lib.hid hB; have HB := Lib.hid (below_step (below_alloc (Below.refl w.heap.size w) _) hB); clear hB)))
  have hd : Below w2.heap.size w2 w2.drew := below_drew1 (Below.refl _ _)
  have hr2 := Raw.below HR2.out hd
  have hbx2 := blk_below HBX.out hd
  have ps0 := blk_cell hr2.obj 0
  have ps1 := blk_cell hr2.obj 1
  have HR2d := Lib.hid hr2
  have HB2d := Lib.hid (below_step HB2.out hd)
  have HBXd := Lib.hid hbx2
  clear hr2 hbx2 hd p0 p1 HR2 HB2 HBX HI
  obtain ⟨V, hV⟩ : ∃ V, w2.drew = V := ⟨_, rfl⟩
  rw [hV] at HR2d HB2d HBXd ps0 ps1
  have hVs : w.heap.size ≤ V.heap.size := HB2d.out.size
  refine start_ (n := 15) (S := fun w' => w'.cell? ⟨a, 0, none⟩ = some (.slice (some ⟨gs, 0, none⟩) sl.length cs) ∧ w'.cell? ⟨a, 1, none⟩ = some (.slice fA 0 fc)) (ds := [14]) #[false, false, false, false, false, false, false, false, false, false, false, false, false, false, false] (by kernel_rfl) rfl rfl ⟨(by rw [hV]; exact ps0), (by rw [hV]; exact ps1)⟩ (fun hHeld => ?_)
  refine pure_ (i := 0) (N := some 23) (v := ?_) (a' := ?_) #[true, false, false, false, false, false, false, false, false, false, false, false, false, false, false] rfl rfl (by kernel_rfl) (fun _ _ _ h => h) (Or.inl ⟨by rfl, ?_⟩) ?_ ?_
  rotate_left
  · intro w'
    go_simp
    with_reducible rfl
  rotate_left
  · simp only [Act.put, List.setIfInBounds_toArray, List.set_cons_zero, List.set_cons_succ, i64_w, i32_w]
    rfl
  refine pure_ (i := 1) (N := some 24) (v := ?_) (a' := ?_) #[true, true, false, false, false, false, false, false, false, false, false, false, false, false, false] rfl rfl (by kernel_rfl) (fun _ _ _ h => h) (Or.inl ⟨by rfl, ?_⟩) ?_ ?_
  rotate_left
  · intro w'
    go_simp
    with_reducible rfl
  rotate_left
  · simp only [Act.put, List.setIfInBounds_toArray, List.set_cons_zero, List.set_cons_succ, i64_w, i32_w]
    rfl
  refine pure_ (i := 2) (N := some 25) (v := ?_) (a' := ?_) #[true, true, true, false, false, false, false, false, false, false, false, false, false, false, false] rfl rfl (by kernel_rfl) (fun _ _ _ h => h) (Or.inl ⟨by rfl, ?_⟩) ?_ ?_
  rotate_left
  · intro w'
    go_simp
    with_reducible rfl
  rotate_left
  · simp only [Act.put, List.setIfInBounds_toArray, List.set_cons_zero, List.set_cons_succ, i64_w, i32_w]
    rfl
  refine pure_ (i := 3) (N := some 26) (v := ?_) (a' := ?_) #[true, true, true, true, false, false, false, false, false, false, false, false, false, false, false] rfl rfl (by kernel_rfl) (fun _ _ _ h => h) (Or.inl ⟨by rfl, ?_⟩) ?_ ?_
  rotate_left
  · intro w'
    go_simp
    with_reducible rfl
  rotate_left
  · simp only [Act.put, List.setIfInBounds_toArray, List.set_cons_zero, List.set_cons_succ, i64_w, i32_w]
    rfl
  refine pure_ (i := 5) (N := some 28) (v := ?_) (a' := ?_) #[true, true, true, true, false, true, false, false, false, false, false, false, false, false, false] rfl rfl (by kernel_rfl) (fun _ _ _ h => h) (Or.inl ⟨by rfl, ?_⟩) ?_ ?_
  rotate_left
  · intro w'
    go_simp
    with_reducible rfl
  rotate_left
  · simp only [Act.put, List.setIfInBounds_toArray, List.set_cons_zero, List.set_cons_succ, i64_w, i32_w]
    rfl
  refine pure_ (i := 6) (N := some 29) (v := ?_) (a' := ?_) #[true, true, true, true, false, true, true, false, false, false, false, false, false, false, false] rfl rfl (by kernel_rfl) (fun _ _ _ h => h) (Or.inl ⟨by rfl, ?_⟩) ?_ ?_
  rotate_left
  · intro w'
    go_simp
    with_reducible rfl
  rotate_left
  · simp only [Act.put, List.setIfInBounds_toArray, List.set_cons_zero, List.set_cons_succ, i64_w, i32_w]
    rfl
  refine pure_ (i := 7) (N := some 30) (v := ?_) (a' := ?_) #[true, true, true, true, false, true, true, true, false, false, false, false, false, false, false] rfl rfl (by kernel_rfl) (fun _ _ _ h => h) (Or.inl ⟨by rfl, ?_⟩) ?_ ?_
  rotate_left
  · intro w'
    go_simp
    with_reducible rfl
  rotate_left
  · simp only [Act.put, List.setIfInBounds_toArray, List.set_cons_zero, List.set_cons_succ, i64_w, i32_w]
    rfl
  refine take_ (i := 4) (N := some 27) (v := ?_) (a' := ?_) #[true, true, true, true, true, true, true, true, false, false, false, false, false, false, false] rfl rfl (by kernel_rfl) (fun _ _ _ h => h) (Or.inl ⟨by rfl, ?_⟩) hHeld ?_ ?_
  rotate_left
  · rintro w' ⟨s0, s1⟩
    go_simp
    with_reducible rfl
  rotate_left
  · simp only [Act.put, List.setIfInBounds_toArray, List.set_cons_zero, List.set_cons_succ, i64_w, i32_w]
    rfl
  refine take_ (i := 8) (N := some 31) (v := ?_) (a' := ?_) #[true, true, true, true, true, true, true, true, true, false, false, false, false, false, false] rfl rfl (by kernel_rfl) (fun _ _ _ h => h) (Or.inl ⟨by rfl, ?_⟩) hHeld ?_ ?_
  rotate_left
  · rintro w' ⟨s0, s1⟩
    go_simp
    with_reducible rfl
  rotate_left
  · simp only [Act.put, List.setIfInBounds_toArray, List.set_cons_zero, List.set_cons_succ, i64_w, i32_w]
    rfl
  refine pure_ (i := 9) (N := some 32) (v := ?_) (a' := ?_) #[true, true, true, true, true, true, true, true, true, true, false, false, false, false, false] rfl rfl (by kernel_rfl) (fun _ _ _ h => h) (Or.inl ⟨by rfl, ?_⟩) ?_ ?_
  rotate_left
  · intro w'
    go_simp
    with_reducible rfl
  rotate_left
  · simp only [Act.put, List.setIfInBounds_toArray, List.set_cons_zero, List.set_cons_succ, i64_w, i32_w]
    rfl
  refine one_ (i := 10) (N := some 33) #[true, true, true, true, true, true, true, true, true, true, true, false, false, false, false] rfl rfl (by kernel_rfl) (by decide) (fun K hK => ?_)
  refine value_ (w1 := ?_) (v := ?_) (by rfl) rfl ?_ ?_
  rotate_left 2
  · go_simp
    constructor
    · rfl
    · rfl
  refine hK.out _ _ ⟨(pw_cell_below (below_alloc (Below.refl V.heap.size V) _) ps0), (pw_cell_below (below_alloc (Below.refl V.heap.size V) _) ps1)⟩ (fun hHeld => ?_)
  clear hK K
  refine norm_ (a' := ?_) ?_ ?_
  rotate_left
  · show Act.put _ (some 33) _ = _
    simp only [Act.put, List.setIfInBounds_toArray, List.set_cons_zero, List.set_cons_succ, i64_w, i32_w]
    rfl
  refine one_ (i := 11) (N := some 34) #[true, true, true, true, true, true, true, true, true, true, true, true, false, false, false] rfl rfl (by kernel_rfl) (by decide) (fun K hK => ?_)
  refine step_append_cells (w0 := V) (W := V) base (by rfl) (.tmp 27) (.tmp 33) 27 3 (.int .i64 0) 1 8 rfl Try.underlying27 infoInt rfl (by decide) (by decide) (.slice fA 0 fc) 0 [] [.int .i64 (sl.length : Int)] rfl rfl rfl (fun u hu => by rw [List.mem_singleton.1 hu]; rfl) HR2d.out.free (Below.refl _ _) (by omega) (by omega) ?_
  intro v4 w4 ho4 hB4 hg4 hat4
  have ho4b := (fr_grownBy hg4).blk HR2d.out.obj (fun e => (hfa _ e).1 rfl)
  obtain ⟨A4, c4, rfl⟩ := own_slice ho4
  have k1 := blk_cell ho4b 1
  have k2 := blk_frozen ho4b 1
  refine hK.out _ _ ⟨(blk_cell ho4b 0), k1⟩ (fun hHeld => ?_)
  clear hK K
  refine norm_ (a' := ?_) ?_ ?_
  rotate_left
  · show Act.put _ (some 34) _ = _
    simp only [Act.put, List.setIfInBounds_toArray, List.set_cons_zero, List.set_cons_succ, i64_w, i32_w]
    rfl
  refine pure_ (i := 12) (N := some 35) (v := ?_) (a' := ?_) #[true, true, true, true, true, true, true, true, true, true, true, true, true, false, false] rfl rfl (by kernel_rfl) (fun _ _ _ h => h) (Or.inl ⟨by rfl, ?_⟩) ?_ ?_
  rotate_left
  · intro w'
    go_simp
    with_reducible rfl
  rotate_left
  · simp only [Act.put, List.setIfInBounds_toArray, List.set_cons_zero, List.set_cons_succ, i64_w, i32_w]
    rfl
  refine pure_ (i := 13) (N := some 36) (v := ?_) (a' := ?_) #[true, true, true, true, true, true, true, true, true, true, true, true, true, true, false] rfl rfl (by kernel_rfl) (fun _ _ _ h => h) (Or.inl ⟨by rfl, ?_⟩) ?_ ?_
  rotate_left
  · intro w'
    go_simp
    with_reducible rfl
  rotate_left
  · simp only [Act.put, List.setIfInBounds_toArray, List.set_cons_zero, List.set_cons_succ, i64_w, i32_w]
    rfl
  refine last_ (i := 14) (N := none) #[true, true, true, true, true, true, true, true, true, true, true, true, true, true, true] rfl rfl (by kernel_rfl) (by decide) (fun K hK => ?_)
  refine skip_ (w1 := ?_) (by rfl) rfl ?_ ?_
  rotate_left
  · go_simp
    rfl
  refine hK.out _ _ ?_
  clear hK K
  refine done_ (by kernel_rfl) ?_

  obtain ⟨fg, fc4, hA4, hfc4, hfm4⟩ := own_some ho4 (by omega)
  injection hA4 with hA4 _ hc4
  subst hA4
  subst hc4
  have hr5 := HR2d.out.frees (vf' := .slice (some ⟨fg, 0, none⟩) 1 c4) (fr' := [(sl.length : Int)]) (fr_grownBy hg4) ho4 (fun k hk => by
    rcases hat4 with e | ⟨b, e, hb⟩
    · exact .inl (e ▸ hk)
    · rw [e] at hk; cases hk; exact .inr hb)
  have hvo : ∀ j, (Value.slice (some ⟨fg, 0, none⟩) 1 c4).ownBlock = some j → (Value.slice fA 0 fc).ownBlock = some j ∨ w.heap.size ≤ j := by
    intro j hj
    rcases hat4 with e | ⟨b, e, hb⟩
    · exact .inl (e ▸ hj)
    · rw [e] at hj; cases hj; exact .inr (by omega)
  have hF5 : Fr (fun j => j = a ∨ j = gs ∨ (Value.slice fA 0 fc).ownBlock = some j) w (w4.setCell ⟨a, 1, none⟩ (.slice (some ⟨fg, 0, none⟩) 1 c4)) := ((Fr.of_new HB2d.out).then_ (fr_grownBy hg4) (fun k hk => .inl (.inr (.inr hk)))).then_ (Fr.set a 1 _) (fun k hk => .inl (.inl hk))
  have hbx5 : (w4.setCell ⟨a, 1, none⟩ (.slice (some ⟨fg, 0, none⟩) 1 c4)).heap[w.heap.size]? = _ := blk_far ((fr_grownBy hg4).blk HBXd.out (fun e => by have := own_lt HR.out.free _ e; omega)) (p := ⟨a, 1, none⟩) (show ¬ w.heap.size = a by omega) _
  obtain ⟨W5, hW5⟩ : ∃ W5, w4.setCell ⟨a, 1, none⟩ (.slice (some ⟨fg, 0, none⟩) 1 c4) = W5 := ⟨_, rfl⟩
  rw [hW5] at hr5 hF5 hbx5 ⊢
  have p0 := blk_cell hr5.obj 0
  have hba5 := hr5.obj
  have hrow5 := hr5.row
  have hq5 : W5.cell? ⟨fg, 0, none⟩ = some (.int .i64 (sl.length : Int)) := hr5.free.cellAt 0 (by decide)
  have HQ5 := Lib.hid hq5
  have HR5 := Lib.hid hr5
  have HF5 := Lib.hid hF5
  have HBX5 := Lib.hid hbx5
  have HVO := Lib.hid hvo
  have HBA5 := Lib.hid hba5
  have HROW5 := Lib.hid hrow5
  have hsz5 : w.heap.size ≤ W5.heap.size := hF5.size
  clear hq5 hHeld hr5 hF5 hbx5 hvo hba5 hrow5 ho4b k1 k2 hat4 hg4 hB4 ho4 ps0 ps1 HR2d HB2d HBXd
  have pn0 : (W5.alloc (.cells #[.int .u32 0, .int .u32 0, .int .u32 0, .slice none 0 0, .slice none 0 0, .int .i64 0] 115)).cell? ⟨a, 0, none⟩ = some (.slice (some ⟨gs, 0, none⟩) sl.length cs) := pw_cell_below (below_alloc (Below.refl W5.heap.size W5) _) p0
  go_wp2_with (at_builtin; go_loud (refine print_append_cells (w0 := W5) (W := W5) base rfl (.tmp 41) (.tmp 43) 105 115 (.agg #[.int .u32 0, .int .u32 0, .int .u32 0, .slice none 0 0, .slice none 0 0, .int .i64 0]) 6 72 rfl Try.underlying105 infoSlot rfl (by decide) (by decide) (.slice (some ⟨gs, 0, none⟩) sl.length cs) sl.length (flat sl) nob.cells rfl rfl rfl (fun u hu => by revert u; decide) HROW5.out (Below.refl _ _) (by omega) (by omega) ?_; intro v6 w6 ho6 hB6 hg6 hat6; obtain ⟨gs', cs', hv6, hcs6, hcm6⟩ := own_some ho6 (by omega); subst hv6; have hob6 := (fr_grownBy hg6).blk HBA5.out (fun e => HR5.out.ga (by cases e; rfl)); have r0 := blk_cell hob6 0; have r1 := blk_cell hob6 1; have y0 := blk_frozen hob6 0; have y1 := blk_frozen hob6 1; have q6 := (fr_grownBy hg6).cell HQ5.out (fun e => (HR5.out.fa fg rfl).2 (by cases e; rfl)); have q0 : ∀ u, (w6.setCell ⟨a, 0, none⟩ u).cell? ⟨fg, 0, none⟩ = some (.int .i64 (sl.length : Int)) := fun u => (Fr.set a 0 u).cell q6 (HR5.out.fa fg rfl).1; have HO6 := Lib.hid ho6; have HG6 := Lib.hid hg6; have HAT6 := Lib.hid hat6; clear ho6 hg6 hat6 hB6 hob6))
  have hr7 := HR5.out.grow ((fr_grownBy HG6.out).mono (S' := fun j => j = gs) (fun j e => .inl (by cases e; rfl))) (by rw [flat_app]; exact HO6.out) (by
    rcases HAT6.out with e | ⟨b, e, hb⟩
    · left; injection e
    · injection e with e; subst e; exact .inr hb)
  have hg7 : gs' = gs ∨ w.heap.size ≤ gs' := by
    rcases HAT6.out with e | ⟨b, e, hb⟩
    · left; injection e
    · injection e with e; subst e; exact .inr (Nat.le_trans hsz5 hb)
  have hF7 : Fr (fun j => j = a ∨ j = gs ∨ (Value.slice fA 0 fc).ownBlock = some j) w (w6.setCell ⟨a, 0, none⟩ (.slice (some ⟨gs', 0, none⟩) (sl.length + 1) cs')) := (HF5.out.then_ (fr_grownBy HG6.out) (fun k hk => .inl (.inr (.inl (by cases hk; rfl))))).then_ (Fr.set a 0 _) (fun k hk => .inl (.inl hk))
  have hbx7 := blk_far ((fr_grownBy HG6.out).blk HBX5.out (fun e => absurd (Option.some.inj e) (Nat.ne_of_lt hg))) (p := ⟨a, 0, none⟩) (show ¬ w.heap.size = a by omega) (.slice (some ⟨gs', 0, none⟩) (sl.length + 1) cs')
  have hho : (w6.setCell ⟨a, 0, none⟩ (.slice (some ⟨gs', 0, none⟩) (sl.length + 1) cs')).ownsRow base 3 1 (.slice (some ⟨fg, 0, none⟩) 0 c4) 0 [] := ownsRow_pop (last := [.int .i64 (sl.length : Int)]) rfl hr7.free
  have hr8 := hr7.frees (vf' := .slice (some ⟨fg, 0, none⟩) 0 c4) (fr' := []) (Fr.refl _ _) hho (fun k hk => .inl (by cases hk; rfl))
  have hbx8 := blk_far hbx7 (p := ⟨a, 1, none⟩) (show ¬ w.heap.size = a by omega) (.slice (some ⟨fg, 0, none⟩) 0 c4)
  have hF8 := hF7.then_ (Fr.set a 1 (.slice (some ⟨fg, 0, none⟩) 0 c4)) (fun k hk => .inl (.inl hk))
  obtain ⟨W8, hW8⟩ : ∃ W8, (w6.setCell ⟨a, 0, none⟩ (.slice (some ⟨gs', 0, none⟩) (sl.length + 1) cs')).setCell ⟨a, 1, none⟩ (.slice (some ⟨fg, 0, none⟩) 0 c4) = W8 := ⟨_, rfl⟩
  rw [hW8] at hr8 hbx8 hF8 ⊢
  have hO8 : ∀ j, O j → ¬ (j = a ∨ j = gs ∨ (Value.slice fA 0 fc).ownBlock = some j) := fun j hj e => by
    obtain ⟨o1, o2, o3⟩ := hO j hj
    rcases e with e | e | e
    · exact o1 e
    · exact o2 e
    · exact o3 e
  have hd : Below W8.heap.size W8 W8.drew := below_drew1 (Below.refl _ _)
  have hr3d := Raw.below hr8 hd
  have hbx3d := blk_below hbx8 hd
  have hl8 : (sl ++ [nob]).length = sl.length + 1 := by simp
  have ps0 := blk_cell hr3d.obj 0
  rw [hl8] at ps0
  have b0 := blk_cell hbx3d 0
  have b1 := blk_cell hbx3d 1
  have b2 := blk_cell hbx3d 2
  have b3 := blk_cell hbx3d 3
  have b4 := blk_cell hbx3d 4
  have hix : (sl.length : Int) < (sl.length : Int) + 1 := by omega
  have HIS := Lib.hid (show (sl ++ [nob])[sl.length]? = some nob by simp)
  have HR3 := Lib.hid hr3d
  have HB3 := Lib.hid hbx3d
  have HF3 := Lib.hid (hF8.more hd)
  have hsz : w.heap.size ≤ W8.drew.heap.size := (hF8.more hd).size
  have HX := Lib.hid ((HVR.out.fr kVal_K hF8 hO8).below hd)
  have HY := Lib.hid ((HKR.out.fr kInt_K hF8 hO8).below hd)
  have HG7 := Lib.hid hg7
  have HVO8 := Lib.hid (fun j hj => HVO.out j (show (Value.slice (some ⟨fg, 0, none⟩) 1 c4).ownBlock = some j from hj))
  have hsi : (sl.length : Int) ≤ 100000000 := by omega
  clear hho hr7 hr8 hbx8 hbx7 hF7 hF8 hO8 hr3d hbx3d hd pn0 p0 r0 r1 y0 y1 q6 q0 hg7
  refine start_ (n := 10) (S := fun w' => w'.cell? ⟨a, 0, none⟩ = some (.slice (some ⟨gs', 0, none⟩) (sl.length + 1) cs') ∧ w'.cell? ⟨w.heap.size, 0, none⟩ = some (.int .u32 ow) ∧ w'.cell? ⟨w.heap.size, 1, none⟩ = some (.int .u32 x) ∧ w'.cell? ⟨w.heap.size, 2, none⟩ = some (.int .u32 y) ∧ w'.cell? ⟨w.heap.size, 3, none⟩ = some (.slice A1 vals.length c1) ∧ w'.cell? ⟨w.heap.size, 4, none⟩ = some (.slice A2 kids.length c2)) (ds := [9]) #[false, false, false, false, false, false, false, false, false, false] (by kernel_rfl) rfl rfl ⟨ps0, b0, b1, b2, b3, b4⟩ (fun hHeld => ?_)
  refine pure_ (i := 0) (N := some 69) (v := ?_) (a' := ?_) #[true, false, false, false, false, false, false, false, false, false] rfl rfl (by kernel_rfl) (fun _ _ _ h => h) (Or.inl ⟨by rfl, ?_⟩) ?_ ?_
  rotate_left
  · intro w'
    go_simp
    with_reducible rfl
  rotate_left
  · simp only [Act.put, List.setIfInBounds_toArray, List.set_cons_zero, List.set_cons_succ, i64_w, i32_w]
    rfl
  refine pure_ (i := 1) (N := some 70) (v := ?_) (a' := ?_) #[true, true, false, false, false, false, false, false, false, false] rfl rfl (by kernel_rfl) (fun _ _ _ h => h) (Or.inl ⟨by rfl, ?_⟩) ?_ ?_
  rotate_left
  · intro w'
    go_simp
    with_reducible rfl
  rotate_left
  · simp only [Act.put, List.setIfInBounds_toArray, List.set_cons_zero, List.set_cons_succ, i64_w, i32_w]
    rfl
  refine pure_ (i := 2) (N := some 71) (v := ?_) (a' := ?_) #[true, true, true, false, false, false, false, false, false, false] rfl rfl (by kernel_rfl) (fun _ _ _ h => h) (Or.inl ⟨by rfl, ?_⟩) ?_ ?_
  rotate_left
  · intro w'
    go_simp
    with_reducible rfl
  rotate_left
  · simp only [Act.put, List.setIfInBounds_toArray, List.set_cons_zero, List.set_cons_succ, i64_w, i32_w]
    rfl
  refine pure_ (i := 4) (N := some 73) (v := ?_) (a' := ?_) #[true, true, true, false, true, false, false, false, false, false] rfl rfl (by kernel_rfl) (fun _ _ _ h => h) (Or.inl ⟨by rfl, ?_⟩) ?_ ?_
  rotate_left
  · intro w'
    go_simp
    with_reducible rfl
  rotate_left
  · simp only [Act.put, List.setIfInBounds_toArray, List.set_cons_zero, List.set_cons_succ, i64_w, i32_w]
    rfl
  refine take_ (i := 3) (N := some 72) (v := ?_) (a' := ?_) #[true, true, true, true, true, false, false, false, false, false] rfl rfl (by kernel_rfl) (fun _ _ _ h => h) (Or.inl ⟨by rfl, ?_⟩) hHeld ?_ ?_
  rotate_left
  · rintro w' ⟨s0, s1, s2, s3, s4, s5⟩
    go_simp
    with_reducible rfl
  rotate_left
  · simp only [Act.put, List.setIfInBounds_toArray, List.set_cons_zero, List.set_cons_succ, i64_w, i32_w]
    rfl
  refine take_ (i := 5) (N := some 74) (v := ?_) (a' := ?_) #[true, true, true, true, true, true, false, false, false, false] rfl rfl (by kernel_rfl) (fun _ _ _ h => h) (Or.inl ⟨by rfl, ?_⟩) hHeld ?_ ?_
  rotate_left
  · rintro w' ⟨s0, s1, s2, s3, s4, s5⟩
    go_simp
    with_reducible rfl
  rotate_left
  · simp only [Act.put, List.setIfInBounds_toArray, List.set_cons_zero, List.set_cons_succ, i64_w, i32_w]
    rfl
  refine one_ (i := 6) (N := some 75) #[true, true, true, true, true, true, true, false, false, false] rfl rfl (by kernel_rfl) (by decide) (fun K hK => ?_)
  refine goes_ Try.func65 (by kernel_rfl) rfl #[cellV ow x y (.slice A1 vals.length c1) (.slice A2 kids.length c2)] (by rfl) rfl rfl (by simp only [List.map_toArray, List.map_cons, List.map_nil]; rfl) ?_
  with_reducible refine (own_calls ow x y _ _ vals kids _ HX.out HY.out hvl (by omega)).mono ?_
  rintro e w9 ⟨v', k', rfl, hv5, hk5, hB5⟩
  refine ⟨_, rfl, ?_⟩
  obtain ⟨A3, c3, e3, _⟩ := id hv5
  subst e3
  obtain ⟨A4, c5, e4, _⟩ := id hk5
  subst e4
  have hr5 := Raw.below HR3.out hB5
  have hb5 := blk_below HB3.out hB5
  obtain ⟨t0, t1, t2, t3, t4, t5, u0, u1, u2, u3, u4, u5⟩ := six hr5 sl.length _ HIS.out
  have q0 := blk_cell hr5.obj 0
  rw [hl8] at q0
  refine hK.out _ _ ⟨q0, (blk_cell hb5 0), (blk_cell hb5 1), (blk_cell hb5 2), (blk_cell hb5 3), (blk_cell hb5 4)⟩ (fun hHeld => ?_)
  clear hK K
  refine norm_ (a' := ?_) ?_ ?_
  rotate_left
  · show Act.put _ (some 75) _ = _
    simp only [Act.put, List.setIfInBounds_toArray, List.set_cons_zero, List.set_cons_succ, i64_w, i32_w]
    rfl
  refine pure_ (i := 7) (N := some 76) (v := ?_) (a' := ?_) #[true, true, true, true, true, true, true, true, false, false] rfl rfl (by kernel_rfl) (fun _ _ _ h => h) (Or.inl ⟨by rfl, ?_⟩) ?_ ?_
  rotate_left
  · intro w'
    go_simp
    with_reducible rfl
  rotate_left
  · simp only [Act.put, List.setIfInBounds_toArray, List.set_cons_zero, List.set_cons_succ, i64_w, i32_w]
    rfl
  refine pure_ (i := 8) (N := some 77) (v := ?_) (a' := ?_) #[true, true, true, true, true, true, true, true, true, false] rfl rfl (by kernel_rfl) (fun _ _ _ h => h) (Or.inl ⟨by rfl, ?_⟩) ?_ ?_
  rotate_left
  · intro w'
    go_simp
    with_reducible rfl
  rotate_left
  · simp only [Act.put, List.setIfInBounds_toArray, List.set_cons_zero, List.set_cons_succ, i64_w, i32_w]
    rfl
  refine last_ (i := 9) (N := none) #[true, true, true, true, true, true, true, true, true, true] rfl rfl (by kernel_rfl) (by decide) (fun K hK => ?_)
  refine skip_ (w1 := ?_) (by rfl) rfl ?_ ?_
  rotate_left
  · go_simp
    rfl
  refine hK.out _ _ ?_
  clear hK K
  refine done_ (by kernel_rfl) ?_

  have hr6 := hr5.lay sl.length nob ⟨ow, x, y, .slice A3 vals.length c3, .slice A4 kids.length c5, 1⟩ HIS.out
  have hF6 := fr6 w9 gs' (sl.length * 6) (.int .u32 ow) (.int .u32 x) (.int .u32 y) (.slice A3 vals.length c3) (.slice A4 kids.length c5) (.int .i64 1)
  obtain ⟨W6, hW6⟩ : ∃ W6, ((((((w9.setCell ⟨gs', sl.length * 6, none⟩ (.int .u32 ow)).setCell ⟨gs', sl.length * 6 + 1, none⟩ (.int .u32 x)).setCell ⟨gs', sl.length * 6 + 2, none⟩ (.int .u32 y)).setCell ⟨gs', sl.length * 6 + 3, none⟩ (.slice A3 vals.length c3)).setCell ⟨gs', sl.length * 6 + 4, none⟩ (.slice A4 kids.length c5)).setCell ⟨gs', sl.length * 6 + 5, none⟩ (.int .i64 1)) = W6 := ⟨_, rfl⟩
  rw [hW6] at hF6 ⊢
  replace hr6 : RawA W6 base a gs' cs' (.slice (some ⟨fg, 0, none⟩) 0 c4) ((sl ++ [nob]).set sl.length ⟨ow, x, y, .slice A3 vals.length c3, .slice A4 kids.length c5, 1⟩) [] live most := by rw [← hW6]; exact hr6
  have hgl : gs' < W8.drew.heap.size := own_lt HR3.out.row gs' rfl
  have hv6 := hv5.fr kVal_K hF6 (fun j hj e => by omega)
  have hk6 := hk5.fr kInt_K hF6 (fun j hj e => by omega)
  have l2 := blk_cell hr6.obj 2
  have l3 := blk_frozen hr6.obj 2
  have HR6 := Lib.hid hr6
  have HV6 := Lib.hid hv6
  have HK6 := Lib.hid hk6
  have HF6 := Lib.hid ((HF3.out.more hB5).then_ hF6 (fun j hj => HG7.out.elim (fun e => .inl (.inr (.inl (hj.trans e)))) (fun e => .inr (by omega))))
  have hz5 : W8.drew.heap.size ≤ w9.heap.size := hB5.size
  clear hHeld t0 t1 t2 t3 t4 t5 u0 u1 u2 u3 u4 u5 q0 hr5 hb5 hr6 hv6 hk6 hv5 hk5 hF6 hB5
  go_wp2_with (go_at_call 66; go_loud (refine (add_calls _ live 1 _ rfl l2 l3).mono ?_; rintro e w7 ⟨rfl, rfl⟩))
  go_ret2
  have e1 : wrap64 (live + 1) = live + 1 := by unfold wrap64; omega
  rw [e1]
  have hF7 : Fr (· = a) W6 (W6.setCell ⟨a, 2, none⟩ (.int .i64 (live + 1))) := Fr.set a 2 _
  have hnew : ∀ j, W8.drew.heap.size ≤ j → w.heap.size ≤ j ∧ j ≠ gs' ∧ (Value.slice (some ⟨fg, 0, none⟩) 0 c4).ownBlock ≠ some j := fun j hj => ⟨by omega, by omega, fun e => by have := own_lt HR3.out.free j e; omega⟩
  exact ⟨_, _, _, _, _, rfl, HR6.out.live (live + 1), HVO8.out, HG7.out, (HV6.out.fr kVal_K hF7 (fun j hj e => by omega)).mono hnew, (HK6.out.fr kInt_K hF7 (fun j hj e => by omega)).mono hnew, HF6.out.then_ hF7 (fun j hj => .inl (.inl hj))⟩
end
end Go.Proofs.Ytnipbfhfaefieaa.Arn
/-! arena: Edit. -/
namespace Go.Proofs.Ytnipbfhfaefieaa.Arn
open Go.RowKit Go Go.Proofs.YtnipbfhfaefieaaW.PrintWords Go.Proofs.YtnipbfhfaefieaaW.PrintMore Go.Proofs.YtnipbfhfaefieaaW.PrintLast Go.Proofs.Ytnipbfhfaefieaa.Bts Go.Proofs.Ytnipbfhfaefieaa.Fra
theorem edit_nil (i o ow x y : Int) (v k : Value) (w : World) (hv : ∃ A n c, v = .slice A n c) (hk : ∃ A n c, k = .slice A n c) :
    Calls Try.prog 28 #[.pointer none, .int .i64 i, .int .u32 o, cellV ow x y v k] w fun e w' => e = .returned (.int .i64 4) ∧ Below w.heap.size w w' := by
  obtain ⟨A1, n1, c1, rfl⟩ := hv
  obtain ⟨A2, n2, c2, rfl⟩ := hk
  go_enter Try.func28, Try.ntmps28
  go_wp2_with (go_at_call 68; go_loud (refine (is_nil _ _).mono ?_; rintro e w1 ⟨rfl, hB⟩))
  go_ret
  exact ⟨rfl, below_step (below_alloc (Below.refl _ _) _) hB⟩
section
variable {base a gs cs : Nat} {vf : Value} {sl : List Slot} {fr : List Int} {live most : Int} {O : Nat → Prop}
theorem edit_none (i o ow x y : Int) (v k : Value) (w : World) (h : RawA w base a gs cs vf sl fr live most) (hs : sl.length ≤ 1000000000) (hi : isB sl i = false) (hv : ∃ A n c, v = .slice A n c) (hk : ∃ A n c, k = .slice A n c) :
    Calls Try.prog 28 #[.pointer (some ⟨a, 0, none⟩), .int .i64 i, .int .u32 o, cellV ow x y v k] w fun e w' => e = .returned (.int .i64 4) ∧ Below w.heap.size w w' := by
  obtain ⟨A1, n1, c1, rfl⟩ := hv
  obtain ⟨A2, n2, c2, rfl⟩ := hk
  have HI := Lib.hid (is_raw i (w.alloc (.cells #[.int .u32 ow, .int .u32 x, .int .u32 y, .slice A1 n1 c1, .slice A2 n2 c2] 43)) (Raw.below h (below_alloc (Below.refl _ _) _)) hs)
  rw [hi] at HI
  clear h hi
  go_enter Try.func28, Try.ntmps28
  go_wp2_with (go_at_call 68; go_loud (refine HI.out.mono ?_; rintro e w1 ⟨rfl, hB⟩))
  go_ret
  exact ⟨rfl, below_step (below_alloc (Below.refl _ _) _) hB⟩
set_option maxHeartbeats 2000000 in
theorem edit_state (i : Nat) (o ow x y : Int) (v k : Value) (s : Slot) (w : World) (h : RawA w base a gs cs vf sl fr live most) (hs : sl.length ≤ 1000000000) (hi : sl[i]? = some s) (hi0 : 0 < i) (hr : 0 < s.r) (hv : ∃ A n c, v = .slice A n c) (hk : ∃ A n c, k = .slice A n c)
    (hbad : o = 0 ∨ s.ow ≠ o ∨ 1 < s.r) :
    Calls Try.prog 28 #[.pointer (some ⟨a, 0, none⟩), .int .i64 i, .int .u32 o, cellV ow x y v k] w fun e w' => e = .returned (.int .i64 14) ∧ Below w.heap.size w w' := by
  obtain ⟨A1, n1, c1, rfl⟩ := hv
  obtain ⟨A2, n2, c2, rfl⟩ := hk
  have hil : i < sl.length := (List.getElem?_eq_some_iff.1 hi).1
  have HI := Lib.hid (is_raw (i : Int) (w.alloc (.cells #[.int .u32 ow, .int .u32 x, .int .u32 y, .slice A1 n1 c1, .slice A2 n2 c2] 43)) (Raw.below h (below_alloc (Below.refl _ _) _)) hs)
  rw [isB_at hi hi0 hr] at HI
  have HR := Lib.hid h
  have HIS := Lib.hid hi
  have hs' : (sl.length : Int) ≤ 1000000000 := by omega
  have hil' : (i : Int) < (sl.length : Int) := by omega
  clear h hi
  by_cases b0 : o = 0
  · subst b0
    go_enter Try.func28, Try.ntmps28
    go_wp2_with (go_at_call 68; go_loud (refine HI.out.mono ?_; rintro e w1 ⟨rfl, hB⟩))
    go_ret
    exact ⟨rfl, below_step (below_alloc (Below.refl _ _) _) hB⟩
  · have b0' : (o == 0) = false := by simpa using b0
    by_cases b1 : s.ow = o
    · have b1' : (s.ow != o) = false := by simpa using b1
      have b2 : 1 < s.r := by omega
      go_enter Try.func28, Try.ntmps28
      go_wp2_with (go_at_call 68; go_loud (refine HI.out.mono ?_; rintro e w1 ⟨rfl, hB⟩; have hb1 := below_step (below_alloc (Below.refl w.heap.size w) _) hB; have hr1 := Raw.below HR.out hb1; have p0 := blk_cell hr1.obj 0; obtain ⟨t0, t1, t2, t3, t4, t5, _⟩ := six hr1 i _ HIS.out; have HB := Lib.hid hb1; clear hr1 hb1 hB))
      go_ret
      exact ⟨rfl, HB.out⟩
    · have b1' : (s.ow != o) = true := by simpa using b1
      go_enter Try.func28, Try.ntmps28
      go_wp2_with (go_at_call 68; go_loud (refine HI.out.mono ?_; rintro e w1 ⟨rfl, hB⟩; have hb1 := below_step (below_alloc (Below.refl w.heap.size w) _) hB; have hr1 := Raw.below HR.out hb1; have p0 := blk_cell hr1.obj 0; obtain ⟨t0, t1, t2, t3, t4, t5, _⟩ := six hr1 i _ HIS.out; have HB := Lib.hid hb1; clear hr1 hb1 hB))
      go_ret
      exact ⟨rfl, HB.out⟩
set_option maxHeartbeats 2000000 in
theorem edit_arg (i : Nat) (o ow x y : Int) (v k : Value) (kids : List Int) (s : Slot) (w : World) (h : RawA w base a gs cs vf sl fr live most) (hs : sl.length ≤ 1000000000) (hi : sl[i]? = some s) (hi0 : 0 < i) (hr : s.r = 1) (hv : ∃ A n c, v = .slice A n c) (hk : RowIn (Kd.int .i64) w O k kids) (hl : kids.length ≤ 1000000000) (hb : badAt sl kids = true)
    (ho : o ≠ 0) (hso : s.ow = o) :
    Calls Try.prog 28 #[.pointer (some ⟨a, 0, none⟩), .int .i64 i, .int .u32 o, cellV ow x y v k] w fun e w' => e = .returned (.int .i64 1) ∧ Below w.heap.size w w' := by
  obtain ⟨A1, n1, c1, rfl⟩ := hv
  have HKR := Lib.hid hk
  obtain ⟨A, c, rfl, _⟩ := hk
  have hil : i < sl.length := (List.getElem?_eq_some_iff.1 hi).1
  have HI := Lib.hid (is_raw (i : Int) (w.alloc (.cells #[.int .u32 ow, .int .u32 x, .int .u32 y, .slice A1 n1 c1, .slice A kids.length c] 43)) (Raw.below h (below_alloc (Below.refl _ _) _)) hs)
  rw [isB_at hi hi0 (by omega)] at HI
  have HR := Lib.hid h
  have HIS := Lib.hid hi
  have HBB := Lib.hid hb
  have hs' : (sl.length : Int) ≤ 1000000000 := by omega
  have hil' : (i : Int) < (sl.length : Int) := by omega
  have b0' : (o == 0) = false := by simpa using ho
  have b1' : (s.ow != o) = false := by simpa using hso
  have b2 : ¬ 1 < s.r := by omega
  clear h hi hb
  go_enter Try.func28, Try.ntmps28
  go_wp2_with (first
    | (go_at_call 64; go_loud (refine (right_calls ow x y (.slice A1 n1 c1) (.slice A kids.length c) kids _ (Raw.below HR.out HB.out) hs (HKR.out.below HB.out) hl).mono ?_; rw [HBB.out]; rintro e w2 ⟨rfl, hB2⟩))
    | (go_at_call 68; go_loud (refine HI.out.mono ?_; rintro e w1 ⟨rfl, hB⟩; have hb1 := below_step (below_alloc (Below.refl w.heap.size w) (.cells #[.int .u32 ow, .int .u32 x, .int .u32 y, .slice A1 n1 c1, .slice A kids.length c] 43)) hB; have hr1 := Raw.below HR.out hb1; have p0 := blk_cell hr1.obj 0; obtain ⟨t0, t1, t2, t3, t4, t5, _⟩ := six hr1 i _ HIS.out; have hbx := blk_below (blk_new w (.cells #[.int .u32 ow, .int .u32 x, .int .u32 y, .slice A1 n1 c1, .slice A kids.length c] 43)) hB; have g0 := blk_cell hbx 0; have g1 := blk_cell hbx 1; have g2 := blk_cell hbx 2; have g3 := blk_cell hbx 3; have g4 := blk_cell hbx 4; have HB := Lib.hid hb1; clear hr1 hb1 hB hbx)))
  go_ret
  exact ⟨rfl, below_step HB.out hB2⟩
end
end Go.Proofs.Ytnipbfhfaefieaa.Arn
/-! arena: Edit, done. -/
namespace Go.Proofs.Ytnipbfhfaefieaa.Arn
open Go.RowKit Go Go.Proofs.YtnipbfhfaefieaaW.PrintWords Go.Proofs.YtnipbfhfaefieaaW.PrintMore Go.Proofs.YtnipbfhfaefieaaW.PrintLast Go.Proofs.Ytnipbfhfaefieaa.Bts Go.Proofs.Ytnipbfhfaefieaa.Fra
theorem frq5 (w : World) (g o : Nat) (x y z u v : Value) : Fr (· = g) w (((((w.setCell ⟨g, o, none⟩ x).setCell ⟨g, o + 1, none⟩ y).setCell ⟨g, o + 2, none⟩ z).setCell ⟨g, o + 3, none⟩ u).setCell ⟨g, o + 4, none⟩ v) :=
  Fr.put (S := fun k => k = g) (Fr.put (S := fun k => k = g) (Fr.put (S := fun k => k = g) (Fr.put (S := fun k => k = g) (Fr.put (S := fun k => k = g) (Fr.refl (fun k => k = g) w) (p := ⟨g, o, none⟩) (.inl rfl) x) (p := ⟨g, o + 1, none⟩) (.inl rfl) y) (p := ⟨g, o + 2, none⟩) (.inl rfl) z) (p := ⟨g, o + 3, none⟩) (.inl rfl) u) (p := ⟨g, o + 4, none⟩) (.inl rfl) v
section
variable {base a gs cs : Nat} {vf : Value} {sl : List Slot} {fr : List Int} {live most : Int} {O : Nat → Prop}
/-- A slot's cell is laid anew, but for how many hold it. -/
theorem lay5 {W : World} (h : RawA W base a gs cs vf sl fr live most) (i : Nat) (s s' : Slot) (hs : sl[i]? = some s) (hr : s'.r = s.r) :
    RawA (((((W.setCell ⟨gs, i * 6 + 0, none⟩ (.int .u32 s'.ow)).setCell ⟨gs, i * 6 + 1, none⟩ (.int .u32 s'.a)).setCell ⟨gs, i * 6 + 2, none⟩ (.int .u32 s'.b)).setCell ⟨gs, i * 6 + 3, none⟩ s'.v).setCell ⟨gs, i * 6 + 4, none⟩ s'.k) base a gs cs vf (sl.set i s') fr live most := by
  have hi : i < sl.length := (List.getElem?_eq_some_iff.1 hs).1
  have at_ : ∀ (l : List Slot) (x : Slot), l.length = sl.length → (l.set i x)[i]? = some x := fun l x hl => by rw [List.getElem?_set_self (by omega)]
  have h0 := h.put i 0 (.int .u32 s'.ow) s ⟨s'.ow, s.a, s.b, s.v, s.k, s.r⟩ hs (by decide) rfl
  have h1 := h0.put i 1 (.int .u32 s'.a) _ ⟨s'.ow, s'.a, s.b, s.v, s.k, s.r⟩ (at_ _ _ rfl) (by decide) rfl
  have h2 := h1.put i 2 (.int .u32 s'.b) _ ⟨s'.ow, s'.a, s'.b, s.v, s.k, s.r⟩ (at_ _ _ (by simp)) (by decide) rfl
  have h3 := h2.put i 3 s'.v _ ⟨s'.ow, s'.a, s'.b, s'.v, s.k, s.r⟩ (at_ _ _ (by simp)) (by decide) rfl
  have h4 := h3.put i 4 s'.k _ s' (at_ _ _ (by simp)) (by decide) (by
    obtain ⟨a1, a2, a3, a4, a5, a6⟩ := s'
    replace hr : a6 = s.r := hr
    subst hr
    rfl)
  simpa only [List.set_set] using h4
set_option maxHeartbeats 4000000 in
set_option maxRecDepth 100000 in
theorem edit_ok (i : Nat) (o ow x y : Int) (v k : Value) (vals : List (Int × Int × ByteArray)) (kids : List Int) (s : Slot) (w : World) (h : RawA w base a gs cs vf sl fr live most) (hs : sl.length ≤ 1000000000) (hi : sl[i]? = some s) (hi0 : 0 < i) (hr : s.r = 1)
    (hv : RowIn kVal w O v vals) (hk : RowIn (Kd.int .i64) w O k kids) (hvl : vals.length * 32 ≤ 140737488355328) (hl : kids.length ≤ 1000000000) (hb : badAt sl kids = false)
    (ho : o ≠ 0) (hso : s.ow = o) :
    Calls Try.prog 28 #[.pointer (some ⟨a, 0, none⟩), .int .i64 i, .int .u32 o, cellV ow x y v k] w fun e w' => e = .returned (.int .i64 0) ∧ ∃ v' k', RawA w' base a gs cs vf (sl.set i ⟨o, x, y, v', k', 1⟩) fr live most ∧
      RowIn kVal w' (fun j => w.heap.size ≤ j) v' vals ∧ RowIn (Kd.int .i64) w' (fun j => w.heap.size ≤ j) k' kids ∧ Fr (fun j => j = gs) w w' := by
  have HVR := Lib.hid hv
  have HKR := Lib.hid hk
  obtain ⟨A1, c1, rfl, _⟩ := hv
  obtain ⟨A, c, rfl, _⟩ := hk
  have hil : i < sl.length := (List.getElem?_eq_some_iff.1 hi).1
  have HI := Lib.hid (is_raw (i : Int) (w.alloc (.cells #[.int .u32 ow, .int .u32 x, .int .u32 y, .slice A1 vals.length c1, .slice A kids.length c] 43)) (Raw.below h (below_alloc (Below.refl _ _) _)) hs)
  rw [isB_at hi hi0 (by omega)] at HI
  have hg : gs < w.heap.size := own_lt h.row gs rfl
  have HR := Lib.hid h
  have HIS := Lib.hid hi
  have HBB := Lib.hid hb
  have hs' : (sl.length : Int) ≤ 1000000000 := by omega
  have hil' : (i : Int) < (sl.length : Int) := by omega
  have b0' : (o == 0) = false := by simpa using ho
  have b1' : (s.ow != o) = false := by simpa using hso
  have b2 : ¬ 1 < s.r := by omega
  clear h hi hb
  go_enter Try.func28, Try.ntmps28
  go_wp2_with (first
    | (go_at_call 64; go_loud (refine (right_calls ow x y (.slice A1 vals.length c1) (.slice A kids.length c) kids _ (Raw.below HR.out HB.out) hs (HKR.out.below HB.out) hl).mono ?_; rw [HBB.out]; rintro e w2 ⟨rfl, hB2⟩; have HB2 := Lib.hid (below_step HB.out hB2); have HBX2 := Lib.hid (blk_below HBX.out hB2); clear hB2))
    | (go_at_call 68; go_loud (refine HI.out.mono ?_; rintro e w1 ⟨rfl, hB⟩; have hb1 := below_step (below_alloc (Below.refl w.heap.size w) (.cells #[.int .u32 ow, .int .u32 x, .int .u32 y, .slice A1 vals.length c1, .slice A kids.length c] 43)) hB; have hr1 := Raw.below HR.out hb1; have p0 := blk_cell hr1.obj 0; obtain ⟨t0, t1, t2, t3, t4, t5, _⟩ := six hr1 i _ HIS.out; have hbx := blk_below (blk_new w (.cells #[.int .u32 ow, .int .u32 x, .int .u32 y, .slice A1 vals.length c1, .slice A kids.length c] 43)) hB; have g0 := blk_cell hbx 0; have g1 := blk_cell hbx 1; have g2 := blk_cell hbx 2; have g3 := blk_cell hbx 3; have g4 := blk_cell hbx 4; have HB := Lib.hid hb1; have HBX := Lib.hid hbx; clear hr1 hb1 hB hbx)))
  have hd : Below w2.heap.size w2 w2.drew := below_drew1 (Below.refl _ _)
  have hb2 := below_step HB2.out hd
  have hr2 := Raw.below HR.out hb2
  have hbx2 := blk_below HBX2.out hd
  have ps0 := blk_cell hr2.obj 0
  have d0 := blk_cell hbx2 0
  have d1 := blk_cell hbx2 1
  have d2 := blk_cell hbx2 2
  have d3 := blk_cell hbx2 3
  have d4 := blk_cell hbx2 4
  have HR2 := Lib.hid hr2
  have HBX3 := Lib.hid hbx2
  have HB3 := Lib.hid hb2
  have HX := Lib.hid (HVR.out.below hb2)
  have HY := Lib.hid (HKR.out.below hb2)
  have hsz := hb2.size
  clear hd hb2 hr2 hbx2 p0 t0 t1 t2 t3 t4 t5 g0 g1 g2 g3 g4 HI
  refine start_ (n := 10) (S := fun w' => w'.cell? ⟨a, 0, none⟩ = some (.slice (some ⟨gs, 0, none⟩) sl.length cs) ∧ w'.cell? ⟨w.heap.size, 0, none⟩ = some (.int .u32 ow) ∧ w'.cell? ⟨w.heap.size, 1, none⟩ = some (.int .u32 x) ∧ w'.cell? ⟨w.heap.size, 2, none⟩ = some (.int .u32 y) ∧ w'.cell? ⟨w.heap.size, 3, none⟩ = some (.slice A1 vals.length c1) ∧ w'.cell? ⟨w.heap.size, 4, none⟩ = some (.slice A kids.length c)) (ds := [9]) #[false, false, false, false, false, false, false, false, false, false] (by kernel_rfl) rfl rfl ⟨ps0, d0, d1, d2, d3, d4⟩ (fun hHeld => ?_)
  refine pure_ (i := 0) (N := some 46) (v := ?_) (a' := ?_) #[true, false, false, false, false, false, false, false, false, false] rfl rfl (by kernel_rfl) (fun _ _ _ h => h) (Or.inl ⟨by rfl, ?_⟩) ?_ ?_
  rotate_left
  · intro w'
    go_simp
    with_reducible rfl
  rotate_left
  · simp only [Act.put, List.setIfInBounds_toArray, List.set_cons_zero, List.set_cons_succ, i64_w, i32_w]
    rfl
  refine pure_ (i := 1) (N := some 47) (v := ?_) (a' := ?_) #[true, true, false, false, false, false, false, false, false, false] rfl rfl (by kernel_rfl) (fun _ _ _ h => h) (Or.inl ⟨by rfl, ?_⟩) ?_ ?_
  rotate_left
  · intro w'
    go_simp
    with_reducible rfl
  rotate_left
  · simp only [Act.put, List.setIfInBounds_toArray, List.set_cons_zero, List.set_cons_succ, i64_w, i32_w]
    rfl
  refine pure_ (i := 2) (N := some 48) (v := ?_) (a' := ?_) #[true, true, true, false, false, false, false, false, false, false] rfl rfl (by kernel_rfl) (fun _ _ _ h => h) (Or.inl ⟨by rfl, ?_⟩) ?_ ?_
  rotate_left
  · intro w'
    go_simp
    with_reducible rfl
  rotate_left
  · simp only [Act.put, List.setIfInBounds_toArray, List.set_cons_zero, List.set_cons_succ, i64_w, i32_w]
    rfl
  refine pure_ (i := 4) (N := some 50) (v := ?_) (a' := ?_) #[true, true, true, false, true, false, false, false, false, false] rfl rfl (by kernel_rfl) (fun _ _ _ h => h) (Or.inl ⟨by rfl, ?_⟩) ?_ ?_
  rotate_left
  · intro w'
    go_simp
    with_reducible rfl
  rotate_left
  · simp only [Act.put, List.setIfInBounds_toArray, List.set_cons_zero, List.set_cons_succ, i64_w, i32_w]
    rfl
  refine take_ (i := 3) (N := some 49) (v := ?_) (a' := ?_) #[true, true, true, true, true, false, false, false, false, false] rfl rfl (by kernel_rfl) (fun _ _ _ h => h) (Or.inl ⟨by rfl, ?_⟩) hHeld ?_ ?_
  rotate_left
  · rintro w' ⟨s0, s1, s2, s3, s4, s5⟩
    go_simp
    with_reducible rfl
  rotate_left
  · simp only [Act.put, List.setIfInBounds_toArray, List.set_cons_zero, List.set_cons_succ, i64_w, i32_w]
    rfl
  refine take_ (i := 5) (N := some 51) (v := ?_) (a' := ?_) #[true, true, true, true, true, true, false, false, false, false] rfl rfl (by kernel_rfl) (fun _ _ _ h => h) (Or.inl ⟨by rfl, ?_⟩) hHeld ?_ ?_
  rotate_left
  · rintro w' ⟨s0, s1, s2, s3, s4, s5⟩
    go_simp
    with_reducible rfl
  rotate_left
  · simp only [Act.put, List.setIfInBounds_toArray, List.set_cons_zero, List.set_cons_succ, i64_w, i32_w]
    rfl
  refine one_ (i := 6) (N := some 52) #[true, true, true, true, true, true, true, false, false, false] rfl rfl (by kernel_rfl) (by decide) (fun K hK => ?_)
  refine goes_ Try.func65 (by kernel_rfl) rfl #[cellV ow x y (.slice A1 vals.length c1) (.slice A kids.length c)] (by rfl) rfl rfl (by simp only [List.map_toArray, List.map_cons, List.map_nil]; rfl) ?_
  with_reducible refine (own_calls ow x y _ _ vals kids _ HX.out HY.out hvl (by omega)).mono ?_
  rintro e w9 ⟨v', k', rfl, hv5, hk5, hB5⟩
  refine ⟨_, rfl, ?_⟩
  obtain ⟨A3, c3, e3, _⟩ := id hv5
  subst e3
  obtain ⟨A4, c5, e4, _⟩ := id hk5
  subst e4
  have hr5 := Raw.below HR2.out hB5
  have hb5 := blk_below HBX3.out hB5
  obtain ⟨t0, t1, t2, t3, t4, t5, u0, u1, u2, u3, u4, u5⟩ := six hr5 i _ HIS.out
  refine hK.out _ _ ⟨(blk_cell hr5.obj 0), (blk_cell hb5 0), (blk_cell hb5 1), (blk_cell hb5 2), (blk_cell hb5 3), (blk_cell hb5 4)⟩ (fun hHeld => ?_)
  clear hK K
  refine norm_ (a' := ?_) ?_ ?_
  rotate_left
  · show Act.put _ (some 52) _ = _
    simp only [Act.put, List.setIfInBounds_toArray, List.set_cons_zero, List.set_cons_succ, i64_w, i32_w]
    rfl
  refine pure_ (i := 7) (N := some 53) (v := ?_) (a' := ?_) #[true, true, true, true, true, true, true, true, false, false] rfl rfl (by kernel_rfl) (fun _ _ _ h => h) (Or.inl ⟨by rfl, ?_⟩) ?_ ?_
  rotate_left
  · intro w'
    go_simp
    with_reducible rfl
  rotate_left
  · simp only [Act.put, List.setIfInBounds_toArray, List.set_cons_zero, List.set_cons_succ, i64_w, i32_w]
    rfl
  refine pure_ (i := 8) (N := some 54) (v := ?_) (a' := ?_) #[true, true, true, true, true, true, true, true, true, false] rfl rfl (by kernel_rfl) (fun _ _ _ h => h) (Or.inl ⟨by rfl, ?_⟩) ?_ ?_
  rotate_left
  · intro w'
    go_simp
    with_reducible rfl
  rotate_left
  · simp only [Act.put, List.setIfInBounds_toArray, List.set_cons_zero, List.set_cons_succ, i64_w, i32_w]
    rfl
  refine last_ (i := 9) (N := none) #[true, true, true, true, true, true, true, true, true, true] rfl rfl (by kernel_rfl) (by decide) (fun K hK => ?_)
  refine skip_ (w1 := ?_) (by rfl) rfl ?_ ?_
  rotate_left
  · go_simp
    rfl
  refine hK.out _ _ ?_
  clear hK K
  refine done_ (by kernel_rfl) ?_

  have hr6 := lay5 hr5 i s ⟨ow, x, y, .slice A3 vals.length c3, .slice A4 kids.length c5, s.r⟩ HIS.out rfl
  have hF6 := frq5 w9 gs (i * 6) (.int .u32 ow) (.int .u32 x) (.int .u32 y) (.slice A3 vals.length c3) (.slice A4 kids.length c5)
  obtain ⟨W6, hW6⟩ : ∃ W6, (((((w9.setCell ⟨gs, i * 6, none⟩ (.int .u32 ow)).setCell ⟨gs, i * 6 + 1, none⟩ (.int .u32 x)).setCell ⟨gs, i * 6 + 2, none⟩ (.int .u32 y)).setCell ⟨gs, i * 6 + 3, none⟩ (.slice A3 vals.length c3)).setCell ⟨gs, i * 6 + 4, none⟩ (.slice A4 kids.length c5)) = W6 := ⟨_, rfl⟩
  rw [hW6] at hF6 ⊢
  replace hr6 : RawA W6 base a gs cs vf (sl.set i ⟨ow, x, y, .slice A3 vals.length c3, .slice A4 kids.length c5, s.r⟩) fr live most := by rw [← hW6]; exact hr6
  have hls : (sl.set i ⟨ow, x, y, .slice A3 vals.length c3, .slice A4 kids.length c5, s.r⟩)[i]? = some ⟨ow, x, y, .slice A3 vals.length c3, .slice A4 kids.length c5, s.r⟩ := List.getElem?_set_self hil
  obtain ⟨m0, _, _, _, _, _, n0, _⟩ := six hr6 i _ hls
  have mp0 := blk_cell hr6.obj 0
  rw [List.length_set] at mp0
  have hv6 := hv5.fr kVal_K hF6 (fun j hj e => by omega)
  have hk6 := hk5.fr kInt_K hF6 (fun j hj e => by omega)
  have HLS := Lib.hid hls
  have HR6 := Lib.hid hr6
  have HV6 := Lib.hid hv6
  have HK6 := Lib.hid hk6
  have HF6 := Lib.hid (Fr.then_ ((Fr.of_new HB3.out).more hB5) hF6 (fun j hj => .inl hj))
  have hz5 : w2.drew.heap.size ≤ w9.heap.size := hB5.size
  clear hHeld t0 t1 t2 t3 t4 t5 u0 u1 u2 u3 u4 u5 hr5 hb5 hr6 hv6 hk6 hv5 hk5 hF6 hB5 hls
  go_wp2
  go_ret
  have hF7 : Fr (· = gs) W6 (W6.setCell ⟨gs, i * 6, none⟩ (.int .u32 o)) := Fr.set gs _ _
  have hr7 := HR6.out.put i 0 (.int .u32 o) _ ⟨o, x, y, .slice A3 vals.length c3, .slice A4 kids.length c5, s.r⟩ HLS.out (by decide) rfl
  rw [List.set_set] at hr7
  rw [hr] at hr7
  refine ⟨rfl, _, _, hr7, (HV6.out.fr kVal_K hF7 (fun j hj e => by omega)).mono (fun j hj => by omega), (HK6.out.fr kInt_K hF7 (fun j hj e => by omega)).mono (fun j hj => by omega), HF6.out.then_ hF7 (fun j hj => .inl hj)⟩
end
end Go.Proofs.Ytnipbfhfaefieaa.Arn
/-! arena: Drop, walked. -/
namespace Go.Proofs.Ytnipbfhfaefieaa.Arn
open Go.RowKit Go Go.Proofs.YtnipbfhfaefieaaW.PrintWords Go.Proofs.YtnipbfhfaefieaaW.PrintMore Go.Proofs.YtnipbfhfaefieaaW.PrintLast Go.Proofs.Ytnipbfhfaefieaa.Bts Go.Proofs.Ytnipbfhfaefieaa.Fra Go.Proofs.Ytnipbfhfaefieaa.ArnP
/-- How many holds live cells have on others. -/
def ksum (cl : List Cell) : Nat := (cl.map fun c => if 0 < c.r then (kidsOf c.kids).length else 0).sum
theorem ksum_set {cl : List Cell} {i : Nat} {c : Cell} (h : cl[i]? = some c) (c' : Cell) : ksum (cl.set i c') + (if 0 < c.r then (kidsOf c.kids).length else 0) = ksum cl + (if 0 < c'.r then (kidsOf c'.kids).length else 0) := by
  induction cl generalizing i with
  | nil => simp at h
  | cons x l ih =>
    unfold ksum at ih ⊢
    cases i with
    | zero =>
      obtain rfl : x = c := by simpa using h
      rw [List.set_cons_zero, List.map_cons, List.map_cons, List.sum_cons, List.sum_cons]
      omega
    | succ i =>
      have h' : l[i]? = some c := by simpa using h
      have := ih h'
      rw [List.set_cons_succ, List.map_cons, List.map_cons, List.sum_cons, List.sum_cons]
      omega
/-- What others a cell holds, as numbers. -/
abbrev nz (l : List Int) : List Int := l.filter fun y => decide (y ≠ 0)
theorem nz_map (l : List Int) : (nz l).map Int.toNat = kidsOf l := rfl
theorem nz_snoc (l : List Int) (j : Nat) (x : Int) (hj : j < l.length) (hx : rd l (j : Int) = x) : nz (l.take (j + 1)) = nz (l.take j) ++ (if x = 0 then [] else [x]) := by
  have e : l[j] = x := by rw [← hx]; simp [rd, List.getD, hj]
  rw [List.take_succ_eq_append_getElem hj, nz, List.filter_append, e]
  congr 1
  by_cases h : x = 0
  · simp [h]
  · simp [h]
/-- Nobody's slot is laid, at once. -/
def storeNob (p : Addr) : Sem Unit := storeCells p [.int .u32 0, .int .u32 0, .int .u32 0, .slice none 0 0, .slice none 0 0, .int .i64 0] 0
theorem run_storeNob {w : World} {g o : Nat} {x0 x1 x2 x3 x4 x5 : Value} (t0 : w.cell? ⟨g, o, none⟩ = some x0) (t1 : w.cell? ⟨g, o + 1, none⟩ = some x1) (t2 : w.cell? ⟨g, o + 2, none⟩ = some x2) (t3 : w.cell? ⟨g, o + 3, none⟩ = some x3) (t4 : w.cell? ⟨g, o + 4, none⟩ = some x4) (t5 : w.cell? ⟨g, o + 5, none⟩ = some x5)
    (u0 : w.frozen? ⟨g, o, none⟩ = false) (u1 : w.frozen? ⟨g, o + 1, none⟩ = false) (u2 : w.frozen? ⟨g, o + 2, none⟩ = false) (u3 : w.frozen? ⟨g, o + 3, none⟩ = false) (u4 : w.frozen? ⟨g, o + 4, none⟩ = false) (u5 : w.frozen? ⟨g, o + 5, none⟩ = false) :
    (storeNob ⟨g, o, none⟩).run Try.prog w = .ok () ((((((w.setCell ⟨g, o, none⟩ (.int .u32 0)).setCell ⟨g, o + 1, none⟩ (.int .u32 0)).setCell ⟨g, o + 2, none⟩ (.int .u32 0)).setCell ⟨g, o + 3, none⟩ (.slice none 0 0)).setCell ⟨g, o + 4, none⟩ (.slice none 0 0)).setCell ⟨g, o + 5, none⟩ (.int .i64 0)) := by
  unfold storeNob
  go_simp
theorem all_nob (p : Addr) : storeCells p [.int .u32 0, .int .u32 0, .int .u32 0, .slice none 0 0, .slice none 0 0, .int .i64 0] 0 = storeNob p := rfl
attribute [local go_sem high] all_nob
structure DI (w wr : World) (V : Nat → Prop) (base a gs cs : Nat) (vf0 : Value) (ext : Nat → Nat) (sl0 : List Slot) (cl0 : List Cell) (most : Int) (q : Nat) (v vf : Value) (sl : List Slot) (cl : List Cell) (fr todo : List Int) (live : Int) : Prop where
  raw : RawA wr base a gs cs vf sl fr live most
  len : sl.length = cl.length
  link : ∀ (i : Nat) (s : Slot) (c : Cell), sl[i]? = some s → cl[i]? = some c → s.r = c.r ∧ (ext i = 0 ∨ i = 0 → CellIn wr V s c)
  ks : ∀ (i : Nat) (s' : Slot), sl[i]? = some s' → 0 < s'.r → ∃ s, sl0[i]? = some s ∧ s' = {s with r := s'.r}
  wf : WF cl fr live ext (todo.map Int.toNat)
  left : Left cl0 cl
  own : wr.ownsRow w.heap.size 3 1 v todo.length (nums .i64 todo)
  fresh : ∀ j, vf.ownBlock = some j → (vf0.ownBlock = some j ∨ w.heap.size ≤ j) ∧ v.ownBlock ≠ some j
  frm : Fr (fun j => j = a ∨ j = gs ∨ vf0.ownBlock = some j) w wr
  cnt : (fr.length : Int) + live + 1 = cl.length
  num : todo.length + ksum cl = q
  bnd : q ≤ 1 + ksum cl0
section
variable {base a gs cs : Nat} {vf : Value} {sl : List Slot} {fr : List Int} {live most : Int} {V : Nat → Prop}
set_option maxHeartbeats 4000000 in
set_option maxRecDepth 100000 in
theorem drop_walk (i : Nat) (cl : List Cell) (ext : Nat → Nat) (w : World) (h : RawA w base a gs cs vf sl fr live most) (hs : sl.length ≤ 100000000) (hlen : sl.length = cl.length)
    (hlink : ∀ (i : Nat) (s : Slot) (c : Cell), sl[i]? = some s → cl[i]? = some c → s.r = c.r ∧ (ext i = 0 ∨ i = 0 → CellIn w V s c)) (hV : ∀ j, V j → j < w.heap.size ∧ j ≠ a ∧ j ≠ gs ∧ vf.ownBlock ≠ some j)
    (hwf : WF cl fr live ext [i]) (hcnt : (fr.length : Int) + live + 1 = cl.length) (hks : ksum cl ≤ 1000000000000) (hrb : ∀ (i : Nat) (c : Cell), cl[i]? = some c → 0 < c.r → c.r ≤ 1000000000000000 ∧ c.kids.length ≤ 1000000) :
    Calls Try.prog 23 #[.pointer (some ⟨a, 0, none⟩), .int .i64 i] w fun e w' => e = .returned (.int .i64 0) ∧ ∃ vf' sl' cl' fr' live', RawA w' base a gs cs vf' sl' fr' live' most ∧ (∀ j, vf'.ownBlock = some j → vf.ownBlock = some j ∨ w.heap.size ≤ j) ∧ sl'.length = cl'.length ∧
      (∀ (i : Nat) (s : Slot) (c : Cell), sl'[i]? = some s → cl'[i]? = some c → s.r = c.r ∧ (ext i = 0 ∨ i = 0 → CellIn w' V s c)) ∧ (∀ (i : Nat) (s' : Slot), sl'[i]? = some s' → 0 < s'.r → ∃ s, sl[i]? = some s ∧ s' = {s with r := s'.r}) ∧ WF cl' fr' live' ext [] ∧ Left cl cl' ∧ (fr'.length : Int) + live' + 1 = cl'.length ∧ Fr (fun j => j = a ∨ j = gs ∨ vf.ownBlock = some j) w w' := by
  obtain ⟨c, hc, hcr, hi0⟩ := hwf.live_of
  obtain ⟨s, hsl⟩ : ∃ s, sl[i]? = some s := ⟨sl[i]'(by rw [hlen]; exact (List.getElem?_eq_some_iff.1 hc).1), List.getElem?_eq_getElem _⟩
  have hci := hlink i s c hsl hc
  have HI := Lib.hid (is_raw (i : Int) w h (by omega))
  rw [isB_at hsl hi0 (by rw [hci.1]; exact hcr)] at HI
  have HR := Lib.hid h
  have HL := Lib.hid hlink
  have HWF := Lib.hid hwf
  have HCN := Lib.hid hcnt
  have HVV := Lib.hid hV
  have ha : a < w.heap.size := blk_lt h.obj
  have hg : gs < w.heap.size := own_lt h.row gs rfl
  clear h hlink hwf hcnt hci hV hsl hc
  go_enter Try.func23, Try.ntmps23
  go_wp2_with (first
    | (go_at_call 68; go_loud (refine HI.out.mono ?_; rintro e w1 ⟨rfl, hB⟩; have HB := Lib.hid hB; clear hB)))
  go_loopg [5] (1 + ksum cl) (fun q v wr => ∃ vf' sl' cl' fr' todo live', DI w wr V base a gs cs vf ext sl cl most q v vf' sl' cl' fr' todo live')
  case atStart =>
    have hb := below_alloc HB.out (.cells #[.int .i64 (i : Int)] 3)
    have hr := Raw.below HR.out hb
    have hsz := HB.out.size
    refine ⟨vf, sl, cl, fr, [(i : Int)], live, hr, hlen, fun j s c h1 h2 => ⟨(HL.out j s c h1 h2).1, fun he => ((HL.out j s c h1 h2).2 he).fr (Fr.of_new (S := fun _ => False) hb) (fun _ _ => id)⟩, fun j s h1 _ => ⟨s, h1, rfl⟩, HWF.out, Left.refl _, World.ownsRow_lit w1 #[.int .i64 (i : Int)] 1 hsz (by decide) rfl, fun j hj => ⟨.inl hj, fun e => ?_⟩, Fr.of_new hb, HCN.out, by simp, Nat.le_refl _⟩
    have h1 := own_lt HR.out.free j hj
    have e2 : w1.heap.size = j := Option.some.inj e
    omega
  case round =>
    obtain ⟨vf', sl', cl', fr', todo, live', D⟩ := hrel
    obtain ⟨A5, c5, rfl⟩ := own_slice D.own
    have D := Lib.hid D
    rcases List.eq_nil_or_concat todo with rfl | ⟨rest, k, rfl⟩
    · go_wp2
      go_ret
      have D := D.out
      exact ⟨rfl, vf', sl', cl', fr', live', D.raw, fun j hj => (D.fresh j hj).1, D.len, D.link, D.ks, D.wf, D.left, D.cnt, D.frm⟩
    · rw [List.concat_eq_append] at D
      have hl5 : (rest.concat k).length = rest.length + 1 := by simp
      rw [hl5]
      have hown := D.out.own
      rw [show (rest ++ [k]).length = rest.length + 1 by simp, show nums .i64 (rest ++ [k]) = nums .i64 rest ++ [.int .i64 k] by simp [nums]] at hown
      obtain ⟨tg, tc, hv5, htc, htm⟩ := own_some hown (by omega)
      injection hv5 with hv5 _ hc5
      subst hv5 hc5
      have hk0 := (D.out.wf.tn k.toNat (by simp)).1
      obtain ⟨kn, rfl⟩ : ∃ kn : Nat, k = kn := ⟨k.toNat, by omega⟩
      obtain ⟨m, hm⟩ : ∃ m, rest.length = m := ⟨_, rfl⟩
      rw [hm] at hown htc ⊢
      have hwf1 : WF cl' fr' live' ext (kn :: rest.map Int.toNat) := D.out.wf.perm (fun x => by
        rw [List.map_append, List.count_append, List.count_cons]
        simp [List.count_cons, Nat.add_comm])
      obtain ⟨c, hc, hcr, hk1⟩ := hwf1.live_of
      have hkl : kn < sl'.length := by rw [D.out.len]; exact (List.getElem?_eq_some_iff.1 hc).1
      obtain ⟨s, hsl⟩ : ∃ s, sl'[kn]? = some s := ⟨sl'[kn], List.getElem?_eq_getElem hkl⟩
      have hci := D.out.link kn s c hsl hc
      obtain ⟨so, sa, sb, sv, sk, sr⟩ := s
      have hrr2 : c.r ≤ 1000000000000000 ∧ c.kids.length ≤ 1000000 := by
        obtain ⟨c0, h0, h2, h1⟩ := D.out.left.at_ kn c hc hcr
        have h3 := hrb kn c0 h0 (by omega)
        rw [h2]
        exact ⟨Int.le_trans h1 h3.1, h3.2⟩
      have hrr := hrr2.1
      have HKB := Lib.hid hrr2.2
      clear hrr2
      obtain ⟨t0, t1, t2, t3, t4, t5, u0, u1, u2, u3, u4, u5⟩ := six D.out.raw kn _ hsl
      have p0 := blk_cell D.out.raw.obj 0
      have q0 : wr.cell? ⟨tg, m, none⟩ = some (.int .i64 kn) := by
        have hxl : (nums .i64 rest).length = m := by rw [nums_length, hm]
        rw [hown.cellAt m (by omega), List.getElem?_append_right (by omega), hxl, Nat.sub_self]
        rfl
      have hkl' : (kn : Int) < (sl'.length : Int) := by omega
      have hcl : cl'.length = cl.length := D.out.left.len
      have hsl1 : (sl'.length : Int) ≤ 100000000 := by have := D.out.len; omega
      have hci6 : sr = c.r := hci.1
      have e1 : wrap64 (sr - 1) = sr - 1 := by unfold wrap64; omega
      have hmc : m ≤ c5 := by omega
      have hmm : m ≤ 1000000000001 := by have h1 := D.out.num; have h2 := D.out.bnd; rw [List.length_append, hm, List.length_singleton] at h1; omega
      have HC := Lib.hid hc
      have HCI := Lib.hid hci
      have HSL := Lib.hid hsl
      have HOWN := Lib.hid hown
      have HM := Lib.hid hm
      have HWF1 := Lib.hid hwf1
      have HLEN := Lib.hid hcl
      have HRB := Lib.hid hrb
      have HC6 := Lib.hid hci6
      have HRR := Lib.hid hrr
      have HKS := Lib.hid hks
      clear hrr hks hci6
      clear hc hci hsl hown hm hwf1 hcl hl5 htc htm hrb
      by_cases hr1 : 1 < sr
      · have hr2 : 0 < sr - 1 := by omega
        go_wp2
        have D := D.out
        have hr6 := HC6.out
        have hc1 : c.kids = c.kids := rfl
        have hF : Fr (fun j => j = gs) wr (wr.setCell ⟨gs, kn * 6 + 5, none⟩ (.int .i64 (sr - 1))) := Fr.set gs _ _
        go_roundg (gk - 1)
        case measure => have h1 := D.num; rw [List.length_append, List.length_singleton] at h1; omega
        case rel =>
          have hq := D.num
          rw [List.length_append, List.length_singleton, HM.out] at hq
          have hks := ksum_set HC.out {c with r := c.r - 1}
          rw [if_pos hcr, if_pos (show 0 < c.r - 1 by omega)] at hks
          replace hks := Nat.add_right_cancel hks
          refine ⟨vf', sl'.set kn ⟨so, sa, sb, sv, sk, sr - 1⟩, cl'.set kn {c with r := c.r - 1}, fr', rest, live', D.raw.put kn 5 (.int .i64 (sr - 1)) _ _ HSL.out (by decide) rfl, by rw [List.length_set, List.length_set]; exact D.len, ?_, ?_, HWF1.out.less HC.out (by omega), D.left.less HC.out hcr (by omega), ?_, fun j hj => ⟨(D.fresh j hj).1, (D.fresh j hj).2⟩, D.frm.then_ hF (fun j hj => .inl (.inr (.inl hj))), by rw [List.length_set]; exact D.cnt, by rw [HM.out]; omega, by have := D.bnd; omega⟩
          · intro i2 s2 c2' h1 h2
            have hVg : ∀ j, V j → ¬ j = gs := fun j hj => (HVV.out j hj).2.2.1
            by_cases e : i2 = kn
            · subst e
              rw [List.getElem?_set_self hkl] at h1
              rw [List.getElem?_set_self (by rw [← D.len]; exact hkl)] at h2
              cases h1
              cases h2
              refine ⟨show sr - 1 = c.r - 1 by omega, fun he => ?_⟩
              have := ((HCI.out).2 he).fr hF hVg
              exact ⟨this.ow, this.a, this.b, show sr - 1 = c.r - 1 by omega, this.v, this.k⟩
            · rw [List.getElem?_set_ne (fun h => e h.symm)] at h1 h2
              exact ⟨(D.link i2 s2 c2' h1 h2).1, fun he => ((D.link i2 s2 c2' h1 h2).2 he).fr hF hVg⟩
          · intro i2 s2 h1 h2
            by_cases e : i2 = kn
            · subst e
              rw [List.getElem?_set_self hkl] at h1
              cases h1
              obtain ⟨s0, g1, g2⟩ := D.ks i2 _ HSL.out (show 0 < sr by omega)
              refine ⟨s0, g1, ?_⟩
              injection g2 with g3 g4 g5 g6 g7
              subst g3 g4 g5 g6 g7
              rfl
            · rw [List.getElem?_set_ne (fun h => e h.symm)] at h1
              exact D.ks i2 s2 h1 h2
          · rw [HM.out]
            exact own_fr (ownsRow_pop (by rw [nums_length, HM.out]; omega) HOWN.out) hF (fun j hj e => by have := own_base HOWN.out j hj; omega)
      · have hr2 : sr = 1 := by have := HC6.out; omega
        subst hr2
        have hek : ext kn = 0 := by
          have h1 := HWF1.out.acc kn (by rw [← D.out.len]; exact hkl) hk1
          rw [gOf_refs HC.out, List.count_cons_self] at h1
          have := HC6.out
          omega
        obtain ⟨A2, c2, hsk, hkc2, hkn2, hC2, hbk2⟩ := (HCI.out.2 (.inl hek)).k
        replace hsk : sk = .slice A2 c.kids.length c2 := hsk
        subst hsk
        have HC2 := Lib.hid hC2
        have HBK2 := Lib.hid hbk2
        clear hkc2 hkn2 hC2 hbk2 hek
        go_wp2
        have D' := D.out
        have hF0 : Fr (fun j => j = gs) wr (wr.setCell ⟨gs, kn * 6 + 5, none⟩ (.int .i64 0)) := Fr.set gs _ _
        have hVg : ∀ j, V j → ¬ j = gs := fun j hj => (HVV.out j hj).2.2.1
        have htg : w.heap.size ≤ tg := own_base HOWN.out tg rfl
        have hr10 := D'.raw.put kn 5 (.int .i64 0) _ ⟨so, sa, sb, sv, .slice A2 c.kids.length c2, 0⟩ HSL.out (by decide) rfl
        have hC10 := C_fr kInt_K HC2.out hF0 (fun ad e => hVg _ (HBK2.out ad e).1)
        have ho10 := own_fr (ownsRow_pop (by rw [nums_length, HM.out]; omega) HOWN.out) hF0 (fun j hj e => by have := own_base HOWN.out j hj; omega)
        have hF10 := D'.frm.then_ hF0 (fun j hj => .inl (.inr (.inl hj)))
        have htgl : tg < wr.heap.size := own_lt HOWN.out tg rfl
        have hlink10 : ∀ (i2 : Nat) (s2 : Slot) (c3 : Cell), i2 ≠ kn → sl'[i2]? = some s2 → cl'[i2]? = some c3 → s2.r = c3.r ∧ (ext i2 = 0 ∨ i2 = 0 → CellIn (wr.setCell ⟨gs, kn * 6 + 5, none⟩ (.int .i64 0)) V s2 c3) := fun i2 s2 c3 _ h1 h2 => ⟨(D'.link i2 s2 c3 h1 h2).1, fun he => ((D'.link i2 s2 c3 h1 h2).2 he).fr hF0 hVg⟩
        obtain ⟨W10, hW10⟩ : ∃ W10, wr.setCell ⟨gs, kn * 6 + 5, none⟩ (.int .i64 0) = W10 := ⟨_, rfl⟩
        rw [hW10] at hr10 hC10 ho10 hF10 hlink10 ⊢
        have hz10 : W10.heap.size = wr.heap.size := by rw [← hW10]; simp
        have hkx := ksum_set HC.out nobC
        rw [if_pos hcr, if_neg (show ¬ 0 < nobC.r from Int.lt_irrefl 0)] at hkx
        have hnm := D'.num
        rw [List.length_append, List.length_singleton, HM.out] at hnm
        have hbd := D'.bnd
        have hks2 := HKS.out
        have HNX := Lib.hid (show m + (kidsOf c.kids).length ≤ 1000000000001 by omega)
        have HKX := Lib.hid hkx
        have HNM := Lib.hid hnm
        have HBD := Lib.hid hbd
        have HR10 := Lib.hid hr10
        have HC10 := Lib.hid hC10
        have HO10 := Lib.hid ho10
        have HF10 := Lib.hid hF10
        have HL10 := Lib.hid hlink10
        have hkcl : c.kids.length ≤ 1000000 := HKB.out
        clear hF0 hr10 hC10 ho10 hF10 hlink10 hkx hnm hbd hks2 t0 t1 t2 t3 t4 t5 u0 u1 u2 u3 u4 u5 p0 q0 e1 hW10 D'
        go_loopw [5, 59] (fun v x wq => ∃ j n : Nat, x = .int .i64 j ∧ j ≤ c.kids.length ∧ n = (rest ++ nz (c.kids.take j)).length ∧ wq.ownsRow w.heap.size 3 1 v n (nums .i64 (rest ++ nz (c.kids.take j))) ∧ (v.ownBlock = some tg ∨ ∃ b, v.ownBlock = some b ∧ W10.heap.size ≤ b) ∧ Fr (fun b => b = tg) W10 wq) (fun _ x _ => c.kids.length - (intOf x).toNat)
        case atStart =>
          have e0 : rest ++ nz (c.kids.take 0) = rest := by rw [List.take_zero]; exact List.append_nil _
          refine ⟨0, m, rfl, Nat.zero_le _, by rw [e0, HM.out], ?_, .inl rfl, Fr.refl _ _⟩
          rw [e0]
          exact HO10.out
        case round =>
          obtain ⟨j, n, rfl, hj, hn, hown, hvb, hF⟩ := hrel
          have hnb : n ≤ 1000000000001 := by
            have h1 := HNX.out
            have h2 : (nz (c.kids.take j)).length ≤ (kidsOf c.kids).length := by
              rw [← nz_map, List.length_map]
              exact (List.Sublist.filter _ (List.take_sublist j c.kids)).length_le
            rw [hn, List.length_append, HM.out]
            omega
          have HNN := Lib.hid hn
          clear hn
          obtain ⟨A7, c7, rfl⟩ := own_slice hown
          have HOW := Lib.hid hown
          have HVB := Lib.hid hvb
          have HFR := Lib.hid hF
          have hzq := hF.size
          clear hown hvb hF
          by_cases hjl : j < c.kids.length
          · obtain ⟨x, hx⟩ : ∃ x, rd c.kids (j : Int) = x := ⟨_, rfl⟩
            obtain ⟨ad, had, hcc⟩ := Kd.at_int (C_fr kInt_K HC10.out HFR.out (fun ad e => by have := (HVV.out _ (HBK2.out ad e).1).1; omega)) (j : Int) (by omega) (by omega)
            subst had
            rw [hx, Int.toNat_natCast] at hcc
            have HX := Lib.hid (nz_snoc c.kids j x hjl hx)
            have hjl' : (j : Int) < (c.kids.length : Int) := by omega
            clear hx
            by_cases hx0 : x = 0
            · subst hx0
              rw [if_pos rfl, List.append_nil] at HX
              go_wp2
              go_roundw
              case rel => exact ⟨j + 1, n, by simp, by omega, by rw [HX.out]; exact HNN.out, by rw [HX.out]; exact HOW.out, HVB.out, HFR.out⟩
              case measure => simp [intOf]; omega
            · rw [if_neg hx0] at HX
              have hx0' : (x == 0) = false := by simpa using hx0
              go_wp2_with (at_builtin; go_loud (refine print_append_cells (w0 := wr) (W := wr) w.heap.size rfl (.tmp 65) (.tmp 67) 27 3 (.int .i64 0) 1 8 rfl Try.underlying27 infoInt rfl (by decide) (by decide) (.slice A7 n c7) n (nums .i64 (rest ++ nz (c.kids.take j))) [.int .i64 x] rfl rfl rfl (fun u hu => by rw [List.mem_singleton.1 hu]; rfl) HOW.out (Below.refl _ _) (by omega) (by omega) ?_; intro v6 w6 ho6 hB6 hg6 hat6; have HO6 := Lib.hid ho6; have HG6 := Lib.hid hg6; have HAT6 := Lib.hid hat6; obtain ⟨A8, c8, rfl⟩ := own_slice ho6; clear ho6 hg6 hat6 hB6))
              go_roundw
              case rel =>
                refine ⟨j + 1, n + 1, by simp, by omega, by rw [HX.out, ← List.append_assoc, List.length_append, ← HNN.out]; rfl, ?_, ?_, ?_⟩
                · rw [HX.out, ← List.append_assoc]
                  have := HO6.out
                  rwa [show nums .i64 (rest ++ nz (c.kids.take j)) ++ [Value.int .i64 x] = nums .i64 (rest ++ nz (c.kids.take j) ++ [x]) by simp [nums]] at this
                · rcases HAT6.out with e | ⟨b, e, hb⟩
                  · rw [e]; exact HVB.out
                  · exact .inr ⟨b, e, by omega⟩
                · refine HFR.out.then_ (fr_grownBy HG6.out) (fun k hk => ?_)
                  rcases HVB.out with e | ⟨b, e, hb⟩
                  · rw [e] at hk; cases hk; exact .inl rfl
                  · rw [e] at hk; cases hk; exact .inr hb
              case measure => simp [intOf]; omega
          · have hjl' : ¬ (j : Int) < (c.kids.length : Int) := by omega
            obtain rfl : j = c.kids.length := by omega
            obtain ⟨vA, vC, hvf⟩ := own_slice HR10.out.free
            subst hvf
            have hraw := HR10.out.kept HFR.out (show ¬ a = tg by omega) (show ¬ gs = tg by omega) (fun k hk e => (D.out.fresh k hk).2 (by rw [e]; rfl))
            have hls : (sl'.set kn ⟨so, sa, sb, sv, .slice A2 c.kids.length c2, 0⟩)[kn]? = some ⟨so, sa, sb, sv, .slice A2 c.kids.length c2, 0⟩ := List.getElem?_set_self hkl
            obtain ⟨t0, t1, t2, t3, t4, t5, u0, u1, u2, u3, u4, u5⟩ := six hraw kn _ hls
            have p0 := blk_cell hraw.obj 0
            rw [List.length_set] at p0
            have hr11 := hraw.lay kn _ nob hls
            rw [List.set_set] at hr11
            have hF11 := fr6 wr gs (kn * 6) (.int .u32 0) (.int .u32 0) (.int .u32 0) (.slice none 0 0) (.slice none 0 0) (.int .i64 0)
            have hst := run_storeNob t0 t1 t2 t3 t4 t5 u0 u1 u2 u3 u4 u5
            obtain ⟨W11, hW11⟩ : ∃ W11, ((((((wr.setCell ⟨gs, kn * 6, none⟩ (.int .u32 0)).setCell ⟨gs, kn * 6 + 1, none⟩ (.int .u32 0)).setCell ⟨gs, kn * 6 + 2, none⟩ (.int .u32 0)).setCell ⟨gs, kn * 6 + 3, none⟩ (.slice none 0 0)).setCell ⟨gs, kn * 6 + 4, none⟩ (.slice none 0 0)).setCell ⟨gs, kn * 6 + 5, none⟩ (.int .i64 0)) = W11 := ⟨_, rfl⟩
            replace hr11 : RawA W11 base a gs cs (.slice vA fr'.length vC) (sl'.set kn nob) fr' live' most := by rw [← hW11]; exact hr11
            rw [hW11] at hF11 hst
            have HR11 := Lib.hid hr11
            have HF11 := Lib.hid hF11
            clear hW11 hraw hls hr11 hF11 t0 t1 t2 t3 t4 t5 u0 u1 u2 u3 u4 u5
            have ps1 := blk_cell HR11.out.obj 1
            have hbs := HR11.out.bs
            have hbg : base ≤ W11.heap.size := by have := own_lt HR11.out.row gs rfl; omega
            have hfrl : fr'.length ≤ 100000000 := by
              have h1 := D.out.cnt
              have h2 := D.out.wf.lv
              have h3 := D.out.len
              have h4 := HLEN.out
              omega
            go_wp2_with (first
              | (go_at_call 66; go_loud (refine (add_calls _ live' (-1) _ rfl l2 l3).mono ?_; rintro e w7 ⟨rfl, rfl⟩))
              | (at_builtin; go_loud (refine print_append_cells (w0 := W11) (W := W11) base rfl (.tmp 81) (.tmp 83) 27 3 (.int .i64 0) 1 8 rfl Try.underlying27 infoInt rfl (by decide) (by decide) (.slice vA fr'.length vC) fr'.length (nums .i64 fr') [.int .i64 (kn : Int)] rfl rfl rfl (fun u hu => by rw [List.mem_singleton.1 hu]; rfl) HR11.out.free (Below.refl _ _) hbg (by omega) ?_; intro v6 w6 ho6 hB6 hg6 hat6; obtain ⟨A8, c8, rfl⟩ := own_slice ho6; have hob6 := (fr_grownBy hg6).blk HR11.out.obj (fun e => (HR11.out.fa _ e).1 rfl); have k1 := blk_cell hob6 1; have k2 := blk_frozen hob6 1; have hr13 := HR11.out.frees (vf' := .slice A8 (fr'.length + 1) c8) (fr' := fr' ++ [(kn : Int)]) (fr_grownBy hg6) (by rw [List.length_append]; simpa [nums] using ho6) (fun k hk => hat6.elim (fun e => .inl (e ▸ hk)) (fun ⟨b, e, hb⟩ => .inr (by rw [e] at hk; cases hk; exact hb))); have l2 := blk_cell hr13.obj 2; have l3 := blk_frozen hr13.obj 2; have HR13 := Lib.hid hr13; have HG6 := Lib.hid hg6; have HAT6 := Lib.hid hat6; clear ho6 hB6 hg6 hat6 hob6 hr13)))
            have Dd := D.out
            have hj0 : nz (c.kids.take c.kids.length) = nz c.kids := by rw [List.take_length]
            have hn := HNN.out
            rw [hj0, List.length_append, HM.out] at hn
            have hnk : (nz c.kids).length = (kidsOf c.kids).length := by rw [← nz_map, List.length_map]
            have hcn := Dd.cnt
            have hlv := Dd.wf.lv
            have hle := Dd.len
            have e1 : wrap64 (live' + -1) = live' - 1 := by unfold wrap64; omega
            rw [e1]
            have hft : ∀ j, (Value.slice vA fr'.length vC).ownBlock = some j → (vf.ownBlock = some j ∨ w.heap.size ≤ j) ∧ j ≠ tg ∧ j < W10.heap.size := fun j hj => ⟨(Dd.fresh j hj).1, fun e => (Dd.fresh j hj).2 (by rw [e]; rfl), by rw [hz10]; exact own_lt Dd.raw.free j hj⟩
            have hFa : Fr (fun j => j = tg ∨ j = gs ∨ (Value.slice vA fr'.length vC).ownBlock = some j ∨ j = a) W10 ((w6.setCell ⟨a, 1, none⟩ (.slice A8 (fr'.length + 1) c8)).setCell ⟨a, 2, none⟩ (.int .i64 (live' - 1))) :=
              ((((HFR.out.mono (S' := fun j => j = tg ∨ j = gs ∨ (Value.slice vA fr'.length vC).ownBlock = some j ∨ j = a) (fun j hj => .inl (.inl hj))).then_ HF11.out (fun j hj => .inl (.inr (.inl hj)))).then_ (fr_grownBy HG6.out) (fun j hj => .inl (.inr (.inr (.inl hj))))).then_ (Fr.set a 1 _) (fun j hj => .inl (.inr (.inr (.inr hj))))).then_ (Fr.set a 2 _) (fun j hj => .inl (.inr (.inr (.inr hj))))
            have hVS : ∀ j, V j → ¬ (j = tg ∨ j = gs ∨ (Value.slice vA fr'.length vC).ownBlock = some j ∨ j = a) := fun j hj e => by
              obtain ⟨v1, v2, v3, v4⟩ := HVV.out j hj
              rcases e with e | e | e | e
              · omega
              · exact v3 e
              · rcases (hft j e).1 with e | e
                · exact v4 e
                · omega
              · exact v2 e
            have hFb : Fr (fun j => j = gs ∨ (Value.slice vA fr'.length vC).ownBlock = some j ∨ j = a) wr ((w6.setCell ⟨a, 1, none⟩ (.slice A8 (fr'.length + 1) c8)).setCell ⟨a, 2, none⟩ (.int .i64 (live' - 1))) :=
              (((HF11.out.mono (S' := fun j => j = gs ∨ (Value.slice vA fr'.length vC).ownBlock = some j ∨ j = a) (fun j hj => .inl (.inl hj))).then_ (fr_grownBy HG6.out) (fun j hj => .inl (.inr (.inl hj)))).then_ (Fr.set a 1 _) (fun j hj => .inl (.inr (.inr hj)))).then_ (Fr.set a 2 _) (fun j hj => .inl (.inr (.inr hj)))
            have hvl : ∀ j, (Value.slice A7 n c7).ownBlock = some j → w.heap.size ≤ j ∧ j < wr.heap.size ∧ (j = tg ∨ W10.heap.size ≤ j) := fun j hj => ⟨own_base HOW.out j hj, own_lt HOW.out j hj, by
              rcases HVB.out with e | ⟨b, e, hb⟩
              · rw [e] at hj; exact .inl (Option.some.inj hj).symm
              · rw [e] at hj; cases hj; exact .inr hb⟩
            have hown := own_fr HOW.out hFb (fun j hj e => by
              obtain ⟨h1, h2, h3⟩ := hvl j hj
              rcases e with e | e | e
              · omega
              · obtain ⟨_, h5, h6⟩ := hft j e
                omega
              · omega)
            rw [hj0] at hown
            have hwf2 := HWF1.out.last HC.out (by have := HC6.out; omega)
            have hkx := HKX.out
            have hnm := HNM.out
            have hbd := HBD.out
            have hw11 := HF11.out.size
            go_roundg (gk - 1)
            case measure => omega
            case rel =>
              refine ⟨.slice A8 (fr'.length + 1) c8, sl'.set kn nob, cl'.set kn nobC, fr' ++ [(kn : Int)], rest ++ nz c.kids, live' - 1, HR13.out.live _, by rw [List.length_set, List.length_set]; exact hle, ?_, ?_, by rw [List.map_append]; exact hwf2, Dd.left.last HC.out, ?_, ?_, ?_, by rw [List.length_append, List.length_set, List.length_singleton]; omega, by rw [List.length_append, HM.out]; omega, by omega⟩
              · intro i2 s2 c3 h1 h2
                by_cases e : i2 = kn
                · subst e
                  rw [List.getElem?_set_self hkl] at h1
                  rw [List.getElem?_set_self (by rw [← hle]; exact hkl)] at h2
                  cases h1
                  cases h2
                  refine ⟨rfl, fun _ => ?_⟩
                  exact ⟨rfl, rfl, rfl, rfl, ⟨none, 0, rfl, Nat.le_refl _, fun _ => rfl, ⟨rfl, by simp [nobC], fun h => absurd h (by simp [nobC])⟩, fun ad h => by cases h⟩, ⟨none, 0, rfl, Nat.le_refl _, fun _ => rfl, ⟨rfl, by simp [nobC], fun h => absurd h (by simp [nobC])⟩, fun ad h => by cases h⟩⟩
                · rw [List.getElem?_set_ne (fun h => e h.symm)] at h1 h2
                  exact ⟨(HL10.out i2 s2 c3 e h1 h2).1, fun he => ((HL10.out i2 s2 c3 e h1 h2).2 he).fr hFa hVS⟩
              · intro i2 s2 h1 h2
                by_cases e : i2 = kn
                · subst e
                  rw [List.getElem?_set_self hkl] at h1
                  cases h1
                  exact absurd h2 (Int.lt_irrefl 0)
                · rw [List.getElem?_set_ne (fun h => e h.symm)] at h1
                  exact Dd.ks i2 s2 h1 h2
              · rw [List.length_append, HM.out, ← hn]
                exact hown
              · intro j hj
                rcases HAT6.out with e | ⟨b, e, hb⟩
                · rw [e] at hj
                  obtain ⟨g1, g2, g3⟩ := hft j hj
                  refine ⟨g1, fun e2 => ?_⟩
                  obtain ⟨h1, h2, h3⟩ := hvl j e2
                  omega
                · rw [e] at hj
                  cases hj
                  have := HFR.out.size
                  have := HF10.out.size
                  refine ⟨.inr (by omega), fun e2 => ?_⟩
                  obtain ⟨h1, h2, h3⟩ := hvl _ e2
                  omega
              · refine HF10.out.then_ hFa (fun j hj => ?_)
                rcases hj with e | e | e | e
                · exact .inr (by omega)
                · exact .inl (.inr (.inl e))
                · exact (hft j e).1.imp (fun h => .inr (.inr h)) id
                · exact .inl (.inl e)
end
end Go.Proofs.Ytnipbfhfaefieaa.Arn
/-! arena: the same holds told by names and by numbers (for the law ArenaActs). -/
namespace Go.Proofs.Ytnipbfhfaefieaa.Arn
open Go.RowKit Go Go.Proofs.Ytnipbfhfaefieaa.ArnP
theorem sm_zero {f : Nat → Nat} : ∀ n, (∀ y, y < n → f y = 0) → sm f n = 0
  | 0, _ => rfl
  | n + 1, h => by simp only [sm]; rw [sm_zero n (fun y hy => h y (by omega)), h n (by omega)]
theorem sm_add {f h : Nat → Nat} : ∀ n, sm (fun y => f y + h y) n = sm f n + sm h n
  | 0 => rfl
  | n + 1 => by simp only [sm]; rw [sm_add n]; omega
/-- One term alone. -/
theorem sm_one {n i v : Nat} (hi : i < n) : sm (fun y => if y = i then v else 0) n = v := by
  have h := sm_upd (f := fun y => if y = i then v else 0) (h := fun _ => 0) i n hi (fun y _ hn => by simp [hn])
  have hz : sm (fun _ => 0) n = 0 := sm_zero n (fun _ _ => rfl)
  rw [hz, if_pos rfl] at h
  omega
/-- Names are dealt to numbers: the sum over numbers of what their names bear is the sum over the names. -/
theorem sm_deal {n : Nat} (p : Nat → Prop) [DecidablePred p] (nm w : Nat → Nat) : ∀ m, (∀ k, k < m → p k → nm k < n) → sm (fun y => sm (fun k => if p k ∧ nm k = y then w k else 0) m) n = sm (fun k => if p k then w k else 0) m
  | 0, _ => sm_zero n (fun _ _ => rfl)
  | m + 1, h => by
    simp only [sm]
    rw [sm_add, sm_deal p nm w m (fun k hk => h k (by omega))]
    congr 1
    by_cases c : p m
    · rw [if_pos c]
      have : sm (fun y => if p m ∧ nm m = y then w m else 0) n = sm (fun y => if y = nm m then w m else 0) n := sm_congr n (fun y _ => by
        by_cases e : y = nm m
        · rw [if_pos ⟨c, e.symm⟩, if_pos e]
        · rw [if_neg (fun q => e q.2.symm), if_neg e])
      rw [this, sm_one (h m (by omega) c)]
    · rw [if_neg c]
      exact sm_zero n (fun y _ => if_neg (fun q => c q.1))
/-- A number that one name alone bears. -/
theorem sm_bear {p : Nat → Prop} [DecidablePred p] {nm w : Nat → Nat} {m k : Nat} (hk : k < m) (hp : p k) (inj : ∀ j, j < m → p j → nm j = nm k → j = k) : sm (fun j => if p j ∧ nm j = nm k then w j else 0) m = w k := by
  have : sm (fun j => if p j ∧ nm j = nm k then w j else 0) m = sm (fun j => if j = k then w k else 0) m := sm_congr m (fun j hj => by
    by_cases e : j = k
    · subst e; rw [if_pos ⟨hp, rfl⟩, if_pos rfl]
    · rw [if_neg (fun q => e (inj j hj q.1 q.2)), if_neg e])
  rw [this, sm_one hk]
/-- A number that no name bears. -/
theorem sm_bare {p : Nat → Prop} [DecidablePred p] {nm w : Nat → Nat} {m y : Nat} (h : ∀ j, j < m → p j → nm j ≠ y) : sm (fun j => if p j ∧ nm j = y then w j else 0) m = 0 :=
  sm_zero m (fun j hj => if_neg (fun q => h j hj q.1 q.2))
end Go.Proofs.Ytnipbfhfaefieaa.Arn
