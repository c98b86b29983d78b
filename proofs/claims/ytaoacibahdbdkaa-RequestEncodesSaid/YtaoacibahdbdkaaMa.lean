/- Several texts of this claim, laid together: CloneB, Bytes, Frame, ArrEq, PackW, PackV, PackR, PackS, PackT, PackU, PackP, RefR, RefS, RefT, RefU. -/
import Derived.Test.YtaoacibahdbdkaaProg
import Derived.Test.YtaoacibahdbdkaaWWords
import Derived.Test.YtaoacibahdbdkaaWLast
import Derived.Test.YtaoacibahdbdkaaWMore
import Derived.Test.YtaoacibahdbdkaaWKept
import Derived.WalkKit
import Derived.WalkSpells
import Derived.OwnWalk
import Derived.KernelRfl
import Derived.Lib.Hide
import Derived.Lib.SliceRun
import Derived.DataElems
import Derived.Laws.StructEq
import Derived.ArgAppend
import Derived.Maps.AppendAt
import Derived.Laws.BitsLemmas
import Derived.Lib.AppendStr
import Derived.Laws.BitsAllLaws
import Derived.Lib.ConvBytes
import Derived.Test.YtaoacibahdbdkaaQPackedPutsx2
import Derived.Laws.Strings
/-! slices.Clone of bytes: a new row that reads the same. -/
namespace Go.Proofs.Ytaoacibahdbdkaa.Cl
open Go.RowKit Go Go.Proofs.YtaoacibahdbdkaaW.PrintWords Go.Proofs.YtaoacibahdbdkaaW.PrintMore

theorem infoByte : (Try.prog.info? 5).map (fun i => (i.zero, i.size, i.bytes)) = some (some (.int .u8 0), 1, 1) := by kernel_rfl
/-- A new row of no elements. -/
theorem R_empty (w : World) : (Kd.int .u8).R 5 (w.alloc (.cells #[] 5)) w.heap.size (fun _ => True) (.slice (some ⟨w.heap.size, 0, none⟩) 0 0) [] :=
  ⟨fun _ _ => trivial, [], ⟨rfl, .inr ⟨w.heap.size, 0, #[], rfl, Nat.le_refl _, heap_alloc_new w _, Nat.le_refl _, by unfold maxLen; omega, rfl, rfl⟩⟩, Reps.none _ _⟩
set_option maxHeartbeats 2000000 in
set_option maxRecDepth 100000 in
theorem clone_bytes (A : Option Addr) (c : Nat) (xs : List Int) (w : World) (hC : (Kd.int .u8).C w A xs.length xs) (hl : xs.length ≤ 140737488355328) (hn : A = none → xs = [] ∧ c = 0) :
    Calls Try.prog 93 #[.slice A xs.length c] w fun e w' => ∃ v, e = .returned v ∧ (Kd.int .u8).R 5 w' w.heap.size (fun _ => True) v xs ∧ Below w.heap.size w w' := by
  have eq0 := fun (w : World) (a : Option Addr) (n c : Nat) => Lib.run_eql_slice_nil (P := Try.prog) w 56 5 a n c 0 0 Try.underlying56
  cases A with
  | none =>
    obtain ⟨rfl, rfl⟩ := hn rfl
    go_enter Try.func93, Try.ntmps93
    go_wp2
    go_ret
    exact ⟨_, rfl, Kd.R_nil _ _ _ _ _, Below.refl _ _⟩
  | some ad =>
    have HC := Lib.hid hC
    clear hC hn
    go_enter Try.func93, Try.ntmps93
    go_wp2_with (at_builtin; refine Kd.R_append_rows (Kd.int .u8) (Rr := (Kd.int .u8).K w) (w0 := w) w.heap.size rfl (.tmp 5) (.tmp 6) 56 5 (.int .u8 0) 1 rfl Try.underlying56 infoByte rfl (by decide) (by decide) (.slice (some ⟨w.heap.size, 0, none⟩) 0 0) [] xs (some ad) xs.length c (fun _ => True) (fun k => False) rfl rfl ?r1 ?r2 (fun _ _ h => h) (fun _ h => h.elim) (fun _ _ => trivial) ?r6 ?r7 ?r8 ?_)
    case r1 => exact R_empty w
    case r2 => exact Kd.C_below HC.out (below_alloc (Below.refl _ _) _)
    case r6 => exact below_alloc (Below.refl _ _) _
    case r7 => simp
    case r8 => simp; omega
    intro v1 w1 hR hB _ _
    go_wp2
    go_ret
    exact ⟨_, rfl, hR, hB⟩
/-- A row of whole numbers, read as its cells. -/
theorem own_of_R {k : IntKind} {e : Nat} {w : World} {base : Nat} {ok : Nat → Prop} {v : Value} {xs : List Int} (h : (Kd.int k).R e w base ok v xs) : w.ownsRow base e 1 v xs.length (nums k xs) := by
  obtain ⟨_, cs, ho, hr⟩ := h
  have e1 : cs = nums k xs := by
    apply List.ext_getElem?
    intro j
    rcases Nat.lt_or_ge j xs.length with hj | hj
    · have h1 := hr.2 j xs[j] (List.getElem?_eq_getElem hj)
      have h2 : cs[j]? = some (.int k xs[j]) := by
        have h3 : (List.take 1 (List.drop (j * 1) cs)) = [.int k xs[j]] := h1
        have h4 : (List.take 1 (List.drop (j * 1) cs))[0]? = cs[j]? := by simp [List.getElem?_take]
        rw [← h4, h3]; rfl
      rw [h2]; simp [nums, hj]
    · have h1 : cs.length = xs.length * 1 := hr.1
      rw [List.getElem?_eq_none (by omega), List.getElem?_eq_none (by rw [nums_length]; exact hj)]
  subst e1
  exact ho
end Go.Proofs.Ytaoacibahdbdkaa.Cl
/-! Rows that are read: what a slice's value leads to, kept while nobody writes its block. No program is named here. -/
namespace Go.Proofs.Ytaoacibahdbdkaa.Bts
open Go.RowKit Go Go.Proofs.YtaoacibahdbdkaaW.PrintWords

/-- The slice v holds n elements, of size sz, whose cells are cs. -/
def SlR (w : World) (sz : Nat) (v : Value) (n : Nat) (cs : List Value) : Prop :=
  cs.length = n * sz ∧ ∃ A c, v = .slice A n c ∧ n ≤ c ∧ (A = none → c = 0) ∧ ∀ ad, A = some ad → ∀ j u, cs[j]? = some u → w.cell? (ad.add j) = some u
abbrev Byt (w : World) (v : Value) (xs : List Int) : Prop := SlR w 1 v xs.length (nums .u8 xs)

section
variable {w w' : World} {sz n : Nat} {v : Value} {cs : List Value} {S : Nat → Prop}
theorem SlR.nil (w : World) (sz : Nat) : SlR w sz (.slice none 0 0) 0 [] := ⟨by simp, none, 0, rfl, Nat.le_refl _, fun _ => rfl, fun ad h => by cases h⟩
theorem SlR.kept (h : SlR w sz v n cs) (hk : Kept w w' S) (hS : ∀ k, v.ownBlock = some k → ¬ S k) : SlR w' sz v n cs := by
  obtain ⟨h1, A, c, rfl, h2, h3, h4⟩ := h
  refine ⟨h1, A, c, rfl, h2, h3, fun ad hA j u hj => ?_⟩
  have hb : (ad.add j).block = ad.block := by unfold Addr.add; split <;> rfl
  exact cell_kept (h4 ad hA j u hj) hk (by rw [hb]; exact hS ad.block (by rw [hA]; rfl))
theorem SlR.below (h : SlR w sz v n cs) (hb : Below w.heap.size w w') : SlR w' sz v n cs := h.kept (Kept.of_below hb (fun _ => False)) (fun _ _ h => h)
theorem SlR.of_own {base : Nat} {e : TypeId} (h : w.ownsRow base e sz v n cs) : SlR w sz v n cs := by
  obtain ⟨h1, h2⟩ := h
  rcases h2 with ⟨rfl, rfl⟩ | ⟨g, cap, cur, rfl, hg, hh, hn, hm, hc, ht⟩
  · have : cs = [] := by cases cs with
      | nil => rfl
      | cons => simp at h1
    subst this
    exact SlR.nil _ _
  · refine ⟨h1, some ⟨g, 0, none⟩, cap, rfl, hn, fun h => (by cases h), fun ad hA j u hj => ?_⟩
    cases hA
    have hlt : j < cs.length := (List.getElem?_eq_some_iff.1 hj).1
    rw [add_plain, blk_cell hh]
    rw [← ht, List.getElem?_take] at hj
    split at hj
    · simpa using hj
    · cases hj
theorem SlR.of_C {A : Option Addr} {c : Nat} {k : IntKind} {xs : List Int} (h : (Kd.int k).C w A xs.length xs) (hl : xs.length ≤ c) (hn : A = none → c = 0) : SlR w 1 (.slice A xs.length c) xs.length (nums k xs) := by
  refine ⟨by rw [nums_length]; simp, A, c, rfl, hl, hn, fun ad hA j u hj => ?_⟩
  have hlt : j < xs.length := by have := (List.getElem?_eq_some_iff.1 hj).1; rw [nums_length] at this; exact this
  obtain ⟨ad', e, hx⟩ := Kd.at_int h (j : Int) (by omega) (by omega)
  rw [hA] at e
  cases e
  rw [Int.toNat_natCast] at hx
  rw [hx]
  have : (nums k xs)[j]? = some (.int k (rd xs (j : Int))) := by simp [nums, rd, List.getD, hlt]
  rw [this] at hj
  exact hj
theorem SlR.C {k : IntKind} {xs : List Int} (h : SlR w 1 v xs.length (nums k xs)) (hm : xs.length ≤ 9223372036854775807) : ∃ A c, v = .slice A xs.length c ∧ xs.length ≤ c ∧ (A = none → c = 0) ∧ (Kd.int k).C w A xs.length xs := by
  obtain ⟨_, A, c, rfl, h2, h3, h4⟩ := h
  refine ⟨A, c, rfl, h2, h3, rfl, hm, fun hn => ?_⟩
  cases A with
  | none => have := h3 rfl; omega
  | some ad =>
    refine ⟨ad, rfl, fun j p hj => ⟨[.int k p], rfl, rfl, fun i u hi => ?_⟩⟩
    have hi0 : i = 0 := by
      have := (List.getElem?_eq_some_iff.1 hi).1
      simpa using this
    subst hi0
    refine h4 ad rfl _ u ?_
    show (nums k xs)[j * 1 + 0]? = some u
    have hj' : (nums k xs)[j]? = some (.int k p) := by simp [nums, hj]
    rw [Nat.mul_one, Nat.add_zero, hj']
    simpa using hi
theorem SlR.at_ (h : SlR w 1 v n cs) (i : Nat) (hi : i < n) : ∃ ad c, v = .slice (some ad) n c ∧ n ≤ c ∧ ∀ u, cs[i]? = some u → w.cell? (ad.add i) = some u := by
  obtain ⟨h1, A, c, rfl, h2, h3, h4⟩ := h
  cases A with
  | none => have := h3 rfl; omega
  | some ad => exact ⟨ad, c, rfl, h2, fun u hu => h4 ad rfl i u hu⟩
theorem SlR.take_ {A : Option Addr} {c : Nat} (h : SlR w sz (.slice A n c) n cs) (m : Nat) (hm : m ≤ n) : SlR w sz (.slice A m c) m (cs.take (m * sz)) := by
  obtain ⟨h1, A', c', e, h2, h3, h4⟩ := h
  cases e
  refine ⟨by rw [List.length_take, h1]; exact Nat.min_eq_left (Nat.mul_le_mul_right _ hm), A, c, rfl, by omega, h3, fun ad hA j u hj => ?_⟩
  rw [List.getElem?_take] at hj
  split at hj
  · exact h4 ad hA j u hj
  · cases hj
theorem SlR.drop_ {A : Option Addr} {c : Nat} (h : SlR w sz (.slice A n c) n cs) (m : Nat) (hm : m ≤ n) : SlR w sz (.slice (if c = m then A else A.map (·.add (m * sz))) (n - m) (c - m)) (n - m) (cs.drop (m * sz)) := by
  obtain ⟨h1, A', c', e, h2, h3, h4⟩ := h
  cases e
  refine ⟨by rw [List.length_drop, h1, Nat.sub_mul], _, _, rfl, by omega, fun hA => ?_, fun ad hA j u hj => ?_⟩
  · split at hA
    · omega
    · cases A with
      | none => have := h3 rfl; omega
      | some ad => cases hA
  · rw [List.getElem?_drop] at hj
    split at hA
    · rename_i hcm
      have hlt := (List.getElem?_eq_some_iff.1 hj).1
      have : n = m := by omega
      rw [h1, this] at hlt
      omega
    · cases A with
      | none => cases hA
      | some a0 =>
        cases hA
        rw [Go.Addr.add_add]
        exact h4 a0 rfl _ u hj
theorem SlR.len (h : SlR w sz v n cs) : cs.length = n * sz := h.1
end
theorem nums_take (k : IntKind) (xs : List Int) (m : Nat) : nums k (xs.take m) = (nums k xs).take m := by simp [nums, List.map_take]
theorem nums_drop (k : IntKind) (xs : List Int) (m : Nat) : nums k (xs.drop m) = (nums k xs).drop m := by simp [nums, List.map_drop]
theorem nums_get (k : IntKind) (xs : List Int) (i : Nat) (h : i < xs.length) : (nums k xs)[i]? = some (.int k (xs.getD i 0)) := by simp [nums, List.getD, h]
theorem byt_take {w : World} {A : Option Addr} {c : Nat} {xs : List Int} (h : Byt w (.slice A xs.length c) xs) (m : Nat) (hm : m ≤ xs.length) : Byt w (.slice A m c) (xs.take m) := by
  have := h.take_ m hm
  rw [Nat.mul_one, ← nums_take] at this
  have hl : (xs.take m).length = m := by rw [List.length_take]; omega
  unfold Byt
  rw [hl]; exact this
theorem byt_drop {w : World} {A : Option Addr} {c : Nat} {xs : List Int} (h : Byt w (.slice A xs.length c) xs) (m : Nat) (hm : m ≤ xs.length) : Byt w (.slice (if c = m then A else A.map (·.add m)) (xs.length - m) (c - m)) (xs.drop m) := by
  have := h.drop_ m hm
  rw [Nat.mul_one, ← nums_drop] at this
  have hl : (xs.drop m).length = xs.length - m := by rw [List.length_drop]
  unfold Byt
  rw [hl]; exact this
end Go.Proofs.Ytaoacibahdbdkaa.Bts
/-! What a call may write: blocks of S, and what is new. -/
namespace Go.Proofs.Ytaoacibahdbdkaa.Fra
open Go.RowKit Go Go.Proofs.YtaoacibahdbdkaaW.PrintWords Go.Proofs.Ytaoacibahdbdkaa.Bts

structure Fr (S : Nat → Prop) (w w' : World) : Prop where
  os : w'.os = w.os
  tape : w'.tape = w.tape
  output : w'.output = w.output
  size : w.heap.size ≤ w'.heap.size
  block : ∀ k, k < w.heap.size → ¬ S k → w'.heap[k]? = w.heap[k]?
section
variable {S S' : Nat → Prop} {w w' w2 : World}
theorem Fr.refl (S : Nat → Prop) (w : World) : Fr S w w := ⟨rfl, rfl, rfl, Nat.le_refl _, fun _ _ _ => rfl⟩
theorem Fr.then_ (h : Fr S w w') (k : Fr S' w' w2) (hs : ∀ k, S' k → S k ∨ w.heap.size ≤ k) : Fr S w w2 :=
  ⟨k.os.trans h.os, k.tape.trans h.tape, k.output.trans h.output, Nat.le_trans h.size k.size, fun i hi hn => (k.block i (Nat.lt_of_lt_of_le hi h.size) (fun h2 => (hs i h2).elim hn (fun h3 => by omega))).trans (h.block i hi hn)⟩
theorem Fr.trans (h : Fr S w w') (k : Fr S w' w2) : Fr S w w2 := h.then_ k fun _ h => .inl h
theorem Fr.mono (h : Fr S w w') (hs : ∀ k, S k → S' k ∨ w.heap.size ≤ k) : Fr S' w w' := (Fr.refl S' w).then_ h hs
theorem Fr.of_below {B : Nat} (h : Below B w w') (hs : ∀ k, B ≤ k → S k ∨ w.heap.size ≤ k) : Fr S w w' :=
  ⟨h.os, h.tape, h.output, h.size, fun i hi hn => by
    by_cases hb : i < B
    · exact h.block i hb
    · exact ((hs i (by omega)).elim hn (fun h3 => by omega)).elim⟩
theorem Fr.of_new (h : Below w.heap.size w w') : Fr S w w' := Fr.of_below h fun _ h => .inr h
theorem Fr.below {B : Nat} (h : Fr S w w') (hs : ∀ k, S k → B ≤ k) (hB : B ≤ w.heap.size) : Below B w w' :=
  ⟨h.os, h.tape, h.output, h.size, fun i hi => h.block i (by omega) (fun h2 => by have := hs i h2; omega)⟩
theorem Fr.kept (h : Fr S w w') : Kept w w' S := ⟨h.size, h.block⟩
theorem Fr.setCell {p : Addr} (hp : S p.block ∨ w.heap.size ≤ p.block) (u : Value) : Fr S w (w.setCell p u) :=
  ⟨rfl, rfl, rfl, by simp [World.setCell], fun i hi hn => Below.heap_setCell w p u i (fun e => by subst e; exact hp.elim hn (fun h => by omega))⟩
theorem Fr.set (g i : Nat) (u : Value) : Fr (· = g) w (w.setCell ⟨g, i, none⟩ u) := Fr.setCell (S := (· = g)) (.inl rfl) u
theorem Fr.alloc (o : Obj) : Fr S w (w.alloc o) := Fr.of_new (below_alloc (Below.refl _ _) o)
theorem Fr.put (h : Fr S w w') {p : Addr} (hp : S p.block ∨ w.heap.size ≤ p.block) (u : Value) : Fr S w (w'.setCell p u) :=
  h.then_ (S' := fun k => k = p.block) (Fr.setCell (S := fun k => k = p.block) (.inl rfl) u) (fun k hk => by rw [hk]; exact hp)
theorem Fr.more (h : Fr S w w') (hb : Below w'.heap.size w' w2) : Fr S w w2 := h.then_ (S' := fun _ => False) (Fr.of_new hb) (fun _ hk => hk.elim)
theorem Fr.new (h : Fr S w w') (o : Obj) : Fr S w (w'.alloc o) := h.more (below_alloc (Below.refl _ _) o)
theorem ret3 {g : Nat} {t : TypeId} {a b c : Value} (h : w.heap[g]? = some (.cells #[a, b, c] t (0, 0))) (x y z : Value) :
    (((w.setCell ⟨g, 0, none⟩ x).setCell ⟨g, 1, none⟩ y).setCell ⟨g, 2, none⟩ z).heap[g]? = some (.cells #[x, y, z] t (0, 0)) :=
  blk_put (blk_put (blk_put h 0 x rfl) 1 y rfl) 2 z rfl
theorem Fr.blk {g : Nat} {o : Obj} (h : Fr S w w') (hb : w.heap[g]? = some o) (hg : ¬ S g) : w'.heap[g]? = some o := blk_kept hb h.kept hg
theorem Fr.cell {a : Addr} {v : Value} (h : Fr S w w') (hb : w.cell? a = some v) (hg : ¬ S a.block) : w'.cell? a = some v := cell_kept hb h.kept hg
theorem Fr.slr {sz n : Nat} {v : Value} {cs : List Value} (h : Fr S w w') (hb : SlR w sz v n cs) (hg : ∀ k, v.ownBlock = some k → ¬ S k) : SlR w' sz v n cs := hb.kept h.kept hg
end
end Go.Proofs.Ytaoacibahdbdkaa.Fra
/-! Arrays of numbers that are compared. No program is named here. -/
namespace Go.Proofs.Ytaoacibahdbdkaa.ArrEq
open Go.RowKit Go
variable {P : Program} {T E : TypeId} {k : IntKind}
theorem equalIn_arr3 (d : Nat) (ht : P.underlying T = some (.array 3 E)) (he : P.underlying E = some (.int k)) (w : World) (a b c x y z : Int) (hs : (sizeOf E).run P w = .ok 1 w)
    (hp : ∀ (a b c : Int), (part E #[.int k a, .int k b, .int k c] 0).run P w = .ok (.int k a) w ∧ (part E #[.int k a, .int k b, .int k c] 1).run P w = .ok (.int k b) w ∧ (part E #[.int k a, .int k b, .int k c] 2).run P w = .ok (.int k c) w) :
    (Op.equalIn (d + 2) T (.agg #[.int k a, .int k b, .int k c]) (.agg #[.int k x, .int k y, .int k z])).run P w = .ok (a == x && b == y && c == z) w := by
  obtain ⟨p1, p2, p3⟩ := hp a b c
  obtain ⟨q1, q2, q3⟩ := hp x y z
  have h1 := run_equalIn_int w d E k k a x he
  have h2 := run_equalIn_int w d E k k b y he
  have h3 := run_equalIn_int w d E k k c z he
  rw [Op.equalIn]
  simp [run_underlying ht, hs, List.range', p1, p2, p3, q1, q2, q3, h1, h2, h3]
  by_cases e1 : a = x <;> by_cases e2 : b = y <;> by_cases e3 : c = z <;> simp [e1, e2, e3]
theorem equalIn_arr2 (d : Nat) (ht : P.underlying T = some (.array 2 E)) (he : P.underlying E = some (.int k)) (w : World) (a b x y : Int) (hs : (sizeOf E).run P w = .ok 1 w)
    (hp : ∀ (a b : Int), (part E #[.int k a, .int k b] 0).run P w = .ok (.int k a) w ∧ (part E #[.int k a, .int k b] 1).run P w = .ok (.int k b) w) :
    (Op.equalIn (d + 2) T (.agg #[.int k a, .int k b]) (.agg #[.int k x, .int k y])).run P w = .ok (a == x && b == y) w := by
  obtain ⟨p1, p2⟩ := hp a b
  obtain ⟨q1, q2⟩ := hp x y
  have h1 := run_equalIn_int w d E k k a x he
  have h2 := run_equalIn_int w d E k k b y he
  rw [Op.equalIn]
  simp [run_underlying ht, hs, List.range', p1, p2, q1, q2, h1, h2]
  by_cases e1 : a = x <;> by_cases e2 : b = y <;> simp [e1, e2]
end Go.Proofs.Ytaoacibahdbdkaa.ArrEq
/-! packed: numbers, texts and values put behind bytes, as contracts. -/
namespace Go.Proofs.Ytaoacibahdbdkaa.Pk
open Go.RowKit Go Go.Proofs.YtaoacibahdbdkaaW.PrintWords Go.Proofs.YtaoacibahdbdkaaW.PrintMore Go.Proofs.Ytaoacibahdbdkaa.Bts
attribute [local go_sem] max2_int min2_int max_two min_two

theorem infoByte : (Try.prog.info? 5).map (fun i => (i.zero, i.size, i.bytes)) = some (some (.int .u8 0), 1, 1) := by kernel_rfl
set_option maxHeartbeats 1000000 in
theorem clip_calls (A : Option Addr) (n c : Nat) (w : World) (h : n ≤ c) (_hm : (n : Int) ≤ 9223372036854775807) :
    Calls Try.prog 92 #[.slice A n c] w fun e w' => e = .returned (.slice A n n) ∧ w = w' := by
  have hc : (n : Int) ≤ (c : Int) := by omega
  go_enter Try.func92, Try.ntmps92
  go_wp2
  go_ret
  exact ⟨rfl, rfl⟩
/-- The lowest bytes of a number. -/
def leB (n : Int) (k : Nat) : List Int := (List.range k).map fun j => n / 2 ^ (8 * j) % 256
theorem leB_succ (n : Int) (k : Nat) : leB n (k + 1) = leB n k ++ [n / 2 ^ (8 * k) % 256] := by simp [leB, List.range_succ]
theorem leB_length (n : Int) (k : Nat) : (leB n k).length = k := by simp [leB]
/-- How many bytes a number is put in. -/
def sizeP (size : Int) : Nat := min (max size 0).toNat 8
def PutAt (w wr : World) (A : Option Addr) (xs : List Int) (n : Int) (v : Value) (i : Nat) : Prop :=
  (i = 0 ∧ v = .slice A xs.length xs.length ∨ 0 < i ∧ wr.ownsRow w.heap.size 5 1 v (xs ++ leB n i).length (nums .u8 (xs ++ leB n i))) ∧ Below w.heap.size w wr
set_option maxHeartbeats 4000000 in
set_option maxRecDepth 100000 in
theorem put_calls (v : Value) (xs : List Int) (n size : Int) (w : World) (h : Byt w v xs) (hl : xs.length ≤ 140737488351300) (h0 : 0 ≤ n) :
    Calls Try.prog 67 #[v, .int .u64 n, .int .i64 size] w fun e w' => ∃ v', e = .returned v' ∧ ∃ A c, (v = .slice A xs.length c ∧ xs.length ≤ c) ∧ PutAt w w' A xs n v' (sizeP size) := by
  obtain ⟨_, A, c, rfl, hc, hn, hcell⟩ := h
  have HC := Lib.hid hcell
  have HN := Lib.hid hn
  clear hcell hn
  obtain ⟨k, hk⟩ : ∃ k, sizeP size = k := ⟨_, rfl⟩
  have hk8 : k ≤ 8 := by rw [← hk]; unfold sizeP; omega
  rw [hk]
  obtain ⟨m, hm⟩ : ∃ m : Int, (if size < 0 then (0 : Int) else size) = m := ⟨_, rfl⟩
  have hkk : (if 8 < m then (8 : Int) else m) = (k : Int) := by
    rw [← hk, ← hm]; unfold sizeP; split <;> split <;> omega
  obtain ⟨i0, hi, hz0, hz1, hz2⟩ := info_parts infoByte
  have HK := Lib.hid hk
  clear hk
  go_enter Try.func67, Try.ntmps67
  go_wp2_with (go_at_call 92; refine (clip_calls _ _ _ _ hc (by omega)).mono ?_; rintro e w1 ⟨rfl, rfl⟩)
  have HM := Lib.hid hm
  have HKK := Lib.hid hkk
  clear hm hkk
  go_loopw [0, 13] (fun v i wr => ∃ j : Nat, j ≤ k ∧ i = .int .i64 j ∧ PutAt w wr A xs n v j) (fun _ i _ => k - (intOf i).toNat)
  case atStart => exact ⟨0, by omega, rfl, .inl ⟨rfl, rfl⟩, Below.refl _ _⟩
  case round =>
    obtain ⟨j, hj, rfl, hP, hB⟩ := hrel
    by_cases hlt : j < k
    · rcases hP with ⟨rfl, rfl⟩ | ⟨hj0, hown⟩
      · have hsz := hB.size
        go_wp2_with (at_builtin; refine wpList_append_grows _ rfl (.tmp 16) (.tmp 22) 56 rfl 5 i0 (.int .u8 0) 1 1 Try.underlying56 hi hz0 hz1 hz2 rfl (by decide) A xs.length xs.length (nums .u8 xs) rfl ?hnone ?hlo ?holds ⟨wr.heap.size, 0, none⟩ 1 1 [.int .u8 (n % 256)] rfl rfl (cell_one_new _ _ _) ?h1c ?hfull ?b1 ?b2 ?_)
        case hnone => intro hA; have := HN.out hA; omega
        case hlo => rw [nums_length, Nat.mul_one]
        case holds =>
          intro b hb j u hu
          exact pw_cell_below (below_step hB (below_alloc (Below.refl _ _) _)) (HC.out b hb j u hu)
        case h1c => intro u hu; simp at hu; subst hu; rfl
        case hfull => omega
        case b1 => unfold maxLen; omega
        case b2 => omega
        intro v' w2 hown hg
        go_wp2
        go_roundw
        case rel =>
          refine ⟨1, by omega, by go_num, .inr ⟨by omega, ?_⟩, below_then hB hsz ⟨hg.os, hg.tape, hg.output, by have := hg.size; simp at this; omega, fun i hi => (hg.block i (by simp; omega) (by simp)).trans (Below.heap_alloc wr _ i hi)⟩⟩
          have e : leB n 1 = [n % 256] := by simp [leB]
          rw [e, List.length_append, nums_append]
          exact own_weaken hown (by first | omega | (simp; omega))
        case measure => simp [intOf]; omega
      · have hsz := hB.size
        have hv := own_slice hown
        obtain ⟨A1, c1, rfl⟩ := hv
        have HO := Lib.hid hown
        clear hown
        have hlen : (xs ++ leB n j).length = xs.length + j := by rw [List.length_append, leB_length]
        have hj7 : j ≤ 7 := by omega
        have h80 : 0 ≤ (8 : Int) * (j : Int) := by omega
        have h81 : (8 : Int) * (j : Int) ≤ 64 := by omega
        have h82 : ((8 : Int) * (j : Int)).toNat = 8 * j := by omega
        go_wp2_with (at_builtin; refine print_append_num (w0 := w) w.heap.size rfl (.tmp 16) (.tmp 22) 56 5 .u8 1 rfl Try.underlying56 infoByte (by decide) _ (xs ++ leB n j) (n / 2 ^ (8 * j) % 256) rfl rfl HO.out hB hsz (by rw [hlen]; omega) ?_)
        intro v1 w1 hown1 hB1 _ _
        go_wp2
        go_roundw
        case rel =>
          refine ⟨j + 1, by omega, by go_num, .inr ⟨by omega, ?_⟩, hB1⟩
          rw [leB_succ]
          simpa using hown1
        case measure => simp [intOf]; omega
    · go_wp2
      go_ret
      have e : j = k := by omega
      subst e
      exact ⟨_, rfl, A, c, ⟨rfl, hc⟩, hP, hB⟩
/-- What is made is a row of the call's own. -/
def Made (w w' : World) (v : Value) (xs : List Int) : Prop := w'.ownsRow w.heap.size 5 1 v xs.length (nums .u8 xs) ∧ Below w.heap.size w w'
theorem put_pos (v : Value) (xs : List Int) (n : Int) (k : Nat) (w : World) (h : Byt w v xs) (hl : xs.length ≤ 140737488351300) (h0 : 0 ≤ n) (hk : 0 < k) (hk8 : k ≤ 8) :
    Calls Try.prog 67 #[v, .int .u64 n, .int .i64 k] w fun e w' => ∃ v', e = .returned v' ∧ Made w w' v' (xs ++ leB n k) := by
  have e : sizeP (k : Int) = k := by unfold sizeP; omega
  refine (put_calls v xs n k w h hl h0).mono ?_
  rintro e' w' ⟨v', rfl, A, c, _, hP, hB⟩
  rw [e] at hP
  rcases hP with ⟨h, _⟩ | ⟨_, h⟩
  · omega
  · exact ⟨v', rfl, h, hB⟩
theorem Made.byt {w w' : World} {v : Value} {xs : List Int} (h : Made w w' v xs) : Byt w' v xs := SlR.of_own h.1
set_option maxHeartbeats 4000000 in
set_option maxRecDepth 100000 in
theorem text_calls (v : Value) (xs : List Int) (s : ByteArray) (w : World) (h : Byt w v xs) (hl : xs.length ≤ 70368744170000) (hs : s.size ≤ 70368744170000) :
    Calls Try.prog 68 #[v, .string s] w fun e w' => ∃ v', e = .returned v' ∧ Made w w' v' (xs ++ leB s.size 2 ++ bytesOf s) := by
  have H := Lib.hid h
  clear h
  have hb := bytesOf_length s
  go_enter Try.func68, Try.ntmps68
  have hlen : (xs ++ leB (s.size : Int) 2).length = xs.length + 2 := by rw [List.length_append, leB_length]
  have HL := Lib.hid hlen
  clear hlen
  go_wp2_with (first
    | (go_at_call 67; refine (put_pos _ xs _ 2 _ H.out (by omega) (by omega) (by omega) (by omega)).mono ?_; rintro e w1 ⟨v1, rfl, hown, hB⟩)
    | (at_builtin; refine print_append_str (w0 := w) w.heap.size rfl (.tmp 9) (.tmp 10) 56 9 5 rfl Try.underlying56 Try.underlying9 infoByte _ (xs ++ leB (s.size : Int) 2) s rfl rfl hown hB hB.size (by rw [HL.out]; omega) ?_; intro v2 w2 hown2 hB2 _))
  go_ret
  exact ⟨_, rfl, hown2, hB2⟩
end Go.Proofs.Ytaoacibahdbdkaa.Pk
/-! packed: a value put behind bytes, as a contract. -/
namespace Go.Proofs.Ytaoacibahdbdkaa.Pk
open Go.RowKit Go Go.Proofs.YtaoacibahdbdkaaW.PrintWords Go.Proofs.YtaoacibahdbdkaaW.PrintMore Go.Proofs.Ytaoacibahdbdkaa.Bts
attribute [local go_sem] max2_int min2_int max_two min_two
/-- A value's bytes. -/
def valB (k n : Int) (s : ByteArray) : List Int :=
  k % 256 :: (if k = 1 then leB (n % 18446744073709551616) 1 else if k = 2 then leB (n % 18446744073709551616) 8 else if k = 3 then leB s.size 2 ++ bytesOf s else [])
theorem leB_one (n : Int) : leB n 1 = [n % 256] := by simp [leB]
set_option maxHeartbeats 4000000 in
set_option maxRecDepth 100000 in
theorem value_calls (v : Value) (xs : List Int) (k n : Int) (s : ByteArray) (w : World) (h : Byt w v xs) (hk0 : 0 ≤ k) (hk1 : k ≤ 255) (hl : xs.length ≤ 35184372088832) (hs : s.size ≤ 35184372088832) :
    Calls Try.prog 69 #[v, .agg #[.int .u8 k, .int .i64 n, .string s]] w fun e w' => ∃ v', e = .returned v' ∧ Made w w' v' (xs ++ valB k n s) := by
  have H := Lib.hid h
  clear h
  have hu : 0 ≤ n % 18446744073709551616 := by omega
  have HLK := Lib.hid (show (xs ++ leB k 1).length = xs.length + 1 by rw [List.length_append, leB_length])
  have hbox : ∀ (W : World) (o : Obj), W.heap.size ≤ (W.alloc o).heap.size := fun W o => by simp
  have out : ∀ {w1 w2 : World} {v2 : Value} {ys zs : List Int} {o : Obj}, Below (w.alloc o).heap.size (w.alloc o) w1 → Made w1 w2 v2 ys → ys = zs → Made w w2 v2 zs := by
    intro w1 w2 v2 ys zs o hB h e
    subst e
    have h1 : w.heap.size ≤ w1.heap.size := Nat.le_trans (by simp) hB.size
    have h2 : Below w.heap.size w w1 := below_step (below_alloc (Below.refl _ _) o) hB
    exact ⟨own_weaken h.1 h1, below_then h2 h2.size h.2⟩
  have out0 : ∀ {w1 : World} {v1 : Value} {ys zs : List Int} {o : Obj}, Below (w.alloc o).heap.size (w.alloc o) w1 → w1.ownsRow (w.alloc o).heap.size 5 1 v1 ys.length (nums .u8 ys) → ys = zs → Made w w1 v1 zs := by
    intro w1 v1 ys zs o hB h e
    subst e
    exact ⟨own_weaken h (by simp), below_step (below_alloc (Below.refl _ _) o) hB⟩
  have e0 : k % 256 = k := by omega
  by_cases k1 : k = 1
  · have hv : valB k n s = leB k 1 ++ leB (n % 18446744073709551616) 1 := by unfold valB; rw [if_pos k1, leB_one k]; rfl
    have b1 : (k == 1) = true := by rw [beq_iff_eq]; exact k1
    clear k1
    have HV := Lib.hid hv
    clear hv e0
    go_enter Try.func69, Try.ntmps69
    go_wp2_with (first
      | (go_at_call_of 67 v; refine (put_pos _ xs k 1 _ (H.out.below (below_alloc (Below.refl _ _) _)) (by omega) (by omega) (by omega) (by omega)).mono ?_; rintro e w1 ⟨v1, rfl, hown, hB⟩; have hc0 := pw_cell_below hB (a := ⟨w.heap.size, 0, none⟩) (v := .int .u8 k) (by go_simp); have hc1 := pw_cell_below hB (a := ⟨w.heap.size, 1, none⟩) (v := .int .i64 n) (by go_simp); have hc2 := pw_cell_below hB (a := ⟨w.heap.size, 2, none⟩) (v := .string s) (by go_simp))
      | (go_at_call_of 67 v1; refine (put_pos _ (xs ++ leB k 1) _ 1 _ (SlR.of_own hown) (by rw [HLK.out]; omega) hu (by omega) (by omega)).mono ?_; rintro e w2 ⟨v2, rfl, hM⟩))
    go_ret
    exact ⟨_, rfl, out hB hM (by rw [HV.out, List.append_assoc])⟩
  by_cases k2 : k = 2
  · have hv : valB k n s = leB k 1 ++ leB (n % 18446744073709551616) 8 := by unfold valB; rw [if_neg k1, if_pos k2, leB_one k]; rfl
    have b1 : (k == 1) = false := by rw [beq_eq_false_iff_ne]; exact k1
    have b2 : (k == 2) = true := by rw [beq_iff_eq]; exact k2
    clear k1 k2
    have HV := Lib.hid hv
    clear hv e0
    go_enter Try.func69, Try.ntmps69
    go_wp2_with (first
      | (go_at_call_of 67 v; refine (put_pos _ xs k 1 _ (H.out.below (below_alloc (Below.refl _ _) _)) (by omega) (by omega) (by omega) (by omega)).mono ?_; rintro e w1 ⟨v1, rfl, hown, hB⟩; have hc0 := pw_cell_below hB (a := ⟨w.heap.size, 0, none⟩) (v := .int .u8 k) (by go_simp); have hc1 := pw_cell_below hB (a := ⟨w.heap.size, 1, none⟩) (v := .int .i64 n) (by go_simp); have hc2 := pw_cell_below hB (a := ⟨w.heap.size, 2, none⟩) (v := .string s) (by go_simp))
      | (go_at_call_of 67 v1; refine (put_pos _ (xs ++ leB k 1) _ 8 _ (SlR.of_own hown) (by rw [HLK.out]; omega) hu (by omega) (by omega)).mono ?_; rintro e w2 ⟨v2, rfl, hM⟩))
    go_ret
    exact ⟨_, rfl, out hB hM (by rw [HV.out, List.append_assoc])⟩
  by_cases k3 : k = 3
  · have hv : valB k n s = leB k 1 ++ (leB s.size 2 ++ bytesOf s) := by unfold valB; rw [if_neg k1, if_neg k2, if_pos k3, leB_one k]; rfl
    have b1 : (k == 1) = false := by rw [beq_eq_false_iff_ne]; exact k1
    have b2 : (k == 2) = false := by rw [beq_eq_false_iff_ne]; exact k2
    have b3 : (k == 3) = true := by rw [beq_iff_eq]; exact k3
    clear k1 k2 k3
    have HV := Lib.hid hv
    clear hv e0
    go_enter Try.func69, Try.ntmps69
    go_wp2_with (first
      | (go_at_call_of 67 v; refine (put_pos _ xs k 1 _ (H.out.below (below_alloc (Below.refl _ _) _)) (by omega) (by omega) (by omega) (by omega)).mono ?_; rintro e w1 ⟨v1, rfl, hown, hB⟩; have hc0 := pw_cell_below hB (a := ⟨w.heap.size, 0, none⟩) (v := .int .u8 k) (by go_simp); have hc1 := pw_cell_below hB (a := ⟨w.heap.size, 1, none⟩) (v := .int .i64 n) (by go_simp); have hc2 := pw_cell_below hB (a := ⟨w.heap.size, 2, none⟩) (v := .string s) (by go_simp))
      | (go_at_call_of 68 v1; refine (text_calls _ (xs ++ leB k 1) s _ (SlR.of_own hown) (by rw [HLK.out]; omega) (by omega)).mono ?_; rintro e w2 ⟨v2, rfl, hM⟩))
    go_ret
    exact ⟨_, rfl, out hB hM (by rw [HV.out, List.append_assoc, List.append_assoc])⟩
  · have hv : valB k n s = leB k 1 := by unfold valB; rw [if_neg k1, if_neg k2, if_neg k3, leB_one k]
    have b1 : (k == 1) = false := by rw [beq_eq_false_iff_ne]; exact k1
    have b2 : (k == 2) = false := by rw [beq_eq_false_iff_ne]; exact k2
    have b3 : (k == 3) = false := by rw [beq_eq_false_iff_ne]; exact k3
    clear k1 k2 k3
    have HV := Lib.hid hv
    clear hv e0
    go_enter Try.func69, Try.ntmps69
    go_wp2_with (first
      | (go_at_call_of 67 v; refine (put_pos _ xs k 1 _ (H.out.below (below_alloc (Below.refl _ _) _)) (by omega) (by omega) (by omega) (by omega)).mono ?_; rintro e w1 ⟨v1, rfl, hown, hB⟩; have hc0 := pw_cell_below hB (a := ⟨w.heap.size, 0, none⟩) (v := .int .u8 k) (by go_simp); have hc1 := pw_cell_below hB (a := ⟨w.heap.size, 1, none⟩) (v := .int .i64 n) (by go_simp); have hc2 := pw_cell_below hB (a := ⟨w.heap.size, 2, none⟩) (v := .string s) (by go_simp))      )
    go_ret
    exact ⟨_, rfl, out0 hB hown (by rw [HV.out])⟩
end Go.Proofs.Ytaoacibahdbdkaa.Pk
/-! packed.Reader: a reader's calls, as contracts. -/
namespace Go.Proofs.Ytaoacibahdbdkaa.Pr
open Go.RowKit Go Go.Proofs.YtaoacibahdbdkaaW.PrintWords Go.Proofs.YtaoacibahdbdkaaW.PrintMore Go.Proofs.Ytaoacibahdbdkaa.Bts Go.Proofs.Ytaoacibahdbdkaa.Pk Go.Proofs.Ytaoacibahdbdkaa.Fra
attribute [local go_sem] max2_int min2_int max_two min_two

theorem failed_nil (w : World) :
    Calls Try.prog 36 #[.pointer none] w fun e w' => e = .returned (.int .i64 1) ∧ w = w' := by
  go_enter Try.func36, Try.ntmps36
  go_wp2
  go_ret
  exact ⟨rfl, rfl⟩
/-- A reader's block: the bytes that are left, what is wrong. -/
def Rd (w : World) (B g : Nat) (xs : List Int) (f : Int) : Prop :=
  ∃ A c, w.heap[g]? = some (.cells #[.slice A xs.length c, .int .i64 f] 134 (0,0)) ∧ Byt w (.slice A xs.length c) xs ∧ g < B ∧ ∀ ad, A = some ad → ad.block ≠ g ∧ ad.block < B
theorem Rd.fr {w w' : World} {B g : Nat} {xs : List Int} {f : Int} {S : Nat → Prop} (h : Rd w B g xs f) (hf : Fr S w w') (hs : ∀ k, k < B → ¬ S k) : Rd w' B g xs f := by
  obtain ⟨A, c, h1, h2, h3⟩ := h
  refine ⟨A, c, hf.blk h1 (hs _ h3.1), SlR.kept h2 hf.kept ?_, h3⟩
  intro k hk
  cases A with
  | none => cases hk
  | some ad => cases hk; exact hs _ (h3.2 ad rfl).2
theorem Rd.put {w : World} {B g : Nat} {xs : List Int} {f : Int} (h : Rd w B g xs f) {p : Addr} (hp : ∀ k, k < B → ¬ k = p.block) (u : Value) : Rd (w.setCell p u) B g xs f :=
  h.fr (S := fun k => k = p.block) (Fr.setCell (S := fun k => k = p.block) (.inl rfl) u) hp
theorem Rd.mono {w : World} {B B' g : Nat} {xs : List Int} {f : Int} (h : Rd w B g xs f) (hB : B ≤ B') : Rd w B' g xs f := by
  obtain ⟨A, c, h1, h2, h3⟩ := h
  exact ⟨A, c, h1, h2, by omega, fun ad ha => ⟨(h3.2 ad ha).1, by have := (h3.2 ad ha).2; omega⟩⟩
theorem Rd.lt {w : World} {B g : Nat} {xs : List Int} {f : Int} (h : Rd w B g xs f) : g < B ∧ g < w.heap.size := by
  obtain ⟨A, c, h1, h2, h3⟩ := h
  exact ⟨h3.1, blk_lt h1⟩
theorem Rd.below {w w' : World} {B g : Nat} {xs : List Int} {f : Int} (h : Rd w B g xs f) (hf : Below w.heap.size w w') : Rd w' B g xs f := by
  obtain ⟨A, c, h1, h2, h3⟩ := h
  exact ⟨A, c, blk_below h1 hf, h2.below hf, h3⟩
theorem Rd.cell0 {w : World} {B g : Nat} {xs : List Int} {f : Int} (h : Rd w B g xs f) : ∃ A c, w.cell? ⟨g, 0, none⟩ = some (.slice A xs.length c) := by
  obtain ⟨A, c, h1, _⟩ := h; exact ⟨A, c, blk_cell h1 0⟩
theorem Rd.cell1 {w : World} {B g : Nat} {xs : List Int} {f : Int} (h : Rd w B g xs f) : w.cell? ⟨g, 1, none⟩ = some (.int .i64 f) := by
  obtain ⟨A, c, h1, _⟩ := h; exact blk_cell h1 1
theorem Rd.frozen1 {w : World} {B g : Nat} {xs : List Int} {f : Int} (h : Rd w B g xs f) : w.frozen? ⟨g, 1, none⟩ = false := by
  obtain ⟨A, c, h1, _⟩ := h; exact blk_frozen h1 1
/-- What is left of a row that is cut at its end: other block, other cells. -/
theorem Rd.cut {w : World} {B g : Nat} {xs : List Int} {f : Int} {A : Option Addr} {c : Nat} (n : Nat) (hn : n ≤ xs.length)
    (hg : w.heap[g]? = some (.cells #[.slice A xs.length c, .int .i64 f] 134 (0,0))) (hb : Byt w (.slice A xs.length c) xs) (hA : g < B ∧ ∀ ad, A = some ad → ad.block ≠ g ∧ ad.block < B) (A' : Option Addr) (hA' : A' = if c = n then A else A.map (·.add n)) :
    Rd (w.setCell ⟨g, 0, none⟩ (.slice A' (xs.length - n) (c - n))) B g (xs.drop n) f := by
  subst hA'
  have hl : (xs.drop n).length = xs.length - n := by rw [List.length_drop]
  have hd := byt_drop hb n hn
  refine ⟨_, _, by rw [hl]; exact (blk_set hg 0 _).trans rfl, ?_, ?_⟩
  · rw [hl]
    refine SlR.kept hd (Fr.setCell (S := (· = g)) (p := ⟨g, 0, none⟩) (.inl rfl) _).kept ?_
    intro k hk e
    subst e
    split at hk
    · cases A with
      | none => cases hk
      | some ad => cases hk; exact (hA.2 ad rfl).1 rfl
    · cases A with
      | none => cases hk
      | some ad =>
        have hb : (ad.add n).block = ad.block := by unfold Addr.add; split <;> rfl
        cases hk
        exact (hA.2 ad rfl).1 hb.symm
  · refine ⟨hA.1, ?_⟩
    intro ad had
    split at had
    · exact hA.2 ad had
    · cases A with
      | none => cases had
      | some a0 =>
        have hb : (a0.add n).block = a0.block := by unfold Addr.add; split <;> rfl
        cases had
        rw [hb]; exact hA.2 a0 rfl
theorem own_lt {w : World} {b n sz : Nat} {e : TypeId} {v : Value} {cs : List Value} (h : w.ownsRow b e sz v n cs) (k : Nat) (hk : v.ownBlock = some k) : k < w.heap.size := by
  obtain ⟨_, h2⟩ := h
  rcases h2 with ⟨rfl, _⟩ | ⟨g, cap, cur, rfl, hg, hh, _⟩
  · cases hk
  · cases hk; exact blk_lt hh
set_option maxHeartbeats 1000000 in
theorem open_calls (v : Value) (xs : List Int) (w : World) (h : Byt w v xs) (hl : xs.length ≤ 140737488355328) :
    Calls Try.prog 73 #[v] w fun e w' => ∃ g, e = .returned (.pointer (some ⟨g, 0, none⟩)) ∧ Rd w' w'.heap.size g xs 0 ∧ w.heap.size ≤ g ∧ Below w.heap.size w w' := by
  obtain ⟨A, c, rfl, hc, hn, hC⟩ := h.C (by omega)
  have hN : A = none → xs = [] ∧ c = 0 := by
    intro hA
    have := hn hA
    exact ⟨List.length_eq_zero_iff.1 (by omega), this⟩
  have HC := Lib.hid hC
  clear hn hC
  go_enter Try.func73, Try.ntmps73
  go_wp2_with (go_at_call 93; refine (Cl.clone_bytes A c xs _ HC.out hl hN).mono ?_; rintro e w1 ⟨v1, rfl, hR, hB⟩; have hown := Cl.own_of_R hR; obtain ⟨A1, c1, rfl⟩ := own_slice hown)
  go_ret
  refine ⟨_, rfl, ⟨A1, c1, blk_new _ _, (SlR.of_own hown).below (below_alloc (Below.refl _ _) _), ?_⟩, hB.size, below_alloc hB _⟩
  refine ⟨by simp, ?_⟩
  intro ad hA1
  have := own_lt hown _ (by rw [hA1]; rfl)
  simp
  omega
theorem Rd.fail {w : World} {B g : Nat} {xs : List Int} {f : Int} (h : Rd w B g xs f) (f' : Int) : Rd (w.setCell ⟨g, 1, none⟩ (.int .i64 f')) B g xs f' := by
  obtain ⟨A, c, h1, h2, h3⟩ := h
  refine ⟨A, c, (blk_set h1 1 _).trans rfl, SlR.kept h2 (Fr.set g 1 _).kept ?_, h3⟩
  intro k hk e
  subst e
  cases A with
  | none => cases hk
  | some ad => cases hk; exact (h3.2 ad rfl).1 rfl
/-- So many bytes: what comes, what is left, what is wrong. -/
def takeP (xs : List Int) (f : Int) (n : Nat) : List Int × List Int × Int :=
  if f = 0 then (if xs.length < n then ([], xs, 11) else (xs.take n, xs.drop n, 0)) else ([], xs, f)
set_option maxHeartbeats 2000000 in
theorem take_calls (B g : Nat) (xs : List Int) (f : Int) (n : Nat) (w : World) (h : Rd w B g xs f) (_hl : xs.length ≤ 140737488355328) :
    Calls Try.prog 74 #[.pointer (some ⟨g, 0, none⟩), .int .i64 n] w fun e w' => ∃ v, e = .returned v ∧ Byt w' v (takeP xs f n).1 ∧ Rd w' B g (takeP xs f n).2.1 (takeP xs f n).2.2 ∧ Fr (· = g) w w' := by
  have H := Lib.hid h
  obtain ⟨A, c, hg, hb, hA⟩ := h
  have hc0 : w.cell? ⟨g, 0, none⟩ = some (.slice A xs.length c) := blk_cell hg 0
  have hc1 : w.cell? ⟨g, 1, none⟩ = some (.int .i64 f) := blk_cell hg 1
  have hf0 : w.frozen? ⟨g, 0, none⟩ = false := blk_frozen hg 0
  have hf1 : w.frozen? ⟨g, 1, none⟩ = false := blk_frozen hg 1
  have HG := Lib.hid hg
  clear hg
  by_cases f0 : f = 0
  · subst f0
    by_cases hn : xs.length < n
    · have e : takeP xs 0 n = ([], xs, 11) := by unfold takeP; rw [if_pos rfl, if_pos hn]
      rw [e]
      go_enter Try.func74, Try.ntmps74
      go_wp2
      go_ret
      exact ⟨_, rfl, SlR.nil _ _, H.out.fail 11, Fr.set g 1 _⟩
    · have e : takeP xs 0 n = (xs.take n, xs.drop n, 0) := by unfold takeP; rw [if_pos rfl, if_neg hn]
      rw [e]
      have hn : n ≤ xs.length := by omega
      have hnc : n ≤ c := by obtain ⟨_, A', c', e, h2, _⟩ := hb; cases e; omega
      have hk : ∀ u, Byt (w.setCell ⟨g, 0, none⟩ u) (.slice A n c) (xs.take n) := fun u => SlR.kept (by have := byt_take hb n hn; unfold Byt at this; rwa [List.length_take, Nat.min_eq_left hn] at this ⊢) (Fr.set g 0 u).kept (by
        intro k hk e
        subst e
        cases A with
        | none => cases hk
        | some ad => cases hk; exact (hA.2 ad rfl).1 rfl)
      go_enter Try.func74, Try.ntmps74
      go_wp2
      · obtain rfl : c = n := by omega
        go_ret
        have hr := Rd.cut c hn HG.out hb hA A (by rw [if_pos rfl])
        rw [Nat.sub_self] at hr
        exact ⟨_, rfl, hk _, hr, Fr.set g 0 _⟩
      · go_ret
        exact ⟨_, rfl, hk _, Rd.cut n hn HG.out hb hA _ (by rw [if_neg (by omega)]), Fr.set g 0 _⟩
  · have e : takeP xs f n = ([], xs, f) := by unfold takeP; rw [if_neg f0]
    rw [e]
    have b0 : (f == 0) = false := by rw [beq_eq_false_iff_ne]; exact f0
    go_enter Try.func74, Try.ntmps74
    go_wp2
    go_ret
    exact ⟨_, rfl, SlR.nil _ _, H.out, Fr.refl _ _⟩
/-- A number out of bytes, the lowest first. -/
def numB : List Int → Int
  | [] => 0
  | b :: bs => b + 256 * numB bs
def Bs (xs : List Int) : Prop := ∀ x ∈ xs, 0 ≤ x ∧ x ≤ 255
theorem numB_nn : ∀ (xs : List Int), Bs xs → 0 ≤ numB xs ∧ numB xs < 256 ^ xs.length
  | [], _ => by simp [numB]
  | x :: xs, h => by
    have h1 := numB_nn xs (fun y hy => h y (List.mem_cons_of_mem _ hy))
    have h2 := h x (List.mem_cons_self ..)
    simp only [numB, List.length_cons, Int.pow_succ]
    omega
theorem numB_snoc : ∀ (xs : List Int) (b : Int), numB (xs ++ [b]) = numB xs + 256 ^ xs.length * b
  | [], b => by simp [numB]
  | x :: xs, b => by
    have := numB_snoc xs b
    simp only [List.cons_append, numB, this, List.length_cons, Int.pow_succ]
    rw [Int.mul_add, ← Int.add_assoc, Int.mul_comm (256 ^ xs.length) 256, Int.mul_assoc]
theorem or_step (n b : Int) (j : Nat) (hj : j < 8) (h0 : 0 ≤ n) (h1 : n < 256 ^ j) (hb0 : 0 ≤ b) (hb1 : b ≤ 255) :
    bits .or .u64 n (IntKind.u64.wrap (IntKind.u64.wrap b * 2 ^ (8 * j))) = n + 256 ^ j * b := by
  have e1 : IntKind.u64.wrap b = b := by simp [IntKind.wrap, IntKind.bits, IntKind.signed]; omega
  have e256 : (256 : Int) ^ j = 2 ^ (8 * j) := by rw [Int.pow_mul]; rfl
  rw [e1]
  rw [e256] at h1 ⊢
  obtain ⟨a, rfl⟩ : ∃ a : Nat, n = a := ⟨n.toNat, by omega⟩
  obtain ⟨c, rfl⟩ : ∃ c : Nat, b = c := ⟨b.toNat, by omega⟩
  have hp : (2 : Int) ^ (8 * j) = ((2 ^ (8 * j) : Nat) : Int) := by norm_cast
  rw [hp] at h1 ⊢
  have hp1 : (2 : Nat) ^ (8 * j) ≤ 2 ^ 56 := Nat.pow_le_pow_right (by decide) (by omega)
  have ha : a < 2 ^ (8 * j) := by exact_mod_cast h1
  have hc : c ≤ 255 := by omega
  have hm : c * 2 ^ (8 * j) ≤ 255 * 2 ^ 56 := Nat.mul_le_mul hc hp1
  have e2 : IntKind.u64.wrap ((c : Int) * ((2 ^ (8 * j) : Nat) : Int)) = ((c * 2 ^ (8 * j) : Nat) : Int) := by
    rw [← Int.natCast_mul]
    generalize hz : c * 2 ^ (8 * j) = z at hm ⊢
    simp [IntKind.wrap, IntKind.bits, IntKind.signed]
    omega
  rw [e2, u64_or_nat a _ (by omega) (by omega)]
  have := Nat.two_pow_add_eq_or_of_lt ha c
  rw [Nat.or_comm, Nat.mul_comm c, ← this]
  push_cast
  omega
theorem takeP_len (xs : List Int) (f : Int) (n : Nat) : (takeP xs f n).1.length ≤ n := by
  unfold takeP; split
  · split
    · simp
    · simp; omega
  · simp
theorem takeP_bs {xs : List Int} (h : Bs xs) (f : Int) (n : Nat) : Bs (takeP xs f n).1 ∧ Bs (takeP xs f n).2.1 := by
  unfold takeP; split
  · split
    · exact ⟨fun x hx => by simp at hx, h⟩
    · exact ⟨fun x hx => h x (List.mem_of_mem_take hx), fun x hx => h x (List.mem_of_mem_drop hx)⟩
  · exact ⟨fun x hx => by simp at hx, h⟩
set_option maxHeartbeats 4000000 in
set_option maxRecDepth 100000 in
theorem number_calls (B g : Nat) (xs : List Int) (f size : Int) (w : World) (h : Rd w B g xs f) (hl : xs.length ≤ 140737488355328) (hbs : Bs xs) :
    Calls Try.prog 32 #[.pointer (some ⟨g, 0, none⟩), .int .i64 size] w fun e w' => e = .returned (.int .u64 (numB (takeP xs f (sizeP size)).1)) ∧ Rd w' B g (takeP xs f (sizeP size)).2.1 (takeP xs f (sizeP size)).2.2 ∧ Fr (· = g) w w' := by
  obtain ⟨k, hk⟩ : ∃ k, sizeP size = k := ⟨_, rfl⟩
  rw [hk]
  have hk8 : k ≤ 8 := by rw [← hk]; unfold sizeP; omega
  obtain ⟨m, hm⟩ : ∃ m : Int, (if size < 0 then (0 : Int) else size) = m := ⟨_, rfl⟩
  have hkk : (if 8 < m then (8 : Int) else m) = (k : Int) := by
    rw [← hk, ← hm]; unfold sizeP; split <;> split <;> omega
  have H := Lib.hid h
  have HK := Lib.hid hk
  clear h hk
  have htl := takeP_len xs f k
  have htb := (takeP_bs hbs f k).1
  generalize ht : takeP xs f k = t at htl htb ⊢
  have HT := Lib.hid ht
  clear ht
  obtain ⟨bs, ys, f1⟩ := t
  simp only at htl htb
  go_enter Try.func32, Try.ntmps32
  go_wp2_with (go_at_call 74; refine (take_calls B g xs f k _ H.out hl).mono ?_; rintro e w1 ⟨v, rfl, hb, hr, hf⟩; rw [HT.out] at hb hr; simp only at hb hr; obtain ⟨A, c, rfl, hc, hn, hC⟩ := hb.C (by omega))
  have HM := Lib.hid hm
  have HKK := Lib.hid hkk
  have HR := Lib.hid hr
  have HF := Lib.hid hf
  clear hm hkk hr hf hb
  go_loopw [5, 14] (fun v i wr => ∃ j : Nat, j ≤ bs.length ∧ i = .int .i64 j ∧ v = .int .u64 (numB (bs.take j)) ∧ wr = w1) (fun _ i _ => bs.length - (intOf i).toNat)
  case atStart => exact ⟨0, by omega, rfl, rfl, rfl⟩
  case round =>
    obtain ⟨j, hj, rfl, rfl, rfl⟩ := hrel
    by_cases hlt : j < bs.length
    · obtain ⟨ad, rfl, hx⟩ := Kd.at_int hC (j : Int) (by omega) (by omega)
      rw [Int.toNat_natCast] at hx
      have h80 : 0 ≤ (8 : Int) * (j : Int) := by omega
      have h81 : (8 : Int) * (j : Int) ≤ 64 := by omega
      have h82 : ((8 : Int) * (j : Int)).toNat = 8 * j := by omega
      go_wp2
      go_roundw
      case rel =>
        refine ⟨j + 1, by omega, by simp, ?_, trivial⟩
        have ht := List.take_append_getElem (l := bs) (i := j) hlt
        have hb1 := htb bs[j] (List.getElem_mem hlt)
        have hn1 := numB_nn (bs.take j) (fun y hy => htb y (List.mem_of_mem_take hy))
        rw [List.length_take, Nat.min_eq_left (by omega)] at hn1
        have hrd : rd bs (j : Int) = bs[j] := by simp [rd, hlt]
        rw [hrd, or_step _ _ j (by omega) hn1.1 hn1.2 hb1.1 hb1.2, ← ht, numB_snoc, List.length_take, Nat.min_eq_left (by omega)]
      case measure => simp [intOf]; omega
    · go_wp2
      go_ret
      obtain rfl : j = bs.length := by omega
      rw [List.take_length]
      exact ⟨rfl, HR.out, HF.out⟩
theorem number_k (k B g : Nat) (xs : List Int) (f size : Int) (w : World) (hk : sizeP size = k) (h : Rd w B g xs f) (hl : xs.length ≤ 140737488355328) (hbs : Bs xs) :
    Calls Try.prog 32 #[.pointer (some ⟨g, 0, none⟩), .int .i64 size] w fun e w' => e = .returned (.int .u64 (numB (takeP xs f k).1)) ∧ Rd w' B g (takeP xs f k).2.1 (takeP xs f k).2.2 ∧ Fr (· = g) w w' := by
  subst hk
  exact number_calls B g xs f size w h hl hbs
end Go.Proofs.Ytaoacibahdbdkaa.Pr
/-! packed.Reader: texts, values, and what is wrong, as contracts. -/
namespace Go.Proofs.Ytaoacibahdbdkaa.Pr
open Go.RowKit Go Go.Proofs.YtaoacibahdbdkaaW.PrintWords Go.Proofs.YtaoacibahdbdkaaW.PrintMore Go.Proofs.Ytaoacibahdbdkaa.Bts Go.Proofs.Ytaoacibahdbdkaa.Pk Go.Proofs.Ytaoacibahdbdkaa.Fra

theorem failed_calls (B g : Nat) (xs : List Int) (f : Int) (w : World) (h : Rd w B g xs f) :
    Calls Try.prog 36 #[.pointer (some ⟨g, 0, none⟩)] w fun e w' => e = .returned (.int .i64 f) ∧ w = w' := by
  obtain ⟨A, c, hg, hb, hA⟩ := h
  have hc1 : w.cell? ⟨g, 1, none⟩ = some (.int .i64 f) := blk_cell hg 1
  go_enter Try.func36, Try.ntmps36
  go_wp2
  go_ret
  exact ⟨rfl, rfl⟩
theorem left_calls (B g : Nat) (xs : List Int) (f : Int) (w : World) (h : Rd w B g xs f) :
    Calls Try.prog 35 #[.pointer (some ⟨g, 0, none⟩)] w fun e w' => e = .returned (.int .i64 xs.length) ∧ w = w' := by
  obtain ⟨A, c, hg, hb, hA⟩ := h
  have hc0 : w.cell? ⟨g, 0, none⟩ = some (.slice A xs.length c) := blk_cell hg 0
  go_enter Try.func35, Try.ntmps35
  go_wp2
  go_ret
  exact ⟨rfl, rfl⟩
/-- What was wrong first; 12, if bytes are left. -/
def endP (xs : List Int) (f : Int) : Int := if f = 0 then (if xs = [] then 0 else 12) else f
set_option maxHeartbeats 1000000 in
theorem end_calls (B g : Nat) (xs : List Int) (f : Int) (w : World) (h : Rd w B g xs f) :
    Calls Try.prog 37 #[.pointer (some ⟨g, 0, none⟩)] w fun e w' => e = .returned (.int .i64 (endP xs f)) ∧ w = w' := by
  have H := Lib.hid h
  obtain ⟨A, c, hg, hb, hA⟩ := h
  have hc0 : w.cell? ⟨g, 0, none⟩ = some (.slice A xs.length c) := blk_cell hg 0
  clear hg hb hA
  by_cases f0 : f = 0
  · subst f0
    by_cases x0 : xs = []
    · subst x0
      go_enter Try.func37, Try.ntmps37
      go_wp2_with (go_at_call 36; refine (failed_calls B g _ _ _ H.out).mono ?_; rintro e w1 ⟨rfl, rfl⟩)
      go_ret
      exact ⟨rfl, rfl⟩
    · have hl : 0 < xs.length := List.length_pos_iff.2 x0
      have b1 : decide ((0 : Int) < (xs.length : Int)) = true := by simp; omega
      go_enter Try.func37, Try.ntmps37
      go_wp2_with (go_at_call 36; refine (failed_calls B g _ _ _ H.out).mono ?_; rintro e w1 ⟨rfl, rfl⟩)
      go_ret
      exact ⟨by unfold endP; rw [if_pos rfl, if_neg x0]; rfl, rfl⟩
  · have b0 : (f == 0) = false := by rw [beq_eq_false_iff_ne]; exact f0
    go_enter Try.func37, Try.ntmps37
    go_wp2_with (go_at_call 36; refine (failed_calls B g _ _ _ H.out).mono ?_; rintro e w1 ⟨rfl, rfl⟩)
    go_ret
    exact ⟨by unfold endP; rw [if_neg f0]; rfl, rfl⟩
/-- Bytes, at most so many. -/
def textP (xs : List Int) (f most : Int) : List Int × List Int × Int :=
  let t := takeP xs f 2
  takeP t.2.1 (if t.2.2 = 0 ∧ most < numB t.1 then 12 else t.2.2) (numB t.1).toNat
theorem takeP_wrong (xs : List Int) (f : Int) (n : Nat) (h : (takeP xs f n).2.2 ≠ 0) : (takeP xs f n).1 = [] := by
  unfold takeP at *
  split
  · rename_i h0
    rw [if_pos h0] at h
    split
    · rfl
    · rename_i h1; rw [if_neg h1] at h; exact absurd rfl h
  · rfl
theorem takeP_left (xs : List Int) (f : Int) (n : Nat) : (takeP xs f n).2.1.length ≤ xs.length := by
  unfold takeP; split
  · split
    · simp
    · simp
  · simp
set_option maxHeartbeats 4000000 in
set_option maxRecDepth 100000 in
theorem text_calls (B g : Nat) (xs : List Int) (f most : Int) (w : World) (h : Rd w B g xs f) (hl : xs.length ≤ 140737488355328) (hbs : Bs xs) :
    Calls Try.prog 33 #[.pointer (some ⟨g, 0, none⟩), .int .i64 most] w fun e w' => e = .returned (.string (strOfNums (textP xs f most).1)) ∧ Rd w' B g (textP xs f most).2.1 (textP xs f most).2.2 ∧ Fr (· = g) w w' := by
  have H := Lib.hid h
  clear h
  have hs2 : sizeP 2 = 2 := rfl
  have htl := takeP_len xs f 2
  have htb := (takeP_bs hbs f 2).1
  have htf := takeP_left xs f 2
  have hdef : textP xs f most = takeP (takeP xs f 2).2.1 (if (takeP xs f 2).2.2 = 0 ∧ most < numB (takeP xs f 2).1 then 12 else (takeP xs f 2).2.2) (numB (takeP xs f 2).1).toNat := rfl
  have hnum := number_calls B g xs f 2 w H.out hl hbs
  rw [hs2] at hnum
  rw [hdef]
  clear hdef
  generalize ht : takeP xs f 2 = t at *
  obtain ⟨bs, ys, f1⟩ := t
  simp only at htl htb htf hnum ⊢
  have hn1 := numB_nn bs htb
  have hn2 : (256 : Int) ^ bs.length ≤ 65536 := by
    have : bs.length = 0 ∨ bs.length = 1 ∨ bs.length = 2 := by omega
    rcases this with e | e | e <;> rw [e] <;> decide
  obtain ⟨nn, hnn⟩ : ∃ nn : Nat, numB bs = nn := ⟨(numB bs).toNat, by omega⟩
  rw [hnn] at hnum hn1 ⊢
  rw [Int.toNat_natCast]
  have hw : IntKind.i64.wrap (nn : Int) = nn := by rw [IntKind.wrap_i64]; omega
  have NUM := Lib.hid hnum
  clear hnum ht hnn
  have hyl : ys.length ≤ 140737488355328 := by omega
  by_cases f0 : f1 = 0
  · subst f0
    by_cases hm : most < nn
    · rw [if_pos ⟨rfl, hm⟩]
      go_enter Try.func33, Try.ntmps33
      go_wp2_with (first
        | (go_at_call 32; refine NUM.out.mono ?_; rintro e w1 ⟨rfl, hr, hf⟩; have hc1 := hr.cell1; have hf1 := hr.frozen1)
        | (go_at_call 36; refine (failed_calls B g _ _ _ hr).mono ?_; rintro e w2 ⟨rfl, rfl⟩)
        | (go_at_call 74; refine (take_calls B g ys 12 nn _ (hr.fail 12) hyl).mono ?_; rintro e w3 ⟨v, rfl, hb, hr3, hf3⟩; obtain ⟨A, c, rfl, hc, hn, hC⟩ := hb.C (by have := takeP_len ys 12 nn; omega); have hstr := Kd.C_string (c := c) (src := 56) (dst := 9) (e := 5) Try.underlying56 Try.underlying5 Try.underlying9 hC))
      go_ret
      exact ⟨rfl, hr3, (hf.trans (Fr.set g 1 _)).trans hf3⟩
    · rw [if_neg (fun h => hm h.2)]
      have bm : decide (most < (nn : Int)) = false := by rw [decide_eq_false_iff_not]; exact hm
      go_enter Try.func33, Try.ntmps33
      go_wp2_with (first
        | (go_at_call 32; refine NUM.out.mono ?_; rintro e w1 ⟨rfl, hr, hf⟩)
        | (go_at_call 36; refine (failed_calls B g _ _ _ hr).mono ?_; rintro e w2 ⟨rfl, rfl⟩)
        | (go_at_call 74; refine (take_calls B g ys 0 nn _ hr hyl).mono ?_; rintro e w3 ⟨v, rfl, hb, hr3, hf3⟩; obtain ⟨A, c, rfl, hc, hn, hC⟩ := hb.C (by have := takeP_len ys 0 nn; omega); have hstr := Kd.C_string (c := c) (src := 56) (dst := 9) (e := 5) Try.underlying56 Try.underlying5 Try.underlying9 hC))
      go_ret
      exact ⟨rfl, hr3, hf.trans hf3⟩
  · rw [if_neg (fun h => f0 h.1)]
    have b0 : (f1 == 0) = false := by rw [beq_eq_false_iff_ne]; exact f0
    go_enter Try.func33, Try.ntmps33
    go_wp2_with (first
      | (go_at_call 32; refine NUM.out.mono ?_; rintro e w1 ⟨rfl, hr, hf⟩)
      | (go_at_call 36; refine (failed_calls B g _ _ _ hr).mono ?_; rintro e w2 ⟨rfl, rfl⟩)
      | (go_at_call 74; refine (take_calls B g ys f1 nn _ hr hyl).mono ?_; rintro e w3 ⟨v, rfl, hb, hr3, hf3⟩; obtain ⟨A, c, rfl, hc, hn, hC⟩ := hb.C (by have := takeP_len ys f1 nn; omega); have hstr := Kd.C_string (c := c) (src := 56) (dst := 9) (e := 5) Try.underlying56 Try.underlying5 Try.underlying9 hC))
    go_ret
    exact ⟨rfl, hr3, hf.trans hf3⟩
end Go.Proofs.Ytaoacibahdbdkaa.Pr
/-! packed.Reader.Value, as a contract. Printed by wip/tools/gen_packt.py. -/
namespace Go.Proofs.Ytaoacibahdbdkaa.Pr
open Go.RowKit Go Go.Proofs.YtaoacibahdbdkaaW.PrintWords Go.Proofs.YtaoacibahdbdkaaW.PrintMore Go.Proofs.Ytaoacibahdbdkaa.Bts Go.Proofs.Ytaoacibahdbdkaa.Pk Go.Proofs.Ytaoacibahdbdkaa.Fra Go.Proofs.Ytaoacibahdbdkaa.QPackedPuts
def rightV (k n : Int) (s : ByteArray) : Bool := (value_Value_Right.f k n s).getD false
theorem rightV_some (k n : Int) (s : ByteArray) : value_Value_Right.f k n s = some (rightV k n s) := by
  have h : ∃ r, value_Value_Right.f k n s = some r := by
    unfold value_Value_Right.f value_Truth.f
    split
    · exact ⟨_, rfl⟩
    · split
      · split <;> exact ⟨_, rfl⟩
      · split
        · exact ⟨_, rfl⟩
        · split
          · split <;> exact ⟨_, rfl⟩
          · exact ⟨_, rfl⟩
  obtain ⟨r, hr⟩ := h
  unfold rightV
  rw [hr]; rfl
/-- What a value's bytes say: its kind, number, bytes; what is left, and what is wrong. -/
def valM (xs : List Int) (f : Int) : Int × Int × ByteArray × List Int × Int :=
  let t := takeP xs f 1
  let k := numB t.1
  if k = 1 then (k, wrap64 (numB (takeP t.2.1 t.2.2 1).1), ByteArray.empty, (takeP t.2.1 t.2.2 1).2)
  else if k = 2 then (k, wrap64 (numB (takeP t.2.1 t.2.2 8).1), ByteArray.empty, (takeP t.2.1 t.2.2 8).2)
  else if k = 3 then (k, 0, strOfNums (textP t.2.1 t.2.2 4096).1, (textP t.2.1 t.2.2 4096).2)
  else (k, 0, ByteArray.empty, t.2)
def valueP (xs : List Int) (f : Int) : (Int × Int × ByteArray) × List Int × Int :=
  let m := valM xs f
  let f' := if m.2.2.2.2 = 0 ∧ rightV m.1 m.2.1 m.2.2.1 = false then 10 else m.2.2.2.2
  (if f' = 0 then (m.1, m.2.1, m.2.2.1) else (0, 0, ByteArray.empty), m.2.2.2.1, f')
set_option maxHeartbeats 4000000 in
set_option maxRecDepth 100000 in
theorem value_1_ok (B g : Nat) (xs : List Int) (f : Int) (w : World) (h : Rd w B g xs f) (hB : B ≤ w.heap.size) (hl : xs.length ≤ 140737488355328) (hbs : Bs xs) (hk : numB (takeP xs f 1).1 = 1) (ys : List Int) (f1 : Int) (hys : (takeP xs f 1).2 = (ys, f1)) (zf : List Int × Int) (hzf : (takeP ys f1 1).2 = zf) (hf2 : zf.2 = 0) (hr : rightV 1 (wrap64 (numB (takeP ys f1 1).1)) ByteArray.empty = true) :
    Calls Try.prog 34 #[.pointer (some ⟨g, 0, none⟩)] w fun e w' => e = .returned (.agg #[.int .u8 1, .int .i64 (wrap64 (numB (takeP ys f1 1).1)), .string ByteArray.empty]) ∧ Rd w' B g zf.1 0 ∧ Fr (· = g) w w' := by
  have hnum := fun o => number_calls B g xs f 1 (w.alloc o) (h.below (below_alloc (Below.refl _ _) o)) hl hbs
  rw [show sizeP 1 = 1 from rfl] at hnum
  have htb := (takeP_bs hbs f 1).2
  have htf := takeP_left xs f 1
  generalize ht : takeP xs f 1 = t at *
  obtain ⟨bs, t2⟩ := t
  simp only at hnum htb htf hk hys
  subst hys
  rw [hk] at hnum
  have NUM := fun o => Lib.hid (hnum o)
  clear hnum ht hk
  simp only at htb htf
  have hyl : ys.length ≤ 140737488355328 := by omega
  have hgw : w.heap.size ≠ g := by have := h.lt; omega
  have hvB : ∀ k, k < B → ¬ k = w.heap.size := by omega
  have HV0 := hvB
  have HRT := Lib.hid ((rightV_some 1 (wrap64 (numB (takeP ys f1 1).1)) ByteArray.empty).trans (congrArg some hr))
  clear hr
  obtain ⟨zs, f2⟩ := zf
  simp only at hf2 ⊢
  have HZ := Lib.hid hzf
  clear hzf
  subst hf2
  go_enter Try.func34, Try.ntmps34
  go_wp2_with (first
    | (go_at_call 32; refine (number_k 1 B g ys f1 1 _ rfl (hr.below (below_alloc (Below.refl _ _) _)) hyl htb).mono ?_; rintro e w2 ⟨rfl, hr2, hf2⟩; rw [HZ.out] at hr2; simp only at hr2; have hv2 := hf2.blk (blk_new w1 _) hg1; have hu2 := hf2.blk (blk_alloc hv _) hgw; have c0 := blk_cell hv2 0; have c1 := blk_cell hv2 1; have c2 := blk_cell hv2 2; have z0 := blk_frozen hv2 0; have z1 := blk_frozen hv2 1; have z2 := blk_frozen hv2 2; have d0 := blk_cell hu2 0; have d1 := blk_cell hu2 1; have d2 := blk_cell hu2 2; have y0 := blk_frozen hu2 0; have y1 := blk_frozen hu2 1; have y2 := blk_frozen hu2 2)
    | (go_at_call 32; refine (NUM _).out.mono ?_; rintro e w1 ⟨rfl, hr, hf⟩; have hv := hf.blk (blk_new w _) hgw; have hw1 : w.heap.size < w1.heap.size := blk_lt hv; have hg1 : w1.heap.size ≠ g := (by have := hr.lt; omega); have hvB1 : ∀ k, k < B → ¬ k = w1.heap.size := (by omega); have hww : ¬ (w.heap.size = w1.heap.size) := (by omega))
    | (go_at_call 75; refine (value_Value_Right.calls _ _ _ _ _ HRT.out).mono ?_; rintro e w3 ⟨rfl, hB3⟩; have hr3 := (hr2.fr (Fr.set w1.heap.size 1 (.int .i64 (wrap64 (numB (takeP ys f1 1).1)))) hvB1).below hB3; have hv3 := blk_below (blk_put hv2 1 (.int .i64 (wrap64 (numB (takeP ys f1 1).1))) rfl) hB3; have hu3 := blk_below (blk_far hu2 (p := ⟨w1.heap.size, 1, none⟩) hww (.int .i64 (wrap64 (numB (takeP ys f1 1).1)))) hB3; have c0 := blk_cell hv3 0; have c1 := blk_cell hv3 1; have c2 := blk_cell hv3 2; have z0 := blk_frozen hv3 0; have z1 := blk_frozen hv3 1; have z2 := blk_frozen hv3 2; have d0 := blk_cell hu3 0; have d1 := blk_cell hu3 1; have d2 := blk_cell hu3 2; have y0 := blk_frozen hu3 0; have y1 := blk_frozen hu3 1; have y2 := blk_frozen hu3 2; have e1 := hr3.cell1; have e2 := hr3.frozen1)
    | (go_at_call 36; refine (failed_calls B g _ _ _ (hr2.fr (Fr.set w1.heap.size 1 (.int .i64 (wrap64 (numB (takeP ys f1 1).1)))) hvB1)).mono ?_; rintro e w4 ⟨rfl, rfl⟩)
    | (go_at_call 36; refine (failed_calls B g _ _ _ hr3).mono ?_; rintro e w4 ⟨rfl, rfl⟩))
  refine bodyPost_ret (results_cell_row rfl _ _ w.heap.size 54 #[.int .u8 1, .int .i64 (wrap64 (numB (takeP ys f1 1).1)), .string ByteArray.empty] (0, 0) _ rfl (ret3 hu3 _ _ _) Try.underlying54 rfl (by kernel_rfl)) rfl ?_
  exact ⟨rfl, ((hr3.put (p := ⟨w.heap.size, 0, none⟩) HV0 _).put (p := ⟨w.heap.size, 1, none⟩) HV0 _).put (p := ⟨w.heap.size, 2, none⟩) HV0 _, ((((((((Fr.alloc (S := (· = g)) _).trans hf).new _).trans hf2).put (p := ⟨w1.heap.size, 1, none⟩) (.inr (Nat.le_of_lt hw1)) (.int .i64 (wrap64 (numB (takeP ys f1 1).1)))).more hB3).put (p := ⟨w.heap.size, 0, none⟩) (.inr (Nat.le_refl _)) _).put (p := ⟨w.heap.size, 1, none⟩) (.inr (Nat.le_refl _)) _).put (p := ⟨w.heap.size, 2, none⟩) (.inr (Nat.le_refl _)) _⟩
set_option maxHeartbeats 4000000 in
set_option maxRecDepth 100000 in
theorem value_1_form (B g : Nat) (xs : List Int) (f : Int) (w : World) (h : Rd w B g xs f) (hB : B ≤ w.heap.size) (hl : xs.length ≤ 140737488355328) (hbs : Bs xs) (hk : numB (takeP xs f 1).1 = 1) (ys : List Int) (f1 : Int) (hys : (takeP xs f 1).2 = (ys, f1)) (zf : List Int × Int) (hzf : (takeP ys f1 1).2 = zf) (hf2 : zf.2 = 0) (hr : rightV 1 (wrap64 (numB (takeP ys f1 1).1)) ByteArray.empty = false) :
    Calls Try.prog 34 #[.pointer (some ⟨g, 0, none⟩)] w fun e w' => e = .returned (.agg #[.int .u8 0, .int .i64 0, .string ByteArray.empty]) ∧ Rd w' B g zf.1 10 ∧ Fr (· = g) w w' := by
  have hnum := fun o => number_calls B g xs f 1 (w.alloc o) (h.below (below_alloc (Below.refl _ _) o)) hl hbs
  rw [show sizeP 1 = 1 from rfl] at hnum
  have htb := (takeP_bs hbs f 1).2
  have htf := takeP_left xs f 1
  generalize ht : takeP xs f 1 = t at *
  obtain ⟨bs, t2⟩ := t
  simp only at hnum htb htf hk hys
  subst hys
  rw [hk] at hnum
  have NUM := fun o => Lib.hid (hnum o)
  clear hnum ht hk
  simp only at htb htf
  have hyl : ys.length ≤ 140737488355328 := by omega
  have hgw : w.heap.size ≠ g := by have := h.lt; omega
  have hvB : ∀ k, k < B → ¬ k = w.heap.size := by omega
  have HV0 := hvB
  have HRT := Lib.hid ((rightV_some 1 (wrap64 (numB (takeP ys f1 1).1)) ByteArray.empty).trans (congrArg some hr))
  clear hr
  obtain ⟨zs, f2⟩ := zf
  simp only at hf2 ⊢
  have HZ := Lib.hid hzf
  clear hzf
  subst hf2
  go_enter Try.func34, Try.ntmps34
  go_wp2_with (first
    | (go_at_call 32; refine (number_k 1 B g ys f1 1 _ rfl (hr.below (below_alloc (Below.refl _ _) _)) hyl htb).mono ?_; rintro e w2 ⟨rfl, hr2, hf2⟩; rw [HZ.out] at hr2; simp only at hr2; have hv2 := hf2.blk (blk_new w1 _) hg1; have hu2 := hf2.blk (blk_alloc hv _) hgw; have c0 := blk_cell hv2 0; have c1 := blk_cell hv2 1; have c2 := blk_cell hv2 2; have z0 := blk_frozen hv2 0; have z1 := blk_frozen hv2 1; have z2 := blk_frozen hv2 2; have d0 := blk_cell hu2 0; have d1 := blk_cell hu2 1; have d2 := blk_cell hu2 2; have y0 := blk_frozen hu2 0; have y1 := blk_frozen hu2 1; have y2 := blk_frozen hu2 2)
    | (go_at_call 32; refine (NUM _).out.mono ?_; rintro e w1 ⟨rfl, hr, hf⟩; have hv := hf.blk (blk_new w _) hgw; have hw1 : w.heap.size < w1.heap.size := blk_lt hv; have hg1 : w1.heap.size ≠ g := (by have := hr.lt; omega); have hvB1 : ∀ k, k < B → ¬ k = w1.heap.size := (by omega); have hww : ¬ (w.heap.size = w1.heap.size) := (by omega))
    | (go_at_call 75; refine (value_Value_Right.calls _ _ _ _ _ HRT.out).mono ?_; rintro e w3 ⟨rfl, hB3⟩; have hr3 := (hr2.fr (Fr.set w1.heap.size 1 (.int .i64 (wrap64 (numB (takeP ys f1 1).1)))) hvB1).below hB3; have hv3 := blk_below (blk_put hv2 1 (.int .i64 (wrap64 (numB (takeP ys f1 1).1))) rfl) hB3; have hu3 := blk_below (blk_far hu2 (p := ⟨w1.heap.size, 1, none⟩) hww (.int .i64 (wrap64 (numB (takeP ys f1 1).1)))) hB3; have c0 := blk_cell hv3 0; have c1 := blk_cell hv3 1; have c2 := blk_cell hv3 2; have z0 := blk_frozen hv3 0; have z1 := blk_frozen hv3 1; have z2 := blk_frozen hv3 2; have d0 := blk_cell hu3 0; have d1 := blk_cell hu3 1; have d2 := blk_cell hu3 2; have y0 := blk_frozen hu3 0; have y1 := blk_frozen hu3 1; have y2 := blk_frozen hu3 2; have e1 := hr3.cell1; have e2 := hr3.frozen1)
    | (go_at_call 36; refine (failed_calls B g _ _ _ (hr2.fr (Fr.set w1.heap.size 1 (.int .i64 (wrap64 (numB (takeP ys f1 1).1)))) hvB1)).mono ?_; rintro e w4 ⟨rfl, rfl⟩)
    | (go_at_call 36; refine (failed_calls B g _ _ _ (hr3.fail 10)).mono ?_; rintro e w4 ⟨rfl, rfl⟩))
  refine bodyPost_ret (results_cell_row rfl _ _ w.heap.size 54 #[.int .u8 0, .int .i64 0, .string ByteArray.empty] (0, 0) _ rfl (ret3 (blk_far hu3 (p := ⟨g, 1, none⟩) hgw _) _ _ _) Try.underlying54 rfl (by kernel_rfl)) rfl ?_
  exact ⟨rfl, (((hr3.fail 10).put (p := ⟨w.heap.size, 0, none⟩) HV0 _).put (p := ⟨w.heap.size, 1, none⟩) HV0 _).put (p := ⟨w.heap.size, 2, none⟩) HV0 _, (((((((((Fr.alloc (S := (· = g)) _).trans hf).new _).trans hf2).put (p := ⟨w1.heap.size, 1, none⟩) (.inr (Nat.le_of_lt hw1)) (.int .i64 (wrap64 (numB (takeP ys f1 1).1)))).more hB3).put (p := ⟨g, 1, none⟩) (.inl rfl) _).put (p := ⟨w.heap.size, 0, none⟩) (.inr (Nat.le_refl _)) _).put (p := ⟨w.heap.size, 1, none⟩) (.inr (Nat.le_refl _)) _).put (p := ⟨w.heap.size, 2, none⟩) (.inr (Nat.le_refl _)) _⟩
set_option maxHeartbeats 4000000 in
set_option maxRecDepth 100000 in
theorem value_1_bad (B g : Nat) (xs : List Int) (f : Int) (w : World) (h : Rd w B g xs f) (hB : B ≤ w.heap.size) (hl : xs.length ≤ 140737488355328) (hbs : Bs xs) (hk : numB (takeP xs f 1).1 = 1) (ys : List Int) (f1 : Int) (hys : (takeP xs f 1).2 = (ys, f1)) (zf : List Int × Int) (hzf : (takeP ys f1 1).2 = zf) (hf2 : zf.2 ≠ 0) :
    Calls Try.prog 34 #[.pointer (some ⟨g, 0, none⟩)] w fun e w' => e = .returned (.agg #[.int .u8 0, .int .i64 0, .string ByteArray.empty]) ∧ Rd w' B g zf.1 zf.2 ∧ Fr (· = g) w w' := by
  have hnum := fun o => number_calls B g xs f 1 (w.alloc o) (h.below (below_alloc (Below.refl _ _) o)) hl hbs
  rw [show sizeP 1 = 1 from rfl] at hnum
  have htb := (takeP_bs hbs f 1).2
  have htf := takeP_left xs f 1
  generalize ht : takeP xs f 1 = t at *
  obtain ⟨bs, t2⟩ := t
  simp only at hnum htb htf hk hys
  subst hys
  rw [hk] at hnum
  have NUM := fun o => Lib.hid (hnum o)
  clear hnum ht hk
  simp only at htb htf
  have hyl : ys.length ≤ 140737488355328 := by omega
  have hgw : w.heap.size ≠ g := by have := h.lt; omega
  have hvB : ∀ k, k < B → ¬ k = w.heap.size := by omega
  have HV0 := hvB
  obtain ⟨zs, f2⟩ := zf
  simp only at hf2 ⊢
  have HZ := Lib.hid hzf
  clear hzf
  have bf : (f2 == 0) = false := by rw [beq_eq_false_iff_ne]; exact hf2
  go_enter Try.func34, Try.ntmps34
  go_wp2_with (first
    | (go_at_call 32; refine (number_k 1 B g ys f1 1 _ rfl (hr.below (below_alloc (Below.refl _ _) _)) hyl htb).mono ?_; rintro e w2 ⟨rfl, hr2, hf2⟩; rw [HZ.out] at hr2; simp only at hr2; have hv2 := hf2.blk (blk_new w1 _) hg1; have hu2 := hf2.blk (blk_alloc hv _) hgw; have c0 := blk_cell hv2 0; have c1 := blk_cell hv2 1; have c2 := blk_cell hv2 2; have z0 := blk_frozen hv2 0; have z1 := blk_frozen hv2 1; have z2 := blk_frozen hv2 2; have d0 := blk_cell hu2 0; have d1 := blk_cell hu2 1; have d2 := blk_cell hu2 2; have y0 := blk_frozen hu2 0; have y1 := blk_frozen hu2 1; have y2 := blk_frozen hu2 2)
    | (go_at_call 32; refine (NUM _).out.mono ?_; rintro e w1 ⟨rfl, hr, hf⟩; have hv := hf.blk (blk_new w _) hgw; have hw1 : w.heap.size < w1.heap.size := blk_lt hv; have hg1 : w1.heap.size ≠ g := (by have := hr.lt; omega); have hvB1 : ∀ k, k < B → ¬ k = w1.heap.size := (by omega); have hww : ¬ (w.heap.size = w1.heap.size) := (by omega))
    | (go_at_call 36; refine (failed_calls B g _ _ _ (hr2.fr (Fr.set w1.heap.size 1 (.int .i64 (wrap64 (numB (takeP ys f1 1).1)))) hvB1)).mono ?_; rintro e w4 ⟨rfl, rfl⟩))
  refine bodyPost_ret (results_cell_row rfl _ _ w.heap.size 54 #[.int .u8 0, .int .i64 0, .string ByteArray.empty] (0, 0) _ rfl (ret3 (blk_far hu2 (p := ⟨w1.heap.size, 1, none⟩) hww (.int .i64 (wrap64 (numB (takeP ys f1 1).1)))) _ _ _) Try.underlying54 rfl (by kernel_rfl)) rfl ?_
  exact ⟨rfl, (((hr2.fr (Fr.set w1.heap.size 1 (.int .i64 (wrap64 (numB (takeP ys f1 1).1)))) hvB1).put (p := ⟨w.heap.size, 0, none⟩) HV0 _).put (p := ⟨w.heap.size, 1, none⟩) HV0 _).put (p := ⟨w.heap.size, 2, none⟩) HV0 _, (((((((Fr.alloc (S := (· = g)) _).trans hf).new _).trans hf2).put (p := ⟨w1.heap.size, 1, none⟩) (.inr (Nat.le_of_lt hw1)) (.int .i64 (wrap64 (numB (takeP ys f1 1).1)))).put (p := ⟨w.heap.size, 0, none⟩) (.inr (Nat.le_refl _)) _).put (p := ⟨w.heap.size, 1, none⟩) (.inr (Nat.le_refl _)) _).put (p := ⟨w.heap.size, 2, none⟩) (.inr (Nat.le_refl _)) _⟩
set_option maxHeartbeats 4000000 in
set_option maxRecDepth 100000 in
theorem value_2_ok (B g : Nat) (xs : List Int) (f : Int) (w : World) (h : Rd w B g xs f) (hB : B ≤ w.heap.size) (hl : xs.length ≤ 140737488355328) (hbs : Bs xs) (hk : numB (takeP xs f 1).1 = 2) (ys : List Int) (f1 : Int) (hys : (takeP xs f 1).2 = (ys, f1)) (zf : List Int × Int) (hzf : (takeP ys f1 8).2 = zf) (hf2 : zf.2 = 0) (hr : rightV 2 (wrap64 (numB (takeP ys f1 8).1)) ByteArray.empty = true) :
    Calls Try.prog 34 #[.pointer (some ⟨g, 0, none⟩)] w fun e w' => e = .returned (.agg #[.int .u8 2, .int .i64 (wrap64 (numB (takeP ys f1 8).1)), .string ByteArray.empty]) ∧ Rd w' B g zf.1 0 ∧ Fr (· = g) w w' := by
  have hnum := fun o => number_calls B g xs f 1 (w.alloc o) (h.below (below_alloc (Below.refl _ _) o)) hl hbs
  rw [show sizeP 1 = 1 from rfl] at hnum
  have htb := (takeP_bs hbs f 1).2
  have htf := takeP_left xs f 1
  generalize ht : takeP xs f 1 = t at *
  obtain ⟨bs, t2⟩ := t
  simp only at hnum htb htf hk hys
  subst hys
  rw [hk] at hnum
  have NUM := fun o => Lib.hid (hnum o)
  clear hnum ht hk
  simp only at htb htf
  have hyl : ys.length ≤ 140737488355328 := by omega
  have hgw : w.heap.size ≠ g := by have := h.lt; omega
  have hvB : ∀ k, k < B → ¬ k = w.heap.size := by omega
  have HV0 := hvB
  have HRT := Lib.hid ((rightV_some 2 (wrap64 (numB (takeP ys f1 8).1)) ByteArray.empty).trans (congrArg some hr))
  clear hr
  obtain ⟨zs, f2⟩ := zf
  simp only at hf2 ⊢
  have HZ := Lib.hid hzf
  clear hzf
  subst hf2
  go_enter Try.func34, Try.ntmps34
  go_wp2_with (first
    | (go_at_call 32; refine (number_k 8 B g ys f1 8 _ rfl (hr.below (below_alloc (Below.refl _ _) _)) hyl htb).mono ?_; rintro e w2 ⟨rfl, hr2, hf2⟩; rw [HZ.out] at hr2; simp only at hr2; have hv2 := hf2.blk (blk_new w1 _) hg1; have hu2 := hf2.blk (blk_alloc hv _) hgw; have c0 := blk_cell hv2 0; have c1 := blk_cell hv2 1; have c2 := blk_cell hv2 2; have z0 := blk_frozen hv2 0; have z1 := blk_frozen hv2 1; have z2 := blk_frozen hv2 2; have d0 := blk_cell hu2 0; have d1 := blk_cell hu2 1; have d2 := blk_cell hu2 2; have y0 := blk_frozen hu2 0; have y1 := blk_frozen hu2 1; have y2 := blk_frozen hu2 2)
    | (go_at_call 32; refine (NUM _).out.mono ?_; rintro e w1 ⟨rfl, hr, hf⟩; have hv := hf.blk (blk_new w _) hgw; have hw1 : w.heap.size < w1.heap.size := blk_lt hv; have hg1 : w1.heap.size ≠ g := (by have := hr.lt; omega); have hvB1 : ∀ k, k < B → ¬ k = w1.heap.size := (by omega); have hww : ¬ (w.heap.size = w1.heap.size) := (by omega))
    | (go_at_call 75; refine (value_Value_Right.calls _ _ _ _ _ HRT.out).mono ?_; rintro e w3 ⟨rfl, hB3⟩; have hr3 := (hr2.fr (Fr.set w1.heap.size 1 (.int .i64 (wrap64 (numB (takeP ys f1 8).1)))) hvB1).below hB3; have hv3 := blk_below (blk_put hv2 1 (.int .i64 (wrap64 (numB (takeP ys f1 8).1))) rfl) hB3; have hu3 := blk_below (blk_far hu2 (p := ⟨w1.heap.size, 1, none⟩) hww (.int .i64 (wrap64 (numB (takeP ys f1 8).1)))) hB3; have c0 := blk_cell hv3 0; have c1 := blk_cell hv3 1; have c2 := blk_cell hv3 2; have z0 := blk_frozen hv3 0; have z1 := blk_frozen hv3 1; have z2 := blk_frozen hv3 2; have d0 := blk_cell hu3 0; have d1 := blk_cell hu3 1; have d2 := blk_cell hu3 2; have y0 := blk_frozen hu3 0; have y1 := blk_frozen hu3 1; have y2 := blk_frozen hu3 2; have e1 := hr3.cell1; have e2 := hr3.frozen1)
    | (go_at_call 36; refine (failed_calls B g _ _ _ (hr2.fr (Fr.set w1.heap.size 1 (.int .i64 (wrap64 (numB (takeP ys f1 8).1)))) hvB1)).mono ?_; rintro e w4 ⟨rfl, rfl⟩)
    | (go_at_call 36; refine (failed_calls B g _ _ _ hr3).mono ?_; rintro e w4 ⟨rfl, rfl⟩))
  refine bodyPost_ret (results_cell_row rfl _ _ w.heap.size 54 #[.int .u8 2, .int .i64 (wrap64 (numB (takeP ys f1 8).1)), .string ByteArray.empty] (0, 0) _ rfl (ret3 hu3 _ _ _) Try.underlying54 rfl (by kernel_rfl)) rfl ?_
  exact ⟨rfl, ((hr3.put (p := ⟨w.heap.size, 0, none⟩) HV0 _).put (p := ⟨w.heap.size, 1, none⟩) HV0 _).put (p := ⟨w.heap.size, 2, none⟩) HV0 _, ((((((((Fr.alloc (S := (· = g)) _).trans hf).new _).trans hf2).put (p := ⟨w1.heap.size, 1, none⟩) (.inr (Nat.le_of_lt hw1)) (.int .i64 (wrap64 (numB (takeP ys f1 8).1)))).more hB3).put (p := ⟨w.heap.size, 0, none⟩) (.inr (Nat.le_refl _)) _).put (p := ⟨w.heap.size, 1, none⟩) (.inr (Nat.le_refl _)) _).put (p := ⟨w.heap.size, 2, none⟩) (.inr (Nat.le_refl _)) _⟩
set_option maxHeartbeats 4000000 in
set_option maxRecDepth 100000 in
theorem value_2_form (B g : Nat) (xs : List Int) (f : Int) (w : World) (h : Rd w B g xs f) (hB : B ≤ w.heap.size) (hl : xs.length ≤ 140737488355328) (hbs : Bs xs) (hk : numB (takeP xs f 1).1 = 2) (ys : List Int) (f1 : Int) (hys : (takeP xs f 1).2 = (ys, f1)) (zf : List Int × Int) (hzf : (takeP ys f1 8).2 = zf) (hf2 : zf.2 = 0) (hr : rightV 2 (wrap64 (numB (takeP ys f1 8).1)) ByteArray.empty = false) :
    Calls Try.prog 34 #[.pointer (some ⟨g, 0, none⟩)] w fun e w' => e = .returned (.agg #[.int .u8 0, .int .i64 0, .string ByteArray.empty]) ∧ Rd w' B g zf.1 10 ∧ Fr (· = g) w w' := by
  have hnum := fun o => number_calls B g xs f 1 (w.alloc o) (h.below (below_alloc (Below.refl _ _) o)) hl hbs
  rw [show sizeP 1 = 1 from rfl] at hnum
  have htb := (takeP_bs hbs f 1).2
  have htf := takeP_left xs f 1
  generalize ht : takeP xs f 1 = t at *
  obtain ⟨bs, t2⟩ := t
  simp only at hnum htb htf hk hys
  subst hys
  rw [hk] at hnum
  have NUM := fun o => Lib.hid (hnum o)
  clear hnum ht hk
  simp only at htb htf
  have hyl : ys.length ≤ 140737488355328 := by omega
  have hgw : w.heap.size ≠ g := by have := h.lt; omega
  have hvB : ∀ k, k < B → ¬ k = w.heap.size := by omega
  have HV0 := hvB
  have HRT := Lib.hid ((rightV_some 2 (wrap64 (numB (takeP ys f1 8).1)) ByteArray.empty).trans (congrArg some hr))
  clear hr
  obtain ⟨zs, f2⟩ := zf
  simp only at hf2 ⊢
  have HZ := Lib.hid hzf
  clear hzf
  subst hf2
  go_enter Try.func34, Try.ntmps34
  go_wp2_with (first
    | (go_at_call 32; refine (number_k 8 B g ys f1 8 _ rfl (hr.below (below_alloc (Below.refl _ _) _)) hyl htb).mono ?_; rintro e w2 ⟨rfl, hr2, hf2⟩; rw [HZ.out] at hr2; simp only at hr2; have hv2 := hf2.blk (blk_new w1 _) hg1; have hu2 := hf2.blk (blk_alloc hv _) hgw; have c0 := blk_cell hv2 0; have c1 := blk_cell hv2 1; have c2 := blk_cell hv2 2; have z0 := blk_frozen hv2 0; have z1 := blk_frozen hv2 1; have z2 := blk_frozen hv2 2; have d0 := blk_cell hu2 0; have d1 := blk_cell hu2 1; have d2 := blk_cell hu2 2; have y0 := blk_frozen hu2 0; have y1 := blk_frozen hu2 1; have y2 := blk_frozen hu2 2)
    | (go_at_call 32; refine (NUM _).out.mono ?_; rintro e w1 ⟨rfl, hr, hf⟩; have hv := hf.blk (blk_new w _) hgw; have hw1 : w.heap.size < w1.heap.size := blk_lt hv; have hg1 : w1.heap.size ≠ g := (by have := hr.lt; omega); have hvB1 : ∀ k, k < B → ¬ k = w1.heap.size := (by omega); have hww : ¬ (w.heap.size = w1.heap.size) := (by omega))
    | (go_at_call 75; refine (value_Value_Right.calls _ _ _ _ _ HRT.out).mono ?_; rintro e w3 ⟨rfl, hB3⟩; have hr3 := (hr2.fr (Fr.set w1.heap.size 1 (.int .i64 (wrap64 (numB (takeP ys f1 8).1)))) hvB1).below hB3; have hv3 := blk_below (blk_put hv2 1 (.int .i64 (wrap64 (numB (takeP ys f1 8).1))) rfl) hB3; have hu3 := blk_below (blk_far hu2 (p := ⟨w1.heap.size, 1, none⟩) hww (.int .i64 (wrap64 (numB (takeP ys f1 8).1)))) hB3; have c0 := blk_cell hv3 0; have c1 := blk_cell hv3 1; have c2 := blk_cell hv3 2; have z0 := blk_frozen hv3 0; have z1 := blk_frozen hv3 1; have z2 := blk_frozen hv3 2; have d0 := blk_cell hu3 0; have d1 := blk_cell hu3 1; have d2 := blk_cell hu3 2; have y0 := blk_frozen hu3 0; have y1 := blk_frozen hu3 1; have y2 := blk_frozen hu3 2; have e1 := hr3.cell1; have e2 := hr3.frozen1)
    | (go_at_call 36; refine (failed_calls B g _ _ _ (hr2.fr (Fr.set w1.heap.size 1 (.int .i64 (wrap64 (numB (takeP ys f1 8).1)))) hvB1)).mono ?_; rintro e w4 ⟨rfl, rfl⟩)
    | (go_at_call 36; refine (failed_calls B g _ _ _ (hr3.fail 10)).mono ?_; rintro e w4 ⟨rfl, rfl⟩))
  refine bodyPost_ret (results_cell_row rfl _ _ w.heap.size 54 #[.int .u8 0, .int .i64 0, .string ByteArray.empty] (0, 0) _ rfl (ret3 (blk_far hu3 (p := ⟨g, 1, none⟩) hgw _) _ _ _) Try.underlying54 rfl (by kernel_rfl)) rfl ?_
  exact ⟨rfl, (((hr3.fail 10).put (p := ⟨w.heap.size, 0, none⟩) HV0 _).put (p := ⟨w.heap.size, 1, none⟩) HV0 _).put (p := ⟨w.heap.size, 2, none⟩) HV0 _, (((((((((Fr.alloc (S := (· = g)) _).trans hf).new _).trans hf2).put (p := ⟨w1.heap.size, 1, none⟩) (.inr (Nat.le_of_lt hw1)) (.int .i64 (wrap64 (numB (takeP ys f1 8).1)))).more hB3).put (p := ⟨g, 1, none⟩) (.inl rfl) _).put (p := ⟨w.heap.size, 0, none⟩) (.inr (Nat.le_refl _)) _).put (p := ⟨w.heap.size, 1, none⟩) (.inr (Nat.le_refl _)) _).put (p := ⟨w.heap.size, 2, none⟩) (.inr (Nat.le_refl _)) _⟩
set_option maxHeartbeats 4000000 in
set_option maxRecDepth 100000 in
theorem value_2_bad (B g : Nat) (xs : List Int) (f : Int) (w : World) (h : Rd w B g xs f) (hB : B ≤ w.heap.size) (hl : xs.length ≤ 140737488355328) (hbs : Bs xs) (hk : numB (takeP xs f 1).1 = 2) (ys : List Int) (f1 : Int) (hys : (takeP xs f 1).2 = (ys, f1)) (zf : List Int × Int) (hzf : (takeP ys f1 8).2 = zf) (hf2 : zf.2 ≠ 0) :
    Calls Try.prog 34 #[.pointer (some ⟨g, 0, none⟩)] w fun e w' => e = .returned (.agg #[.int .u8 0, .int .i64 0, .string ByteArray.empty]) ∧ Rd w' B g zf.1 zf.2 ∧ Fr (· = g) w w' := by
  have hnum := fun o => number_calls B g xs f 1 (w.alloc o) (h.below (below_alloc (Below.refl _ _) o)) hl hbs
  rw [show sizeP 1 = 1 from rfl] at hnum
  have htb := (takeP_bs hbs f 1).2
  have htf := takeP_left xs f 1
  generalize ht : takeP xs f 1 = t at *
  obtain ⟨bs, t2⟩ := t
  simp only at hnum htb htf hk hys
  subst hys
  rw [hk] at hnum
  have NUM := fun o => Lib.hid (hnum o)
  clear hnum ht hk
  simp only at htb htf
  have hyl : ys.length ≤ 140737488355328 := by omega
  have hgw : w.heap.size ≠ g := by have := h.lt; omega
  have hvB : ∀ k, k < B → ¬ k = w.heap.size := by omega
  have HV0 := hvB
  obtain ⟨zs, f2⟩ := zf
  simp only at hf2 ⊢
  have HZ := Lib.hid hzf
  clear hzf
  have bf : (f2 == 0) = false := by rw [beq_eq_false_iff_ne]; exact hf2
  go_enter Try.func34, Try.ntmps34
  go_wp2_with (first
    | (go_at_call 32; refine (number_k 8 B g ys f1 8 _ rfl (hr.below (below_alloc (Below.refl _ _) _)) hyl htb).mono ?_; rintro e w2 ⟨rfl, hr2, hf2⟩; rw [HZ.out] at hr2; simp only at hr2; have hv2 := hf2.blk (blk_new w1 _) hg1; have hu2 := hf2.blk (blk_alloc hv _) hgw; have c0 := blk_cell hv2 0; have c1 := blk_cell hv2 1; have c2 := blk_cell hv2 2; have z0 := blk_frozen hv2 0; have z1 := blk_frozen hv2 1; have z2 := blk_frozen hv2 2; have d0 := blk_cell hu2 0; have d1 := blk_cell hu2 1; have d2 := blk_cell hu2 2; have y0 := blk_frozen hu2 0; have y1 := blk_frozen hu2 1; have y2 := blk_frozen hu2 2)
    | (go_at_call 32; refine (NUM _).out.mono ?_; rintro e w1 ⟨rfl, hr, hf⟩; have hv := hf.blk (blk_new w _) hgw; have hw1 : w.heap.size < w1.heap.size := blk_lt hv; have hg1 : w1.heap.size ≠ g := (by have := hr.lt; omega); have hvB1 : ∀ k, k < B → ¬ k = w1.heap.size := (by omega); have hww : ¬ (w.heap.size = w1.heap.size) := (by omega))
    | (go_at_call 36; refine (failed_calls B g _ _ _ (hr2.fr (Fr.set w1.heap.size 1 (.int .i64 (wrap64 (numB (takeP ys f1 8).1)))) hvB1)).mono ?_; rintro e w4 ⟨rfl, rfl⟩))
  refine bodyPost_ret (results_cell_row rfl _ _ w.heap.size 54 #[.int .u8 0, .int .i64 0, .string ByteArray.empty] (0, 0) _ rfl (ret3 (blk_far hu2 (p := ⟨w1.heap.size, 1, none⟩) hww (.int .i64 (wrap64 (numB (takeP ys f1 8).1)))) _ _ _) Try.underlying54 rfl (by kernel_rfl)) rfl ?_
  exact ⟨rfl, (((hr2.fr (Fr.set w1.heap.size 1 (.int .i64 (wrap64 (numB (takeP ys f1 8).1)))) hvB1).put (p := ⟨w.heap.size, 0, none⟩) HV0 _).put (p := ⟨w.heap.size, 1, none⟩) HV0 _).put (p := ⟨w.heap.size, 2, none⟩) HV0 _, (((((((Fr.alloc (S := (· = g)) _).trans hf).new _).trans hf2).put (p := ⟨w1.heap.size, 1, none⟩) (.inr (Nat.le_of_lt hw1)) (.int .i64 (wrap64 (numB (takeP ys f1 8).1)))).put (p := ⟨w.heap.size, 0, none⟩) (.inr (Nat.le_refl _)) _).put (p := ⟨w.heap.size, 1, none⟩) (.inr (Nat.le_refl _)) _).put (p := ⟨w.heap.size, 2, none⟩) (.inr (Nat.le_refl _)) _⟩
set_option maxHeartbeats 4000000 in
set_option maxRecDepth 100000 in
theorem value_3_ok (B g : Nat) (xs : List Int) (f : Int) (w : World) (h : Rd w B g xs f) (hB : B ≤ w.heap.size) (hl : xs.length ≤ 140737488355328) (hbs : Bs xs) (hk : numB (takeP xs f 1).1 = 3) (ys : List Int) (f1 : Int) (hys : (takeP xs f 1).2 = (ys, f1)) (zf : List Int × Int) (hzf : (textP ys f1 4096).2 = zf) (hf2 : zf.2 = 0) (hr : rightV 3 0 (strOfNums (textP ys f1 4096).1) = true) :
    Calls Try.prog 34 #[.pointer (some ⟨g, 0, none⟩)] w fun e w' => e = .returned (.agg #[.int .u8 3, .int .i64 0, .string (strOfNums (textP ys f1 4096).1)]) ∧ Rd w' B g zf.1 0 ∧ Fr (· = g) w w' := by
  have hnum := fun o => number_calls B g xs f 1 (w.alloc o) (h.below (below_alloc (Below.refl _ _) o)) hl hbs
  rw [show sizeP 1 = 1 from rfl] at hnum
  have htb := (takeP_bs hbs f 1).2
  have htf := takeP_left xs f 1
  generalize ht : takeP xs f 1 = t at *
  obtain ⟨bs, t2⟩ := t
  simp only at hnum htb htf hk hys
  subst hys
  rw [hk] at hnum
  have NUM := fun o => Lib.hid (hnum o)
  clear hnum ht hk
  simp only at htb htf
  have hyl : ys.length ≤ 140737488355328 := by omega
  have hgw : w.heap.size ≠ g := by have := h.lt; omega
  have hvB : ∀ k, k < B → ¬ k = w.heap.size := by omega
  have HV0 := hvB
  have HRT := Lib.hid ((rightV_some 3 0 (strOfNums (textP ys f1 4096).1)).trans (congrArg some hr))
  clear hr
  obtain ⟨zs, f2⟩ := zf
  simp only at hf2 ⊢
  have HZ := Lib.hid hzf
  clear hzf
  subst hf2
  go_enter Try.func34, Try.ntmps34
  go_wp2_with (first
    | (go_at_call 33; refine (text_calls B g ys f1 4096 _ (hr.below (below_alloc (Below.refl _ _) _)) hyl htb).mono ?_; rintro e w2 ⟨rfl, hr2, hf2⟩; rw [HZ.out] at hr2; simp only at hr2; have hv2 := hf2.blk (blk_new w1 _) hg1; have hu2 := hf2.blk (blk_alloc hv _) hgw; have c0 := blk_cell hv2 0; have c1 := blk_cell hv2 1; have c2 := blk_cell hv2 2; have z0 := blk_frozen hv2 0; have z1 := blk_frozen hv2 1; have z2 := blk_frozen hv2 2; have d0 := blk_cell hu2 0; have d1 := blk_cell hu2 1; have d2 := blk_cell hu2 2; have y0 := blk_frozen hu2 0; have y1 := blk_frozen hu2 1; have y2 := blk_frozen hu2 2)
    | (go_at_call 32; refine (NUM _).out.mono ?_; rintro e w1 ⟨rfl, hr, hf⟩; have hv := hf.blk (blk_new w _) hgw; have hw1 : w.heap.size < w1.heap.size := blk_lt hv; have hg1 : w1.heap.size ≠ g := (by have := hr.lt; omega); have hvB1 : ∀ k, k < B → ¬ k = w1.heap.size := (by omega); have hww : ¬ (w.heap.size = w1.heap.size) := (by omega))
    | (go_at_call 75; refine (value_Value_Right.calls _ _ _ _ _ HRT.out).mono ?_; rintro e w3 ⟨rfl, hB3⟩; have hr3 := (hr2.fr (Fr.set w1.heap.size 2 (.string (strOfNums (textP ys f1 4096).1))) hvB1).below hB3; have hv3 := blk_below (blk_put hv2 2 (.string (strOfNums (textP ys f1 4096).1)) rfl) hB3; have hu3 := blk_below (blk_far hu2 (p := ⟨w1.heap.size, 2, none⟩) hww (.string (strOfNums (textP ys f1 4096).1))) hB3; have c0 := blk_cell hv3 0; have c1 := blk_cell hv3 1; have c2 := blk_cell hv3 2; have z0 := blk_frozen hv3 0; have z1 := blk_frozen hv3 1; have z2 := blk_frozen hv3 2; have d0 := blk_cell hu3 0; have d1 := blk_cell hu3 1; have d2 := blk_cell hu3 2; have y0 := blk_frozen hu3 0; have y1 := blk_frozen hu3 1; have y2 := blk_frozen hu3 2; have e1 := hr3.cell1; have e2 := hr3.frozen1)
    | (go_at_call 36; refine (failed_calls B g _ _ _ (hr2.fr (Fr.set w1.heap.size 2 (.string (strOfNums (textP ys f1 4096).1))) hvB1)).mono ?_; rintro e w4 ⟨rfl, rfl⟩)
    | (go_at_call 36; refine (failed_calls B g _ _ _ hr3).mono ?_; rintro e w4 ⟨rfl, rfl⟩))
  refine bodyPost_ret (results_cell_row rfl _ _ w.heap.size 54 #[.int .u8 3, .int .i64 0, .string (strOfNums (textP ys f1 4096).1)] (0, 0) _ rfl (ret3 hu3 _ _ _) Try.underlying54 rfl (by kernel_rfl)) rfl ?_
  exact ⟨rfl, ((hr3.put (p := ⟨w.heap.size, 0, none⟩) HV0 _).put (p := ⟨w.heap.size, 1, none⟩) HV0 _).put (p := ⟨w.heap.size, 2, none⟩) HV0 _, ((((((((Fr.alloc (S := (· = g)) _).trans hf).new _).trans hf2).put (p := ⟨w1.heap.size, 2, none⟩) (.inr (Nat.le_of_lt hw1)) (.string (strOfNums (textP ys f1 4096).1))).more hB3).put (p := ⟨w.heap.size, 0, none⟩) (.inr (Nat.le_refl _)) _).put (p := ⟨w.heap.size, 1, none⟩) (.inr (Nat.le_refl _)) _).put (p := ⟨w.heap.size, 2, none⟩) (.inr (Nat.le_refl _)) _⟩
set_option maxHeartbeats 4000000 in
set_option maxRecDepth 100000 in
theorem value_3_form (B g : Nat) (xs : List Int) (f : Int) (w : World) (h : Rd w B g xs f) (hB : B ≤ w.heap.size) (hl : xs.length ≤ 140737488355328) (hbs : Bs xs) (hk : numB (takeP xs f 1).1 = 3) (ys : List Int) (f1 : Int) (hys : (takeP xs f 1).2 = (ys, f1)) (zf : List Int × Int) (hzf : (textP ys f1 4096).2 = zf) (hf2 : zf.2 = 0) (hr : rightV 3 0 (strOfNums (textP ys f1 4096).1) = false) :
    Calls Try.prog 34 #[.pointer (some ⟨g, 0, none⟩)] w fun e w' => e = .returned (.agg #[.int .u8 0, .int .i64 0, .string ByteArray.empty]) ∧ Rd w' B g zf.1 10 ∧ Fr (· = g) w w' := by
  have hnum := fun o => number_calls B g xs f 1 (w.alloc o) (h.below (below_alloc (Below.refl _ _) o)) hl hbs
  rw [show sizeP 1 = 1 from rfl] at hnum
  have htb := (takeP_bs hbs f 1).2
  have htf := takeP_left xs f 1
  generalize ht : takeP xs f 1 = t at *
  obtain ⟨bs, t2⟩ := t
  simp only at hnum htb htf hk hys
  subst hys
  rw [hk] at hnum
  have NUM := fun o => Lib.hid (hnum o)
  clear hnum ht hk
  simp only at htb htf
  have hyl : ys.length ≤ 140737488355328 := by omega
  have hgw : w.heap.size ≠ g := by have := h.lt; omega
  have hvB : ∀ k, k < B → ¬ k = w.heap.size := by omega
  have HV0 := hvB
  have HRT := Lib.hid ((rightV_some 3 0 (strOfNums (textP ys f1 4096).1)).trans (congrArg some hr))
  clear hr
  obtain ⟨zs, f2⟩ := zf
  simp only at hf2 ⊢
  have HZ := Lib.hid hzf
  clear hzf
  subst hf2
  go_enter Try.func34, Try.ntmps34
  go_wp2_with (first
    | (go_at_call 33; refine (text_calls B g ys f1 4096 _ (hr.below (below_alloc (Below.refl _ _) _)) hyl htb).mono ?_; rintro e w2 ⟨rfl, hr2, hf2⟩; rw [HZ.out] at hr2; simp only at hr2; have hv2 := hf2.blk (blk_new w1 _) hg1; have hu2 := hf2.blk (blk_alloc hv _) hgw; have c0 := blk_cell hv2 0; have c1 := blk_cell hv2 1; have c2 := blk_cell hv2 2; have z0 := blk_frozen hv2 0; have z1 := blk_frozen hv2 1; have z2 := blk_frozen hv2 2; have d0 := blk_cell hu2 0; have d1 := blk_cell hu2 1; have d2 := blk_cell hu2 2; have y0 := blk_frozen hu2 0; have y1 := blk_frozen hu2 1; have y2 := blk_frozen hu2 2)
    | (go_at_call 32; refine (NUM _).out.mono ?_; rintro e w1 ⟨rfl, hr, hf⟩; have hv := hf.blk (blk_new w _) hgw; have hw1 : w.heap.size < w1.heap.size := blk_lt hv; have hg1 : w1.heap.size ≠ g := (by have := hr.lt; omega); have hvB1 : ∀ k, k < B → ¬ k = w1.heap.size := (by omega); have hww : ¬ (w.heap.size = w1.heap.size) := (by omega))
    | (go_at_call 75; refine (value_Value_Right.calls _ _ _ _ _ HRT.out).mono ?_; rintro e w3 ⟨rfl, hB3⟩; have hr3 := (hr2.fr (Fr.set w1.heap.size 2 (.string (strOfNums (textP ys f1 4096).1))) hvB1).below hB3; have hv3 := blk_below (blk_put hv2 2 (.string (strOfNums (textP ys f1 4096).1)) rfl) hB3; have hu3 := blk_below (blk_far hu2 (p := ⟨w1.heap.size, 2, none⟩) hww (.string (strOfNums (textP ys f1 4096).1))) hB3; have c0 := blk_cell hv3 0; have c1 := blk_cell hv3 1; have c2 := blk_cell hv3 2; have z0 := blk_frozen hv3 0; have z1 := blk_frozen hv3 1; have z2 := blk_frozen hv3 2; have d0 := blk_cell hu3 0; have d1 := blk_cell hu3 1; have d2 := blk_cell hu3 2; have y0 := blk_frozen hu3 0; have y1 := blk_frozen hu3 1; have y2 := blk_frozen hu3 2; have e1 := hr3.cell1; have e2 := hr3.frozen1)
    | (go_at_call 36; refine (failed_calls B g _ _ _ (hr2.fr (Fr.set w1.heap.size 2 (.string (strOfNums (textP ys f1 4096).1))) hvB1)).mono ?_; rintro e w4 ⟨rfl, rfl⟩)
    | (go_at_call 36; refine (failed_calls B g _ _ _ (hr3.fail 10)).mono ?_; rintro e w4 ⟨rfl, rfl⟩))
  refine bodyPost_ret (results_cell_row rfl _ _ w.heap.size 54 #[.int .u8 0, .int .i64 0, .string ByteArray.empty] (0, 0) _ rfl (ret3 (blk_far hu3 (p := ⟨g, 1, none⟩) hgw _) _ _ _) Try.underlying54 rfl (by kernel_rfl)) rfl ?_
  exact ⟨rfl, (((hr3.fail 10).put (p := ⟨w.heap.size, 0, none⟩) HV0 _).put (p := ⟨w.heap.size, 1, none⟩) HV0 _).put (p := ⟨w.heap.size, 2, none⟩) HV0 _, (((((((((Fr.alloc (S := (· = g)) _).trans hf).new _).trans hf2).put (p := ⟨w1.heap.size, 2, none⟩) (.inr (Nat.le_of_lt hw1)) (.string (strOfNums (textP ys f1 4096).1))).more hB3).put (p := ⟨g, 1, none⟩) (.inl rfl) _).put (p := ⟨w.heap.size, 0, none⟩) (.inr (Nat.le_refl _)) _).put (p := ⟨w.heap.size, 1, none⟩) (.inr (Nat.le_refl _)) _).put (p := ⟨w.heap.size, 2, none⟩) (.inr (Nat.le_refl _)) _⟩
set_option maxHeartbeats 4000000 in
set_option maxRecDepth 100000 in
theorem value_3_bad (B g : Nat) (xs : List Int) (f : Int) (w : World) (h : Rd w B g xs f) (hB : B ≤ w.heap.size) (hl : xs.length ≤ 140737488355328) (hbs : Bs xs) (hk : numB (takeP xs f 1).1 = 3) (ys : List Int) (f1 : Int) (hys : (takeP xs f 1).2 = (ys, f1)) (zf : List Int × Int) (hzf : (textP ys f1 4096).2 = zf) (hf2 : zf.2 ≠ 0) :
    Calls Try.prog 34 #[.pointer (some ⟨g, 0, none⟩)] w fun e w' => e = .returned (.agg #[.int .u8 0, .int .i64 0, .string ByteArray.empty]) ∧ Rd w' B g zf.1 zf.2 ∧ Fr (· = g) w w' := by
  have hnum := fun o => number_calls B g xs f 1 (w.alloc o) (h.below (below_alloc (Below.refl _ _) o)) hl hbs
  rw [show sizeP 1 = 1 from rfl] at hnum
  have htb := (takeP_bs hbs f 1).2
  have htf := takeP_left xs f 1
  generalize ht : takeP xs f 1 = t at *
  obtain ⟨bs, t2⟩ := t
  simp only at hnum htb htf hk hys
  subst hys
  rw [hk] at hnum
  have NUM := fun o => Lib.hid (hnum o)
  clear hnum ht hk
  simp only at htb htf
  have hyl : ys.length ≤ 140737488355328 := by omega
  have hgw : w.heap.size ≠ g := by have := h.lt; omega
  have hvB : ∀ k, k < B → ¬ k = w.heap.size := by omega
  have HV0 := hvB
  obtain ⟨zs, f2⟩ := zf
  simp only at hf2 ⊢
  have HZ := Lib.hid hzf
  clear hzf
  have bf : (f2 == 0) = false := by rw [beq_eq_false_iff_ne]; exact hf2
  go_enter Try.func34, Try.ntmps34
  go_wp2_with (first
    | (go_at_call 33; refine (text_calls B g ys f1 4096 _ (hr.below (below_alloc (Below.refl _ _) _)) hyl htb).mono ?_; rintro e w2 ⟨rfl, hr2, hf2⟩; rw [HZ.out] at hr2; simp only at hr2; have hv2 := hf2.blk (blk_new w1 _) hg1; have hu2 := hf2.blk (blk_alloc hv _) hgw; have c0 := blk_cell hv2 0; have c1 := blk_cell hv2 1; have c2 := blk_cell hv2 2; have z0 := blk_frozen hv2 0; have z1 := blk_frozen hv2 1; have z2 := blk_frozen hv2 2; have d0 := blk_cell hu2 0; have d1 := blk_cell hu2 1; have d2 := blk_cell hu2 2; have y0 := blk_frozen hu2 0; have y1 := blk_frozen hu2 1; have y2 := blk_frozen hu2 2)
    | (go_at_call 32; refine (NUM _).out.mono ?_; rintro e w1 ⟨rfl, hr, hf⟩; have hv := hf.blk (blk_new w _) hgw; have hw1 : w.heap.size < w1.heap.size := blk_lt hv; have hg1 : w1.heap.size ≠ g := (by have := hr.lt; omega); have hvB1 : ∀ k, k < B → ¬ k = w1.heap.size := (by omega); have hww : ¬ (w.heap.size = w1.heap.size) := (by omega))
    | (go_at_call 36; refine (failed_calls B g _ _ _ (hr2.fr (Fr.set w1.heap.size 2 (.string (strOfNums (textP ys f1 4096).1))) hvB1)).mono ?_; rintro e w4 ⟨rfl, rfl⟩))
  refine bodyPost_ret (results_cell_row rfl _ _ w.heap.size 54 #[.int .u8 0, .int .i64 0, .string ByteArray.empty] (0, 0) _ rfl (ret3 (blk_far hu2 (p := ⟨w1.heap.size, 2, none⟩) hww (.string (strOfNums (textP ys f1 4096).1))) _ _ _) Try.underlying54 rfl (by kernel_rfl)) rfl ?_
  exact ⟨rfl, (((hr2.fr (Fr.set w1.heap.size 2 (.string (strOfNums (textP ys f1 4096).1))) hvB1).put (p := ⟨w.heap.size, 0, none⟩) HV0 _).put (p := ⟨w.heap.size, 1, none⟩) HV0 _).put (p := ⟨w.heap.size, 2, none⟩) HV0 _, (((((((Fr.alloc (S := (· = g)) _).trans hf).new _).trans hf2).put (p := ⟨w1.heap.size, 2, none⟩) (.inr (Nat.le_of_lt hw1)) (.string (strOfNums (textP ys f1 4096).1))).put (p := ⟨w.heap.size, 0, none⟩) (.inr (Nat.le_refl _)) _).put (p := ⟨w.heap.size, 1, none⟩) (.inr (Nat.le_refl _)) _).put (p := ⟨w.heap.size, 2, none⟩) (.inr (Nat.le_refl _)) _⟩
set_option maxHeartbeats 4000000 in
set_option maxRecDepth 100000 in
theorem value_0_ok (B g : Nat) (xs : List Int) (f : Int) (w : World) (h : Rd w B g xs f) (hB : B ≤ w.heap.size) (hl : xs.length ≤ 140737488355328) (hbs : Bs xs) (k : Int) (hk : numB (takeP xs f 1).1 = k) (hk0 : 0 ≤ k) (hk255 : k ≤ 255) (hk1 : k ≠ 1) (hk2 : k ≠ 2) (hk3 : k ≠ 3) (ys : List Int) (f1 : Int) (hys : (takeP xs f 1).2 = (ys, f1)) (zf : List Int × Int) (hzf : (ys, f1) = zf) (hf2 : zf.2 = 0) (hr : rightV k 0 ByteArray.empty = true) :
    Calls Try.prog 34 #[.pointer (some ⟨g, 0, none⟩)] w fun e w' => e = .returned (.agg #[.int .u8 k, .int .i64 0, .string ByteArray.empty]) ∧ Rd w' B g zf.1 0 ∧ Fr (· = g) w w' := by
  have hnum := fun o => number_calls B g xs f 1 (w.alloc o) (h.below (below_alloc (Below.refl _ _) o)) hl hbs
  rw [show sizeP 1 = 1 from rfl] at hnum
  have htb := (takeP_bs hbs f 1).2
  have htf := takeP_left xs f 1
  generalize ht : takeP xs f 1 = t at *
  obtain ⟨bs, t2⟩ := t
  simp only at hnum htb htf hk hys
  subst hys
  rw [hk] at hnum
  have NUM := fun o => Lib.hid (hnum o)
  clear hnum ht hk
  simp only at htb htf
  have hyl : ys.length ≤ 140737488355328 := by omega
  have hgw : w.heap.size ≠ g := by have := h.lt; omega
  have hvB : ∀ k, k < B → ¬ k = w.heap.size := by omega
  have HV0 := hvB
  have HRT := Lib.hid ((rightV_some k 0 ByteArray.empty).trans (congrArg some hr))
  clear hr
  have bk1 : (k == 1) = false := by rw [beq_eq_false_iff_ne]; exact hk1
  have bk2 : (k == 2) = false := by rw [beq_eq_false_iff_ne]; exact hk2
  have bk3 : (k == 3) = false := by rw [beq_eq_false_iff_ne]; exact hk3
  have ek : k % 256 = k := by omega
  clear hk1 hk2 hk3
  subst hzf
  simp only at hf2 ⊢
  subst hf2
  go_enter Try.func34, Try.ntmps34
  go_wp2_with (first
    | (go_at_call 32; refine (NUM _).out.mono ?_; rintro e w1 ⟨rfl, hr, hf⟩; have hv := hf.blk (blk_new w _) hgw; have hw1 : w.heap.size < w1.heap.size := blk_lt hv; have hg1 : w1.heap.size ≠ g := (by have := hr.lt; omega); have hvB1 : ∀ k, k < B → ¬ k = w1.heap.size := (by omega); have hww : ¬ (w.heap.size = w1.heap.size) := (by omega); have hw2 := hr.below (below_alloc (Below.refl w1.heap.size w1) (.cells #[.int .u8 k, .int .i64 0, .string (⟨#[]⟩ : ByteArray)] 54)); have hv2 := blk_new w1 (.cells #[.int .u8 k, .int .i64 0, .string (⟨#[]⟩ : ByteArray)] 54); have hu2 := blk_alloc hv (.cells #[.int .u8 k, .int .i64 0, .string (⟨#[]⟩ : ByteArray)] 54); have c0 := blk_cell hv2 0; have c1 := blk_cell hv2 1; have c2 := blk_cell hv2 2; have z0 := blk_frozen hv2 0; have z1 := blk_frozen hv2 1; have z2 := blk_frozen hv2 2; have d0 := blk_cell hu2 0; have d1 := blk_cell hu2 1; have d2 := blk_cell hu2 2; have y0 := blk_frozen hu2 0; have y1 := blk_frozen hu2 1; have y2 := blk_frozen hu2 2; have q0 := blk_cell hv 0; have q1 := blk_cell hv 1; have q2 := blk_cell hv 2; have p0 := blk_frozen hv 0; have p1 := blk_frozen hv 1; have p2 := blk_frozen hv 2)
    | (go_at_call 75; refine (value_Value_Right.calls _ _ _ _ _ HRT.out).mono ?_; rintro e w3 ⟨rfl, hB3⟩; have hr3 := hw2.below hB3; have hv3 := blk_below hv2 hB3; have hu3 := blk_below hu2 hB3; have c0 := blk_cell hv3 0; have c1 := blk_cell hv3 1; have c2 := blk_cell hv3 2; have z0 := blk_frozen hv3 0; have z1 := blk_frozen hv3 1; have z2 := blk_frozen hv3 2; have d0 := blk_cell hu3 0; have d1 := blk_cell hu3 1; have d2 := blk_cell hu3 2; have y0 := blk_frozen hu3 0; have y1 := blk_frozen hu3 1; have y2 := blk_frozen hu3 2; have e1 := hr3.cell1; have e2 := hr3.frozen1)
    | (go_at_call 36; refine (failed_calls B g _ _ _ hw2).mono ?_; rintro e w4 ⟨rfl, rfl⟩)
    | (go_at_call 36; refine (failed_calls B g _ _ _ hr3).mono ?_; rintro e w4 ⟨rfl, rfl⟩))
  refine bodyPost_ret (results_cell_row rfl _ _ w.heap.size 54 #[.int .u8 k, .int .i64 0, .string ByteArray.empty] (0, 0) _ rfl (ret3 hu3 _ _ _) Try.underlying54 rfl (by kernel_rfl)) rfl ?_
  exact ⟨rfl, ((hr3.put (p := ⟨w.heap.size, 0, none⟩) HV0 _).put (p := ⟨w.heap.size, 1, none⟩) HV0 _).put (p := ⟨w.heap.size, 2, none⟩) HV0 _, ((((((Fr.alloc (S := (· = g)) _).trans hf).new _).more hB3).put (p := ⟨w.heap.size, 0, none⟩) (.inr (Nat.le_refl _)) _).put (p := ⟨w.heap.size, 1, none⟩) (.inr (Nat.le_refl _)) _).put (p := ⟨w.heap.size, 2, none⟩) (.inr (Nat.le_refl _)) _⟩
set_option maxHeartbeats 4000000 in
set_option maxRecDepth 100000 in
theorem value_0_form (B g : Nat) (xs : List Int) (f : Int) (w : World) (h : Rd w B g xs f) (hB : B ≤ w.heap.size) (hl : xs.length ≤ 140737488355328) (hbs : Bs xs) (k : Int) (hk : numB (takeP xs f 1).1 = k) (hk0 : 0 ≤ k) (hk255 : k ≤ 255) (hk1 : k ≠ 1) (hk2 : k ≠ 2) (hk3 : k ≠ 3) (ys : List Int) (f1 : Int) (hys : (takeP xs f 1).2 = (ys, f1)) (zf : List Int × Int) (hzf : (ys, f1) = zf) (hf2 : zf.2 = 0) (hr : rightV k 0 ByteArray.empty = false) :
    Calls Try.prog 34 #[.pointer (some ⟨g, 0, none⟩)] w fun e w' => e = .returned (.agg #[.int .u8 0, .int .i64 0, .string ByteArray.empty]) ∧ Rd w' B g zf.1 10 ∧ Fr (· = g) w w' := by
  have hnum := fun o => number_calls B g xs f 1 (w.alloc o) (h.below (below_alloc (Below.refl _ _) o)) hl hbs
  rw [show sizeP 1 = 1 from rfl] at hnum
  have htb := (takeP_bs hbs f 1).2
  have htf := takeP_left xs f 1
  generalize ht : takeP xs f 1 = t at *
  obtain ⟨bs, t2⟩ := t
  simp only at hnum htb htf hk hys
  subst hys
  rw [hk] at hnum
  have NUM := fun o => Lib.hid (hnum o)
  clear hnum ht hk
  simp only at htb htf
  have hyl : ys.length ≤ 140737488355328 := by omega
  have hgw : w.heap.size ≠ g := by have := h.lt; omega
  have hvB : ∀ k, k < B → ¬ k = w.heap.size := by omega
  have HV0 := hvB
  have HRT := Lib.hid ((rightV_some k 0 ByteArray.empty).trans (congrArg some hr))
  clear hr
  have bk1 : (k == 1) = false := by rw [beq_eq_false_iff_ne]; exact hk1
  have bk2 : (k == 2) = false := by rw [beq_eq_false_iff_ne]; exact hk2
  have bk3 : (k == 3) = false := by rw [beq_eq_false_iff_ne]; exact hk3
  have ek : k % 256 = k := by omega
  clear hk1 hk2 hk3
  subst hzf
  simp only at hf2 ⊢
  subst hf2
  go_enter Try.func34, Try.ntmps34
  go_wp2_with (first
    | (go_at_call 32; refine (NUM _).out.mono ?_; rintro e w1 ⟨rfl, hr, hf⟩; have hv := hf.blk (blk_new w _) hgw; have hw1 : w.heap.size < w1.heap.size := blk_lt hv; have hg1 : w1.heap.size ≠ g := (by have := hr.lt; omega); have hvB1 : ∀ k, k < B → ¬ k = w1.heap.size := (by omega); have hww : ¬ (w.heap.size = w1.heap.size) := (by omega); have hw2 := hr.below (below_alloc (Below.refl w1.heap.size w1) (.cells #[.int .u8 k, .int .i64 0, .string (⟨#[]⟩ : ByteArray)] 54)); have hv2 := blk_new w1 (.cells #[.int .u8 k, .int .i64 0, .string (⟨#[]⟩ : ByteArray)] 54); have hu2 := blk_alloc hv (.cells #[.int .u8 k, .int .i64 0, .string (⟨#[]⟩ : ByteArray)] 54); have c0 := blk_cell hv2 0; have c1 := blk_cell hv2 1; have c2 := blk_cell hv2 2; have z0 := blk_frozen hv2 0; have z1 := blk_frozen hv2 1; have z2 := blk_frozen hv2 2; have d0 := blk_cell hu2 0; have d1 := blk_cell hu2 1; have d2 := blk_cell hu2 2; have y0 := blk_frozen hu2 0; have y1 := blk_frozen hu2 1; have y2 := blk_frozen hu2 2; have q0 := blk_cell hv 0; have q1 := blk_cell hv 1; have q2 := blk_cell hv 2; have p0 := blk_frozen hv 0; have p1 := blk_frozen hv 1; have p2 := blk_frozen hv 2)
    | (go_at_call 75; refine (value_Value_Right.calls _ _ _ _ _ HRT.out).mono ?_; rintro e w3 ⟨rfl, hB3⟩; have hr3 := hw2.below hB3; have hv3 := blk_below hv2 hB3; have hu3 := blk_below hu2 hB3; have c0 := blk_cell hv3 0; have c1 := blk_cell hv3 1; have c2 := blk_cell hv3 2; have z0 := blk_frozen hv3 0; have z1 := blk_frozen hv3 1; have z2 := blk_frozen hv3 2; have d0 := blk_cell hu3 0; have d1 := blk_cell hu3 1; have d2 := blk_cell hu3 2; have y0 := blk_frozen hu3 0; have y1 := blk_frozen hu3 1; have y2 := blk_frozen hu3 2; have e1 := hr3.cell1; have e2 := hr3.frozen1)
    | (go_at_call 36; refine (failed_calls B g _ _ _ hw2).mono ?_; rintro e w4 ⟨rfl, rfl⟩)
    | (go_at_call 36; refine (failed_calls B g _ _ _ (hr3.fail 10)).mono ?_; rintro e w4 ⟨rfl, rfl⟩))
  refine bodyPost_ret (results_cell_row rfl _ _ w.heap.size 54 #[.int .u8 0, .int .i64 0, .string ByteArray.empty] (0, 0) _ rfl (ret3 (blk_far hu3 (p := ⟨g, 1, none⟩) hgw _) _ _ _) Try.underlying54 rfl (by kernel_rfl)) rfl ?_
  exact ⟨rfl, (((hr3.fail 10).put (p := ⟨w.heap.size, 0, none⟩) HV0 _).put (p := ⟨w.heap.size, 1, none⟩) HV0 _).put (p := ⟨w.heap.size, 2, none⟩) HV0 _, (((((((Fr.alloc (S := (· = g)) _).trans hf).new _).more hB3).put (p := ⟨g, 1, none⟩) (.inl rfl) _).put (p := ⟨w.heap.size, 0, none⟩) (.inr (Nat.le_refl _)) _).put (p := ⟨w.heap.size, 1, none⟩) (.inr (Nat.le_refl _)) _).put (p := ⟨w.heap.size, 2, none⟩) (.inr (Nat.le_refl _)) _⟩
set_option maxHeartbeats 4000000 in
set_option maxRecDepth 100000 in
theorem value_0_bad (B g : Nat) (xs : List Int) (f : Int) (w : World) (h : Rd w B g xs f) (hB : B ≤ w.heap.size) (hl : xs.length ≤ 140737488355328) (hbs : Bs xs) (k : Int) (hk : numB (takeP xs f 1).1 = k) (hk0 : 0 ≤ k) (hk255 : k ≤ 255) (hk1 : k ≠ 1) (hk2 : k ≠ 2) (hk3 : k ≠ 3) (ys : List Int) (f1 : Int) (hys : (takeP xs f 1).2 = (ys, f1)) (zf : List Int × Int) (hzf : (ys, f1) = zf) (hf2 : zf.2 ≠ 0) :
    Calls Try.prog 34 #[.pointer (some ⟨g, 0, none⟩)] w fun e w' => e = .returned (.agg #[.int .u8 0, .int .i64 0, .string ByteArray.empty]) ∧ Rd w' B g zf.1 zf.2 ∧ Fr (· = g) w w' := by
  have hnum := fun o => number_calls B g xs f 1 (w.alloc o) (h.below (below_alloc (Below.refl _ _) o)) hl hbs
  rw [show sizeP 1 = 1 from rfl] at hnum
  have htb := (takeP_bs hbs f 1).2
  have htf := takeP_left xs f 1
  generalize ht : takeP xs f 1 = t at *
  obtain ⟨bs, t2⟩ := t
  simp only at hnum htb htf hk hys
  subst hys
  rw [hk] at hnum
  have NUM := fun o => Lib.hid (hnum o)
  clear hnum ht hk
  simp only at htb htf
  have hyl : ys.length ≤ 140737488355328 := by omega
  have hgw : w.heap.size ≠ g := by have := h.lt; omega
  have hvB : ∀ k, k < B → ¬ k = w.heap.size := by omega
  have HV0 := hvB
  have bk1 : (k == 1) = false := by rw [beq_eq_false_iff_ne]; exact hk1
  have bk2 : (k == 2) = false := by rw [beq_eq_false_iff_ne]; exact hk2
  have bk3 : (k == 3) = false := by rw [beq_eq_false_iff_ne]; exact hk3
  have ek : k % 256 = k := by omega
  clear hk1 hk2 hk3
  subst hzf
  simp only at hf2 ⊢
  have bf : (f1 == 0) = false := by rw [beq_eq_false_iff_ne]; exact hf2
  go_enter Try.func34, Try.ntmps34
  go_wp2_with (first
    | (go_at_call 32; refine (NUM _).out.mono ?_; rintro e w1 ⟨rfl, hr, hf⟩; have hv := hf.blk (blk_new w _) hgw; have hw1 : w.heap.size < w1.heap.size := blk_lt hv; have hg1 : w1.heap.size ≠ g := (by have := hr.lt; omega); have hvB1 : ∀ k, k < B → ¬ k = w1.heap.size := (by omega); have hww : ¬ (w.heap.size = w1.heap.size) := (by omega); have hw2 := hr.below (below_alloc (Below.refl w1.heap.size w1) (.cells #[.int .u8 k, .int .i64 0, .string (⟨#[]⟩ : ByteArray)] 54)); have hv2 := blk_new w1 (.cells #[.int .u8 k, .int .i64 0, .string (⟨#[]⟩ : ByteArray)] 54); have hu2 := blk_alloc hv (.cells #[.int .u8 k, .int .i64 0, .string (⟨#[]⟩ : ByteArray)] 54); have c0 := blk_cell hv2 0; have c1 := blk_cell hv2 1; have c2 := blk_cell hv2 2; have z0 := blk_frozen hv2 0; have z1 := blk_frozen hv2 1; have z2 := blk_frozen hv2 2; have d0 := blk_cell hu2 0; have d1 := blk_cell hu2 1; have d2 := blk_cell hu2 2; have y0 := blk_frozen hu2 0; have y1 := blk_frozen hu2 1; have y2 := blk_frozen hu2 2; have q0 := blk_cell hv 0; have q1 := blk_cell hv 1; have q2 := blk_cell hv 2; have p0 := blk_frozen hv 0; have p1 := blk_frozen hv 1; have p2 := blk_frozen hv 2)
    | (go_at_call 36; refine (failed_calls B g _ _ _ hw2).mono ?_; rintro e w4 ⟨rfl, rfl⟩))
  refine bodyPost_ret (results_cell_row rfl _ _ w.heap.size 54 #[.int .u8 0, .int .i64 0, .string ByteArray.empty] (0, 0) _ rfl (blk_alloc (ret3 hv _ _ _) _) Try.underlying54 rfl (by kernel_rfl)) rfl ?_
  exact ⟨rfl, (((hr.put (p := ⟨w.heap.size, 0, none⟩) HV0 _).put (p := ⟨w.heap.size, 1, none⟩) HV0 _).put (p := ⟨w.heap.size, 2, none⟩) HV0 _).below (below_alloc (Below.refl _ _) _), ((((((Fr.alloc (S := (· = g)) _).trans hf).put (p := ⟨w.heap.size, 0, none⟩) (.inr (Nat.le_refl _)) _).put (p := ⟨w.heap.size, 1, none⟩) (.inr (Nat.le_refl _)) _).put (p := ⟨w.heap.size, 2, none⟩) (.inr (Nat.le_refl _)) _).new _)⟩
end Go.Proofs.Ytaoacibahdbdkaa.Pr
/-! packed.Reader.Value: its kinds and ends in one contract. -/
namespace Go.Proofs.Ytaoacibahdbdkaa.Pr
open Go.RowKit Go Go.Proofs.YtaoacibahdbdkaaW.PrintWords Go.Proofs.YtaoacibahdbdkaaW.PrintMore Go.Proofs.Ytaoacibahdbdkaa.Bts Go.Proofs.Ytaoacibahdbdkaa.Pk Go.Proofs.Ytaoacibahdbdkaa.Fra Go.Proofs.Ytaoacibahdbdkaa.QPackedPuts

/-- The value of a middle state. -/
def endV (m : Int × Int × ByteArray × List Int × Int) : (Int × Int × ByteArray) × List Int × Int :=
  let f' := if m.2.2.2.2 = 0 ∧ rightV m.1 m.2.1 m.2.2.1 = false then 10 else m.2.2.2.2
  (if f' = 0 then (m.1, m.2.1, m.2.2.1) else (0, 0, ByteArray.empty), m.2.2.2.1, f')
theorem valueP_eq (xs : List Int) (f : Int) : valueP xs f = endV (valM xs f) := rfl
abbrev ValPost (B g : Nat) (w : World) (r : (Int × Int × ByteArray) × List Int × Int) (e : Ending) (w' : World) : Prop :=
  e = .returned (.agg #[.int .u8 r.1.1, .int .i64 r.1.2.1, .string r.1.2.2]) ∧ Rd w' B g r.2.1 r.2.2 ∧ Fr (· = g) w w'
theorem end_ok {k n : Int} {s : ByteArray} {zf : List Int × Int} (h0 : zf.2 = 0) (hr : rightV k n s = true) : endV (k, n, s, zf) = ((k, n, s), zf.1, 0) := by
  unfold endV; simp [h0, hr]
theorem end_form {k n : Int} {s : ByteArray} {zf : List Int × Int} (h0 : zf.2 = 0) (hr : rightV k n s = false) : endV (k, n, s, zf) = ((0, 0, ByteArray.empty), zf.1, 10) := by
  unfold endV; simp [h0, hr]
theorem end_bad {k n : Int} {s : ByteArray} {zf : List Int × Int} (h0 : zf.2 ≠ 0) : endV (k, n, s, zf) = ((0, 0, ByteArray.empty), zf.1, zf.2) := by
  unfold endV; simp [h0]
theorem value_reads (B g : Nat) (xs : List Int) (f : Int) (w : World) (h : Rd w B g xs f) (hB : B ≤ w.heap.size) (hl : xs.length ≤ 140737488355328) (hbs : Bs xs) :
    Calls Try.prog 34 #[.pointer (some ⟨g, 0, none⟩)] w (ValPost B g w (valueP xs f)) := by
  rw [valueP_eq]
  unfold valM
  have htl := takeP_len xs f 1
  have htb := (takeP_bs hbs f 1).1
  have hn1 := numB_nn _ htb
  have hn2 : (256 : Int) ^ (takeP xs f 1).1.length ≤ 256 := by
    have : (takeP xs f 1).1.length = 0 ∨ (takeP xs f 1).1.length = 1 := by omega
    rcases this with e | e <;> rw [e] <;> decide
  by_cases k1 : numB (takeP xs f 1).1 = 1
  · simp only [k1, if_true]
    by_cases f0 : (takeP (takeP xs f 1).2.1 (takeP xs f 1).2.2 1).2.2 = 0
    · cases hr : rightV 1 (wrap64 (numB (takeP (takeP xs f 1).2.1 (takeP xs f 1).2.2 1).1)) ByteArray.empty
      · rw [end_form f0 hr]
        exact value_1_form B g xs f w h hB hl hbs k1 (takeP xs f 1).2.1 (takeP xs f 1).2.2 rfl (takeP (takeP xs f 1).2.1 (takeP xs f 1).2.2 1).2 rfl f0 hr
      · rw [end_ok f0 hr]
        exact value_1_ok B g xs f w h hB hl hbs k1 (takeP xs f 1).2.1 (takeP xs f 1).2.2 rfl (takeP (takeP xs f 1).2.1 (takeP xs f 1).2.2 1).2 rfl f0 hr
    · rw [end_bad f0]
      exact value_1_bad B g xs f w h hB hl hbs k1 (takeP xs f 1).2.1 (takeP xs f 1).2.2 rfl (takeP (takeP xs f 1).2.1 (takeP xs f 1).2.2 1).2 rfl f0
  · simp only [if_neg k1]
    by_cases k2 : numB (takeP xs f 1).1 = 2
    · rw [if_pos k2, k2]
      by_cases f0 : (takeP (takeP xs f 1).2.1 (takeP xs f 1).2.2 8).2.2 = 0
      · cases hr : rightV 2 (wrap64 (numB (takeP (takeP xs f 1).2.1 (takeP xs f 1).2.2 8).1)) ByteArray.empty
        · rw [end_form f0 hr]
          exact value_2_form B g xs f w h hB hl hbs k2 (takeP xs f 1).2.1 (takeP xs f 1).2.2 rfl (takeP (takeP xs f 1).2.1 (takeP xs f 1).2.2 8).2 rfl f0 hr
        · rw [end_ok f0 hr]
          exact value_2_ok B g xs f w h hB hl hbs k2 (takeP xs f 1).2.1 (takeP xs f 1).2.2 rfl (takeP (takeP xs f 1).2.1 (takeP xs f 1).2.2 8).2 rfl f0 hr
      · rw [end_bad f0]
        exact value_2_bad B g xs f w h hB hl hbs k2 (takeP xs f 1).2.1 (takeP xs f 1).2.2 rfl (takeP (takeP xs f 1).2.1 (takeP xs f 1).2.2 8).2 rfl f0
    · rw [if_neg k2]
      by_cases k3 : numB (takeP xs f 1).1 = 3
      · rw [if_pos k3, k3]
        by_cases f0 : (textP (takeP xs f 1).2.1 (takeP xs f 1).2.2 4096).2.2 = 0
        · cases hr : rightV 3 0 (strOfNums (textP (takeP xs f 1).2.1 (takeP xs f 1).2.2 4096).1)
          · rw [end_form f0 hr]
            exact value_3_form B g xs f w h hB hl hbs k3 (takeP xs f 1).2.1 (takeP xs f 1).2.2 rfl (textP (takeP xs f 1).2.1 (takeP xs f 1).2.2 4096).2 rfl f0 hr
          · rw [end_ok f0 hr]
            exact value_3_ok B g xs f w h hB hl hbs k3 (takeP xs f 1).2.1 (takeP xs f 1).2.2 rfl (textP (takeP xs f 1).2.1 (takeP xs f 1).2.2 4096).2 rfl f0 hr
        · rw [end_bad f0]
          exact value_3_bad B g xs f w h hB hl hbs k3 (takeP xs f 1).2.1 (takeP xs f 1).2.2 rfl (textP (takeP xs f 1).2.1 (takeP xs f 1).2.2 4096).2 rfl f0
      · rw [if_neg k3]
        by_cases f0 : (takeP xs f 1).2.2 = 0
        · cases hr : rightV (numB (takeP xs f 1).1) 0 ByteArray.empty
          · rw [end_form f0 hr]
            exact value_0_form B g xs f w h hB hl hbs _ rfl (by omega) (by omega) k1 k2 k3 (takeP xs f 1).2.1 (takeP xs f 1).2.2 rfl ((takeP xs f 1).2.1, (takeP xs f 1).2.2) rfl f0 hr
          · rw [end_ok f0 hr]
            exact value_0_ok B g xs f w h hB hl hbs _ rfl (by omega) (by omega) k1 k2 k3 (takeP xs f 1).2.1 (takeP xs f 1).2.2 rfl ((takeP xs f 1).2.1, (takeP xs f 1).2.2) rfl f0 hr
        · rw [end_bad f0]
          exact value_0_bad B g xs f w h hB hl hbs _ rfl (by omega) (by omega) k1 k2 k3 (takeP xs f 1).2.1 (takeP xs f 1).2.2 rfl ((takeP xs f 1).2.1, (takeP xs f 1).2.2) rfl f0
end Go.Proofs.Ytaoacibahdbdkaa.Pr
/-! packed: what is put is what is read. Lists alone. -/
namespace Go.Proofs.Ytaoacibahdbdkaa.Pr
open Go.RowKit Go Go.Proofs.YtaoacibahdbdkaaW.PrintWords Go.Proofs.YtaoacibahdbdkaaW.PrintMore Go.Proofs.Ytaoacibahdbdkaa.Bts Go.Proofs.Ytaoacibahdbdkaa.Pk Go.Proofs.Ytaoacibahdbdkaa.Fra Go.Proofs.Ytaoacibahdbdkaa.QPackedPuts

theorem leB_cons (n : Int) (k : Nat) : leB n (k + 1) = n % 256 :: leB (n / 256) k := by
  unfold leB
  rw [List.range_succ_eq_map, List.map_cons, List.map_map]
  congr 1
  · simp
  · apply List.map_congr_left
    intro j _
    simp only [Function.comp]
    have : (2 : Int) ^ (8 * (j + 1)) = 256 * 2 ^ (8 * j) := by rw [Nat.mul_add, Int.pow_add, Int.mul_comm]; rfl
    rw [show j.succ = j + 1 from rfl, this, Int.ediv_ediv_of_nonneg (by decide)]
theorem emod_step (n m : Int) (hm : 0 < m) : n % (256 * m) = n % 256 + 256 * (n / 256 % m) := by
  have h1 : n = 256 * (n / 256) + n % 256 := (Int.mul_ediv_add_emod n 256).symm
  have h2 : n / 256 = m * (n / 256 / m) + n / 256 % m := (Int.mul_ediv_add_emod _ m).symm
  have h3 := Int.emod_nonneg n (show (256 : Int) ≠ 0 by decide)
  have h4 := Int.emod_lt_of_pos n (show (0 : Int) < 256 by decide)
  have h5 := Int.emod_nonneg (n / 256) (show m ≠ 0 by omega)
  have h6 := Int.emod_lt_of_pos (n / 256) hm
  have e : n = (256 * m) * (n / 256 / m) + (n % 256 + 256 * (n / 256 % m)) := by
    have h7 : 256 * (n / 256) = 256 * (m * (n / 256 / m)) + 256 * (n / 256 % m) := by rw [← Int.mul_add, ← h2]
    rw [Int.mul_assoc]; omega
  rw [e, Int.mul_add_emod_self_left, ← e]
  apply Int.emod_eq_of_lt
  · omega
  · omega
theorem numB_leB : ∀ (k : Nat) (n : Int), numB (leB n k) = n % 256 ^ k
  | 0, n => by simp [leB, numB]
  | k + 1, n => by
    rw [leB_cons]
    simp only [numB]
    rw [numB_leB k, Int.pow_succ, Int.mul_comm (256 ^ k), emod_step n _ (Int.pow_pos (by decide))]
theorem bs_leB (n : Int) (k : Nat) : Bs (leB n k) := by
  intro x hx
  unfold leB at hx
  obtain ⟨j, _, rfl⟩ := List.mem_map.1 hx
  omega
theorem takeP_app (ys zs : List Int) (k : Nat) (h : ys.length = k) : takeP (ys ++ zs) 0 k = (ys, zs, 0) := by
  unfold takeP
  rw [if_pos rfl, if_neg (by rw [List.length_append]; omega), List.take_left' h, List.drop_left' h]
theorem bs_bytesOf (s : ByteArray) : Bs (bytesOf s) := by
  intro x hx
  unfold bytesOf at hx
  obtain ⟨c, _, rfl⟩ := List.mem_map.1 hx
  have := c.toNat_lt
  omega
theorem bs_app {xs ys : List Int} (h : Bs xs) (k : Bs ys) : Bs (xs ++ ys) := fun x hx => (List.mem_append.1 hx).elim (h x) (k x)
theorem bs_one (x : Int) (h0 : 0 ≤ x) (h1 : x ≤ 255) : Bs [x] := fun y hy => by
  rw [List.mem_singleton] at hy; subst hy; exact ⟨h0, h1⟩
theorem valB_1 (n : Int) (s : ByteArray) : valB 1 n s = 1 :: leB (n % 18446744073709551616) 1 := by unfold valB; rw [if_pos rfl]; rfl
theorem valB_2 (n : Int) (s : ByteArray) : valB 2 n s = 2 :: leB (n % 18446744073709551616) 8 := by unfold valB; rw [if_neg (by decide), if_pos rfl]; rfl
theorem valB_3 (n : Int) (s : ByteArray) : valB 3 n s = 3 :: (leB s.size 2 ++ bytesOf s) := by unfold valB; rw [if_neg (by decide), if_neg (by decide), if_pos rfl]; rfl
theorem valB_0 (k n : Int) (s : ByteArray) (h1 : k ≠ 1) (h2 : k ≠ 2) (h3 : k ≠ 3) : valB k n s = [k % 256] := by unfold valB; rw [if_neg h1, if_neg h2, if_neg h3]
theorem valB_len (k n : Int) (s : ByteArray) : (valB k n s).length ≤ s.size + 9 := by
  by_cases k1 : k = 1
  · subst k1; rw [valB_1, List.length_cons, leB_length]; omega
  by_cases k2 : k = 2
  · subst k2; rw [valB_2, List.length_cons, leB_length]; omega
  by_cases k3 : k = 3
  · subst k3; rw [valB_3, List.length_cons, List.length_append, leB_length, bytesOf_length]; omega
  rw [valB_0 k n s k1 k2 k3]; simp
theorem bs_cons {x : Int} {xs : List Int} (h0 : 0 ≤ x) (h1 : x ≤ 255) (h : Bs xs) : Bs (x :: xs) := bs_app (xs := [x]) (bs_one x h0 h1) h
theorem bs_valB (k n : Int) (s : ByteArray) : Bs (valB k n s) := by
  by_cases k1 : k = 1
  · subst k1; rw [valB_1]; exact bs_cons (by omega) (by omega) (bs_leB _ _)
  by_cases k2 : k = 2
  · subst k2; rw [valB_2]; exact bs_cons (by omega) (by omega) (bs_leB _ _)
  by_cases k3 : k = 3
  · subst k3; rw [valB_3]; exact bs_cons (by omega) (by omega) (bs_app (bs_leB _ _) (bs_bytesOf _))
  rw [valB_0 k n s k1 k2 k3]
  exact bs_one _ (by omega) (by omega)
theorem valM_1 {xs bs ys : List Int} {f f1 : Int} (h : takeP xs f 1 = (bs, ys, f1)) (k1 : numB bs = 1) : valM xs f = (1, wrap64 (numB (takeP ys f1 1).1), ByteArray.empty, (takeP ys f1 1).2) := by
  unfold valM; simp only [h, k1, if_true]
theorem valM_2 {xs bs ys : List Int} {f f1 : Int} (h : takeP xs f 1 = (bs, ys, f1)) (k1 : numB bs = 2) : valM xs f = (2, wrap64 (numB (takeP ys f1 8).1), ByteArray.empty, (takeP ys f1 8).2) := by
  unfold valM; simp only [h, k1]; rw [if_neg (by decide), if_pos trivial]
theorem valM_3 {xs bs ys : List Int} {f f1 : Int} (h : takeP xs f 1 = (bs, ys, f1)) (k1 : numB bs = 3) : valM xs f = (3, 0, strOfNums (textP ys f1 4096).1, (textP ys f1 4096).2) := by
  unfold valM; simp only [h, k1]; rw [if_neg (by decide), if_neg (by decide), if_pos trivial]
theorem valM_0 {xs bs ys : List Int} {f f1 : Int} (h : takeP xs f 1 = (bs, ys, f1)) (h1 : numB bs ≠ 1) (h2 : numB bs ≠ 2) (h3 : numB bs ≠ 3) : valM xs f = (numB bs, 0, ByteArray.empty, ys, f1) := by
  unfold valM; simp only [h]; rw [if_neg h1, if_neg h2, if_neg h3]
theorem str_bytes (s : ByteArray) : strOfNums (bytesOf s) = s := by
  unfold strOfNums bytesOf
  rw [List.map_map]
  have : ∀ l : List UInt8, l.map ((fun n : Int => UInt8.ofNat n.toNat) ∘ fun b => (b.toNat : Int)) = l := by
    intro l; induction l with
    | nil => rfl
    | cons x l ih => simp [ih]
  rw [this]
theorem textP_app (s : ByteArray) (most : Int) (zs : List Int) (h : (s.size : Int) ≤ most) (h2 : s.size < 65536) :
    textP (leB s.size 2 ++ bytesOf s ++ zs) 0 most = (bytesOf s, zs, 0) := by
  unfold textP
  rw [List.append_assoc, takeP_app _ _ 2 (leB_length _ _)]
  simp only
  have e : numB (leB (s.size : Int) 2) = s.size := by rw [numB_leB]; omega
  rw [e, if_neg (by omega), Int.toNat_natCast, takeP_app _ _ s.size (bytesOf_length s)]
theorem right_cases {k n : Int} {s : ByteArray} (h : easementref01_Right.f k n s = some true) :
    (k = 0 ∧ n = 0 ∧ s = ByteArray.empty) ∨ (k = 1 ∧ (n = 0 ∨ n = 1) ∧ s = ByteArray.empty) ∨ (k = 2 ∧ s = ByteArray.empty) ∨ (k = 3 ∧ n = 0 ∧ s.size ≤ 4096) := by
  have he : ∀ t : ByteArray, (t.toList == ([] : List UInt8)) = true → t = ByteArray.empty := by
    intro t ht
    rw [beq_iff_eq] at ht
    have e : t.toList = t.data.toList := ByteArray.toList_eq t
    rw [e] at ht
    cases t with
    | mk d => cases d with
      | mk l => simp at ht; subst ht; rfl
  unfold easementref01_Right.f at h
  by_cases k0 : k = 0
  · rw [if_pos k0] at h
    split at h
    · rename_i hn; exact .inl ⟨k0, hn, he s (Option.some.inj h)⟩
    · cases h
  rw [if_neg k0] at h
  by_cases k1 : k = 1
  · rw [if_pos k1] at h
    split at h
    · rename_i hn; exact .inr (.inl ⟨k1, .inl hn, he s (Option.some.inj h)⟩)
    · split at h
      · rename_i hn; exact .inr (.inl ⟨k1, .inr hn, he s (Option.some.inj h)⟩)
      · cases h
  rw [if_neg k1] at h
  by_cases k2 : k = 2
  · rw [if_pos k2] at h
    exact .inr (.inr (.inl ⟨k2, he s (Option.some.inj h)⟩))
  rw [if_neg k2] at h
  by_cases k3 : k = 3
  · rw [if_pos k3] at h
    split at h
    · rename_i hn
      have := of_decide_eq_true (Option.some.inj h)
      exact .inr (.inr (.inr ⟨k3, hn, by omega⟩))
    · cases h
  rw [if_neg k3] at h
  cases h
theorem rightV_of {k n : Int} {s : ByteArray} (h : easementref01_Right.f k n s = some true) : rightV k n s = true := by
  rcases right_cases h with ⟨rfl, rfl, rfl⟩ | ⟨rfl, rfl | rfl, rfl⟩ | ⟨rfl, rfl⟩ | ⟨rfl, rfl, hs⟩
  · decide +kernel
  · decide +kernel
  · decide +kernel
  · have : (ByteArray.empty.toList == ([] : List UInt8)) = true := by decide +kernel
    unfold rightV value_Value_Right.f; rw [if_neg (by decide), if_neg (by decide), if_pos rfl, this]; rfl
  · unfold rightV value_Value_Right.f; rw [if_neg (by decide), if_neg (by decide), if_neg (by decide), if_pos rfl, if_pos rfl]; show decide _ = true; rw [decide_eq_true_iff]; omega
theorem valueP_app (k n : Int) (s : ByteArray) (zs : List Int) (h : easementref01_Right.f k n s = some true) (hn : -9223372036854775808 ≤ n ∧ n ≤ 9223372036854775807) :
    valueP (valB k n s ++ zs) 0 = ((k, n, s), zs, 0) := by
  have hr := rightV_of h
  rw [valueP_eq]
  have t1 : ∀ (j : Int) (ys : List Int), takeP ((j :: ys) ++ zs) 0 1 = ([j], ys ++ zs, 0) := fun j ys => takeP_app [j] (ys ++ zs) 1 rfl
  have n1 : ∀ j : Int, numB [j] = j := fun j => by simp [numB]
  rcases right_cases h with ⟨rfl, rfl, rfl⟩ | ⟨rfl, hn1, rfl⟩ | ⟨rfl, rfl⟩ | ⟨rfl, rfl, hs⟩
  · rw [valB_0 0 0 _ (by decide) (by decide) (by decide), valM_0 (t1 _ []) (by rw [n1]; decide) (by rw [n1]; decide) (by rw [n1]; decide), n1]
    exact end_ok (zf := (zs, 0)) rfl hr
  · rw [valB_1, valM_1 (t1 _ _) (n1 _), takeP_app _ _ 1 (leB_length _ _)]
    simp only
    rw [numB_leB, show wrap64 (n % 18446744073709551616 % 256 ^ 1) = n by unfold wrap64; omega]
    exact end_ok (zf := (zs, 0)) rfl hr
  · rw [valB_2, valM_2 (t1 _ _) (n1 _), takeP_app _ _ 8 (leB_length _ _)]
    simp only
    rw [numB_leB, show wrap64 (n % 18446744073709551616 % 256 ^ 8) = n by unfold wrap64; omega]
    exact end_ok (zf := (zs, 0)) rfl hr
  · rw [valB_3, valM_3 (t1 _ _) (n1 _), textP_app s 4096 zs (by omega) (by omega)]
    simp only
    rw [str_bytes]
    exact end_ok (zf := (zs, 0)) rfl hr
theorem strOfNums_append (xs ys : List Int) : strOfNums (xs ++ ys) = strOfNums xs ++ strOfNums ys := by
  apply ByteArray.ext
  rw [ByteArray.data_append]
  simp [strOfNums]
theorem str_ahead (s : ByteArray) (ys : List Int) : strOfNums (bytesOf s ++ ys) = s ++ strOfNums ys := by rw [strOfNums_append, str_bytes]
theorem refNum_l (z : Nat) (hz : z ≤ 8) : ∀ (d i k : Nat) (m : Int) (acc : List Int), i + d = z → d < k → 0 ≤ m → m ≤ 18446744073709551615 → acc.length = i →
    easementref02_Number.l0 k m z acc i = some (acc ++ leB m d)
  | 0, i, k, m, acc, hi, hk, h0, h1, hl => by
    obtain ⟨k, rfl⟩ : ∃ q, k = q + 1 := ⟨k - 1, by omega⟩
    simp only [easementref02_Number.l0]
    rw [if_neg (by omega)]
    simp [leB]
  | d + 1, i, k, m, acc, hi, hk, h0, h1, hl => by
    obtain ⟨k, rfl⟩ : ∃ q, k = q + 1 := ⟨k - 1, by omega⟩
    simp only [easementref02_Number.l0]
    rw [if_pos (by omega), if_pos (by omega), if_pos (by omega)]
    have e1 : IntKind.u64.wrap (Int.tdiv m 256) = m / 256 := by rw [Int.tdiv_eq_ediv_of_nonneg h0]; simp [IntKind.wrap, IntKind.bits, IntKind.signed]; omega
    have e2 : Int.tmod m 256 % 256 = m % 256 := by rw [Int.tmod_eq_emod_of_nonneg h0]; omega
    have e3 : wrap64 ((i : Int) + 1) = ((i + 1 : Nat) : Int) := by unfold wrap64; omega
    rw [e1, e2, e3, refNum_l z hz d (i + 1) k (m / 256) (acc ++ [m % 256]) (by omega) (by omega) (by omega) (by omega) (by simp [hl]), leB_cons]
    simp
theorem refNum (n : Int) (h0 : 0 ≤ n) (h1 : n ≤ 18446744073709551615) (z : Nat) (hz : z ≤ 8) : easementref02_Number.f 10 n z = some (leB n z) := by
  unfold easementref02_Number.f
  exact refNum_l z hz z 0 10 n [] (by omega) (by omega) h0 h1 rfl
theorem refText (s : ByteArray) (hs : s.size ≤ 140737488300000) : easementref02_Text.f 10 s = some (leB s.size 2 ++ bytesOf s) := by
  unfold easementref02_Text.f
  have e : IntKind.u64.wrap (s.size : Int) = s.size := by simp [IntKind.wrap, IntKind.bits, IntKind.signed]; omega
  rw [e, show (2 : Int) = ((2 : Nat) : Int) from rfl, refNum _ (by omega) (by omega) 2 (by omega)]
  simp only [Option.bind_some]
  rw [if_pos (by rw [leB_length]; omega)]
theorem refValue (k m : Int) (t : ByteArray) (hk0 : 0 ≤ k) (hk1 : k ≤ 255) (ht : t.size ≤ 140737488300000) : easementref02_Value.f 10 k m t = some (valB k m t) := by
  unfold easementref02_Value.f
  simp only [Option.bind_some]
  by_cases k1 : k = 1
  · subst k1; rw [if_pos rfl, if_pos (by simp), valB_1]
    have : leB (m % 18446744073709551616) 1 = [m % 256] := by rw [leB_one]; congr 1; omega
    rw [this]; rfl
  rw [if_neg k1]
  by_cases k2 : k = 2
  · subst k2
    have e : IntKind.u64.wrap m = m % 18446744073709551616 := by simp [IntKind.wrap, IntKind.bits, IntKind.signed]
    rw [if_pos rfl, e, show (8 : Int) = ((8 : Nat) : Int) from rfl, refNum _ (by omega) (by omega) 8 (by omega), valB_2]
    simp only [Option.bind_some]
    rw [if_pos (by simp [leB_length])]; rfl
  rw [if_neg k2]
  by_cases k3 : k = 3
  · subst k3
    rw [if_pos rfl, refText t ht, valB_3]
    simp only [Option.bind_some]
    rw [if_pos (by simp [leB_length, bytesOf_length]; omega)]; rfl
  rw [if_neg k3, valB_0 k m t k1 k2 k3]
  congr 2; omega
theorem byt_conv {w : World} {v : Value} {xs : List Int} (h : Byt w v xs) (hm : xs.length ≤ 9223372036854775807) : (convert 56 9 v).run Try.prog w = .ok (.string (strOfNums xs)) w := by
  obtain ⟨A, c, rfl, hc, hn, hC⟩ := h.C hm
  exact Kd.C_string (c := c) (src := 56) (dst := 9) (e := 5) Try.underlying56 Try.underlying5 Try.underlying9 hC
theorem byt_convE {w : World} {v : Value} {xs : List Int} {s : ByteArray} (h : Byt w v xs) (hm : xs.length ≤ 9223372036854775807) (hs : strOfNums xs = s) : (convert 56 9 v).run Try.prog w = .ok (.string s) w := by
  rw [← hs]; exact byt_conv h hm
theorem byt_of_R {w : World} {base : Nat} {ok : Nat → Prop} {v : Value} {xs : List Int} (h : Kd.R (Kd.int .u8) 5 w base ok v xs) : Byt w v xs := SlR.of_own (Kd.own_of_R h)
end Go.Proofs.Ytaoacibahdbdkaa.Pr
/-! the reference's reader: its calls, as contracts. Printed by wip/tools/gen_ref.py. -/
namespace Go.Proofs.Ytaoacibahdbdkaa.Rf
open Go.RowKit Go Go.Proofs.YtaoacibahdbdkaaW.PrintWords Go.Proofs.YtaoacibahdbdkaaW.PrintMore Go.Proofs.Ytaoacibahdbdkaa.Bts Go.Proofs.Ytaoacibahdbdkaa.Pk Go.Proofs.Ytaoacibahdbdkaa.Fra Go.Proofs.Ytaoacibahdbdkaa.Pr
attribute [local go_sem] max2_int min2_int max_two min_two
theorem kept0 {w w' : World} {sz n : Nat} {v : Value} {cs : List Value} {S : Nat → Prop} (h : SlR w sz v n cs) (hk : Kept w w' S) (hS : 0 < n → ∀ k, v.ownBlock = some k → ¬ S k) : SlR w' sz v n cs := by
  by_cases h0 : 0 < n
  · exact h.kept hk (hS h0)
  · obtain rfl : n = 0 := by omega
    obtain ⟨h1, A, c, rfl, h2, h3, h4⟩ := h
    have h1' : cs = [] := by simpa using h1
    subst h1'
    exact ⟨h1, A, c, rfl, h2, h3, fun ad hA j u hj => by simp at hj⟩
/-- A reader's block: the bytes that are left, what is wrong. -/
def Rx (w : World) (B g : Nat) (xs : List Int) (f : Int) : Prop :=
  ∃ A c, w.heap[g]? = some (.cells #[.slice A xs.length c, .int .i64 f] 157 (0,0)) ∧ Byt w (.slice A xs.length c) xs ∧ g < B ∧ ∀ ad, A = some ad → 0 < xs.length → ad.block ≠ g ∧ ad.block < B
theorem Rx.fr {w w' : World} {B g : Nat} {xs : List Int} {f : Int} {S : Nat → Prop} (h : Rx w B g xs f) (hf : Fr S w w') (hs : ∀ k, k < B → ¬ S k) : Rx w' B g xs f := by
  obtain ⟨A, c, h1, h2, h3⟩ := h
  refine ⟨A, c, hf.blk h1 (hs _ h3.1), kept0 h2 hf.kept ?_, h3⟩
  intro hp k hk
  cases A with
  | none => cases hk
  | some ad => cases hk; exact hs _ (h3.2 ad rfl hp).2
theorem Rx.put {w : World} {B g : Nat} {xs : List Int} {f : Int} (h : Rx w B g xs f) {p : Addr} (hp : ∀ k, k < B → ¬ k = p.block) (u : Value) : Rx (w.setCell p u) B g xs f :=
  h.fr (S := fun k => k = p.block) (Fr.setCell (S := fun k => k = p.block) (.inl rfl) u) hp
theorem Rx.mono {w : World} {B B' g : Nat} {xs : List Int} {f : Int} (h : Rx w B g xs f) (hB : B ≤ B') : Rx w B' g xs f := by
  obtain ⟨A, c, h1, h2, h3⟩ := h
  exact ⟨A, c, h1, h2, by omega, fun ad ha hp => ⟨(h3.2 ad ha hp).1, by have := (h3.2 ad ha hp).2; omega⟩⟩
theorem Rx.lt {w : World} {B g : Nat} {xs : List Int} {f : Int} (h : Rx w B g xs f) : g < B ∧ g < w.heap.size := by
  obtain ⟨A, c, h1, h2, h3⟩ := h
  exact ⟨h3.1, blk_lt h1⟩
theorem Rx.below {w w' : World} {B g : Nat} {xs : List Int} {f : Int} (h : Rx w B g xs f) (hf : Below w.heap.size w w') : Rx w' B g xs f := by
  obtain ⟨A, c, h1, h2, h3⟩ := h
  exact ⟨A, c, blk_below h1 hf, h2.below hf, h3⟩
theorem Rx.cell0 {w : World} {B g : Nat} {xs : List Int} {f : Int} (h : Rx w B g xs f) : ∃ A c, w.cell? ⟨g, 0, none⟩ = some (.slice A xs.length c) := by
  obtain ⟨A, c, h1, _⟩ := h; exact ⟨A, c, blk_cell h1 0⟩
theorem Rx.cell1 {w : World} {B g : Nat} {xs : List Int} {f : Int} (h : Rx w B g xs f) : w.cell? ⟨g, 1, none⟩ = some (.int .i64 f) := by
  obtain ⟨A, c, h1, _⟩ := h; exact blk_cell h1 1
theorem Rx.frozen1 {w : World} {B g : Nat} {xs : List Int} {f : Int} (h : Rx w B g xs f) : w.frozen? ⟨g, 1, none⟩ = false := by
  obtain ⟨A, c, h1, _⟩ := h; exact blk_frozen h1 1
/-- What is left of a row that is cut at its end: other block, other cells. -/
theorem Rx.cut {w : World} {B g : Nat} {xs : List Int} {f : Int} {A : Option Addr} {c : Nat} (n : Nat) (hn : n ≤ xs.length)
    (hg : w.heap[g]? = some (.cells #[.slice A xs.length c, .int .i64 f] 157 (0,0))) (hb : Byt w (.slice A xs.length c) xs) (hA : g < B ∧ ∀ ad, A = some ad → 0 < xs.length → ad.block ≠ g ∧ ad.block < B) (A' : Option Addr) (hA' : A' = if c = n then A else A.map (·.add n)) :
    Rx (w.setCell ⟨g, 0, none⟩ (.slice A' (xs.length - n) (c - n))) B g (xs.drop n) f := by
  subst hA'
  have hl : (xs.drop n).length = xs.length - n := by rw [List.length_drop]
  have hd := byt_drop hb n hn
  refine ⟨_, _, by rw [hl]; exact (blk_set hg 0 _).trans rfl, ?_, ?_⟩
  · rw [hl]
    refine kept0 hd (Fr.setCell (S := (· = g)) (p := ⟨g, 0, none⟩) (.inl rfl) _).kept ?_
    intro hp k hk e
    subst e
    split at hk
    · cases A with
      | none => cases hk
      | some ad => cases hk; exact (hA.2 ad rfl (by omega)).1 rfl
    · cases A with
      | none => cases hk
      | some ad =>
        have hb : (ad.add n).block = ad.block := by unfold Addr.add; split <;> rfl
        cases hk
        exact (hA.2 ad rfl (by omega)).1 hb.symm
  · refine ⟨hA.1, ?_⟩
    intro ad had hp
    rw [hl] at hp
    split at had
    · exact hA.2 ad had (by omega)
    · cases A with
      | none => cases had
      | some a0 =>
        have hb : (a0.add n).block = a0.block := by unfold Addr.add; split <;> rfl
        cases had
        rw [hb]; exact hA.2 a0 rfl (by omega)
theorem Rx.fail {w : World} {B g : Nat} {xs : List Int} {f : Int} (h : Rx w B g xs f) (f' : Int) : Rx (w.setCell ⟨g, 1, none⟩ (.int .i64 f')) B g xs f' := by
  obtain ⟨A, c, h1, h2, h3⟩ := h
  refine ⟨A, c, (blk_set h1 1 _).trans rfl, kept0 h2 (Fr.set g 1 _).kept ?_, h3⟩
  intro hp k hk e
  subst e
  cases A with
  | none => cases hk
  | some ad => cases hk; exact (h3.2 ad rfl hp).1 rfl
set_option maxHeartbeats 2000000 in
theorem take_calls (B g : Nat) (xs : List Int) (f : Int) (n : Nat) (w : World) (h : Rx w B g xs f) (_hl : xs.length ≤ 140737488355328) :
    Calls Try.prog 99 #[.pointer (some ⟨g, 0, none⟩), .int .i64 n] w fun e w' => ∃ v, e = .returned v ∧ Byt w' v (takeP xs f n).1 ∧ Rx w' B g (takeP xs f n).2.1 (takeP xs f n).2.2 ∧ Fr (· = g) w w' := by
  have H := Lib.hid h
  obtain ⟨A, c, hg, hb, hA⟩ := h
  have hc0 : w.cell? ⟨g, 0, none⟩ = some (.slice A xs.length c) := blk_cell hg 0
  have hc1 : w.cell? ⟨g, 1, none⟩ = some (.int .i64 f) := blk_cell hg 1
  have hf0 : w.frozen? ⟨g, 0, none⟩ = false := blk_frozen hg 0
  have hf1 : w.frozen? ⟨g, 1, none⟩ = false := blk_frozen hg 1
  have HG := Lib.hid hg
  clear hg
  by_cases f0 : f = 0
  · subst f0
    by_cases hn : xs.length < n
    · have e : takeP xs 0 n = ([], xs, 11) := by unfold takeP; rw [if_pos rfl, if_pos hn]
      rw [e]
      go_enter Try.func99, Try.ntmps99
      go_wp2
      go_ret
      exact ⟨_, rfl, SlR.nil _ _, H.out.fail 11, Fr.set g 1 _⟩
    · have e : takeP xs 0 n = (xs.take n, xs.drop n, 0) := by unfold takeP; rw [if_pos rfl, if_neg hn]
      rw [e]
      have hn : n ≤ xs.length := by omega
      have hnc : n ≤ c := by obtain ⟨_, A', c', e, h2, _⟩ := hb; cases e; omega
      have hk : ∀ u, Byt (w.setCell ⟨g, 0, none⟩ u) (.slice A n c) (xs.take n) := fun u => kept0 (by have := byt_take hb n hn; unfold Byt at this; rwa [List.length_take, Nat.min_eq_left hn] at this ⊢) (Fr.set g 0 u).kept (by
        intro hp k hk e
        subst e
        rw [List.length_take] at hp
        cases A with
        | none => cases hk
        | some ad => cases hk; exact (hA.2 ad rfl (by omega)).1 rfl)
      go_enter Try.func99, Try.ntmps99
      go_wp2
      · obtain rfl : c = n := by omega
        go_ret
        have hr := Rx.cut c hn HG.out hb hA A (by rw [if_pos rfl])
        rw [Nat.sub_self] at hr
        exact ⟨_, rfl, hk _, hr, Fr.set g 0 _⟩
      · go_ret
        exact ⟨_, rfl, hk _, Rx.cut n hn HG.out hb hA _ (by rw [if_neg (by omega)]), Fr.set g 0 _⟩
  · have e : takeP xs f n = ([], xs, f) := by unfold takeP; rw [if_neg f0]
    rw [e]
    have b0 : (f == 0) = false := by rw [beq_eq_false_iff_ne]; exact f0
    go_enter Try.func99, Try.ntmps99
    go_wp2
    go_ret
    exact ⟨_, rfl, SlR.nil _ _, H.out, Fr.refl _ _⟩
theorem numB_drop (bs : List Int) (j : Nat) (h : j < bs.length) : numB (bs.drop j) = bs[j] + 256 * numB (bs.drop (j + 1)) := by
  rw [List.drop_eq_getElem_cons h]; rfl
theorem pow7 (n : Nat) (h : n ≤ 7) : (256 : Int) ^ n ≤ 72057594037927936 := by
  have : n = 0 ∨ n = 1 ∨ n = 2 ∨ n = 3 ∨ n = 4 ∨ n = 5 ∨ n = 6 ∨ n = 7 := by omega
  rcases this with e | e | e | e | e | e | e | e <;> rw [e] <;> decide
set_option maxHeartbeats 4000000 in
set_option maxRecDepth 100000 in
theorem number_calls (B g : Nat) (xs : List Int) (f size : Int) (w : World) (h : Rx w B g xs f) (hl : xs.length ≤ 140737488355328) (hbs : Bs xs) :
    Calls Try.prog 85 #[.pointer (some ⟨g, 0, none⟩), .int .i64 size] w fun e w' => e = .returned (.int .u64 (numB (takeP xs f (sizeP size)).1)) ∧ Rx w' B g (takeP xs f (sizeP size)).2.1 (takeP xs f (sizeP size)).2.2 ∧ Fr (· = g) w w' := by
  obtain ⟨k, hk⟩ : ∃ k, sizeP size = k := ⟨_, rfl⟩
  rw [hk]
  have hk8 : k ≤ 8 := by rw [← hk]; unfold sizeP; omega
  obtain ⟨m, hm⟩ : ∃ m : Int, (if size < 0 then (0 : Int) else size) = m := ⟨_, rfl⟩
  have hkk : (if 8 < m then (8 : Int) else m) = (k : Int) := by
    rw [← hk, ← hm]; unfold sizeP; split <;> split <;> omega
  have H := Lib.hid h
  have HK := Lib.hid hk
  clear h hk
  have htl := takeP_len xs f k
  have htb := (takeP_bs hbs f k).1
  generalize ht : takeP xs f k = t at htl htb ⊢
  have HT := Lib.hid ht
  clear ht
  obtain ⟨bs, ys, f1⟩ := t
  simp only at htl htb
  go_enter Try.func85, Try.ntmps85
  go_wp2_with (go_at_call 99; refine (take_calls B g xs f k _ H.out hl).mono ?_; rintro e w1 ⟨v, rfl, hb, hr, hf⟩; rw [HT.out] at hb hr; simp only at hb hr; obtain ⟨A, c, rfl, hc, hn, hC⟩ := hb.C (by omega))
  have HM := Lib.hid hm
  have HKK := Lib.hid hkk
  have HR := Lib.hid hr
  have HF := Lib.hid hf
  clear hm hkk hr hf hb
  have hbl : bs.length ≤ 8 := by omega
  go_loopw [6, 7] (fun v i wr => ∃ j : Nat, j ≤ bs.length ∧ i = .int .i64 ((j : Int) - 1) ∧ v = .int .u64 (numB (bs.drop j)) ∧ wr = w1) (fun _ i _ => (intOf i + 1).toNat)
  case atStart => exact ⟨bs.length, by omega, rfl, by rw [List.drop_length]; rfl, rfl⟩
  case round =>
    obtain ⟨j, hj, rfl, rfl, rfl⟩ := hrel
    by_cases hlt : 0 < j
    · obtain ⟨i, rfl⟩ : ∃ i, j = i + 1 := ⟨j - 1, by omega⟩
      obtain ⟨ad, rfl, hx⟩ := Kd.at_int hC (i : Int) (by omega) (by omega)
      rw [Int.toNat_natCast] at hx
      have hb1 := htb bs[i] (List.getElem_mem (by omega))
      have hrd : rd bs (i : Int) = bs[i] := by simp [rd, show i < bs.length by omega]
      rw [hrd] at hx
      have hn1 := numB_nn (bs.drop (i + 1)) (fun y hy => htb y (List.mem_of_mem_drop hy))
      have hp := pow7 (bs.drop (i + 1)).length (by rw [List.length_drop]; omega)
      have HS := Lib.hid (numB_drop bs i (by omega))
      obtain ⟨nv, hnv⟩ : ∃ nv, numB (bs.drop (i + 1)) = nv := ⟨_, rfl⟩
      rw [hnv] at hn1 ⊢
      have HNV := Lib.hid hnv
      obtain ⟨bv, hbv⟩ : ∃ bv, bs[i] = bv := ⟨_, rfl⟩
      rw [hbv] at hb1 hx
      have HBV := Lib.hid hbv
      have hn0 : 0 ≤ nv := hn1.1
      have hn2 : nv ≤ 72057594037927935 := by omega
      have e1 : ((i + 1 : Nat) : Int) - 1 = (i : Int) := by omega
      rw [e1]
      clear hnv hbv hp hrd e1 hn1
      go_wp2
      go_roundw
      case rel =>
        refine ⟨i, by omega, rfl, ?_, trivial⟩
        rw [HS.out, HNV.out, HBV.out]
        congr 1
        omega
      case measure => first | (simp [intOf]; done) | (simp [intOf]; omega)
    · obtain rfl : j = 0 := by omega
      go_wp2
      go_ret
      exact ⟨rfl, HR.out, HF.out⟩
theorem number_k (k B g : Nat) (xs : List Int) (f size : Int) (w : World) (hk : sizeP size = k) (h : Rx w B g xs f) (hl : xs.length ≤ 140737488355328) (hbs : Bs xs) :
    Calls Try.prog 85 #[.pointer (some ⟨g, 0, none⟩), .int .i64 size] w fun e w' => e = .returned (.int .u64 (numB (takeP xs f k).1)) ∧ Rx w' B g (takeP xs f k).2.1 (takeP xs f k).2.2 ∧ Fr (· = g) w w' := by
  subst hk
  exact number_calls B g xs f size w h hl hbs
end Go.Proofs.Ytaoacibahdbdkaa.Rf
/-! the reference's reader: texts. Printed by wip/tools/gen_ref.py. -/
namespace Go.Proofs.Ytaoacibahdbdkaa.Rf
open Go.RowKit Go Go.Proofs.YtaoacibahdbdkaaW.PrintWords Go.Proofs.YtaoacibahdbdkaaW.PrintMore Go.Proofs.Ytaoacibahdbdkaa.Bts Go.Proofs.Ytaoacibahdbdkaa.Pk Go.Proofs.Ytaoacibahdbdkaa.Fra Go.Proofs.Ytaoacibahdbdkaa.Pr
set_option maxHeartbeats 4000000 in
set_option maxRecDepth 100000 in
theorem text_calls (B g : Nat) (xs : List Int) (f most : Int) (w : World) (h : Rx w B g xs f) (hl : xs.length ≤ 140737488355328) (hbs : Bs xs) :
    Calls Try.prog 100 #[.pointer (some ⟨g, 0, none⟩), .int .i64 most] w fun e w' => e = .returned (.string (strOfNums (textP xs f most).1)) ∧ Rx w' B g (textP xs f most).2.1 (textP xs f most).2.2 ∧ Fr (· = g) w w' := by
  have H := Lib.hid h
  clear h
  have hs2 : sizeP 2 = 2 := rfl
  have htl := takeP_len xs f 2
  have htb := (takeP_bs hbs f 2).1
  have htf := takeP_left xs f 2
  have hdef : textP xs f most = takeP (takeP xs f 2).2.1 (if (takeP xs f 2).2.2 = 0 ∧ most < numB (takeP xs f 2).1 then 12 else (takeP xs f 2).2.2) (numB (takeP xs f 2).1).toNat := rfl
  have hnum := number_calls B g xs f 2 w H.out hl hbs
  rw [hs2] at hnum
  rw [hdef]
  clear hdef
  generalize ht : takeP xs f 2 = t at *
  obtain ⟨bs, ys, f1⟩ := t
  simp only at htl htb htf hnum ⊢
  have hn1 := numB_nn bs htb
  have hn2 : (256 : Int) ^ bs.length ≤ 65536 := by
    have : bs.length = 0 ∨ bs.length = 1 ∨ bs.length = 2 := by omega
    rcases this with e | e | e <;> rw [e] <;> decide
  obtain ⟨nn, hnn⟩ : ∃ nn : Nat, numB bs = nn := ⟨(numB bs).toNat, by omega⟩
  rw [hnn] at hnum hn1 ⊢
  rw [Int.toNat_natCast]
  have hw : IntKind.i64.wrap (nn : Int) = nn := by rw [IntKind.wrap_i64]; omega
  have NUM := Lib.hid hnum
  clear hnum ht hnn
  have hyl : ys.length ≤ 140737488355328 := by omega
  by_cases f0 : f1 = 0
  · subst f0
    by_cases hm : most < nn
    · rw [if_pos ⟨rfl, hm⟩]
      go_enter Try.func100, Try.ntmps100
      go_wp2_with (first
        | (go_at_call 85; refine NUM.out.mono ?_; rintro e w1 ⟨rfl, hr, hf⟩; have hc1 := hr.cell1; have hf1 := hr.frozen1)
        | (go_at_call 99; refine (take_calls B g ys 12 nn _ (hr.fail 12) hyl).mono ?_; rintro e w3 ⟨v, rfl, hb, hr3, hf3⟩; obtain ⟨A, c, rfl, hc, hn, hC⟩ := hb.C (by have := takeP_len ys 12 nn; omega); have hstr := Kd.C_string (c := c) (src := 56) (dst := 9) (e := 5) Try.underlying56 Try.underlying5 Try.underlying9 hC))
      go_ret
      exact ⟨rfl, hr3, (hf.trans (Fr.set g 1 _)).trans hf3⟩
    · rw [if_neg (fun h => hm h.2)]
      have bm : decide (most < (nn : Int)) = false := by rw [decide_eq_false_iff_not]; exact hm
      go_enter Try.func100, Try.ntmps100
      go_wp2_with (first
        | (go_at_call 85; refine NUM.out.mono ?_; rintro e w1 ⟨rfl, hr, hf⟩; have hc1 := hr.cell1; have hf1 := hr.frozen1)
        | (go_at_call 99; refine (take_calls B g ys 0 nn _ hr hyl).mono ?_; rintro e w3 ⟨v, rfl, hb, hr3, hf3⟩; obtain ⟨A, c, rfl, hc, hn, hC⟩ := hb.C (by have := takeP_len ys 0 nn; omega); have hstr := Kd.C_string (c := c) (src := 56) (dst := 9) (e := 5) Try.underlying56 Try.underlying5 Try.underlying9 hC))
      go_ret
      exact ⟨rfl, hr3, hf.trans hf3⟩
  · rw [if_neg (fun h => f0 h.1)]
    have b0 : (f1 == 0) = false := by rw [beq_eq_false_iff_ne]; exact f0
    go_enter Try.func100, Try.ntmps100
    go_wp2_with (first
      | (go_at_call 85; refine NUM.out.mono ?_; rintro e w1 ⟨rfl, hr, hf⟩; have hc1 := hr.cell1; have hf1 := hr.frozen1)
      | (go_at_call 99; refine (take_calls B g ys f1 nn _ hr hyl).mono ?_; rintro e w3 ⟨v, rfl, hb, hr3, hf3⟩; obtain ⟨A, c, rfl, hc, hn, hC⟩ := hb.C (by have := takeP_len ys f1 nn; omega); have hstr := Kd.C_string (c := c) (src := 56) (dst := 9) (e := 5) Try.underlying56 Try.underlying5 Try.underlying9 hC))
    go_ret
    exact ⟨rfl, hr3, hf.trans hf3⟩
end Go.Proofs.Ytaoacibahdbdkaa.Rf
/-! the reference's reader: values. Printed by wip/tools/gen_ref.py. -/
namespace Go.Proofs.Ytaoacibahdbdkaa.Rf
open Go.RowKit Go Go.Proofs.YtaoacibahdbdkaaW.PrintWords Go.Proofs.YtaoacibahdbdkaaW.PrintMore Go.Proofs.Ytaoacibahdbdkaa.Bts Go.Proofs.Ytaoacibahdbdkaa.Pk Go.Proofs.Ytaoacibahdbdkaa.Fra Go.Proofs.Ytaoacibahdbdkaa.Pr Go.Proofs.Ytaoacibahdbdkaa.QPackedPuts
def rightX (a0 a1 : Int) (a2 : ByteArray) : Bool := if a0 = 0 then a1 == 0 && a2.size == 0 else if a0 = 1 then (a1 == 0 || a1 == 1) && a2.size == 0 else if a0 = 2 then a2.size == 0 else if a0 = 3 then a1 == 0 && decide (a2.size ≤ 4096) else false
theorem empty_eq (s : ByteArray) : (s.toList == ([] : List UInt8)) = (s.size == 0) := by
  rw [ByteArray.toList_eq]
  have h : s.data.toList.length = s.size := by rw [Array.length_toList]; rfl
  cases hl : s.data.toList with
  | nil => rw [hl] at h; rw [← h]; rfl
  | cons x l => rw [hl] at h; rw [← h]; rfl
theorem refright_f (a0 a1 : Int) (a2 : ByteArray) : easementref01_Right.f a0 a1 a2 = some (rightX a0 a1 a2) := by
  unfold easementref01_Right.f rightX
  rw [empty_eq]
  split
  · by_cases h : a1 = 0 <;> simp [h]
  · split
    · by_cases h : a1 = 0
      · simp [h]
      · by_cases h' : a1 = 1 <;> simp [h, h']
    · split
      · rfl
      · split
        · by_cases h : a1 = 0
          · simp only [h, if_true]
            have : ((a2.size : Int) ≤ 4096) ↔ a2.size ≤ 4096 := by omega
            simp [this]
          · simp [h]
        · rfl
theorem right_f (a0 a1 : Int) (a2 : ByteArray) : value_Value_Right.f a0 a1 a2 = some (rightX a0 a1 a2) := by
  unfold value_Value_Right.f rightX
  have e : ((⟨#[]⟩ : ByteArray)).toList = ([] : List UInt8) := by rw [ByteArray.toList_eq]
  rw [empty_eq]
  split
  · rename_i h; simp [h]
  · split
    · rename_i h
      unfold value_Truth.f
      by_cases h1 : a1 = 1
      · simp only [h1, beq_self_eq_true, if_true, Option.bind_some, e, empty_eq]; simp [h]
      · have : (a1 == 1) = false := by simpa using h1
        simp only [this, Bool.false_eq_true, if_false, Option.bind_some, e, empty_eq]; simp [h]
    · split
      · rfl
      · split
        · by_cases h : a1 = 0
          · simp only [h, if_true]
            have : ((a2.size : Int) ≤ 4096) ↔ a2.size ≤ 4096 := by omega
            simp [this]
          · simp [h]
        · rfl

theorem refr (k n : Int) (s : ByteArray) : easementref01_Right.f k n s = some (rightV k n s) := by
  rw [refright_f]
  unfold rightV
  rw [right_f]
  rfl
set_option maxHeartbeats 4000000 in
set_option maxRecDepth 100000 in
theorem value_1_ok (B g : Nat) (xs : List Int) (f : Int) (w : World) (h : Rx w B g xs f) (hB : B ≤ w.heap.size) (hl : xs.length ≤ 140737488355328) (hbs : Bs xs) (hk : numB (takeP xs f 1).1 = 1) (ys : List Int) (f1 : Int) (hys : (takeP xs f 1).2 = (ys, f1)) (zf : List Int × Int) (hzf : (takeP ys f1 1).2 = zf) (hf2 : zf.2 = 0) (hr : rightV 1 (wrap64 (numB (takeP ys f1 1).1)) ByteArray.empty = true) :
    Calls Try.prog 87 #[.pointer (some ⟨g, 0, none⟩)] w fun e w' => e = .returned (.agg #[.int .u8 1, .int .i64 (wrap64 (numB (takeP ys f1 1).1)), .string ByteArray.empty]) ∧ Rx w' B g zf.1 0 ∧ Fr (· = g) w w' := by
  have hnum := fun o => number_calls B g xs f 1 (w.alloc o) (h.below (below_alloc (Below.refl _ _) o)) hl hbs
  rw [show sizeP 1 = 1 from rfl] at hnum
  have htb := (takeP_bs hbs f 1).2
  have htf := takeP_left xs f 1
  generalize ht : takeP xs f 1 = t at *
  obtain ⟨bs, t2⟩ := t
  simp only at hnum htb htf hk hys
  subst hys
  rw [hk] at hnum
  have NUM := fun o => Lib.hid (hnum o)
  clear hnum ht hk
  simp only at htb htf
  have hyl : ys.length ≤ 140737488355328 := by omega
  have hgw : w.heap.size ≠ g := by have := h.lt; omega
  have hvB : ∀ k, k < B → ¬ k = w.heap.size := by omega
  have HV0 := hvB
  have HRT := Lib.hid ((refr 1 (wrap64 (numB (takeP ys f1 1).1)) ByteArray.empty).trans (congrArg some hr))
  clear hr
  obtain ⟨zs, f2⟩ := zf
  simp only at hf2 ⊢
  have HZ := Lib.hid hzf
  clear hzf
  subst hf2
  go_enter Try.func87, Try.ntmps87
  go_wp2_with (first
    | (go_at_call 85; refine (number_k 1 B g ys f1 1 _ rfl (hr.below (below_alloc (Below.refl _ _) _)) hyl htb).mono ?_; rintro e w2 ⟨rfl, hr2, hf2⟩; rw [HZ.out] at hr2; simp only at hr2; have hv2 := hf2.blk (blk_new w1 _) hg1; have hu2 := hf2.blk (blk_alloc hv _) hgw; have c0 := blk_cell hv2 0; have c1 := blk_cell hv2 1; have c2 := blk_cell hv2 2; have z0 := blk_frozen hv2 0; have z1 := blk_frozen hv2 1; have z2 := blk_frozen hv2 2; have d0 := blk_cell hu2 0; have d1 := blk_cell hu2 1; have d2 := blk_cell hu2 2; have y0 := blk_frozen hu2 0; have y1 := blk_frozen hu2 1; have y2 := blk_frozen hu2 2)
    | (go_at_call 85; refine (NUM _).out.mono ?_; rintro e w1 ⟨rfl, hr, hf⟩; have hv := hf.blk (blk_new w _) hgw; have hw1 : w.heap.size < w1.heap.size := blk_lt hv; have hg1 : w1.heap.size ≠ g := (by have := hr.lt; omega); have hvB1 : ∀ k, k < B → ¬ k = w1.heap.size := (by omega); have hww : ¬ (w.heap.size = w1.heap.size) := (by omega))
    | (go_at_call 38; refine (easementref01_Right.calls _ _ _ true _ HRT.out).mono ?_; rintro e w3 ⟨rfl, hB3⟩; have hr3 := (hr2.fr (Fr.set w1.heap.size 1 (.int .i64 (wrap64 (numB (takeP ys f1 1).1)))) hvB1).below hB3; have hv3 := blk_below (blk_put hv2 1 (.int .i64 (wrap64 (numB (takeP ys f1 1).1))) rfl) hB3; have hu3 := blk_below (blk_far hu2 (p := ⟨w1.heap.size, 1, none⟩) hww (.int .i64 (wrap64 (numB (takeP ys f1 1).1)))) hB3; have c0 := blk_cell hv3 0; have c1 := blk_cell hv3 1; have c2 := blk_cell hv3 2; have z0 := blk_frozen hv3 0; have z1 := blk_frozen hv3 1; have z2 := blk_frozen hv3 2; have d0 := blk_cell hu3 0; have d1 := blk_cell hu3 1; have d2 := blk_cell hu3 2; have y0 := blk_frozen hu3 0; have y1 := blk_frozen hu3 1; have y2 := blk_frozen hu3 2; have e1 := hr3.cell1; have e2 := hr3.frozen1))
  refine bodyPost_ret (results_cell_row rfl _ _ w.heap.size 67 #[.int .u8 1, .int .i64 (wrap64 (numB (takeP ys f1 1).1)), .string ByteArray.empty] (0, 0) _ rfl (ret3 hu3 _ _ _) Try.underlying67 rfl (by kernel_rfl)) rfl ?_
  exact ⟨rfl, ((hr3.put (p := ⟨w.heap.size, 0, none⟩) HV0 _).put (p := ⟨w.heap.size, 1, none⟩) HV0 _).put (p := ⟨w.heap.size, 2, none⟩) HV0 _, ((((((((Fr.alloc (S := (· = g)) _).trans hf).new _).trans hf2).put (p := ⟨w1.heap.size, 1, none⟩) (.inr (Nat.le_of_lt hw1)) (.int .i64 (wrap64 (numB (takeP ys f1 1).1)))).more hB3).put (p := ⟨w.heap.size, 0, none⟩) (.inr (Nat.le_refl _)) _).put (p := ⟨w.heap.size, 1, none⟩) (.inr (Nat.le_refl _)) _).put (p := ⟨w.heap.size, 2, none⟩) (.inr (Nat.le_refl _)) _⟩
set_option maxHeartbeats 4000000 in
set_option maxRecDepth 100000 in
theorem value_1_form (B g : Nat) (xs : List Int) (f : Int) (w : World) (h : Rx w B g xs f) (hB : B ≤ w.heap.size) (hl : xs.length ≤ 140737488355328) (hbs : Bs xs) (hk : numB (takeP xs f 1).1 = 1) (ys : List Int) (f1 : Int) (hys : (takeP xs f 1).2 = (ys, f1)) (zf : List Int × Int) (hzf : (takeP ys f1 1).2 = zf) (hf2 : zf.2 = 0) (hr : rightV 1 (wrap64 (numB (takeP ys f1 1).1)) ByteArray.empty = false) :
    Calls Try.prog 87 #[.pointer (some ⟨g, 0, none⟩)] w fun e w' => e = .returned (.agg #[.int .u8 0, .int .i64 0, .string ByteArray.empty]) ∧ Rx w' B g zf.1 10 ∧ Fr (· = g) w w' := by
  have hnum := fun o => number_calls B g xs f 1 (w.alloc o) (h.below (below_alloc (Below.refl _ _) o)) hl hbs
  rw [show sizeP 1 = 1 from rfl] at hnum
  have htb := (takeP_bs hbs f 1).2
  have htf := takeP_left xs f 1
  generalize ht : takeP xs f 1 = t at *
  obtain ⟨bs, t2⟩ := t
  simp only at hnum htb htf hk hys
  subst hys
  rw [hk] at hnum
  have NUM := fun o => Lib.hid (hnum o)
  clear hnum ht hk
  simp only at htb htf
  have hyl : ys.length ≤ 140737488355328 := by omega
  have hgw : w.heap.size ≠ g := by have := h.lt; omega
  have hvB : ∀ k, k < B → ¬ k = w.heap.size := by omega
  have HV0 := hvB
  have HRT := Lib.hid ((refr 1 (wrap64 (numB (takeP ys f1 1).1)) ByteArray.empty).trans (congrArg some hr))
  clear hr
  obtain ⟨zs, f2⟩ := zf
  simp only at hf2 ⊢
  have HZ := Lib.hid hzf
  clear hzf
  subst hf2
  go_enter Try.func87, Try.ntmps87
  go_wp2_with (first
    | (go_at_call 85; refine (number_k 1 B g ys f1 1 _ rfl (hr.below (below_alloc (Below.refl _ _) _)) hyl htb).mono ?_; rintro e w2 ⟨rfl, hr2, hf2⟩; rw [HZ.out] at hr2; simp only at hr2; have hv2 := hf2.blk (blk_new w1 _) hg1; have hu2 := hf2.blk (blk_alloc hv _) hgw; have c0 := blk_cell hv2 0; have c1 := blk_cell hv2 1; have c2 := blk_cell hv2 2; have z0 := blk_frozen hv2 0; have z1 := blk_frozen hv2 1; have z2 := blk_frozen hv2 2; have d0 := blk_cell hu2 0; have d1 := blk_cell hu2 1; have d2 := blk_cell hu2 2; have y0 := blk_frozen hu2 0; have y1 := blk_frozen hu2 1; have y2 := blk_frozen hu2 2)
    | (go_at_call 85; refine (NUM _).out.mono ?_; rintro e w1 ⟨rfl, hr, hf⟩; have hv := hf.blk (blk_new w _) hgw; have hw1 : w.heap.size < w1.heap.size := blk_lt hv; have hg1 : w1.heap.size ≠ g := (by have := hr.lt; omega); have hvB1 : ∀ k, k < B → ¬ k = w1.heap.size := (by omega); have hww : ¬ (w.heap.size = w1.heap.size) := (by omega))
    | (go_at_call 38; refine (easementref01_Right.calls _ _ _ false _ HRT.out).mono ?_; rintro e w3 ⟨rfl, hB3⟩; have hr3 := (hr2.fr (Fr.set w1.heap.size 1 (.int .i64 (wrap64 (numB (takeP ys f1 1).1)))) hvB1).below hB3; have hv3 := blk_below (blk_put hv2 1 (.int .i64 (wrap64 (numB (takeP ys f1 1).1))) rfl) hB3; have hu3 := blk_below (blk_far hu2 (p := ⟨w1.heap.size, 1, none⟩) hww (.int .i64 (wrap64 (numB (takeP ys f1 1).1)))) hB3; have c0 := blk_cell hv3 0; have c1 := blk_cell hv3 1; have c2 := blk_cell hv3 2; have z0 := blk_frozen hv3 0; have z1 := blk_frozen hv3 1; have z2 := blk_frozen hv3 2; have d0 := blk_cell hu3 0; have d1 := blk_cell hu3 1; have d2 := blk_cell hu3 2; have y0 := blk_frozen hu3 0; have y1 := blk_frozen hu3 1; have y2 := blk_frozen hu3 2; have e1 := hr3.cell1; have e2 := hr3.frozen1))
  refine bodyPost_ret (results_cell_row rfl _ _ w.heap.size 67 #[.int .u8 0, .int .i64 0, .string ByteArray.empty] (0, 0) _ rfl (ret3 (blk_far hu3 (p := ⟨g, 1, none⟩) hgw _) _ _ _) Try.underlying67 rfl (by kernel_rfl)) rfl ?_
  exact ⟨rfl, (((hr3.fail 10).put (p := ⟨w.heap.size, 0, none⟩) HV0 _).put (p := ⟨w.heap.size, 1, none⟩) HV0 _).put (p := ⟨w.heap.size, 2, none⟩) HV0 _, (((((((((Fr.alloc (S := (· = g)) _).trans hf).new _).trans hf2).put (p := ⟨w1.heap.size, 1, none⟩) (.inr (Nat.le_of_lt hw1)) (.int .i64 (wrap64 (numB (takeP ys f1 1).1)))).more hB3).put (p := ⟨g, 1, none⟩) (.inl rfl) _).put (p := ⟨w.heap.size, 0, none⟩) (.inr (Nat.le_refl _)) _).put (p := ⟨w.heap.size, 1, none⟩) (.inr (Nat.le_refl _)) _).put (p := ⟨w.heap.size, 2, none⟩) (.inr (Nat.le_refl _)) _⟩
set_option maxHeartbeats 4000000 in
set_option maxRecDepth 100000 in
theorem value_1_bad (B g : Nat) (xs : List Int) (f : Int) (w : World) (h : Rx w B g xs f) (hB : B ≤ w.heap.size) (hl : xs.length ≤ 140737488355328) (hbs : Bs xs) (hk : numB (takeP xs f 1).1 = 1) (ys : List Int) (f1 : Int) (hys : (takeP xs f 1).2 = (ys, f1)) (zf : List Int × Int) (hzf : (takeP ys f1 1).2 = zf) (hf2 : zf.2 ≠ 0) :
    Calls Try.prog 87 #[.pointer (some ⟨g, 0, none⟩)] w fun e w' => e = .returned (.agg #[.int .u8 0, .int .i64 0, .string ByteArray.empty]) ∧ Rx w' B g zf.1 zf.2 ∧ Fr (· = g) w w' := by
  have hnum := fun o => number_calls B g xs f 1 (w.alloc o) (h.below (below_alloc (Below.refl _ _) o)) hl hbs
  rw [show sizeP 1 = 1 from rfl] at hnum
  have htb := (takeP_bs hbs f 1).2
  have htf := takeP_left xs f 1
  generalize ht : takeP xs f 1 = t at *
  obtain ⟨bs, t2⟩ := t
  simp only at hnum htb htf hk hys
  subst hys
  rw [hk] at hnum
  have NUM := fun o => Lib.hid (hnum o)
  clear hnum ht hk
  simp only at htb htf
  have hyl : ys.length ≤ 140737488355328 := by omega
  have hgw : w.heap.size ≠ g := by have := h.lt; omega
  have hvB : ∀ k, k < B → ¬ k = w.heap.size := by omega
  have HV0 := hvB
  obtain ⟨rb, hrb⟩ : ∃ rb, rightV 1 (wrap64 (numB (takeP ys f1 1).1)) ByteArray.empty = rb := ⟨_, rfl⟩
  have HRT := Lib.hid ((refr 1 (wrap64 (numB (takeP ys f1 1).1)) ByteArray.empty).trans (congrArg some hrb))
  clear hrb
  obtain ⟨zs, f2⟩ := zf
  simp only at hf2 ⊢
  have HZ := Lib.hid hzf
  clear hzf
  have bf : (f2 == 0) = false := by rw [beq_eq_false_iff_ne]; exact hf2
  have bf' : (f2 != 0) = true := by simpa using hf2
  clear hf2
  go_enter Try.func87, Try.ntmps87
  go_wp2_with (first
    | (go_at_call 85; refine (number_k 1 B g ys f1 1 _ rfl (hr.below (below_alloc (Below.refl _ _) _)) hyl htb).mono ?_; rintro e w2 ⟨rfl, hr2, hf2⟩; rw [HZ.out] at hr2; simp only at hr2; have hv2 := hf2.blk (blk_new w1 _) hg1; have hu2 := hf2.blk (blk_alloc hv _) hgw; have c0 := blk_cell hv2 0; have c1 := blk_cell hv2 1; have c2 := blk_cell hv2 2; have z0 := blk_frozen hv2 0; have z1 := blk_frozen hv2 1; have z2 := blk_frozen hv2 2; have d0 := blk_cell hu2 0; have d1 := blk_cell hu2 1; have d2 := blk_cell hu2 2; have y0 := blk_frozen hu2 0; have y1 := blk_frozen hu2 1; have y2 := blk_frozen hu2 2)
    | (go_at_call 85; refine (NUM _).out.mono ?_; rintro e w1 ⟨rfl, hr, hf⟩; have hv := hf.blk (blk_new w _) hgw; have hw1 : w.heap.size < w1.heap.size := blk_lt hv; have hg1 : w1.heap.size ≠ g := (by have := hr.lt; omega); have hvB1 : ∀ k, k < B → ¬ k = w1.heap.size := (by omega); have hww : ¬ (w.heap.size = w1.heap.size) := (by omega))
    | (go_at_call 38; refine (easementref01_Right.calls _ _ _ rb _ HRT.out).mono ?_; rintro e w3 ⟨rfl, hB3⟩; have hr3 := (hr2.fr (Fr.set w1.heap.size 1 (.int .i64 (wrap64 (numB (takeP ys f1 1).1)))) hvB1).below hB3; have hv3 := blk_below (blk_put hv2 1 (.int .i64 (wrap64 (numB (takeP ys f1 1).1))) rfl) hB3; have hu3 := blk_below (blk_far hu2 (p := ⟨w1.heap.size, 1, none⟩) hww (.int .i64 (wrap64 (numB (takeP ys f1 1).1)))) hB3; have c0 := blk_cell hv3 0; have c1 := blk_cell hv3 1; have c2 := blk_cell hv3 2; have z0 := blk_frozen hv3 0; have z1 := blk_frozen hv3 1; have z2 := blk_frozen hv3 2; have d0 := blk_cell hu3 0; have d1 := blk_cell hu3 1; have d2 := blk_cell hu3 2; have y0 := blk_frozen hu3 0; have y1 := blk_frozen hu3 1; have y2 := blk_frozen hu3 2; have e1 := hr3.cell1; have e2 := hr3.frozen1))
  refine bodyPost_ret (results_cell_row rfl _ _ w.heap.size 67 #[.int .u8 0, .int .i64 0, .string ByteArray.empty] (0, 0) _ rfl (ret3 hu3 _ _ _) Try.underlying67 rfl (by kernel_rfl)) rfl ?_
  exact ⟨rfl, ((hr3.put (p := ⟨w.heap.size, 0, none⟩) HV0 _).put (p := ⟨w.heap.size, 1, none⟩) HV0 _).put (p := ⟨w.heap.size, 2, none⟩) HV0 _, ((((((((Fr.alloc (S := (· = g)) _).trans hf).new _).trans hf2).put (p := ⟨w1.heap.size, 1, none⟩) (.inr (Nat.le_of_lt hw1)) (.int .i64 (wrap64 (numB (takeP ys f1 1).1)))).more hB3).put (p := ⟨w.heap.size, 0, none⟩) (.inr (Nat.le_refl _)) _).put (p := ⟨w.heap.size, 1, none⟩) (.inr (Nat.le_refl _)) _).put (p := ⟨w.heap.size, 2, none⟩) (.inr (Nat.le_refl _)) _⟩
set_option maxHeartbeats 4000000 in
set_option maxRecDepth 100000 in
theorem value_2_ok (B g : Nat) (xs : List Int) (f : Int) (w : World) (h : Rx w B g xs f) (hB : B ≤ w.heap.size) (hl : xs.length ≤ 140737488355328) (hbs : Bs xs) (hk : numB (takeP xs f 1).1 = 2) (ys : List Int) (f1 : Int) (hys : (takeP xs f 1).2 = (ys, f1)) (zf : List Int × Int) (hzf : (takeP ys f1 8).2 = zf) (hf2 : zf.2 = 0) (hr : rightV 2 (wrap64 (numB (takeP ys f1 8).1)) ByteArray.empty = true) :
    Calls Try.prog 87 #[.pointer (some ⟨g, 0, none⟩)] w fun e w' => e = .returned (.agg #[.int .u8 2, .int .i64 (wrap64 (numB (takeP ys f1 8).1)), .string ByteArray.empty]) ∧ Rx w' B g zf.1 0 ∧ Fr (· = g) w w' := by
  have hnum := fun o => number_calls B g xs f 1 (w.alloc o) (h.below (below_alloc (Below.refl _ _) o)) hl hbs
  rw [show sizeP 1 = 1 from rfl] at hnum
  have htb := (takeP_bs hbs f 1).2
  have htf := takeP_left xs f 1
  generalize ht : takeP xs f 1 = t at *
  obtain ⟨bs, t2⟩ := t
  simp only at hnum htb htf hk hys
  subst hys
  rw [hk] at hnum
  have NUM := fun o => Lib.hid (hnum o)
  clear hnum ht hk
  simp only at htb htf
  have hyl : ys.length ≤ 140737488355328 := by omega
  have hgw : w.heap.size ≠ g := by have := h.lt; omega
  have hvB : ∀ k, k < B → ¬ k = w.heap.size := by omega
  have HV0 := hvB
  have HRT := Lib.hid ((refr 2 (wrap64 (numB (takeP ys f1 8).1)) ByteArray.empty).trans (congrArg some hr))
  clear hr
  obtain ⟨zs, f2⟩ := zf
  simp only at hf2 ⊢
  have HZ := Lib.hid hzf
  clear hzf
  subst hf2
  go_enter Try.func87, Try.ntmps87
  go_wp2_with (first
    | (go_at_call 85; refine (number_k 8 B g ys f1 8 _ rfl (hr.below (below_alloc (Below.refl _ _) _)) hyl htb).mono ?_; rintro e w2 ⟨rfl, hr2, hf2⟩; rw [HZ.out] at hr2; simp only at hr2; have hv2 := hf2.blk (blk_new w1 _) hg1; have hu2 := hf2.blk (blk_alloc hv _) hgw; have c0 := blk_cell hv2 0; have c1 := blk_cell hv2 1; have c2 := blk_cell hv2 2; have z0 := blk_frozen hv2 0; have z1 := blk_frozen hv2 1; have z2 := blk_frozen hv2 2; have d0 := blk_cell hu2 0; have d1 := blk_cell hu2 1; have d2 := blk_cell hu2 2; have y0 := blk_frozen hu2 0; have y1 := blk_frozen hu2 1; have y2 := blk_frozen hu2 2)
    | (go_at_call 85; refine (NUM _).out.mono ?_; rintro e w1 ⟨rfl, hr, hf⟩; have hv := hf.blk (blk_new w _) hgw; have hw1 : w.heap.size < w1.heap.size := blk_lt hv; have hg1 : w1.heap.size ≠ g := (by have := hr.lt; omega); have hvB1 : ∀ k, k < B → ¬ k = w1.heap.size := (by omega); have hww : ¬ (w.heap.size = w1.heap.size) := (by omega))
    | (go_at_call 38; refine (easementref01_Right.calls _ _ _ true _ HRT.out).mono ?_; rintro e w3 ⟨rfl, hB3⟩; have hr3 := (hr2.fr (Fr.set w1.heap.size 1 (.int .i64 (wrap64 (numB (takeP ys f1 8).1)))) hvB1).below hB3; have hv3 := blk_below (blk_put hv2 1 (.int .i64 (wrap64 (numB (takeP ys f1 8).1))) rfl) hB3; have hu3 := blk_below (blk_far hu2 (p := ⟨w1.heap.size, 1, none⟩) hww (.int .i64 (wrap64 (numB (takeP ys f1 8).1)))) hB3; have c0 := blk_cell hv3 0; have c1 := blk_cell hv3 1; have c2 := blk_cell hv3 2; have z0 := blk_frozen hv3 0; have z1 := blk_frozen hv3 1; have z2 := blk_frozen hv3 2; have d0 := blk_cell hu3 0; have d1 := blk_cell hu3 1; have d2 := blk_cell hu3 2; have y0 := blk_frozen hu3 0; have y1 := blk_frozen hu3 1; have y2 := blk_frozen hu3 2; have e1 := hr3.cell1; have e2 := hr3.frozen1))
  refine bodyPost_ret (results_cell_row rfl _ _ w.heap.size 67 #[.int .u8 2, .int .i64 (wrap64 (numB (takeP ys f1 8).1)), .string ByteArray.empty] (0, 0) _ rfl (ret3 hu3 _ _ _) Try.underlying67 rfl (by kernel_rfl)) rfl ?_
  exact ⟨rfl, ((hr3.put (p := ⟨w.heap.size, 0, none⟩) HV0 _).put (p := ⟨w.heap.size, 1, none⟩) HV0 _).put (p := ⟨w.heap.size, 2, none⟩) HV0 _, ((((((((Fr.alloc (S := (· = g)) _).trans hf).new _).trans hf2).put (p := ⟨w1.heap.size, 1, none⟩) (.inr (Nat.le_of_lt hw1)) (.int .i64 (wrap64 (numB (takeP ys f1 8).1)))).more hB3).put (p := ⟨w.heap.size, 0, none⟩) (.inr (Nat.le_refl _)) _).put (p := ⟨w.heap.size, 1, none⟩) (.inr (Nat.le_refl _)) _).put (p := ⟨w.heap.size, 2, none⟩) (.inr (Nat.le_refl _)) _⟩
set_option maxHeartbeats 4000000 in
set_option maxRecDepth 100000 in
theorem value_2_form (B g : Nat) (xs : List Int) (f : Int) (w : World) (h : Rx w B g xs f) (hB : B ≤ w.heap.size) (hl : xs.length ≤ 140737488355328) (hbs : Bs xs) (hk : numB (takeP xs f 1).1 = 2) (ys : List Int) (f1 : Int) (hys : (takeP xs f 1).2 = (ys, f1)) (zf : List Int × Int) (hzf : (takeP ys f1 8).2 = zf) (hf2 : zf.2 = 0) (hr : rightV 2 (wrap64 (numB (takeP ys f1 8).1)) ByteArray.empty = false) :
    Calls Try.prog 87 #[.pointer (some ⟨g, 0, none⟩)] w fun e w' => e = .returned (.agg #[.int .u8 0, .int .i64 0, .string ByteArray.empty]) ∧ Rx w' B g zf.1 10 ∧ Fr (· = g) w w' := by
  have hnum := fun o => number_calls B g xs f 1 (w.alloc o) (h.below (below_alloc (Below.refl _ _) o)) hl hbs
  rw [show sizeP 1 = 1 from rfl] at hnum
  have htb := (takeP_bs hbs f 1).2
  have htf := takeP_left xs f 1
  generalize ht : takeP xs f 1 = t at *
  obtain ⟨bs, t2⟩ := t
  simp only at hnum htb htf hk hys
  subst hys
  rw [hk] at hnum
  have NUM := fun o => Lib.hid (hnum o)
  clear hnum ht hk
  simp only at htb htf
  have hyl : ys.length ≤ 140737488355328 := by omega
  have hgw : w.heap.size ≠ g := by have := h.lt; omega
  have hvB : ∀ k, k < B → ¬ k = w.heap.size := by omega
  have HV0 := hvB
  have HRT := Lib.hid ((refr 2 (wrap64 (numB (takeP ys f1 8).1)) ByteArray.empty).trans (congrArg some hr))
  clear hr
  obtain ⟨zs, f2⟩ := zf
  simp only at hf2 ⊢
  have HZ := Lib.hid hzf
  clear hzf
  subst hf2
  go_enter Try.func87, Try.ntmps87
  go_wp2_with (first
    | (go_at_call 85; refine (number_k 8 B g ys f1 8 _ rfl (hr.below (below_alloc (Below.refl _ _) _)) hyl htb).mono ?_; rintro e w2 ⟨rfl, hr2, hf2⟩; rw [HZ.out] at hr2; simp only at hr2; have hv2 := hf2.blk (blk_new w1 _) hg1; have hu2 := hf2.blk (blk_alloc hv _) hgw; have c0 := blk_cell hv2 0; have c1 := blk_cell hv2 1; have c2 := blk_cell hv2 2; have z0 := blk_frozen hv2 0; have z1 := blk_frozen hv2 1; have z2 := blk_frozen hv2 2; have d0 := blk_cell hu2 0; have d1 := blk_cell hu2 1; have d2 := blk_cell hu2 2; have y0 := blk_frozen hu2 0; have y1 := blk_frozen hu2 1; have y2 := blk_frozen hu2 2)
    | (go_at_call 85; refine (NUM _).out.mono ?_; rintro e w1 ⟨rfl, hr, hf⟩; have hv := hf.blk (blk_new w _) hgw; have hw1 : w.heap.size < w1.heap.size := blk_lt hv; have hg1 : w1.heap.size ≠ g := (by have := hr.lt; omega); have hvB1 : ∀ k, k < B → ¬ k = w1.heap.size := (by omega); have hww : ¬ (w.heap.size = w1.heap.size) := (by omega))
    | (go_at_call 38; refine (easementref01_Right.calls _ _ _ false _ HRT.out).mono ?_; rintro e w3 ⟨rfl, hB3⟩; have hr3 := (hr2.fr (Fr.set w1.heap.size 1 (.int .i64 (wrap64 (numB (takeP ys f1 8).1)))) hvB1).below hB3; have hv3 := blk_below (blk_put hv2 1 (.int .i64 (wrap64 (numB (takeP ys f1 8).1))) rfl) hB3; have hu3 := blk_below (blk_far hu2 (p := ⟨w1.heap.size, 1, none⟩) hww (.int .i64 (wrap64 (numB (takeP ys f1 8).1)))) hB3; have c0 := blk_cell hv3 0; have c1 := blk_cell hv3 1; have c2 := blk_cell hv3 2; have z0 := blk_frozen hv3 0; have z1 := blk_frozen hv3 1; have z2 := blk_frozen hv3 2; have d0 := blk_cell hu3 0; have d1 := blk_cell hu3 1; have d2 := blk_cell hu3 2; have y0 := blk_frozen hu3 0; have y1 := blk_frozen hu3 1; have y2 := blk_frozen hu3 2; have e1 := hr3.cell1; have e2 := hr3.frozen1))
  refine bodyPost_ret (results_cell_row rfl _ _ w.heap.size 67 #[.int .u8 0, .int .i64 0, .string ByteArray.empty] (0, 0) _ rfl (ret3 (blk_far hu3 (p := ⟨g, 1, none⟩) hgw _) _ _ _) Try.underlying67 rfl (by kernel_rfl)) rfl ?_
  exact ⟨rfl, (((hr3.fail 10).put (p := ⟨w.heap.size, 0, none⟩) HV0 _).put (p := ⟨w.heap.size, 1, none⟩) HV0 _).put (p := ⟨w.heap.size, 2, none⟩) HV0 _, (((((((((Fr.alloc (S := (· = g)) _).trans hf).new _).trans hf2).put (p := ⟨w1.heap.size, 1, none⟩) (.inr (Nat.le_of_lt hw1)) (.int .i64 (wrap64 (numB (takeP ys f1 8).1)))).more hB3).put (p := ⟨g, 1, none⟩) (.inl rfl) _).put (p := ⟨w.heap.size, 0, none⟩) (.inr (Nat.le_refl _)) _).put (p := ⟨w.heap.size, 1, none⟩) (.inr (Nat.le_refl _)) _).put (p := ⟨w.heap.size, 2, none⟩) (.inr (Nat.le_refl _)) _⟩
set_option maxHeartbeats 4000000 in
set_option maxRecDepth 100000 in
theorem value_2_bad (B g : Nat) (xs : List Int) (f : Int) (w : World) (h : Rx w B g xs f) (hB : B ≤ w.heap.size) (hl : xs.length ≤ 140737488355328) (hbs : Bs xs) (hk : numB (takeP xs f 1).1 = 2) (ys : List Int) (f1 : Int) (hys : (takeP xs f 1).2 = (ys, f1)) (zf : List Int × Int) (hzf : (takeP ys f1 8).2 = zf) (hf2 : zf.2 ≠ 0) :
    Calls Try.prog 87 #[.pointer (some ⟨g, 0, none⟩)] w fun e w' => e = .returned (.agg #[.int .u8 0, .int .i64 0, .string ByteArray.empty]) ∧ Rx w' B g zf.1 zf.2 ∧ Fr (· = g) w w' := by
  have hnum := fun o => number_calls B g xs f 1 (w.alloc o) (h.below (below_alloc (Below.refl _ _) o)) hl hbs
  rw [show sizeP 1 = 1 from rfl] at hnum
  have htb := (takeP_bs hbs f 1).2
  have htf := takeP_left xs f 1
  generalize ht : takeP xs f 1 = t at *
  obtain ⟨bs, t2⟩ := t
  simp only at hnum htb htf hk hys
  subst hys
  rw [hk] at hnum
  have NUM := fun o => Lib.hid (hnum o)
  clear hnum ht hk
  simp only at htb htf
  have hyl : ys.length ≤ 140737488355328 := by omega
  have hgw : w.heap.size ≠ g := by have := h.lt; omega
  have hvB : ∀ k, k < B → ¬ k = w.heap.size := by omega
  have HV0 := hvB
  obtain ⟨rb, hrb⟩ : ∃ rb, rightV 2 (wrap64 (numB (takeP ys f1 8).1)) ByteArray.empty = rb := ⟨_, rfl⟩
  have HRT := Lib.hid ((refr 2 (wrap64 (numB (takeP ys f1 8).1)) ByteArray.empty).trans (congrArg some hrb))
  clear hrb
  obtain ⟨zs, f2⟩ := zf
  simp only at hf2 ⊢
  have HZ := Lib.hid hzf
  clear hzf
  have bf : (f2 == 0) = false := by rw [beq_eq_false_iff_ne]; exact hf2
  have bf' : (f2 != 0) = true := by simpa using hf2
  clear hf2
  go_enter Try.func87, Try.ntmps87
  go_wp2_with (first
    | (go_at_call 85; refine (number_k 8 B g ys f1 8 _ rfl (hr.below (below_alloc (Below.refl _ _) _)) hyl htb).mono ?_; rintro e w2 ⟨rfl, hr2, hf2⟩; rw [HZ.out] at hr2; simp only at hr2; have hv2 := hf2.blk (blk_new w1 _) hg1; have hu2 := hf2.blk (blk_alloc hv _) hgw; have c0 := blk_cell hv2 0; have c1 := blk_cell hv2 1; have c2 := blk_cell hv2 2; have z0 := blk_frozen hv2 0; have z1 := blk_frozen hv2 1; have z2 := blk_frozen hv2 2; have d0 := blk_cell hu2 0; have d1 := blk_cell hu2 1; have d2 := blk_cell hu2 2; have y0 := blk_frozen hu2 0; have y1 := blk_frozen hu2 1; have y2 := blk_frozen hu2 2)
    | (go_at_call 85; refine (NUM _).out.mono ?_; rintro e w1 ⟨rfl, hr, hf⟩; have hv := hf.blk (blk_new w _) hgw; have hw1 : w.heap.size < w1.heap.size := blk_lt hv; have hg1 : w1.heap.size ≠ g := (by have := hr.lt; omega); have hvB1 : ∀ k, k < B → ¬ k = w1.heap.size := (by omega); have hww : ¬ (w.heap.size = w1.heap.size) := (by omega))
    | (go_at_call 38; refine (easementref01_Right.calls _ _ _ rb _ HRT.out).mono ?_; rintro e w3 ⟨rfl, hB3⟩; have hr3 := (hr2.fr (Fr.set w1.heap.size 1 (.int .i64 (wrap64 (numB (takeP ys f1 8).1)))) hvB1).below hB3; have hv3 := blk_below (blk_put hv2 1 (.int .i64 (wrap64 (numB (takeP ys f1 8).1))) rfl) hB3; have hu3 := blk_below (blk_far hu2 (p := ⟨w1.heap.size, 1, none⟩) hww (.int .i64 (wrap64 (numB (takeP ys f1 8).1)))) hB3; have c0 := blk_cell hv3 0; have c1 := blk_cell hv3 1; have c2 := blk_cell hv3 2; have z0 := blk_frozen hv3 0; have z1 := blk_frozen hv3 1; have z2 := blk_frozen hv3 2; have d0 := blk_cell hu3 0; have d1 := blk_cell hu3 1; have d2 := blk_cell hu3 2; have y0 := blk_frozen hu3 0; have y1 := blk_frozen hu3 1; have y2 := blk_frozen hu3 2; have e1 := hr3.cell1; have e2 := hr3.frozen1))
  refine bodyPost_ret (results_cell_row rfl _ _ w.heap.size 67 #[.int .u8 0, .int .i64 0, .string ByteArray.empty] (0, 0) _ rfl (ret3 hu3 _ _ _) Try.underlying67 rfl (by kernel_rfl)) rfl ?_
  exact ⟨rfl, ((hr3.put (p := ⟨w.heap.size, 0, none⟩) HV0 _).put (p := ⟨w.heap.size, 1, none⟩) HV0 _).put (p := ⟨w.heap.size, 2, none⟩) HV0 _, ((((((((Fr.alloc (S := (· = g)) _).trans hf).new _).trans hf2).put (p := ⟨w1.heap.size, 1, none⟩) (.inr (Nat.le_of_lt hw1)) (.int .i64 (wrap64 (numB (takeP ys f1 8).1)))).more hB3).put (p := ⟨w.heap.size, 0, none⟩) (.inr (Nat.le_refl _)) _).put (p := ⟨w.heap.size, 1, none⟩) (.inr (Nat.le_refl _)) _).put (p := ⟨w.heap.size, 2, none⟩) (.inr (Nat.le_refl _)) _⟩
set_option maxHeartbeats 4000000 in
set_option maxRecDepth 100000 in
theorem value_3_ok (B g : Nat) (xs : List Int) (f : Int) (w : World) (h : Rx w B g xs f) (hB : B ≤ w.heap.size) (hl : xs.length ≤ 140737488355328) (hbs : Bs xs) (hk : numB (takeP xs f 1).1 = 3) (ys : List Int) (f1 : Int) (hys : (takeP xs f 1).2 = (ys, f1)) (zf : List Int × Int) (hzf : (textP ys f1 4096).2 = zf) (hf2 : zf.2 = 0) (hr : rightV 3 0 (strOfNums (textP ys f1 4096).1) = true) :
    Calls Try.prog 87 #[.pointer (some ⟨g, 0, none⟩)] w fun e w' => e = .returned (.agg #[.int .u8 3, .int .i64 0, .string (strOfNums (textP ys f1 4096).1)]) ∧ Rx w' B g zf.1 0 ∧ Fr (· = g) w w' := by
  have hnum := fun o => number_calls B g xs f 1 (w.alloc o) (h.below (below_alloc (Below.refl _ _) o)) hl hbs
  rw [show sizeP 1 = 1 from rfl] at hnum
  have htb := (takeP_bs hbs f 1).2
  have htf := takeP_left xs f 1
  generalize ht : takeP xs f 1 = t at *
  obtain ⟨bs, t2⟩ := t
  simp only at hnum htb htf hk hys
  subst hys
  rw [hk] at hnum
  have NUM := fun o => Lib.hid (hnum o)
  clear hnum ht hk
  simp only at htb htf
  have hyl : ys.length ≤ 140737488355328 := by omega
  have hgw : w.heap.size ≠ g := by have := h.lt; omega
  have hvB : ∀ k, k < B → ¬ k = w.heap.size := by omega
  have HV0 := hvB
  have HRT := Lib.hid ((refr 3 0 (strOfNums (textP ys f1 4096).1)).trans (congrArg some hr))
  clear hr
  obtain ⟨zs, f2⟩ := zf
  simp only at hf2 ⊢
  have HZ := Lib.hid hzf
  clear hzf
  subst hf2
  go_enter Try.func87, Try.ntmps87
  go_wp2_with (first
    | (go_at_call 100; refine (text_calls B g ys f1 4096 _ (hr.below (below_alloc (Below.refl _ _) _)) hyl htb).mono ?_; rintro e w2 ⟨rfl, hr2, hf2⟩; rw [HZ.out] at hr2; simp only at hr2; have hv2 := hf2.blk (blk_new w1 _) hg1; have hu2 := hf2.blk (blk_alloc hv _) hgw; have c0 := blk_cell hv2 0; have c1 := blk_cell hv2 1; have c2 := blk_cell hv2 2; have z0 := blk_frozen hv2 0; have z1 := blk_frozen hv2 1; have z2 := blk_frozen hv2 2; have d0 := blk_cell hu2 0; have d1 := blk_cell hu2 1; have d2 := blk_cell hu2 2; have y0 := blk_frozen hu2 0; have y1 := blk_frozen hu2 1; have y2 := blk_frozen hu2 2)
    | (go_at_call 85; refine (NUM _).out.mono ?_; rintro e w1 ⟨rfl, hr, hf⟩; have hv := hf.blk (blk_new w _) hgw; have hw1 : w.heap.size < w1.heap.size := blk_lt hv; have hg1 : w1.heap.size ≠ g := (by have := hr.lt; omega); have hvB1 : ∀ k, k < B → ¬ k = w1.heap.size := (by omega); have hww : ¬ (w.heap.size = w1.heap.size) := (by omega))
    | (go_at_call 38; refine (easementref01_Right.calls _ _ _ true _ HRT.out).mono ?_; rintro e w3 ⟨rfl, hB3⟩; have hr3 := (hr2.fr (Fr.set w1.heap.size 2 (.string (strOfNums (textP ys f1 4096).1))) hvB1).below hB3; have hv3 := blk_below (blk_put hv2 2 (.string (strOfNums (textP ys f1 4096).1)) rfl) hB3; have hu3 := blk_below (blk_far hu2 (p := ⟨w1.heap.size, 2, none⟩) hww (.string (strOfNums (textP ys f1 4096).1))) hB3; have c0 := blk_cell hv3 0; have c1 := blk_cell hv3 1; have c2 := blk_cell hv3 2; have z0 := blk_frozen hv3 0; have z1 := blk_frozen hv3 1; have z2 := blk_frozen hv3 2; have d0 := blk_cell hu3 0; have d1 := blk_cell hu3 1; have d2 := blk_cell hu3 2; have y0 := blk_frozen hu3 0; have y1 := blk_frozen hu3 1; have y2 := blk_frozen hu3 2; have e1 := hr3.cell1; have e2 := hr3.frozen1))
  refine bodyPost_ret (results_cell_row rfl _ _ w.heap.size 67 #[.int .u8 3, .int .i64 0, .string (strOfNums (textP ys f1 4096).1)] (0, 0) _ rfl (ret3 hu3 _ _ _) Try.underlying67 rfl (by kernel_rfl)) rfl ?_
  exact ⟨rfl, ((hr3.put (p := ⟨w.heap.size, 0, none⟩) HV0 _).put (p := ⟨w.heap.size, 1, none⟩) HV0 _).put (p := ⟨w.heap.size, 2, none⟩) HV0 _, ((((((((Fr.alloc (S := (· = g)) _).trans hf).new _).trans hf2).put (p := ⟨w1.heap.size, 2, none⟩) (.inr (Nat.le_of_lt hw1)) (.string (strOfNums (textP ys f1 4096).1))).more hB3).put (p := ⟨w.heap.size, 0, none⟩) (.inr (Nat.le_refl _)) _).put (p := ⟨w.heap.size, 1, none⟩) (.inr (Nat.le_refl _)) _).put (p := ⟨w.heap.size, 2, none⟩) (.inr (Nat.le_refl _)) _⟩
set_option maxHeartbeats 4000000 in
set_option maxRecDepth 100000 in
theorem value_3_form (B g : Nat) (xs : List Int) (f : Int) (w : World) (h : Rx w B g xs f) (hB : B ≤ w.heap.size) (hl : xs.length ≤ 140737488355328) (hbs : Bs xs) (hk : numB (takeP xs f 1).1 = 3) (ys : List Int) (f1 : Int) (hys : (takeP xs f 1).2 = (ys, f1)) (zf : List Int × Int) (hzf : (textP ys f1 4096).2 = zf) (hf2 : zf.2 = 0) (hr : rightV 3 0 (strOfNums (textP ys f1 4096).1) = false) :
    Calls Try.prog 87 #[.pointer (some ⟨g, 0, none⟩)] w fun e w' => e = .returned (.agg #[.int .u8 0, .int .i64 0, .string ByteArray.empty]) ∧ Rx w' B g zf.1 10 ∧ Fr (· = g) w w' := by
  have hnum := fun o => number_calls B g xs f 1 (w.alloc o) (h.below (below_alloc (Below.refl _ _) o)) hl hbs
  rw [show sizeP 1 = 1 from rfl] at hnum
  have htb := (takeP_bs hbs f 1).2
  have htf := takeP_left xs f 1
  generalize ht : takeP xs f 1 = t at *
  obtain ⟨bs, t2⟩ := t
  simp only at hnum htb htf hk hys
  subst hys
  rw [hk] at hnum
  have NUM := fun o => Lib.hid (hnum o)
  clear hnum ht hk
  simp only at htb htf
  have hyl : ys.length ≤ 140737488355328 := by omega
  have hgw : w.heap.size ≠ g := by have := h.lt; omega
  have hvB : ∀ k, k < B → ¬ k = w.heap.size := by omega
  have HV0 := hvB
  have HRT := Lib.hid ((refr 3 0 (strOfNums (textP ys f1 4096).1)).trans (congrArg some hr))
  clear hr
  obtain ⟨zs, f2⟩ := zf
  simp only at hf2 ⊢
  have HZ := Lib.hid hzf
  clear hzf
  subst hf2
  go_enter Try.func87, Try.ntmps87
  go_wp2_with (first
    | (go_at_call 100; refine (text_calls B g ys f1 4096 _ (hr.below (below_alloc (Below.refl _ _) _)) hyl htb).mono ?_; rintro e w2 ⟨rfl, hr2, hf2⟩; rw [HZ.out] at hr2; simp only at hr2; have hv2 := hf2.blk (blk_new w1 _) hg1; have hu2 := hf2.blk (blk_alloc hv _) hgw; have c0 := blk_cell hv2 0; have c1 := blk_cell hv2 1; have c2 := blk_cell hv2 2; have z0 := blk_frozen hv2 0; have z1 := blk_frozen hv2 1; have z2 := blk_frozen hv2 2; have d0 := blk_cell hu2 0; have d1 := blk_cell hu2 1; have d2 := blk_cell hu2 2; have y0 := blk_frozen hu2 0; have y1 := blk_frozen hu2 1; have y2 := blk_frozen hu2 2)
    | (go_at_call 85; refine (NUM _).out.mono ?_; rintro e w1 ⟨rfl, hr, hf⟩; have hv := hf.blk (blk_new w _) hgw; have hw1 : w.heap.size < w1.heap.size := blk_lt hv; have hg1 : w1.heap.size ≠ g := (by have := hr.lt; omega); have hvB1 : ∀ k, k < B → ¬ k = w1.heap.size := (by omega); have hww : ¬ (w.heap.size = w1.heap.size) := (by omega))
    | (go_at_call 38; refine (easementref01_Right.calls _ _ _ false _ HRT.out).mono ?_; rintro e w3 ⟨rfl, hB3⟩; have hr3 := (hr2.fr (Fr.set w1.heap.size 2 (.string (strOfNums (textP ys f1 4096).1))) hvB1).below hB3; have hv3 := blk_below (blk_put hv2 2 (.string (strOfNums (textP ys f1 4096).1)) rfl) hB3; have hu3 := blk_below (blk_far hu2 (p := ⟨w1.heap.size, 2, none⟩) hww (.string (strOfNums (textP ys f1 4096).1))) hB3; have c0 := blk_cell hv3 0; have c1 := blk_cell hv3 1; have c2 := blk_cell hv3 2; have z0 := blk_frozen hv3 0; have z1 := blk_frozen hv3 1; have z2 := blk_frozen hv3 2; have d0 := blk_cell hu3 0; have d1 := blk_cell hu3 1; have d2 := blk_cell hu3 2; have y0 := blk_frozen hu3 0; have y1 := blk_frozen hu3 1; have y2 := blk_frozen hu3 2; have e1 := hr3.cell1; have e2 := hr3.frozen1))
  refine bodyPost_ret (results_cell_row rfl _ _ w.heap.size 67 #[.int .u8 0, .int .i64 0, .string ByteArray.empty] (0, 0) _ rfl (ret3 (blk_far hu3 (p := ⟨g, 1, none⟩) hgw _) _ _ _) Try.underlying67 rfl (by kernel_rfl)) rfl ?_
  exact ⟨rfl, (((hr3.fail 10).put (p := ⟨w.heap.size, 0, none⟩) HV0 _).put (p := ⟨w.heap.size, 1, none⟩) HV0 _).put (p := ⟨w.heap.size, 2, none⟩) HV0 _, (((((((((Fr.alloc (S := (· = g)) _).trans hf).new _).trans hf2).put (p := ⟨w1.heap.size, 2, none⟩) (.inr (Nat.le_of_lt hw1)) (.string (strOfNums (textP ys f1 4096).1))).more hB3).put (p := ⟨g, 1, none⟩) (.inl rfl) _).put (p := ⟨w.heap.size, 0, none⟩) (.inr (Nat.le_refl _)) _).put (p := ⟨w.heap.size, 1, none⟩) (.inr (Nat.le_refl _)) _).put (p := ⟨w.heap.size, 2, none⟩) (.inr (Nat.le_refl _)) _⟩
set_option maxHeartbeats 4000000 in
set_option maxRecDepth 100000 in
theorem value_3_bad (B g : Nat) (xs : List Int) (f : Int) (w : World) (h : Rx w B g xs f) (hB : B ≤ w.heap.size) (hl : xs.length ≤ 140737488355328) (hbs : Bs xs) (hk : numB (takeP xs f 1).1 = 3) (ys : List Int) (f1 : Int) (hys : (takeP xs f 1).2 = (ys, f1)) (zf : List Int × Int) (hzf : (textP ys f1 4096).2 = zf) (hf2 : zf.2 ≠ 0) :
    Calls Try.prog 87 #[.pointer (some ⟨g, 0, none⟩)] w fun e w' => e = .returned (.agg #[.int .u8 0, .int .i64 0, .string ByteArray.empty]) ∧ Rx w' B g zf.1 zf.2 ∧ Fr (· = g) w w' := by
  have hnum := fun o => number_calls B g xs f 1 (w.alloc o) (h.below (below_alloc (Below.refl _ _) o)) hl hbs
  rw [show sizeP 1 = 1 from rfl] at hnum
  have htb := (takeP_bs hbs f 1).2
  have htf := takeP_left xs f 1
  generalize ht : takeP xs f 1 = t at *
  obtain ⟨bs, t2⟩ := t
  simp only at hnum htb htf hk hys
  subst hys
  rw [hk] at hnum
  have NUM := fun o => Lib.hid (hnum o)
  clear hnum ht hk
  simp only at htb htf
  have hyl : ys.length ≤ 140737488355328 := by omega
  have hgw : w.heap.size ≠ g := by have := h.lt; omega
  have hvB : ∀ k, k < B → ¬ k = w.heap.size := by omega
  have HV0 := hvB
  obtain ⟨rb, hrb⟩ : ∃ rb, rightV 3 0 (strOfNums (textP ys f1 4096).1) = rb := ⟨_, rfl⟩
  have HRT := Lib.hid ((refr 3 0 (strOfNums (textP ys f1 4096).1)).trans (congrArg some hrb))
  clear hrb
  obtain ⟨zs, f2⟩ := zf
  simp only at hf2 ⊢
  have HZ := Lib.hid hzf
  clear hzf
  have bf : (f2 == 0) = false := by rw [beq_eq_false_iff_ne]; exact hf2
  have bf' : (f2 != 0) = true := by simpa using hf2
  clear hf2
  go_enter Try.func87, Try.ntmps87
  go_wp2_with (first
    | (go_at_call 100; refine (text_calls B g ys f1 4096 _ (hr.below (below_alloc (Below.refl _ _) _)) hyl htb).mono ?_; rintro e w2 ⟨rfl, hr2, hf2⟩; rw [HZ.out] at hr2; simp only at hr2; have hv2 := hf2.blk (blk_new w1 _) hg1; have hu2 := hf2.blk (blk_alloc hv _) hgw; have c0 := blk_cell hv2 0; have c1 := blk_cell hv2 1; have c2 := blk_cell hv2 2; have z0 := blk_frozen hv2 0; have z1 := blk_frozen hv2 1; have z2 := blk_frozen hv2 2; have d0 := blk_cell hu2 0; have d1 := blk_cell hu2 1; have d2 := blk_cell hu2 2; have y0 := blk_frozen hu2 0; have y1 := blk_frozen hu2 1; have y2 := blk_frozen hu2 2)
    | (go_at_call 85; refine (NUM _).out.mono ?_; rintro e w1 ⟨rfl, hr, hf⟩; have hv := hf.blk (blk_new w _) hgw; have hw1 : w.heap.size < w1.heap.size := blk_lt hv; have hg1 : w1.heap.size ≠ g := (by have := hr.lt; omega); have hvB1 : ∀ k, k < B → ¬ k = w1.heap.size := (by omega); have hww : ¬ (w.heap.size = w1.heap.size) := (by omega))
    | (go_at_call 38; refine (easementref01_Right.calls _ _ _ rb _ HRT.out).mono ?_; rintro e w3 ⟨rfl, hB3⟩; have hr3 := (hr2.fr (Fr.set w1.heap.size 2 (.string (strOfNums (textP ys f1 4096).1))) hvB1).below hB3; have hv3 := blk_below (blk_put hv2 2 (.string (strOfNums (textP ys f1 4096).1)) rfl) hB3; have hu3 := blk_below (blk_far hu2 (p := ⟨w1.heap.size, 2, none⟩) hww (.string (strOfNums (textP ys f1 4096).1))) hB3; have c0 := blk_cell hv3 0; have c1 := blk_cell hv3 1; have c2 := blk_cell hv3 2; have z0 := blk_frozen hv3 0; have z1 := blk_frozen hv3 1; have z2 := blk_frozen hv3 2; have d0 := blk_cell hu3 0; have d1 := blk_cell hu3 1; have d2 := blk_cell hu3 2; have y0 := blk_frozen hu3 0; have y1 := blk_frozen hu3 1; have y2 := blk_frozen hu3 2; have e1 := hr3.cell1; have e2 := hr3.frozen1))
  refine bodyPost_ret (results_cell_row rfl _ _ w.heap.size 67 #[.int .u8 0, .int .i64 0, .string ByteArray.empty] (0, 0) _ rfl (ret3 hu3 _ _ _) Try.underlying67 rfl (by kernel_rfl)) rfl ?_
  exact ⟨rfl, ((hr3.put (p := ⟨w.heap.size, 0, none⟩) HV0 _).put (p := ⟨w.heap.size, 1, none⟩) HV0 _).put (p := ⟨w.heap.size, 2, none⟩) HV0 _, ((((((((Fr.alloc (S := (· = g)) _).trans hf).new _).trans hf2).put (p := ⟨w1.heap.size, 2, none⟩) (.inr (Nat.le_of_lt hw1)) (.string (strOfNums (textP ys f1 4096).1))).more hB3).put (p := ⟨w.heap.size, 0, none⟩) (.inr (Nat.le_refl _)) _).put (p := ⟨w.heap.size, 1, none⟩) (.inr (Nat.le_refl _)) _).put (p := ⟨w.heap.size, 2, none⟩) (.inr (Nat.le_refl _)) _⟩
set_option maxHeartbeats 4000000 in
set_option maxRecDepth 100000 in
theorem value_0_ok (B g : Nat) (xs : List Int) (f : Int) (w : World) (h : Rx w B g xs f) (hB : B ≤ w.heap.size) (hl : xs.length ≤ 140737488355328) (hbs : Bs xs) (k : Int) (hk : numB (takeP xs f 1).1 = k) (hk0 : 0 ≤ k) (hk255 : k ≤ 255) (hk1 : k ≠ 1) (hk2 : k ≠ 2) (hk3 : k ≠ 3) (ys : List Int) (f1 : Int) (hys : (takeP xs f 1).2 = (ys, f1)) (zf : List Int × Int) (hzf : (ys, f1) = zf) (hf2 : zf.2 = 0) (hr : rightV k 0 ByteArray.empty = true) :
    Calls Try.prog 87 #[.pointer (some ⟨g, 0, none⟩)] w fun e w' => e = .returned (.agg #[.int .u8 k, .int .i64 0, .string ByteArray.empty]) ∧ Rx w' B g zf.1 0 ∧ Fr (· = g) w w' := by
  have hnum := fun o => number_calls B g xs f 1 (w.alloc o) (h.below (below_alloc (Below.refl _ _) o)) hl hbs
  rw [show sizeP 1 = 1 from rfl] at hnum
  have htb := (takeP_bs hbs f 1).2
  have htf := takeP_left xs f 1
  generalize ht : takeP xs f 1 = t at *
  obtain ⟨bs, t2⟩ := t
  simp only at hnum htb htf hk hys
  subst hys
  rw [hk] at hnum
  have NUM := fun o => Lib.hid (hnum o)
  clear hnum ht hk
  simp only at htb htf
  have hyl : ys.length ≤ 140737488355328 := by omega
  have hgw : w.heap.size ≠ g := by have := h.lt; omega
  have hvB : ∀ k, k < B → ¬ k = w.heap.size := by omega
  have HV0 := hvB
  have HRT := Lib.hid ((refr k 0 ByteArray.empty).trans (congrArg some hr))
  clear hr
  have bk1 : (k == 1) = false := by rw [beq_eq_false_iff_ne]; exact hk1
  have bk2 : (k == 2) = false := by rw [beq_eq_false_iff_ne]; exact hk2
  have bk3 : (k == 3) = false := by rw [beq_eq_false_iff_ne]; exact hk3
  have ek : k % 256 = k := by omega
  clear hk1 hk2 hk3
  subst hzf
  simp only at hf2 ⊢
  subst hf2
  go_enter Try.func87, Try.ntmps87
  go_wp2_with (first
    | (go_at_call 85; refine (NUM _).out.mono ?_; rintro e w1 ⟨rfl, hr, hf⟩; have hv := hf.blk (blk_new w _) hgw; have hw1 : w.heap.size < w1.heap.size := blk_lt hv; have hg1 : w1.heap.size ≠ g := (by have := hr.lt; omega); have hvB1 : ∀ k, k < B → ¬ k = w1.heap.size := (by omega); have hww : ¬ (w.heap.size = w1.heap.size) := (by omega); have hw2 := hr.below (below_alloc (Below.refl w1.heap.size w1) (.cells #[.int .u8 k, .int .i64 0, .string (⟨#[]⟩ : ByteArray)] 67)); have hv2 := blk_new w1 (.cells #[.int .u8 k, .int .i64 0, .string (⟨#[]⟩ : ByteArray)] 67); have hu2 := blk_alloc hv (.cells #[.int .u8 k, .int .i64 0, .string (⟨#[]⟩ : ByteArray)] 67); have c0 := blk_cell hv2 0; have c1 := blk_cell hv2 1; have c2 := blk_cell hv2 2; have z0 := blk_frozen hv2 0; have z1 := blk_frozen hv2 1; have z2 := blk_frozen hv2 2; have d0 := blk_cell hu2 0; have d1 := blk_cell hu2 1; have d2 := blk_cell hu2 2; have y0 := blk_frozen hu2 0; have y1 := blk_frozen hu2 1; have y2 := blk_frozen hu2 2)
    | (go_at_call 38; refine (easementref01_Right.calls _ _ _ true _ HRT.out).mono ?_; rintro e w3 ⟨rfl, hB3⟩; have hr3 := hw2.below hB3; have hv3 := blk_below hv2 hB3; have hu3 := blk_below hu2 hB3; have c0 := blk_cell hv3 0; have c1 := blk_cell hv3 1; have c2 := blk_cell hv3 2; have z0 := blk_frozen hv3 0; have z1 := blk_frozen hv3 1; have z2 := blk_frozen hv3 2; have d0 := blk_cell hu3 0; have d1 := blk_cell hu3 1; have d2 := blk_cell hu3 2; have y0 := blk_frozen hu3 0; have y1 := blk_frozen hu3 1; have y2 := blk_frozen hu3 2; have e1 := hr3.cell1; have e2 := hr3.frozen1))
  refine bodyPost_ret (results_cell_row rfl _ _ w.heap.size 67 #[.int .u8 k, .int .i64 0, .string ByteArray.empty] (0, 0) _ rfl (ret3 hu3 _ _ _) Try.underlying67 rfl (by kernel_rfl)) rfl ?_
  exact ⟨rfl, ((hr3.put (p := ⟨w.heap.size, 0, none⟩) HV0 _).put (p := ⟨w.heap.size, 1, none⟩) HV0 _).put (p := ⟨w.heap.size, 2, none⟩) HV0 _, ((((((Fr.alloc (S := (· = g)) _).trans hf).new _).more hB3).put (p := ⟨w.heap.size, 0, none⟩) (.inr (Nat.le_refl _)) _).put (p := ⟨w.heap.size, 1, none⟩) (.inr (Nat.le_refl _)) _).put (p := ⟨w.heap.size, 2, none⟩) (.inr (Nat.le_refl _)) _⟩
set_option maxHeartbeats 4000000 in
set_option maxRecDepth 100000 in
theorem value_0_form (B g : Nat) (xs : List Int) (f : Int) (w : World) (h : Rx w B g xs f) (hB : B ≤ w.heap.size) (hl : xs.length ≤ 140737488355328) (hbs : Bs xs) (k : Int) (hk : numB (takeP xs f 1).1 = k) (hk0 : 0 ≤ k) (hk255 : k ≤ 255) (hk1 : k ≠ 1) (hk2 : k ≠ 2) (hk3 : k ≠ 3) (ys : List Int) (f1 : Int) (hys : (takeP xs f 1).2 = (ys, f1)) (zf : List Int × Int) (hzf : (ys, f1) = zf) (hf2 : zf.2 = 0) (hr : rightV k 0 ByteArray.empty = false) :
    Calls Try.prog 87 #[.pointer (some ⟨g, 0, none⟩)] w fun e w' => e = .returned (.agg #[.int .u8 0, .int .i64 0, .string ByteArray.empty]) ∧ Rx w' B g zf.1 10 ∧ Fr (· = g) w w' := by
  have hnum := fun o => number_calls B g xs f 1 (w.alloc o) (h.below (below_alloc (Below.refl _ _) o)) hl hbs
  rw [show sizeP 1 = 1 from rfl] at hnum
  have htb := (takeP_bs hbs f 1).2
  have htf := takeP_left xs f 1
  generalize ht : takeP xs f 1 = t at *
  obtain ⟨bs, t2⟩ := t
  simp only at hnum htb htf hk hys
  subst hys
  rw [hk] at hnum
  have NUM := fun o => Lib.hid (hnum o)
  clear hnum ht hk
  simp only at htb htf
  have hyl : ys.length ≤ 140737488355328 := by omega
  have hgw : w.heap.size ≠ g := by have := h.lt; omega
  have hvB : ∀ k, k < B → ¬ k = w.heap.size := by omega
  have HV0 := hvB
  have HRT := Lib.hid ((refr k 0 ByteArray.empty).trans (congrArg some hr))
  clear hr
  have bk1 : (k == 1) = false := by rw [beq_eq_false_iff_ne]; exact hk1
  have bk2 : (k == 2) = false := by rw [beq_eq_false_iff_ne]; exact hk2
  have bk3 : (k == 3) = false := by rw [beq_eq_false_iff_ne]; exact hk3
  have ek : k % 256 = k := by omega
  clear hk1 hk2 hk3
  subst hzf
  simp only at hf2 ⊢
  subst hf2
  go_enter Try.func87, Try.ntmps87
  go_wp2_with (first
    | (go_at_call 85; refine (NUM _).out.mono ?_; rintro e w1 ⟨rfl, hr, hf⟩; have hv := hf.blk (blk_new w _) hgw; have hw1 : w.heap.size < w1.heap.size := blk_lt hv; have hg1 : w1.heap.size ≠ g := (by have := hr.lt; omega); have hvB1 : ∀ k, k < B → ¬ k = w1.heap.size := (by omega); have hww : ¬ (w.heap.size = w1.heap.size) := (by omega); have hw2 := hr.below (below_alloc (Below.refl w1.heap.size w1) (.cells #[.int .u8 k, .int .i64 0, .string (⟨#[]⟩ : ByteArray)] 67)); have hv2 := blk_new w1 (.cells #[.int .u8 k, .int .i64 0, .string (⟨#[]⟩ : ByteArray)] 67); have hu2 := blk_alloc hv (.cells #[.int .u8 k, .int .i64 0, .string (⟨#[]⟩ : ByteArray)] 67); have c0 := blk_cell hv2 0; have c1 := blk_cell hv2 1; have c2 := blk_cell hv2 2; have z0 := blk_frozen hv2 0; have z1 := blk_frozen hv2 1; have z2 := blk_frozen hv2 2; have d0 := blk_cell hu2 0; have d1 := blk_cell hu2 1; have d2 := blk_cell hu2 2; have y0 := blk_frozen hu2 0; have y1 := blk_frozen hu2 1; have y2 := blk_frozen hu2 2)
    | (go_at_call 38; refine (easementref01_Right.calls _ _ _ false _ HRT.out).mono ?_; rintro e w3 ⟨rfl, hB3⟩; have hr3 := hw2.below hB3; have hv3 := blk_below hv2 hB3; have hu3 := blk_below hu2 hB3; have c0 := blk_cell hv3 0; have c1 := blk_cell hv3 1; have c2 := blk_cell hv3 2; have z0 := blk_frozen hv3 0; have z1 := blk_frozen hv3 1; have z2 := blk_frozen hv3 2; have d0 := blk_cell hu3 0; have d1 := blk_cell hu3 1; have d2 := blk_cell hu3 2; have y0 := blk_frozen hu3 0; have y1 := blk_frozen hu3 1; have y2 := blk_frozen hu3 2; have e1 := hr3.cell1; have e2 := hr3.frozen1))
  refine bodyPost_ret (results_cell_row rfl _ _ w.heap.size 67 #[.int .u8 0, .int .i64 0, .string ByteArray.empty] (0, 0) _ rfl (ret3 (blk_far hu3 (p := ⟨g, 1, none⟩) hgw _) _ _ _) Try.underlying67 rfl (by kernel_rfl)) rfl ?_
  exact ⟨rfl, (((hr3.fail 10).put (p := ⟨w.heap.size, 0, none⟩) HV0 _).put (p := ⟨w.heap.size, 1, none⟩) HV0 _).put (p := ⟨w.heap.size, 2, none⟩) HV0 _, (((((((Fr.alloc (S := (· = g)) _).trans hf).new _).more hB3).put (p := ⟨g, 1, none⟩) (.inl rfl) _).put (p := ⟨w.heap.size, 0, none⟩) (.inr (Nat.le_refl _)) _).put (p := ⟨w.heap.size, 1, none⟩) (.inr (Nat.le_refl _)) _).put (p := ⟨w.heap.size, 2, none⟩) (.inr (Nat.le_refl _)) _⟩
set_option maxHeartbeats 4000000 in
set_option maxRecDepth 100000 in
theorem value_0_bad (B g : Nat) (xs : List Int) (f : Int) (w : World) (h : Rx w B g xs f) (hB : B ≤ w.heap.size) (hl : xs.length ≤ 140737488355328) (hbs : Bs xs) (k : Int) (hk : numB (takeP xs f 1).1 = k) (hk0 : 0 ≤ k) (hk255 : k ≤ 255) (hk1 : k ≠ 1) (hk2 : k ≠ 2) (hk3 : k ≠ 3) (ys : List Int) (f1 : Int) (hys : (takeP xs f 1).2 = (ys, f1)) (zf : List Int × Int) (hzf : (ys, f1) = zf) (hf2 : zf.2 ≠ 0) :
    Calls Try.prog 87 #[.pointer (some ⟨g, 0, none⟩)] w fun e w' => e = .returned (.agg #[.int .u8 0, .int .i64 0, .string ByteArray.empty]) ∧ Rx w' B g zf.1 zf.2 ∧ Fr (· = g) w w' := by
  have hnum := fun o => number_calls B g xs f 1 (w.alloc o) (h.below (below_alloc (Below.refl _ _) o)) hl hbs
  rw [show sizeP 1 = 1 from rfl] at hnum
  have htb := (takeP_bs hbs f 1).2
  have htf := takeP_left xs f 1
  generalize ht : takeP xs f 1 = t at *
  obtain ⟨bs, t2⟩ := t
  simp only at hnum htb htf hk hys
  subst hys
  rw [hk] at hnum
  have NUM := fun o => Lib.hid (hnum o)
  clear hnum ht hk
  simp only at htb htf
  have hyl : ys.length ≤ 140737488355328 := by omega
  have hgw : w.heap.size ≠ g := by have := h.lt; omega
  have hvB : ∀ k, k < B → ¬ k = w.heap.size := by omega
  have HV0 := hvB
  obtain ⟨rb, hrb⟩ : ∃ rb, rightV k 0 ByteArray.empty = rb := ⟨_, rfl⟩
  have HRT := Lib.hid ((refr k 0 ByteArray.empty).trans (congrArg some hrb))
  clear hrb
  have bk1 : (k == 1) = false := by rw [beq_eq_false_iff_ne]; exact hk1
  have bk2 : (k == 2) = false := by rw [beq_eq_false_iff_ne]; exact hk2
  have bk3 : (k == 3) = false := by rw [beq_eq_false_iff_ne]; exact hk3
  have ek : k % 256 = k := by omega
  clear hk1 hk2 hk3
  subst hzf
  simp only at hf2 ⊢
  have bf : (f1 == 0) = false := by rw [beq_eq_false_iff_ne]; exact hf2
  have bf' : (f1 != 0) = true := by simpa using hf2
  clear hf2
  go_enter Try.func87, Try.ntmps87
  go_wp2_with (first
    | (go_at_call 85; refine (NUM _).out.mono ?_; rintro e w1 ⟨rfl, hr, hf⟩; have hv := hf.blk (blk_new w _) hgw; have hw1 : w.heap.size < w1.heap.size := blk_lt hv; have hg1 : w1.heap.size ≠ g := (by have := hr.lt; omega); have hvB1 : ∀ k, k < B → ¬ k = w1.heap.size := (by omega); have hww : ¬ (w.heap.size = w1.heap.size) := (by omega); have hw2 := hr.below (below_alloc (Below.refl w1.heap.size w1) (.cells #[.int .u8 k, .int .i64 0, .string (⟨#[]⟩ : ByteArray)] 67)); have hv2 := blk_new w1 (.cells #[.int .u8 k, .int .i64 0, .string (⟨#[]⟩ : ByteArray)] 67); have hu2 := blk_alloc hv (.cells #[.int .u8 k, .int .i64 0, .string (⟨#[]⟩ : ByteArray)] 67); have c0 := blk_cell hv2 0; have c1 := blk_cell hv2 1; have c2 := blk_cell hv2 2; have z0 := blk_frozen hv2 0; have z1 := blk_frozen hv2 1; have z2 := blk_frozen hv2 2; have d0 := blk_cell hu2 0; have d1 := blk_cell hu2 1; have d2 := blk_cell hu2 2; have y0 := blk_frozen hu2 0; have y1 := blk_frozen hu2 1; have y2 := blk_frozen hu2 2)
    | (go_at_call 38; refine (easementref01_Right.calls _ _ _ rb _ HRT.out).mono ?_; rintro e w3 ⟨rfl, hB3⟩; have hr3 := hw2.below hB3; have hv3 := blk_below hv2 hB3; have hu3 := blk_below hu2 hB3; have c0 := blk_cell hv3 0; have c1 := blk_cell hv3 1; have c2 := blk_cell hv3 2; have z0 := blk_frozen hv3 0; have z1 := blk_frozen hv3 1; have z2 := blk_frozen hv3 2; have d0 := blk_cell hu3 0; have d1 := blk_cell hu3 1; have d2 := blk_cell hu3 2; have y0 := blk_frozen hu3 0; have y1 := blk_frozen hu3 1; have y2 := blk_frozen hu3 2; have e1 := hr3.cell1; have e2 := hr3.frozen1))
  refine bodyPost_ret (results_cell_row rfl _ _ w.heap.size 67 #[.int .u8 0, .int .i64 0, .string ByteArray.empty] (0, 0) _ rfl (ret3 hu3 _ _ _) Try.underlying67 rfl (by kernel_rfl)) rfl ?_
  exact ⟨rfl, ((hr3.put (p := ⟨w.heap.size, 0, none⟩) HV0 _).put (p := ⟨w.heap.size, 1, none⟩) HV0 _).put (p := ⟨w.heap.size, 2, none⟩) HV0 _, ((((((Fr.alloc (S := (· = g)) _).trans hf).new _).more hB3).put (p := ⟨w.heap.size, 0, none⟩) (.inr (Nat.le_refl _)) _).put (p := ⟨w.heap.size, 1, none⟩) (.inr (Nat.le_refl _)) _).put (p := ⟨w.heap.size, 2, none⟩) (.inr (Nat.le_refl _)) _⟩
end Go.Proofs.Ytaoacibahdbdkaa.Rf
/-! the reference's reader: its values in one contract. Printed by wip/tools/gen_ref.py. -/
namespace Go.Proofs.Ytaoacibahdbdkaa.Rf
open Go.RowKit Go Go.Proofs.YtaoacibahdbdkaaW.PrintWords Go.Proofs.YtaoacibahdbdkaaW.PrintMore Go.Proofs.Ytaoacibahdbdkaa.Bts Go.Proofs.Ytaoacibahdbdkaa.Pk Go.Proofs.Ytaoacibahdbdkaa.Fra Go.Proofs.Ytaoacibahdbdkaa.Pr Go.Proofs.Ytaoacibahdbdkaa.QPackedPuts
abbrev RefPost (B g : Nat) (w : World) (r : (Int × Int × ByteArray) × List Int × Int) (e : Ending) (w' : World) : Prop :=
  e = .returned (.agg #[.int .u8 r.1.1, .int .i64 r.1.2.1, .string r.1.2.2]) ∧ Rx w' B g r.2.1 r.2.2 ∧ Fr (· = g) w w'
theorem value_reads (B g : Nat) (xs : List Int) (f : Int) (w : World) (h : Rx w B g xs f) (hB : B ≤ w.heap.size) (hl : xs.length ≤ 140737488355328) (hbs : Bs xs) :
    Calls Try.prog 87 #[.pointer (some ⟨g, 0, none⟩)] w (RefPost B g w (valueP xs f)) := by
  rw [valueP_eq]
  unfold valM
  have htl := takeP_len xs f 1
  have htb := (takeP_bs hbs f 1).1
  have hn1 := numB_nn _ htb
  have hn2 : (256 : Int) ^ (takeP xs f 1).1.length ≤ 256 := by
    have : (takeP xs f 1).1.length = 0 ∨ (takeP xs f 1).1.length = 1 := by omega
    rcases this with e | e <;> rw [e] <;> decide
  by_cases k1 : numB (takeP xs f 1).1 = 1
  · simp only [k1, if_true]
    by_cases f0 : (takeP (takeP xs f 1).2.1 (takeP xs f 1).2.2 1).2.2 = 0
    · cases hr : rightV 1 (wrap64 (numB (takeP (takeP xs f 1).2.1 (takeP xs f 1).2.2 1).1)) ByteArray.empty
      · rw [end_form f0 hr]
        exact value_1_form B g xs f w h hB hl hbs k1 (takeP xs f 1).2.1 (takeP xs f 1).2.2 rfl (takeP (takeP xs f 1).2.1 (takeP xs f 1).2.2 1).2 rfl f0 hr
      · rw [end_ok f0 hr]
        exact value_1_ok B g xs f w h hB hl hbs k1 (takeP xs f 1).2.1 (takeP xs f 1).2.2 rfl (takeP (takeP xs f 1).2.1 (takeP xs f 1).2.2 1).2 rfl f0 hr
    · rw [end_bad f0]
      exact value_1_bad B g xs f w h hB hl hbs k1 (takeP xs f 1).2.1 (takeP xs f 1).2.2 rfl (takeP (takeP xs f 1).2.1 (takeP xs f 1).2.2 1).2 rfl f0
  · simp only [if_neg k1]
    by_cases k2 : numB (takeP xs f 1).1 = 2
    · rw [if_pos k2, k2]
      by_cases f0 : (takeP (takeP xs f 1).2.1 (takeP xs f 1).2.2 8).2.2 = 0
      · cases hr : rightV 2 (wrap64 (numB (takeP (takeP xs f 1).2.1 (takeP xs f 1).2.2 8).1)) ByteArray.empty
        · rw [end_form f0 hr]
          exact value_2_form B g xs f w h hB hl hbs k2 (takeP xs f 1).2.1 (takeP xs f 1).2.2 rfl (takeP (takeP xs f 1).2.1 (takeP xs f 1).2.2 8).2 rfl f0 hr
        · rw [end_ok f0 hr]
          exact value_2_ok B g xs f w h hB hl hbs k2 (takeP xs f 1).2.1 (takeP xs f 1).2.2 rfl (takeP (takeP xs f 1).2.1 (takeP xs f 1).2.2 8).2 rfl f0 hr
      · rw [end_bad f0]
        exact value_2_bad B g xs f w h hB hl hbs k2 (takeP xs f 1).2.1 (takeP xs f 1).2.2 rfl (takeP (takeP xs f 1).2.1 (takeP xs f 1).2.2 8).2 rfl f0
    · rw [if_neg k2]
      by_cases k3 : numB (takeP xs f 1).1 = 3
      · rw [if_pos k3, k3]
        by_cases f0 : (textP (takeP xs f 1).2.1 (takeP xs f 1).2.2 4096).2.2 = 0
        · cases hr : rightV 3 0 (strOfNums (textP (takeP xs f 1).2.1 (takeP xs f 1).2.2 4096).1)
          · rw [end_form f0 hr]
            exact value_3_form B g xs f w h hB hl hbs k3 (takeP xs f 1).2.1 (takeP xs f 1).2.2 rfl (textP (takeP xs f 1).2.1 (takeP xs f 1).2.2 4096).2 rfl f0 hr
          · rw [end_ok f0 hr]
            exact value_3_ok B g xs f w h hB hl hbs k3 (takeP xs f 1).2.1 (takeP xs f 1).2.2 rfl (textP (takeP xs f 1).2.1 (takeP xs f 1).2.2 4096).2 rfl f0 hr
        · rw [end_bad f0]
          exact value_3_bad B g xs f w h hB hl hbs k3 (takeP xs f 1).2.1 (takeP xs f 1).2.2 rfl (textP (takeP xs f 1).2.1 (takeP xs f 1).2.2 4096).2 rfl f0
      · rw [if_neg k3]
        by_cases f0 : (takeP xs f 1).2.2 = 0
        · cases hr : rightV (numB (takeP xs f 1).1) 0 ByteArray.empty
          · rw [end_form f0 hr]
            exact value_0_form B g xs f w h hB hl hbs _ rfl (by omega) (by omega) k1 k2 k3 (takeP xs f 1).2.1 (takeP xs f 1).2.2 rfl ((takeP xs f 1).2.1, (takeP xs f 1).2.2) rfl f0 hr
          · rw [end_ok f0 hr]
            exact value_0_ok B g xs f w h hB hl hbs _ rfl (by omega) (by omega) k1 k2 k3 (takeP xs f 1).2.1 (takeP xs f 1).2.2 rfl ((takeP xs f 1).2.1, (takeP xs f 1).2.2) rfl f0 hr
        · rw [end_bad f0]
          exact value_0_bad B g xs f w h hB hl hbs _ rfl (by omega) (by omega) k1 k2 k3 (takeP xs f 1).2.1 (takeP xs f 1).2.2 rfl ((takeP xs f 1).2.1, (takeP xs f 1).2.2) rfl f0
end Go.Proofs.Ytaoacibahdbdkaa.Rf
