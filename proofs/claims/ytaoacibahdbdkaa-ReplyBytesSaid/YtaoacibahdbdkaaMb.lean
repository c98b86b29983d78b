/- Several texts of this claim, laid together: RepP, RepC, RepS, RepL, RepE, RepV. -/
import Derived.Test.YtaoacibahdbdkaaQReplySamex4
import Derived.Test.YtaoacibahdbdkaaValPure
import Derived.Laws.Strings
import Derived.Test.YtaoacibahdbdkaaMa
import Derived.WalkSpells
import Derived.Outline
import Derived.Lib.Hide
import Derived.Handy
/-! reply: the printed functions as plain functions of lists. -/
namespace Go.Proofs.Ytaoacibahdbdkaa.Rep
set_option linter.unusedVariables false
open Go.RowKit Go.Proofs.Ytaoacibahdbdkaa.QReplySame Go.Proofs.Ytaoacibahdbdkaa.ValPure Go.Proofs.YtaoacibahdbdkaaW.PrintWords Go.Proofs.YtaoacibahdbdkaaW.PrintLast
theorem kind_cmp (a b : Int) : value_Kind_112.f a b = some (cmpI a b) := by
  simp only [value_Kind_112.f, value_Kind_134.f, Option.bind_some, bne_self_eq_false, Bool.false_eq_true, if_false, cmpI]
  split <;> (try split) <;> rfl
theorem int_cmp (a b : Int) : cmp_Compare_int64.f a b = some (cmpI a b) := by
  simp only [cmp_Compare_int64.f, cmp_isNaN_int64.f, Option.bind_some, bne_self_eq_false, Bool.false_eq_true, if_false, cmpI]
  split <;> (try split) <;> rfl
theorem or_l0 (l : List Int) (hl : l.length ≤ 100000) (d : Nat) : ∀ (k j : Nat), l.length - j = d → j ≤ l.length → d < k → cmp_Or_int.l0 k 0 l (l.length : Int) j = some (or0 (l.drop j)) := by
  induction d with
  | zero =>
    intro k j hd hj hk
    obtain ⟨k, rfl⟩ : ∃ m, k = m + 1 := ⟨k - 1, by omega⟩
    simp only [cmp_Or_int.l0]
    rw [if_neg (by omega), List.drop_eq_nil_of_le (by omega)]; rfl
  | succ d ih =>
    intro k j hd hj hk
    obtain ⟨k, rfl⟩ : ∃ m, k = m + 1 := ⟨k - 1, by omega⟩
    have hlt : j < l.length := by omega
    have hdrop : l.drop j = l.getD j 0 :: l.drop (j + 1) := by
      rw [List.drop_eq_getElem_cons hlt]; simp [List.getD, hlt]
    have hrd : rd l (j : Int) = l.getD j 0 := rfl
    have hw : wrap64 ((j : Int) + 1) = ((j + 1 : Nat) : Int) := by unfold wrap64; omega
    simp only [cmp_Or_int.l0]
    rw [if_pos (by omega), if_pos (by omega), if_pos (by omega), hrd, hw, hdrop]
    by_cases h0 : l.getD j 0 = 0
    · rw [if_pos h0, ih k (j + 1) (by omega) (by omega) (by omega)]
      simp only [or0]; rw [if_pos h0]
    · rw [if_neg h0]; simp only [or0]; rw [if_neg h0]
theorem compare_f (k : Nat) (hk : 4 ≤ k) (a0 a1 : Int) (a2 : ByteArray) (b0 b1 : Int) (b2 : ByteArray) : value_Compare.f k a0 a1 a2 b0 b1 b2 = some (cmpV a0 a1 a2 b0 b1 b2) := by
  unfold value_Compare.f
  rw [kind_cmp, int_cmp]
  simp only [strings_Compare.f, Option.bind_some]
  unfold cmp_Or_int.f
  rw [show ((([cmpI a0 b0, cmpI a1 b1, Lib.compareBytes a2.data.toList b2.data.toList] : List Int).length : Int)) = (3 : Nat) from rfl]
  have := or_l0 [cmpI a0 b0, cmpI a1 b1, Lib.compareBytes a2.data.toList b2.data.toList] (by simp) 3 k 0 rfl (by simp) (by omega)
  rw [show ((0 : Nat) : Int) = 0 from rfl] at this
  simp only [List.length_cons, List.length_nil, Nat.zero_add, Nat.reduceAdd, List.drop_zero] at this
  rw [this]; rfl
def rightV (a0 a1 : Int) (a2 : ByteArray) : Bool := if a0 = 0 then a1 == 0 && a2.size == 0 else if a0 = 1 then (a1 == 0 || a1 == 1) && a2.size == 0 else if a0 = 2 then a2.size == 0 else if a0 = 3 then a1 == 0 && decide (a2.size ≤ 4096) else false
theorem empty_eq (s : ByteArray) : (s.toList == ([] : List UInt8)) = (s.size == 0) := by
  rw [ByteArray.toList_eq]
  have h : s.data.toList.length = s.size := by rw [Array.length_toList]; rfl
  cases hl : s.data.toList with
  | nil => rw [hl] at h; rw [← h]; rfl
  | cons x l => rw [hl] at h; rw [← h]; rfl
theorem right_f (a0 a1 : Int) (a2 : ByteArray) : value_Value_Right.f a0 a1 a2 = some (rightV a0 a1 a2) := by
  unfold value_Value_Right.f rightV
  have e : ((⟨#[]⟩ : ByteArray)).toList = ([] : List UInt8) := by rw [ByteArray.toList_eq]
  rw [empty_eq]
  split
  · rename_i h; simp [h]
  · split
    · rename_i h
      unfold value_Truth.f
      by_cases h1 : a1 = 1
      · simp only [h1, beq_self_eq_true, if_true, Option.bind_some, e, empty_eq]; simp [h]
      · have : (a1 == 1) = false := by simpa using h1
        simp only [this, Bool.false_eq_true, if_false, Option.bind_some, e, empty_eq]; simp [h]
    · split
      · rfl
      · split
        · by_cases h : a1 = 0
          · simp only [h, if_true]
            have : ((a2.size : Int) ≤ 4096) ↔ a2.size ≤ 4096 := by omega
            simp [this]
          · simp [h]
        · rfl

theorem intlen_cmp (a b : Int) : cmp_Compare_int.f a b = some (cmpI a b) := by
  simp only [cmp_Compare_int.f, cmp_isNaN_int.f, Option.bind_some, bne_self_eq_false, Bool.false_eq_true, if_false, cmpI]
  split <;> (try split) <;> rfl
abbrev vat (l : List S54) (i : Nat) : S54 := l.getD i z54
def cmpS (x y : S54) : Int := cmpV x.f0 x.f1 x.f2 y.f0 y.f1 y.f2
def G (l0 l1 : List S54) : Nat → Nat → Int
  | 0, _ => cmpI l0.length l1.length
  | d + 1, i => if cmpS (vat l0 i) (vat l1 i) = 0 then G l0 l1 d (i + 1) else cmpS (vat l0 i) (vat l1 i)
theorem lists_l0 (l0 l1 : List S54) (m : Nat) (hm0 : m ≤ l0.length) (hm1 : m ≤ l1.length) (hm : (m : Int) ≤ 140737488351232) (d : Nat) : ∀ (k i : Nat), m - i = d → i ≤ m → d + 5 ≤ k → value_Lists.l0 k l0 l1 m i = some (G l0 l1 d i) := by
  induction d with
  | zero =>
    intro k i hd hi hk
    obtain ⟨k, rfl⟩ : ∃ m, k = m + 1 := ⟨k - 1, by omega⟩
    simp only [value_Lists.l0]
    rw [if_neg (by omega), intlen_cmp]; rfl
  | succ d ih =>
    intro k i hd hi hk
    obtain ⟨k, rfl⟩ : ∃ m, k = m + 1 := ⟨k - 1, by omega⟩
    have hw : wrap64 ((i : Int) + 1) = ((i + 1 : Nat) : Int) := by unfold wrap64; omega
    have e0 : rd_T54 l0 (i : Int) = vat l0 i := rfl
    have e1 : rd_T54 l1 (i : Int) = vat l1 i := rfl
    simp only [value_Lists.l0]
    rw [if_pos (by omega), if_pos (by omega), if_pos (by omega), if_pos (by omega), compare_f k (by omega), Option.bind_some, e0, e1]
    unfold G
    by_cases h : cmpS (vat l0 i) (vat l1 i) = 0
    · have h' : cmpV (vat l0 i).f0 (vat l0 i).f1 (vat l0 i).f2 (vat l1 i).f0 (vat l1 i).f1 (vat l1 i).f2 = 0 := h
      rw [if_pos h', if_pos h, hw, ih k (i + 1) (by omega) (by omega) (by omega)]
    · have h' : ¬ cmpV (vat l0 i).f0 (vat l0 i).f1 (vat l0 i).f2 (vat l1 i).f0 (vat l1 i).f1 (vat l1 i).f2 = 0 := h
      rw [if_neg h', if_neg h]; rfl
theorem mn_nat (a b : Nat) : mn (a : Int) (b : Int) = ((min a b : Nat) : Int) := by unfold mn; split <;> omega
theorem lists_f (k : Nat) (l0 l1 : List S54) (h0 : l0.length ≤ 100000) (hk : l0.length + 5 ≤ k) : value_Lists.f k l0 l1 = some (G l0 l1 (min l0.length l1.length) 0) := by
  unfold value_Lists.f
  rw [mn_nat]
  have := lists_l0 l0 l1 (min l0.length l1.length) (by omega) (by omega) (by omega) (min l0.length l1.length) k 0 (by omega) (by omega) (by omega)
  simpa using this
theorem G_same (l : List S54) (d : Nat) : ∀ i, G l l d i = 0 := by
  induction d with
  | zero => intro i; exact (cmpI_zero _ _).2 rfl
  | succ d ih =>
    intro i
    unfold G
    have hz : cmpS (vat l i) (vat l i) = 0 := (cmpV_zero _ _ _ _ _ _).2 ⟨rfl, rfl, rfl⟩
    rw [if_pos hz]
    exact ih (i + 1)
def rightS (x : S54) : Bool := rightV x.f0 x.f1 x.f2
theorem drop_cons' (l : List S54) (i : Nat) (h : i < l.length) : l.drop i = vat l i :: l.drop (i + 1) := by
  rw [List.drop_eq_getElem_cons h]; simp [vat, List.getD, h]
theorem all_l0 (l : List S54) (h0 : l.length ≤ 100000) (d : Nat) : ∀ (k i : Nat), l.length - i = d → i ≤ l.length → d + 1 ≤ k → value_All.l0 k l (l.length : Int) i = some ((l.drop i).all rightS) := by
  induction d with
  | zero =>
    intro k i hd hi hk
    obtain ⟨k, rfl⟩ : ∃ m, k = m + 1 := ⟨k - 1, by omega⟩
    simp only [value_All.l0]
    rw [if_neg (by omega), List.drop_eq_nil_of_le (by omega)]; rfl
  | succ d ih =>
    intro k i hd hi hk
    obtain ⟨k, rfl⟩ : ∃ m, k = m + 1 := ⟨k - 1, by omega⟩
    have hw : wrap64 ((i : Int) + 1) = ((i + 1 : Nat) : Int) := by unfold wrap64; omega
    have e0 : rd_T54 l (i : Int) = vat l i := rfl
    simp only [value_All.l0]
    rw [if_pos (by omega), if_pos (by omega), if_pos (by omega), right_f, Option.bind_some, e0, drop_cons' l i (by omega), List.all_cons]
    by_cases h : rightS (vat l i) = true
    · have h' : rightV (vat l i).f0 (vat l i).f1 (vat l i).f2 = true := h
      rw [if_pos h', hw, ih k (i + 1) (by omega) (by omega) (by omega), h, Bool.true_and]
    · have h' : ¬ rightV (vat l i).f0 (vat l i).f1 (vat l i).f2 = true := h
      have hf : rightS (vat l i) = false := by simpa using h
      rw [if_neg h', hf, Bool.false_and]
theorem all_f (k : Nat) (l : List S54) (h0 : l.length ≤ 100000) (hk : l.length + 1 ≤ k) : value_All.f k l = some (l.all rightS) := by
  unfold value_All.f
  have := all_l0 l h0 l.length k 0 (by omega) (by omega) (by omega)
  simpa using this
theorem S54_ext {x y : S54} (h0 : x.f0 = y.f0) (h1 : x.f1 = y.f1) (h2 : x.f2 = y.f2) : x = y := by cases x; cases y; simp_all
theorem cmpS_zero (x y : S54) : cmpS x y = 0 ↔ x = y := by
  constructor
  · intro h; obtain ⟨a, b, c⟩ := (cmpV_zero _ _ _ _ _ _).1 h; exact S54_ext a b c
  · rintro rfl; exact (cmpV_zero _ _ _ _ _ _).2 ⟨rfl, rfl, rfl⟩
theorem G_zero (l0 l1 : List S54) (d : Nat) : ∀ i, G l0 l1 d i = 0 ↔ (l0.length = l1.length ∧ ∀ j, i ≤ j → j < i + d → vat l0 j = vat l1 j) := by
  induction d with
  | zero =>
    intro i
    unfold G
    rw [cmpI_zero]
    constructor
    · intro h; exact ⟨by omega, fun j h1 h2 => by omega⟩
    · intro h; have := h.1; omega
  | succ d ih =>
    intro i
    unfold G
    by_cases h : cmpS (vat l0 i) (vat l1 i) = 0
    · rw [if_pos h, ih]
      constructor
      · rintro ⟨h1, h2⟩
        refine ⟨h1, fun j a b => ?_⟩
        by_cases e : j = i
        · rw [e]; exact (cmpS_zero _ _).1 h
        · exact h2 j (by omega) (by omega)
      · rintro ⟨h1, h2⟩
        exact ⟨h1, fun j a b => h2 j (by omega) (by omega)⟩
    · rw [if_neg h]
      constructor
      · intro e; exact absurd e h
      · rintro ⟨_, h2⟩
        exact absurd ((cmpS_zero _ _).2 (h2 i (Nat.le_refl _) (by omega))) h
theorem G_eq (l0 l1 : List S54) : G l0 l1 (min l0.length l1.length) 0 = 0 ↔ l0 = l1 := by
  rw [G_zero]
  constructor
  · rintro ⟨h1, h2⟩
    refine List.ext_getElem h1 (fun j a b => ?_)
    have := h2 j (by omega) (by omega)
    simpa [vat, List.getD, a, b] using this
  · rintro rfl
    exact ⟨rfl, fun _ _ _ => rfl⟩
instance : DecidableEq S54 := fun x y => if h : x.f0 = y.f0 ∧ x.f1 = y.f1 ∧ x.f2 = y.f2 then isTrue (S54_ext h.1 h.2.1 h.2.2) else isFalse (fun e => h (by rw [e]; exact ⟨rfl, rfl, rfl⟩))
/-- Two replies are one. -/
def sameR (e0 : Int) (h0 g0 : Int) (l0 : List S54) (e1 : Int) (h1 g1 : Int) (l1 : List S54) : Bool := decide (e0 = e1) && (decide (h0 = h1) && decide (g0 = g1)) && decide (l0 = l1)
theorem same_f (k : Nat) (e0 h0 g0 : Int) (l0 : List S54) (e1 h1 g1 : Int) (l1 : List S54) (hl : l0.length ≤ 100000) (hk : l0.length + 5 ≤ k) : reply_Same.f k e0 h0 g0 l0 e1 h1 g1 l1 = some (sameR e0 h0 g0 l0 e1 h1 g1 l1) := by
  unfold reply_Same.f sameR
  rw [lists_f k l0 l1 hl hk]
  have hG : (G l0 l1 (min l0.length l1.length) 0 == 0) = decide (l0 = l1) := by
    rw [Bool.eq_iff_iff, beq_iff_eq, decide_eq_true_iff]; exact G_eq l0 l1
  by_cases a : e0 = e1
  · rw [if_pos a]
    by_cases b : h0 = h1 <;> by_cases c : g0 = g1
    · simp [a, b, c, hG]
    · simp [a, b, c]
    · simp [a, b, c]
    · simp [a, b, c]
  · rw [if_neg a]; simp [a]
def rightR (e h g : Int) (l : List S54) : Bool := decide (0 ≤ e) && decide (e ≤ 14) && l.all rightS && decide (l.length ≤ 128) && (decide (e = 0) || (decide (h = 0) && decide (g = 0) && decide (l.length = 0)))
theorem rright_f (k : Nat) (e h g : Int) (l : List S54) (hl : l.length ≤ 100000) (hk : l.length + 1 ≤ k) : reply_Reply_Right.f k e h g l = some (rightR e h g l) := by
  unfold reply_Reply_Right.f rightR
  rw [all_f k l hl hk]
  by_cases a : e < 0
  · rw [if_pos a]
    have : ¬ 0 ≤ e := by omega
    simp [this]
  rw [if_neg a]
  have a' : 0 ≤ e := by omega
  by_cases b : e > 14
  · rw [if_pos b]
    have : ¬ e ≤ 14 := by omega
    simp [this]
  rw [if_neg b]
  have b' : e ≤ 14 := by omega
  simp only [Option.bind_some]
  cases hc : l.all rightS
  · simp
  rw [if_pos rfl]
  by_cases d : (l.length : Int) > 128
  · rw [if_pos d]
    have : ¬ l.length ≤ 128 := by omega
    simp [this]
  rw [if_neg d]
  have d' : l.length ≤ 128 := by omega
  by_cases f : e = 0
  · rw [if_pos f]; simp [d', f]
  rw [if_neg f]
  by_cases i : h = 0 <;> by_cases j : g = 0
  · have z : ((l.length : Int) == 0) = decide (l.length = 0) := by rw [Bool.eq_iff_iff]; simp
    rw [z]
    simp [i, j, a', b', d', f]
  · simp [i, j, f]
  · simp [i, j, f]
  · simp [i, j, f]
end Go.Proofs.Ytaoacibahdbdkaa.Rep
/-! reply: a reply as the document has it, as a contract. -/
namespace Go.Proofs.Ytaoacibahdbdkaa.Rep
open Go.RowKit Go Go.Proofs.Ytaoacibahdbdkaa.QReplySame Go.Proofs.YtaoacibahdbdkaaW.PrintWords Go.Proofs.YtaoacibahdbdkaaW.PrintLast Go.Proofs.YtaoacibahdbdkaaW.PrintMore Go.Proofs.Ytaoacibahdbdkaa.Fra
theorem infoV : (Try.prog.info? 67).map (fun i => (i.zero, i.size, i.bytes)) = some (some (.agg #[.int .u8 0, .int .i64 0, .string (⟨#[]⟩ : ByteArray)]), 3, 32) := by kernel_rfl
/-- A slice of values that is read. -/
def RV (w : World) (v : Value) (l : List S54) : Prop := ∃ A c, v = .slice A l.length c ∧ l.length ≤ c ∧ Kd.C k54 w A l.length l
theorem RV.below {w w' : World} {v : Value} {l : List S54} (h : RV w v l) (hb : Below w.heap.size w w') : RV w' v l := let ⟨A, c, e, hc, h⟩ := h; ⟨A, c, e, hc, Kd.C_below h hb⟩
theorem at_V {w : World} {A : Option Addr} {n : Nat} {l : List S54} (h : Kd.C k54 w A n l) (i : Nat) (h1 : i < n) (x : S54) (hx : l.getD i z54 = x) :
    ∃ ad, A = some ad ∧ w.cell? (ad.add (i * 3)) = some (.int .u8 x.f0) ∧ w.cell? ⟨(ad.add (i * 3)).block, (ad.add (i * 3)).off + 1, none⟩ = some (.int .i64 x.f1) ∧ w.cell? ⟨(ad.add (i * 3)).block, (ad.add (i * 3)).off + 2, none⟩ = some (.string x.f2) := by
  obtain ⟨ad, c, e, _, hK, hc⟩ := Kd.C_get h z54 (i : Int) (by omega) (by omega)
  rw [Int.toNat_natCast] at hK hc
  rw [hx] at hK
  obtain rfl := k54_open hK
  have hc : ∀ j u, [Value.int .u8 x.f0, Value.int .i64 x.f1, Value.string x.f2][j]? = some u → w.cell? (ad.add (i * 3 + j)) = some u := hc
  exact ⟨ad, e, hc 0 _ rfl, by rw [← add_field _ _ 1 (by omega)]; exact hc 1 _ rfl, by rw [← add_field _ _ 2 (by omega)]; exact hc 2 _ rfl⟩
theorem blk_new1 (w : World) (o1 o2 : Obj) : ((w.alloc o1).alloc o2).heap[w.heap.size + 1]? = some o2 := by
  have h := blk_new (w.alloc o1) o2
  have e : (w.alloc o1).heap.size = w.heap.size + 1 := by simp
  rwa [e] at h
theorem blk_new2 (w : World) (o1 o2 o3 : Obj) : (((w.alloc o1).alloc o2).alloc o3).heap[w.heap.size + 2]? = some o3 := by
  have h := blk_new1 (w.alloc o1) o2 o3
  have e : (w.alloc o1).heap.size = w.heap.size + 1 := by simp
  rwa [e] at h
theorem take_snoc (l : List S54) (i : Nat) (h : i < l.length) : l.take (i + 1) = l.take i ++ [l.getD i z54] := by
  rw [List.take_succ_eq_append_getElem h]; simp [List.getD, h]
set_option maxHeartbeats 2000000 in
set_option maxRecDepth 100000 in
theorem plain_calls (e h g : Int) (A : Option Addr) (c : Nat) (l : List S54) (w : World) (hC : Kd.C k54 w A l.length l) (hl : l.length ≤ 100000) :
    Calls Try.prog 48 #[.agg #[.int .i64 e, .int .u64 h, .int .u64 g, .slice A l.length c]] w fun en w' => ∃ v, en = .returned (.agg #[.int .u8 (e % 256), .int .u64 h, .int .u64 g, v]) ∧ RV w' v l ∧ Below w.heap.size w w' := by
  have HC := Lib.hid hC
  clear hC
  go_enter Try.func48, Try.ntmps48
  go_wp2
  go_loopw [20] (fun i wr => ∃ (j : Nat) (v : Value), j ≤ l.length ∧ i = .int .i64 j ∧ Below w.heap.size w wr ∧ wr.heap[w.heap.size + 2]? = some (.cells #[.int .u8 (e % 256), .int .u64 h, .int .u64 g, v] 86 (0, 0)) ∧ wr.heap[w.heap.size + 1]? = some (.cells #[.int .u8 0, .int .u64 0, .int .u64 0, .slice none 0 0] 86 (0, 0)) ∧ Kd.R k54 67 wr w.heap.size (fun k => k ≠ w.heap.size + 1 ∧ k ≠ w.heap.size + 2) v (l.take j)) (fun i _ => l.length - (intOf i).toNat)
  case atStart => exact ⟨0, .slice none 0 0, by omega, rfl, (by repeat' (first | (with_reducible exact Below.refl _ _) | (with_reducible assumption) | (with_reducible refine below_alloc ?_ _) | (with_reducible refine below_drew1 ?_) | (with_reducible refine pw_below_drewN ?_ _))), blk_new2 w _ _ _, blk_alloc (blk_new1 w _ _) _, Kd.R_nil _ _ _ _ _⟩
  case round =>
    obtain ⟨j, v, hj, rfl, hB, hX, hY, hR⟩ := hrel
    have HB := Lib.hid hB
    have HX := Lib.hid hX
    have HY := Lib.hid hY
    have HR := Lib.hid hR
    have hlx : w.heap.size + 2 < wr.heap.size := blk_lt hX
    have x0 : wr.cell? ⟨w.heap.size + 2, 0, none⟩ = some (.int .u8 (e % 256)) := blk_cell hX 0
    have x1 : wr.cell? ⟨w.heap.size + 2, 1, none⟩ = some (.int .u64 h) := blk_cell hX 1
    have x2 : wr.cell? ⟨w.heap.size + 2, 2, none⟩ = some (.int .u64 g) := blk_cell hX 2
    have x3 : wr.cell? ⟨w.heap.size + 2, 3, none⟩ = some v := blk_cell hX 3
    clear hB hX hY hR
    by_cases hlt : j < l.length
    · clear x0 x1 x2 x3
      obtain ⟨x, hx⟩ : ∃ x, l.getD j z54 = x := ⟨_, rfl⟩
      obtain ⟨ad, rfl, a0, a1, a2⟩ := at_V (Kd.C_below HC.out HB.out) j hlt x hx
      have HT := Lib.hid (take_snoc l j hlt)
      have HXX := Lib.hid hx
      clear hx
      have hd2 := blk_drew (blk_alloc HX.out (.cells #[.int .u8 x.f0, .int .i64 x.f1, .string x.f2] 54))
      have hp2 := blk_drew (blk_new wr (.cells #[.int .u8 x.f0, .int .i64 x.f1, .string x.f2] 54))
      have p0 := blk_cell hp2 0
      have p1 := blk_cell hp2 1
      have p2 := blk_cell hp2 2
      have pd := blk_cell hd2 3
      have HD2 := Lib.hid hd2
      have HP2 := Lib.hid hp2
      have HB2 := Lib.hid (below_drew1 (below_alloc HB.out (.cells #[.int .u8 x.f0, .int .i64 x.f1, .string x.f2] 54)))
      have HR2 := Lib.hid (Kd.R_drew (Kd.R_alloc HR.out (.cells #[.int .u8 x.f0, .int .i64 x.f1, .string x.f2] 54)))
      clear hd2 hp2
      go_wp2
      refine start_ (n := 8) (S := fun w' => w'.cell? ⟨wr.heap.size, 0, none⟩ = some (.int .u8 x.f0) ∧ w'.cell? ⟨wr.heap.size, 1, none⟩ = some (.int .i64 x.f1) ∧ w'.cell? ⟨wr.heap.size, 2, none⟩ = some (.string x.f2) ∧ w'.cell? ⟨w.heap.size + 2, 3, none⟩ = some v) (ds := [7]) #[false, false, false, false, false, false, false, false] (by kernel_rfl) rfl rfl ⟨p0, p1, p2, pd⟩ (fun hHeld => ?_)
      refine pure_ (i := 0) (N := some 24) (v := ?_) (a' := ?_) #[true, false, false, false, false, false, false, false] rfl rfl (by kernel_rfl) (fun _ _ _ h => h) (Or.inl ⟨by rfl, ?_⟩) ?_ ?_
      rotate_left
      · intro w'
        go_simp
        with_reducible rfl
      rotate_left
      · simp only [Act.put, List.setIfInBounds_toArray, List.set_cons_zero, List.set_cons_succ, i64_w, i32_w]
        rfl
      refine take_ (i := 1) (N := some 25) (v := ?_) (a' := ?_) #[true, true, false, false, false, false, false, false] rfl rfl (by kernel_rfl) (fun _ _ _ h => h) (Or.inl ⟨by rfl, ?_⟩) hHeld ?_ ?_
      rotate_left
      · rintro w' ⟨s0, s1, s2, s3⟩
        go_simp
        with_reducible rfl
      rotate_left
      · simp only [Act.put, List.setIfInBounds_toArray, List.set_cons_zero, List.set_cons_succ, i64_w, i32_w]
        rfl
      refine take_ (i := 2) (N := some 26) (v := ?_) (a' := ?_) #[true, true, true, false, false, false, false, false] rfl rfl (by kernel_rfl) (fun _ _ _ h => h) (Or.inl ⟨by rfl, ?_⟩) hHeld ?_ ?_
      rotate_left
      · rintro w' ⟨s0, s1, s2, s3⟩
        go_simp
        with_reducible rfl
      rotate_left
      · simp only [Act.put, List.setIfInBounds_toArray, List.set_cons_zero, List.set_cons_succ, i64_w, i32_w]
        rfl
      refine one_ (i := 3) (N := some 27) #[true, true, true, true, false, false, false, false] rfl rfl (by kernel_rfl) (by decide) (fun K hK => ?_)
      refine goes_ Try.func83 (by kernel_rfl) rfl #[.agg #[.int .u8 x.f0, .int .i64 x.f1, .string x.f2]] (by rfl) rfl rfl (by simp only [List.map_toArray, List.map_cons, List.map_nil]; rfl) ?_
      with_reducible refine (easementlaw21_of.calls x.f0 x.f1 x.f2 _ _ _ _ rfl).mono ?_
      rintro e3 w3 ⟨rfl, hB3⟩
      refine ⟨_, rfl, ?_⟩
      have hd3 := blk_below HD2.out hB3
      have hp3 := blk_below HP2.out hB3
      have hR3 := Kd.R_below HR2.out hB3
      have hb3 := below_step HB2.out hB3
      refine hK.out _ _ ⟨(blk_cell hp3 0), (blk_cell hp3 1), (blk_cell hp3 2), (blk_cell hd3 3)⟩ (fun hHeld => ?_)
      clear hK K
      refine norm_ (a' := ?_) ?_ ?_
      rotate_left
      · show Act.put _ (some 27) _ = _
        simp only [Act.put, List.setIfInBounds_toArray, List.set_cons_zero, List.set_cons_succ, i64_w, i32_w]
        rfl
      refine one_ (i := 4) (N := some 28) #[true, true, true, true, true, false, false, false] rfl rfl (by kernel_rfl) (by decide) (fun K hK => ?_)
      refine value_ (w1 := ?_) (v := ?_) (by rfl) rfl ?_ ?_
      rotate_left 2
      · go_simp
        constructor
        · rfl
        · rfl
      refine hK.out _ _ ⟨(blk_cell (blk_alloc hp3 _) 0), (blk_cell (blk_alloc hp3 _) 1), (blk_cell (blk_alloc hp3 _) 2), (blk_cell (blk_alloc hd3 _) 3)⟩ (fun hHeld => ?_)
      clear hK K
      refine norm_ (a' := ?_) ?_ ?_
      rotate_left
      · show Act.put _ (some 28) _ = _
        simp only [Act.put, List.setIfInBounds_toArray, List.set_cons_zero, List.set_cons_succ, i64_w, i32_w]
        rfl
      refine one_ (i := 5) (N := some 29) #[true, true, true, true, true, true, false, false] rfl rfl (by kernel_rfl) (by decide) (fun K hK => ?_)
      refine Kd.R_append_step k54 (w0 := w) w.heap.size (by rfl) (.tmp 25) (.tmp 28) 76 67 (.agg #[.int .u8 0, .int .i64 0, .string (⟨#[]⟩ : ByteArray)]) 32 rfl Try.underlying76 infoV rfl (by decide) (by decide) v (l.take j) x [.int .u8 x.f0, .int .i64 x.f1, .string x.f2] (fun k => k ≠ w.heap.size + 1 ∧ k ≠ w.heap.size + 2) (fun _ => False) rfl rfl (k54_mkM _ _ _ x) (fun _ h => h.elim) (fun k hk => by have := hb3.size; have := hB3.size; have h2 := blk_lt hd3; omega) hR3 hb3 hb3.size (by rw [List.length_take]; omega) ?_
      intro v4 w4 hR4 hB4 hg4 _
      obtain ⟨A4, c4, rfl⟩ := Kd.R_slice hR4
      have hd4 := blk_grown hd3 hg4 (fun e => (hR3.1 _ e.symm).2 rfl)
      have hp4 := blk_grown hp3 hg4 (fun e => by have h1 := hR3.1 _ e.symm; have h2 := Kd.R_lt HR.out _ e.symm; omega)
      have hy4 := blk_grown (blk_below (blk_drew (blk_alloc HY.out _)) hB3) hg4 (fun e => (hR3.1 _ e.symm).1 rfl)
      have hd4c := blk_cell hd4 3
      have hd4f := blk_frozen hd4 3
      refine hK.out _ _ ⟨(blk_cell hp4 0), (blk_cell hp4 1), (blk_cell hp4 2), (blk_cell hd4 3)⟩ (fun hHeld => ?_)
      clear hK K
      refine norm_ (a' := ?_) ?_ ?_
      rotate_left
      · show Act.put _ (some 29) _ = _
        simp only [Act.put, List.setIfInBounds_toArray, List.set_cons_zero, List.set_cons_succ, i64_w, i32_w]
        rfl
      refine pure_ (i := 6) (N := some 30) (v := ?_) (a' := ?_) #[true, true, true, true, true, true, true, false] rfl rfl (by kernel_rfl) (fun _ _ _ h => h) (Or.inl ⟨by rfl, ?_⟩) ?_ ?_
      rotate_left
      · intro w'
        go_simp
        with_reducible rfl
      rotate_left
      · simp only [Act.put, List.setIfInBounds_toArray, List.set_cons_zero, List.set_cons_succ, i64_w, i32_w]
        rfl
      refine last_ (i := 7) (N := none) #[true, true, true, true, true, true, true, true] rfl rfl (by kernel_rfl) (by decide) (fun K hK => ?_)
      refine skip_ (w1 := ?_) (by rfl) rfl ?_ ?_
      rotate_left
      · go_simp
        rfl
      refine hK.out _ _ ?_
      clear hK K
      refine done_ (by kernel_rfl) ?_

      have HD4 := Lib.hid hd4
      have HY4 := Lib.hid hy4
      have HR4 := Lib.hid hR4
      have HB4 := Lib.hid hB4
      clear hd3 hp3 hR3 hb3 hd4 hp4 hy4 hd4c hd4f hR4 hB4 hg4 hB3
      go_wp2
      go_roundw
      case rel =>
        refine ⟨j + 1, _, by omega, by simp, Below.setCell (p := ⟨w.heap.size + 2, 3, none⟩) HB4.out (show w.heap.size ≤ w.heap.size + 2 by omega) _, blk_put HD4.out 3 _ rfl, blk_far HY4.out (by simp) _, ?_⟩
        rw [HT.out, HXX.out]
        have h5 := Kd.R_far (p := ⟨w.heap.size + 2, 3, none⟩) HR4.out (fun k hk => hk.2) (.slice A4 (j + 1) c4)
        rw [show (l.take j ++ [x]).length = j + 1 by rw [List.length_append, List.length_take, List.length_singleton]; omega] at h5
        exact h5
      case measure => simp [intOf]; omega
    · obtain rfl : j = l.length := by omega
      have y0 : wr.cell? ⟨w.heap.size + 1, 0, none⟩ = some (.int .u8 0) := blk_cell HY.out 0
      have y1 : wr.cell? ⟨w.heap.size + 1, 1, none⟩ = some (.int .u64 0) := blk_cell HY.out 1
      have y2 : wr.cell? ⟨w.heap.size + 1, 2, none⟩ = some (.int .u64 0) := blk_cell HY.out 2
      have y3 : wr.cell? ⟨w.heap.size + 1, 3, none⟩ = some (.slice none 0 0) := blk_cell HY.out 3
      have z0 := blk_frozen HY.out 0
      have z1 := blk_frozen HY.out 1
      have z2 := blk_frozen HY.out 2
      have z3 := blk_frozen HY.out 3
      have hr := HR.out
      rw [List.take_length] at hr
      obtain ⟨A5, c5, rfl, hc5, hC5⟩ := Kd.R_reads hr
      have HC5 := Lib.hid hC5
      clear hr hC5
      go_wp2
      have hr2 := HR.out
      rw [List.take_length] at hr2
      have hr3 := Kd.R_far (p := ⟨w.heap.size + 1, 3, none⟩) (Kd.R_far (p := ⟨w.heap.size + 1, 2, none⟩) (Kd.R_far (p := ⟨w.heap.size + 1, 1, none⟩) (Kd.R_far (p := ⟨w.heap.size + 1, 0, none⟩) hr2 (fun k hk => hk.1) (.int .u8 (e % 256))) (fun k hk => hk.1) (.int .u64 h)) (fun k hk => hk.1) (.int .u64 g)) (fun k hk => hk.1) (.slice A5 l.length c5)
      refine bodyPost_ret (results_cell_row rfl _ _ (w.heap.size + 1) 86 #[.int .u8 (e % 256), .int .u64 h, .int .u64 g, .slice A5 l.length c5] (0, 0) _ rfl (blk_put (blk_put (blk_put (blk_put HY.out 0 _ rfl) 1 _ rfl) 2 _ rfl) 3 _ rfl) Try.underlying86 rfl (by kernel_rfl)) rfl ?_
      exact ⟨_, rfl, ⟨A5, c5, rfl, hc5, (Kd.R_reads' hr3).2.2⟩, Below.setCell (p := ⟨w.heap.size + 1, 3, none⟩) (Below.setCell (p := ⟨w.heap.size + 1, 2, none⟩) (Below.setCell (p := ⟨w.heap.size + 1, 1, none⟩) (Below.setCell (p := ⟨w.heap.size + 1, 0, none⟩) HB.out (Nat.le_succ _) _) (Nat.le_succ _) _) (Nat.le_succ _) _) (Nat.le_succ _) _⟩
end Go.Proofs.Ytaoacibahdbdkaa.Rep
/-! reply: are two one?, as a contract. -/
namespace Go.Proofs.Ytaoacibahdbdkaa.Rep
open Go.RowKit Go Go.Proofs.Ytaoacibahdbdkaa.QReplySame Go.Proofs.YtaoacibahdbdkaaW.PrintWords Go.Proofs.YtaoacibahdbdkaaW.PrintLast Go.Proofs.YtaoacibahdbdkaaW.PrintMore Go.Proofs.Ytaoacibahdbdkaa.Fra
theorem eq2 (a b x y : Int) (w : World) : (Op.equalIn 10000 84 (.agg #[.int .u64 a, .int .u64 b]) (.agg #[.int .u64 x, .int .u64 y])).run Try.prog w = .ok (a == x && b == y) w :=
  ArrEq.equalIn_arr2 9998 Try.underlying84 Try.underlying46 w a b x y (by kernel_rfl) (fun _ _ => ⟨by kernel_rfl, by kernel_rfl⟩)
theorem same_false (a0 h0 g0 : Int) (v0 : Value) (l0 : List S54) (a1 h1 g1 : Int) (v1 : Value) (l1 : List S54) (w : World) (r0 : RV w v0 l0) (r1 : RV w v1 l1) (hne : ¬ (a0 = a1 ∧ (h0 = h1 ∧ g0 = g1) ∧ l0.length = l1.length)) :
    Calls Try.prog 47 #[.agg #[.int .u8 a0, .int .u64 h0, .int .u64 g0, v0], .agg #[.int .u8 a1, .int .u64 h1, .int .u64 g1, v1]] w fun en w' => en = .returned (.bool false) ∧ Below w.heap.size w w' := by
  obtain ⟨A0, c0, rfl, _, _⟩ := r0
  obtain ⟨A1, c1, rfl, _, _⟩ := r1
  have q2 := eq2
  by_cases e1 : a0 = a1
  · by_cases e2 : h0 = h1 ∧ g0 = g1
    · have e3 : ¬ l0.length = l1.length := fun h => hne ⟨e1, e2, h⟩
      have b1 : (a0 == a1) = true := by simpa using e1
      have b2 : (h0 == h1 && g0 == g1) = true := by simpa using e2
      have b3 : (l0.length == l1.length) = false := by simpa using e3
      have b3' : (l0.length != l1.length) = true := by simpa using e3
      obtain ⟨rfl, rfl⟩ := e2
      subst e1
      clear hne e3 b1 b2
      go_enter Try.func47, Try.ntmps47
      go_wp2
      go_ret
      exact ⟨rfl, below_alloc (below_alloc (Below.refl _ _) _) _⟩
    · have b1 : (a0 == a1) = true := by simpa using e1
      have b2 : (h0 == h1 && g0 == g1) = false := by rw [Bool.eq_false_iff]; intro h; exact e2 (by simpa using h)
      subst e1
      clear hne e2 b1
      go_enter Try.func47, Try.ntmps47
      go_wp2
      go_ret
      exact ⟨rfl, below_alloc (below_alloc (Below.refl _ _) _) _⟩
  · have b1 : (a0 == a1) = false := by simpa using e1
    have b1' : (a0 != a1) = true := by simpa using e1
    clear hne e1
    go_enter Try.func47, Try.ntmps47
    go_wp2
    go_ret
    exact ⟨rfl, below_alloc (below_alloc (Below.refl _ _) _) _⟩
theorem eqV (a b : Int) (c : ByteArray) (x y : Int) (z : ByteArray) (w : World) : (Op.equalIn 10000 67 (.agg #[.int .u8 a, .int .i64 b, .string c]) (.agg #[.int .u8 x, .int .i64 y, .string z])).run Try.prog w = .ok (a == x && (b == y && (c.toList == z.toList))) w :=
  eqA_of (d := 9999) Try.underlying67 (by kernel_rfl) (eqf_cons (by rfl) (by kernel_rfl) (by kernel_rfl) (run_equalIn_int w 9998 _ .u8 _ _ _ Try.underlying5) (eqf_cons (by rfl) (by kernel_rfl) (by kernel_rfl) (run_equalIn_int w 9998 _ .i64 _ _ _ Try.underlying2) (eqf_last (by rfl) (by kernel_rfl) (by kernel_rfl) (run_equalIn_string w 9998 _ _ _ Try.underlying9))))
theorem ByteArray.toList_inj' {a b : ByteArray} (h : a.toList = b.toList) : a = b := by
  rw [ByteArray.toList_eq, ByteArray.toList_eq] at h
  exact (ValPure.toList_inj a b).1 h
set_option maxHeartbeats 1000000 in
set_option maxRecDepth 100000 in
theorem same_len (a h g : Int) (v0 : Value) (l0 : List S54) (v1 : Value) (l1 : List S54) (w : World) (r0 : RV w v0 l0) (r1 : RV w v1 l1) (hl : l0.length = l1.length) (hm : l0.length ≤ 100000) :
    Calls Try.prog 47 #[.agg #[.int .u8 a, .int .u64 h, .int .u64 g, v0], .agg #[.int .u8 a, .int .u64 h, .int .u64 g, v1]] w fun en w' => en = .returned (.bool (decide (l0 = l1))) ∧ Below w.heap.size w w' := by
  obtain ⟨A0, c0, rfl, k0, h0⟩ := r0
  obtain ⟨A1, c1, rfl, k1, h1⟩ := r1
  obtain ⟨n, hn⟩ : ∃ n, l0.length = n := ⟨_, rfl⟩
  have hn1 : l1.length = n := by omega
  rw [hn] at hm h0 ⊢
  rw [hn1] at h1 ⊢
  have HN := Lib.hid hn
  have HN1 := Lib.hid hn1
  have H0 := Lib.hid h0
  have H1 := Lib.hid h1
  have q2 : ∀ (a b : Int) (V : World), (Op.equalIn 10000 84 (.agg #[.int .u64 a, .int .u64 b]) (.agg #[.int .u64 a, .int .u64 b])).run Try.prog V = .ok true V := fun a b V => by rw [eq2]; simp
  clear hn hn1 h0 h1 hl k0 k1
  go_enter Try.func47, Try.ntmps47
  go_wp2
  go_loopw [30] (fun i wr => ∃ (j m : Nat), j ≤ n ∧ i = .int .i64 j ∧ l0.take j = l1.take j ∧ wr = ((w.alloc (.cells #[.int .u8 a, .int .u64 h, .int .u64 g, .slice A0 n c0] 86)).alloc (.cells #[.int .u8 a, .int .u64 h, .int .u64 g, .slice A1 n c1] 86)).drewN m) (fun i _ => n - (intOf i).toNat)
  case atStart => exact ⟨0, 0, by omega, rfl, by simp, rfl⟩
  case round =>
    obtain ⟨j, m, hj, rfl, ht, rfl⟩ := hrel
    have HT := Lib.hid ht
    clear ht
    by_cases hlt : j < n
    · obtain ⟨x, hx⟩ : ∃ x, l0.getD j z54 = x := ⟨_, rfl⟩
      obtain ⟨y, hy⟩ : ∃ y, l1.getD j z54 = y := ⟨_, rfl⟩
      have hb : Below w.heap.size w ((w.alloc (.cells #[.int .u8 a, .int .u64 h, .int .u64 g, .slice A0 n c0] 86)).alloc (.cells #[.int .u8 a, .int .u64 h, .int .u64 g, .slice A1 n c1] 86)) := below_alloc (below_alloc (Below.refl _ _) _) _
      obtain ⟨ad, rfl, a0, a1, a2⟩ := at_V (Kd.C_below H0.out hb) j hlt x hx
      obtain ⟨bd, rfl, b0, b1, b2⟩ := at_V (Kd.C_below H1.out hb) j hlt y hy
      have HX := Lib.hid hx
      have HY := Lib.hid hy
      clear hx hy hb
      by_cases hxy : x = y
      · subst hxy
        go_wp2
        go_quiet (fail)
        go_wp2
        go_roundw
        case rel =>
          refine ⟨j + 1, _, by omega, by simp, ?_, rfl⟩
          rw [take_snoc l0 j (by rw [HN.out]; exact hlt), take_snoc l1 j (by rw [HN1.out]; exact hlt), HT.out, HX.out, HY.out]
        case measure => simp [intOf]; omega
      · have hne : (x.f0 == y.f0 && (x.f1 == y.f1 && x.f2.toList == y.f2.toList)) = false := by
          rw [Bool.eq_false_iff]
          intro h
          simp only [Bool.and_eq_true, beq_iff_eq] at h
          exact hxy (S54_ext h.1 h.2.1 (ByteArray.toList_inj' h.2.2))
        have HXY := Lib.hid hxy
        have hq : ∀ V, (Op.equalIn 10000 67 (.agg #[.int .u8 x.f0, .int .i64 x.f1, .string x.f2]) (.agg #[.int .u8 y.f0, .int .i64 y.f1, .string y.f2])).run Try.prog V = .ok false V := fun V => by rw [eqV, hne]
        clear hxy hne
        go_wp2
        go_quiet (fail)
        go_wp2
        go_ret
        refine ⟨?_, pw_below_drewN (pw_below_drewN (below_alloc (below_alloc (Below.refl _ _) _) _) _) _⟩
        have hll : l0 ≠ l1 := fun e => HXY.out (by rw [← HX.out, ← HY.out, e])
        rw [decide_eq_false hll]
        rfl
    · obtain rfl : j = n := by omega
      go_wp2
      go_ret
      refine ⟨?_, pw_below_drewN (below_alloc (below_alloc (Below.refl _ _) _) _) _⟩
      have h1 := HT.out
      rw [← HN.out, List.take_length, HN.out, ← HN1.out, List.take_length] at h1
      rw [decide_eq_true h1]
      rfl
theorem same_calls (a0 h0 g0 : Int) (v0 : Value) (l0 : List S54) (a1 h1 g1 : Int) (v1 : Value) (l1 : List S54) (w : World) (r0 : RV w v0 l0) (r1 : RV w v1 l1) (hm : l0.length ≤ 100000) :
    Calls Try.prog 47 #[.agg #[.int .u8 a0, .int .u64 h0, .int .u64 g0, v0], .agg #[.int .u8 a1, .int .u64 h1, .int .u64 g1, v1]] w fun en w' => en = .returned (.bool (sameR a0 h0 g0 l0 a1 h1 g1 l1)) ∧ Below w.heap.size w w' := by
  by_cases h : a0 = a1 ∧ (h0 = h1 ∧ g0 = g1) ∧ l0.length = l1.length
  · obtain ⟨rfl, ⟨rfl, rfl⟩, hl⟩ := h
    have := same_len a0 h0 g0 v0 l0 v1 l1 w r0 r1 hl hm
    simpa [sameR] using this
  · have := same_false a0 h0 g0 v0 l0 a1 h1 g1 v1 l1 w r0 r1 h
    have e : sameR a0 h0 g0 l0 a1 h1 g1 l1 = false := by
      unfold sameR
      rw [Bool.eq_false_iff]
      intro e
      simp only [Bool.and_eq_true, decide_eq_true_eq] at e
      exact h ⟨e.1.1, e.1.2, by rw [e.2]⟩
    rw [e]; exact this
end Go.Proofs.Ytaoacibahdbdkaa.Rep
/-! reply: the chapter's example. -/
namespace Go.Proofs.Ytaoacibahdbdkaa.Rep
open Go.RowKit Go Go.Proofs.Ytaoacibahdbdkaa.QReplySame Go.Proofs.YtaoacibahdbdkaaW.PrintWords Go.Proofs.YtaoacibahdbdkaaW.PrintLast Go.Proofs.YtaoacibahdbdkaaW.PrintMore Go.Proofs.Ytaoacibahdbdkaa.Fra Go.Proofs.Ytaoacibahdbdkaa.Pk Go.Proofs.Ytaoacibahdbdkaa.Bts Go.Proofs.Ytaoacibahdbdkaa.Pr
theorem encode_wrong (e h g : Int) (A : Option Addr) (c : Nat) (l : List S54) (w : World) (hC : Kd.C k54 w A l.length l) (hc : l.length ≤ c) (hl : l.length ≤ 100000) (hr : rightR e h g l = false) :
    Calls Try.prog 53 #[.agg #[.int .i64 e, .int .u64 h, .int .u64 g, .slice A l.length c]] w fun en w' => en = .returned (.tuple #[.slice none 0 0, .int .i64 1]) ∧ Below w.heap.size w w' := by
  have HC := Lib.hid hC
  have HR := Lib.hid hr
  clear hC hr
  go_enter Try.func53, Try.ntmps53
  go_wp2_with (go_at_call 61; go_loud (refine (reply_Reply_Right.calls 200000 e h g A c l false _ (Kd.C_below HC.out (below_alloc (Below.refl _ _) _)) hc (by rw [rright_f _ _ _ _ _ hl (by omega), HR.out])).mono ?_; rintro en w2 ⟨rfl, hB2⟩))
  go_ret2
  exact ⟨rfl, below_step (below_alloc (Below.refl _ _) _) hB2⟩
theorem own_one (W : World) (x : Int) {base : Nat} (hb : base ≤ W.heap.size) : (W.alloc (.cells #[.int .u8 x] 5)).ownsRow base 5 1 (.slice (some ⟨W.heap.size, 0, none⟩) 1 1) 1 [.int .u8 x] :=
  ⟨rfl, .inr ⟨_, 1, _, rfl, hb, blk_new _ _, by omega, by unfold maxLen; omega, rfl, rfl⟩⟩
set_option maxHeartbeats 1000000 in
set_option maxRecDepth 100000 in
theorem encode_error (e h g : Int) (A : Option Addr) (c : Nat) (l : List S54) (w : World) (hC : Kd.C k54 w A l.length l) (hc : l.length ≤ c) (hl : l.length ≤ 100000) (hr : rightR e h g l = true) (he : e ≠ 0) (he0 : 0 ≤ e) (he1 : e ≤ 14) :
    Calls Try.prog 53 #[.agg #[.int .i64 e, .int .u64 h, .int .u64 g, .slice A l.length c]] w fun en w' => ∃ v, en = .returned (.tuple #[v, .int .i64 0]) ∧ Made w w' v [e] := by
  have HC := Lib.hid hC
  have HR := Lib.hid hr
  have hne : (e == 0) = false := by simpa using he
  have hne' : (e != 0) = true := by simpa using he
  have he8 : e % 256 = e := by omega
  clear hC hr he
  go_enter Try.func53, Try.ntmps53
  go_wp2_with (go_at_call 61; go_loud (refine (reply_Reply_Right.calls 200000 e h g A c l true _ (Kd.C_below HC.out (below_alloc (Below.refl _ _) _)) hc (by rw [rright_f _ _ _ _ _ hl (by omega), HR.out])).mono ?_; rintro en w2 ⟨rfl, hB2⟩; have hp := blk_below (blk_new w _) hB2; have p0 := blk_cell hp 0; have hz2 : w.heap.size < w2.heap.size := blk_lt hp; have HB2 := Lib.hid hB2; clear hB2 hp))
  go_ret2
  exact ⟨_, rfl, own_one _ _ (by omega), below_alloc (below_step (below_alloc (Below.refl _ _) _) HB2.out) _⟩
theorem bcell {W w1 : World} (hb : Below W.heap.size W w1) : (∀ b o, b < W.heap.size → w1.cell? ⟨b, o, none⟩ = W.cell? ⟨b, o, none⟩) ∧ (∀ b o, b < W.heap.size → w1.frozen? ⟨b, o, none⟩ = W.frozen? ⟨b, o, none⟩) :=
  ⟨fun b o h => hb.cell (p := ⟨b, o, none⟩) h, fun b o h => hb.frozen (p := ⟨b, o, none⟩) h⟩
theorem told_calls (A : Option Addr) (n c : Nat) (w : World) : Calls Try.prog 80 #[.slice A n c] w fun e w' => e = .returned (.agg #[.int .i64 0, .int .u64 0, .int .u64 0, .slice A n c]) ∧ Below w.heap.size w w' := by
  go_enter Try.func80, Try.ntmps80
  go_wp2
  refine bodyPost_ret (results_cell_row rfl _ _ w.heap.size 82 #[.int .i64 0, .int .u64 0, .int .u64 0, .slice A n c] (0, 0) _ rfl (blk_new w _) Try.underlying82 rfl (by kernel_rfl)) rfl ?_
  exact ⟨rfl, below_alloc (Below.refl _ _) _⟩
theorem given_calls (w : World) : Calls Try.prog 82 #[.agg #[.int .u64 0, .int .u64 3]] w fun e w' => e = .returned (.agg #[.int .i64 0, .int .u64 0, .int .u64 3, .slice none 0 0]) ∧ Below w.heap.size w w' := by
  go_enter Try.func82, Try.ntmps82
  go_wp2
  refine bodyPost_ret (results_cell_row rfl _ _ (w.heap.size + 1) 82 #[.int .i64 0, .int .u64 0, .int .u64 3, .slice none 0 0] (0, 0) _ rfl (blk_new1 w _ _) Try.underlying82 rfl (by kernel_rfl)) rfl ?_
  exact ⟨rfl, below_alloc (below_alloc (Below.refl _ _) _) _⟩
theorem nil_C (w : World) : Kd.C k54 w none ([] : List S54).length [] := Kd.C_nil k54 w
set_option maxHeartbeats 2000000 in
set_option maxRecDepth 100000 in
theorem lives_calls (w : World) : Calls Try.prog 46 #[] w fun e w' => e = .returned (.bool true) ∧ Below w.heap.size w w' := by
  go_enter Try.func46, Try.ntmps46
  go_wp2_with (first
    | (go_at_call 79; go_loud (refine (reply_Wrong.calls 4 _ _ _ _ _ rfl).mono ?_; rintro e w1 ⟨v1, rfl, hR1, hB1⟩; obtain ⟨A1, c1, rfl, hc1, hC1⟩ := Kd.R_reads hR1; have HB1 := Lib.hid hB1; clear hB1))
    | (go_at_call 53; go_loud (refine (encode_error 4 0 0 A1 c1 [] _ hC1 hc1 (by simp) (by decide) (by decide) (by decide) (by decide)).mono ?_; rintro e w2 ⟨v2, rfl, hM2⟩; have HB2 := Lib.hid (below_step HB1.out hM2.2); have hcv : ∀ V, Below w2.heap.size w2 V → (convert 56 9 v2).run Try.prog V = .ok (.string ⟨#[4]⟩) V := fun V hV => byt_convE (hM2.byt.below hV) (by decide) (by decide +kernel); clear hM2)))
  have hS := Below.refl w2.heap.size w2
  have hf1 : ∀ (A : Option Addr) (n c : Nat) (V : World), (Instr.field 82 (.agg #[.int .i64 0, .int .u64 0, .int .u64 0, .slice A n c]) 2).run Try.prog V = .ok (.slice A n c) V := fun _ _ _ _ => by kernel_rfl
  have hf2 : ∀ (V : World), (Instr.field 82 (.agg #[.int .i64 0, .int .u64 0, .int .u64 3, .slice none 0 0]) 1).run Try.prog V = .ok (.agg #[.int .u64 0, .int .u64 3]) V := fun _ => by kernel_rfl
  have hf3 : ∀ (V : World), (Instr.field 80 (.agg #[.int .u64 0, .int .u64 3]) 1).run Try.prog V = .ok (.int .u64 3) V := fun _ => by kernel_rfl
  refine start_ (n := 25) (S := fun w' => (convert 56 9 v2).run Try.prog w' = .ok (.string ⟨#[4]⟩) w') (ds := []) #[false, false, false, false, false, false, false, false, false, false, false, false, false, false, false, false, false, false, false, false, false, false, false, false, false] (by kernel_rfl) rfl rfl ((hcv _ (below_drew1 hS))) (fun hHeld => ?_)
  refine pure_ (i := 0) (N := some 8) (v := ?_) (a' := ?_) #[true, false, false, false, false, false, false, false, false, false, false, false, false, false, false, false, false, false, false, false, false, false, false, false, false] rfl rfl (by kernel_rfl) (fun _ _ _ h => h) (Or.inl ⟨by rfl, ?_⟩) ?_ ?_
  rotate_left
  · intro w'
    go_simp
    with_reducible rfl
  rotate_left
  · simp only [Act.put, List.setIfInBounds_toArray, List.set_cons_zero, List.set_cons_succ, i64_w, i32_w]
    rfl
  refine pure_ (i := 1) (N := some 9) (v := ?_) (a' := ?_) #[true, true, false, false, false, false, false, false, false, false, false, false, false, false, false, false, false, false, false, false, false, false, false, false, false] rfl rfl (by kernel_rfl) (fun _ _ _ h => h) (Or.inl ⟨by rfl, ?_⟩) ?_ ?_
  rotate_left
  · intro w'
    go_simp
    with_reducible rfl
  rotate_left
  · simp only [Act.put, List.setIfInBounds_toArray, List.set_cons_zero, List.set_cons_succ, i64_w, i32_w]
    rfl
  refine pure_ (i := 2) (N := some 10) (v := ?_) (a' := ?_) #[true, true, true, false, false, false, false, false, false, false, false, false, false, false, false, false, false, false, false, false, false, false, false, false, false] rfl rfl (by kernel_rfl) (fun _ _ _ h => h) (Or.inl ⟨by rfl, ?_⟩) ?_ ?_
  rotate_left
  · intro w'
    go_simp
    with_reducible rfl
  rotate_left
  · simp only [Act.put, List.setIfInBounds_toArray, List.set_cons_zero, List.set_cons_succ, i64_w, i32_w]
    rfl
  refine pure_ (i := 3) (N := some 11) (v := ?_) (a' := ?_) #[true, true, true, true, false, false, false, false, false, false, false, false, false, false, false, false, false, false, false, false, false, false, false, false, false] rfl rfl (by kernel_rfl) (fun _ _ _ h => h) (Or.inl ⟨by rfl, ?_⟩) ?_ ?_
  rotate_left
  · intro w'
    go_simp
    with_reducible rfl
  rotate_left
  · simp only [Act.put, List.setIfInBounds_toArray, List.set_cons_zero, List.set_cons_succ, i64_w, i32_w]
    rfl
  refine take_ (i := 4) (N := some 12) (v := ?_) (a' := ?_) #[true, true, true, true, true, false, false, false, false, false, false, false, false, false, false, false, false, false, false, false, false, false, false, false, false] rfl rfl (by kernel_rfl) (fun _ _ _ h => h) (Or.inl ⟨by rfl, ?_⟩) hHeld ?_ ?_
  rotate_left
  · intro w' s0
    go_simp
    with_reducible rfl
  rotate_left
  · simp only [Act.put, List.setIfInBounds_toArray, List.set_cons_zero, List.set_cons_succ, i64_w, i32_w]
    rfl
  refine pure_ (i := 5) (N := some 13) (v := ?_) (a' := ?_) #[true, true, true, true, true, true, false, false, false, false, false, false, false, false, false, false, false, false, false, false, false, false, false, false, false] rfl rfl (by kernel_rfl) (fun _ _ _ h => h) (Or.inl ⟨by rfl, ?_⟩) ?_ ?_
  rotate_left
  · intro w'
    go_simp
    with_reducible rfl
  rotate_left
  · simp only [Act.put, List.setIfInBounds_toArray, List.set_cons_zero, List.set_cons_succ, i64_w, i32_w]
    rfl
  refine pure_ (i := 6) (N := some 14) (v := ?_) (a' := ?_) #[true, true, true, true, true, true, true, false, false, false, false, false, false, false, false, false, false, false, false, false, false, false, false, false, false] rfl rfl (by kernel_rfl) (fun _ _ _ h => h) (Or.inl ⟨by rfl, ?_⟩) ?_ ?_
  rotate_left
  · intro w'
    go_simp
    with_reducible rfl
  rotate_left
  · simp only [Act.put, List.setIfInBounds_toArray, List.set_cons_zero, List.set_cons_succ, i64_w, i32_w]
    rfl
  refine pure_ (i := 7) (N := some 15) (v := ?_) (a' := ?_) #[true, true, true, true, true, true, true, true, false, false, false, false, false, false, false, false, false, false, false, false, false, false, false, false, false] rfl rfl (by kernel_rfl) (fun _ _ _ h => h) (Or.inl ⟨by rfl, ?_⟩) ?_ ?_
  rotate_left
  · intro w'
    go_simp
    with_reducible rfl
  rotate_left
  · simp only [Act.put, List.setIfInBounds_toArray, List.set_cons_zero, List.set_cons_succ, i64_w, i32_w]
    rfl
  refine one_ (i := 8) (N := some 16) #[true, true, true, true, true, true, true, true, true, false, false, false, false, false, false, false, false, false, false, false, false, false, false, false, false] rfl rfl (by kernel_rfl) (by decide) (fun K hK => ?_)
  refine goes_ Try.func81 (by kernel_rfl) rfl #[.int .i64 1] (by rfl) rfl rfl (by simp only [List.map_toArray, List.map_cons, List.map_nil]; rfl) ?_
  with_reducible refine (value_Number.calls 1 _ _ _ _ rfl).mono ?_
  rintro e3 w3 ⟨rfl, hB3⟩
  refine ⟨_, rfl, ?_⟩
  have hb3 := below_step (below_drew1 hS) hB3
  refine hK.out _ _ ((hcv _ hb3)) (fun hHeld => ?_)
  clear hK K
  refine norm_ (a' := ?_) ?_ ?_
  rotate_left
  · show Act.put _ (some 16) _ = _
    simp only [Act.put, List.setIfInBounds_toArray, List.set_cons_zero, List.set_cons_succ, i64_w, i32_w]
    rfl
  refine one_ (i := 9) (N := some 17) #[true, true, true, true, true, true, true, true, true, true, false, false, false, false, false, false, false, false, false, false, false, false, false, false, false] rfl rfl (by kernel_rfl) (by decide) (fun K hK => ?_)
  refine value_ (w1 := ?_) (v := ?_) (by rfl) rfl ?_ ?_
  rotate_left 2
  · go_simp
    constructor
    · rfl
    · rfl
  refine hK.out _ _ ((hcv _ (below_alloc hb3 _))) (fun hHeld => ?_)
  clear hK K
  refine norm_ (a' := ?_) ?_ ?_
  rotate_left
  · show Act.put _ (some 17) _ = _
    simp only [Act.put, List.setIfInBounds_toArray, List.set_cons_zero, List.set_cons_succ, i64_w, i32_w]
    rfl
  refine one_ (i := 10) (N := some 18) #[true, true, true, true, true, true, true, true, true, true, true, false, false, false, false, false, false, false, false, false, false, false, false, false, false] rfl rfl (by kernel_rfl) (by decide) (fun K hK => ?_)
  refine goes_ Try.func80 (by kernel_rfl) rfl #[.slice (some ⟨w3.heap.size, 0, none⟩) 1 1] (by rfl) rfl rfl (by simp only [List.map_toArray, List.map_cons, List.map_nil]; rfl) ?_
  with_reducible refine (told_calls _ _ _ _).mono ?_
  rintro e4 w4 ⟨rfl, hB4⟩
  refine ⟨_, rfl, ?_⟩
  have hb4 := below_step (below_alloc hb3 _) hB4
  have hx4 := blk_below (blk_new w3 _) hB4
  have x0 := blk_cell hx4 0
  have x1 := blk_cell hx4 1
  have x2 := blk_cell hx4 2
  refine hK.out _ _ ((hcv _ hb4)) (fun hHeld => ?_)
  clear hK K
  refine norm_ (a' := ?_) ?_ ?_
  rotate_left
  · show Act.put _ (some 18) _ = _
    simp only [Act.put, List.setIfInBounds_toArray, List.set_cons_zero, List.set_cons_succ, i64_w, i32_w]
    rfl
  refine pure_ (i := 11) (N := some 19) (v := ?_) (a' := ?_) #[true, true, true, true, true, true, true, true, true, true, true, true, false, false, false, false, false, false, false, false, false, false, false, false, false] rfl rfl (by kernel_rfl) (fun _ _ _ h => h) (Or.inl ⟨by rfl, ?_⟩) ?_ ?_
  rotate_left
  · intro w'
    go_simp
    with_reducible rfl
  rotate_left
  · simp only [Act.put, List.setIfInBounds_toArray, List.set_cons_zero, List.set_cons_succ, i64_w, i32_w]
    rfl
  refine pure_ (i := 12) (N := some 20) (v := ?_) (a' := ?_) #[true, true, true, true, true, true, true, true, true, true, true, true, true, false, false, false, false, false, false, false, false, false, false, false, false] rfl rfl (by kernel_rfl) (fun _ _ _ h => h) (Or.inl ⟨by rfl, ?_⟩) ?_ ?_
  rotate_left
  · intro w'
    go_simp
    with_reducible rfl
  rotate_left
  · simp only [Act.put, List.setIfInBounds_toArray, List.set_cons_zero, List.set_cons_succ, i64_w, i32_w]
    rfl
  refine join_ (σ := Unit) 10 #[true, true, true, true, true, true, true, true, true, true, true, true, true, true, true, false, false, false, false, false, false, false, false, false, false] (fun _ => [(21, .agg #[.int .u8 2, .int .i64 1, .string (⟨#[]⟩ : ByteArray)]), (22, .agg #[.int .u8 2, .int .i64 1, .string (⟨#[]⟩ : ByteArray)])]) (fun _ w' => Below w2.heap.size w2 w') ?_ ?_
  rotate_left
  · intro hCont
    refine two_ (i := 13) (j := 14) (Ni := some 21) (Nj := some 22) #[true, true, true, true, true, true, true, true, true, true, true, true, true, true, false, false, false, false, false, false, false, false, false, false, false] #[true, true, true, true, true, true, true, true, true, true, true, true, true, false, true, false, false, false, false, false, false, false, false, false, false] rfl rfl rfl rfl (by kernel_rfl) (by decide) (by decide) (fun K hK => ?_) (fun K hK => ?_)
    · skip
      refine value_ (w1 := ?_) (v := ?_) (by rfl) rfl ?_ ?_
      rotate_left 2
      · go_simp
        constructor
        · rfl
        · rfl
      refine hK.out _ _ ((hcv _ (by assumption))) (fun hHeld => ?_)
      clear hK K
      refine norm_ (a' := ?_) ?_ ?_
      rotate_left
      · show Act.put _ (some 21) _ = _
        simp only [Act.put, List.setIfInBounds_toArray, List.set_cons_zero, List.set_cons_succ, i64_w, i32_w]
        rfl
      refine one_ (i := 14) (N := some 22) #[true, true, true, true, true, true, true, true, true, true, true, true, true, true, true, false, false, false, false, false, false, false, false, false, false] rfl rfl (by kernel_rfl) (by decide) (fun K hK => ?_)
      refine goes_ Try.func81 (by kernel_rfl) rfl #[.int .i64 1] (by rfl) rfl rfl (by simp only [List.map_toArray, List.map_cons, List.map_nil]; rfl) ?_
      with_reducible refine (value_Number.calls 1 _ _ _ _ rfl).mono ?_
      rintro e5 w5 ⟨rfl, hB5⟩
      refine ⟨_, rfl, ?_⟩
      have hb5 := below_step hb4 hB5
      have hx5 := blk_below hx4 hB5
      have y0 := blk_cell hx5 0
      have y1 := blk_cell hx5 1
      have y2 := blk_cell hx5 2
      refine hK.out _ _ ((hcv _ hb5)) (fun hHeld => ?_)
      clear hK K
      refine norm_ (a' := ?_) ?_ ?_
      rotate_left
      · show Act.put _ (some 22) _ = _
        simp only [Act.put, List.setIfInBounds_toArray, List.set_cons_zero, List.set_cons_succ, i64_w, i32_w]
        rfl
      exact norm_ (by simp only [putAll, Act.put, List.setIfInBounds_toArray, List.set_cons_zero, List.set_cons_succ]) (hCont () _ hb5)
    · skip
      refine goes_ Try.func81 (by kernel_rfl) rfl #[.int .i64 1] (by rfl) rfl rfl (by simp only [List.map_toArray, List.map_cons, List.map_nil]; rfl) ?_
      with_reducible refine (value_Number.calls 1 _ _ _ _ rfl).mono ?_
      rintro e5 w5 ⟨rfl, hB5⟩
      refine ⟨_, rfl, ?_⟩
      have hb5 := below_step hb4 hB5
      have hx5 := blk_below hx4 hB5
      have y0 := blk_cell hx5 0
      have y1 := blk_cell hx5 1
      have y2 := blk_cell hx5 2
      refine hK.out _ _ ((hcv _ hb5)) (fun hHeld => ?_)
      clear hK K
      refine norm_ (a' := ?_) ?_ ?_
      rotate_left
      · show Act.put _ (some 22) _ = _
        simp only [Act.put, List.setIfInBounds_toArray, List.set_cons_zero, List.set_cons_succ, i64_w, i32_w]
        rfl
      refine one_ (i := 13) (N := some 21) #[true, true, true, true, true, true, true, true, true, true, true, true, true, true, true, false, false, false, false, false, false, false, false, false, false] rfl rfl (by kernel_rfl) (by decide) (fun K hK => ?_)
      refine value_ (w1 := ?_) (v := ?_) (by rfl) rfl ?_ ?_
      rotate_left 2
      · go_simp
        constructor
        · rfl
        · rfl
      refine hK.out _ _ ((hcv _ (by assumption))) (fun hHeld => ?_)
      clear hK K
      refine norm_ (a' := ?_) ?_ ?_
      rotate_left
      · show Act.put _ (some 21) _ = _
        simp only [Act.put, List.setIfInBounds_toArray, List.set_cons_zero, List.set_cons_succ, i64_w, i32_w]
        rfl
      exact norm_ (by simp only [putAll, Act.put, List.setIfInBounds_toArray, List.set_cons_zero, List.set_cons_succ]) (hCont () _ hb5)
  rintro _ w5 hb5
  have hHeld := hcv _ hb5
  refine norm_ (a' := ?_) ?_ ?_
  rotate_left
  · simp only [putAll, Act.put, List.setIfInBounds_toArray, List.set_cons_zero, List.set_cons_succ]
    rfl
  refine pure_ (i := 15) (N := some 23) (v := ?_) (a' := ?_) #[true, true, true, true, true, true, true, true, true, true, true, true, true, true, true, true, false, false, false, false, false, false, false, false, false] rfl rfl (by kernel_rfl) (fun _ _ _ h => h) (Or.inl ⟨by rfl, ?_⟩) ?_ ?_
  rotate_left
  · intro w'
    go_simp
    with_reducible rfl
  rotate_left
  · simp only [Act.put, List.setIfInBounds_toArray, List.set_cons_zero, List.set_cons_succ, i64_w, i32_w]
    rfl
  refine pure_ (i := 16) (N := some 24) (v := ?_) (a' := ?_) #[true, true, true, true, true, true, true, true, true, true, true, true, true, true, true, true, true, false, false, false, false, false, false, false, false] rfl rfl (by kernel_rfl) (fun _ _ _ h => h) (Or.inl ⟨by rfl, ?_⟩) ?_ ?_
  rotate_left
  · intro w'
    go_simp
    with_reducible rfl
  rotate_left
  · simp only [Act.put, List.setIfInBounds_toArray, List.set_cons_zero, List.set_cons_succ, i64_w, i32_w]
    rfl
  refine pure_ (i := 17) (N := some 25) (v := ?_) (a' := ?_) #[true, true, true, true, true, true, true, true, true, true, true, true, true, true, true, true, true, true, false, false, false, false, false, false, false] rfl rfl (by kernel_rfl) (fun _ _ _ h => h) (Or.inl ⟨by rfl, ?_⟩) ?_ ?_
  rotate_left
  · intro w'
    go_simp
    with_reducible rfl
  rotate_left
  · simp only [Act.put, List.setIfInBounds_toArray, List.set_cons_zero, List.set_cons_succ, i64_w, i32_w]
    rfl
  refine pure_ (i := 18) (N := some 26) (v := ?_) (a' := ?_) #[true, true, true, true, true, true, true, true, true, true, true, true, true, true, true, true, true, true, true, false, false, false, false, false, false] rfl rfl (by kernel_rfl) (fun _ _ _ h => h) (Or.inl ⟨by rfl, ?_⟩) ?_ ?_
  rotate_left
  · intro w'
    go_simp
    with_reducible rfl
  rotate_left
  · simp only [Act.put, List.setIfInBounds_toArray, List.set_cons_zero, List.set_cons_succ, i64_w, i32_w]
    rfl
  refine one_ (i := 19) (N := some 27) #[true, true, true, true, true, true, true, true, true, true, true, true, true, true, true, true, true, true, true, true, false, false, false, false, false] rfl rfl (by kernel_rfl) (by decide) (fun K hK => ?_)
  refine goes_ Try.func82 (by kernel_rfl) rfl #[.agg #[.int .u64 0, .int .u64 3]] (by rfl) rfl rfl (by simp only [List.map_toArray, List.map_cons, List.map_nil]; rfl) ?_
  with_reducible refine (given_calls _).mono ?_
  rintro e6 w6 ⟨rfl, hB6⟩
  refine ⟨_, rfl, ?_⟩
  have hb6 := below_step hb5 hB6
  refine hK.out _ _ ((hcv _ hb6)) (fun hHeld => ?_)
  clear hK K
  refine norm_ (a' := ?_) ?_ ?_
  rotate_left
  · show Act.put _ (some 27) _ = _
    simp only [Act.put, List.setIfInBounds_toArray, List.set_cons_zero, List.set_cons_succ, i64_w, i32_w]
    rfl
  refine pure_ (i := 20) (N := some 28) (v := ?_) (a' := ?_) #[true, true, true, true, true, true, true, true, true, true, true, true, true, true, true, true, true, true, true, true, true, false, false, false, false] rfl rfl (by kernel_rfl) (fun _ _ _ h => h) (Or.inl ⟨by rfl, ?_⟩) ?_ ?_
  rotate_left
  · intro w'
    go_simp
    with_reducible rfl
  rotate_left
  · simp only [Act.put, List.setIfInBounds_toArray, List.set_cons_zero, List.set_cons_succ, i64_w, i32_w]
    rfl
  refine pure_ (i := 21) (N := some 29) (v := ?_) (a' := ?_) #[true, true, true, true, true, true, true, true, true, true, true, true, true, true, true, true, true, true, true, true, true, true, false, false, false] rfl rfl (by kernel_rfl) (fun _ _ _ h => h) (Or.inl ⟨by rfl, ?_⟩) ?_ ?_
  rotate_left
  · intro w'
    go_simp
    with_reducible rfl
  rotate_left
  · simp only [Act.put, List.setIfInBounds_toArray, List.set_cons_zero, List.set_cons_succ, i64_w, i32_w]
    rfl
  refine pure_ (i := 22) (N := some 30) (v := ?_) (a' := ?_) #[true, true, true, true, true, true, true, true, true, true, true, true, true, true, true, true, true, true, true, true, true, true, true, false, false] rfl rfl (by kernel_rfl) (fun _ _ _ h => h) (Or.inl ⟨by rfl, ?_⟩) ?_ ?_
  rotate_left
  · intro w'
    go_simp
    with_reducible rfl
  rotate_left
  · simp only [Act.put, List.setIfInBounds_toArray, List.set_cons_zero, List.set_cons_succ, i64_w, i32_w]
    rfl
  refine pure_ (i := 23) (N := some 31) (v := ?_) (a' := ?_) #[true, true, true, true, true, true, true, true, true, true, true, true, true, true, true, true, true, true, true, true, true, true, true, true, false] rfl rfl (by kernel_rfl) (fun _ _ _ h => h) (Or.inl ⟨by rfl, ?_⟩) ?_ ?_
  rotate_left
  · intro w'
    go_simp
    with_reducible rfl
  rotate_left
  · simp only [Act.put, List.setIfInBounds_toArray, List.set_cons_zero, List.set_cons_succ, i64_w, i32_w]
    rfl
  refine pure_ (i := 24) (N := some 0) (v := ?_) (a' := ?_) #[true, true, true, true, true, true, true, true, true, true, true, true, true, true, true, true, true, true, true, true, true, true, true, true, true] rfl rfl (by kernel_rfl) (fun _ _ _ h => h) (Or.inl ⟨by rfl, ?_⟩) ?_ ?_
  rotate_left
  · intro w'
    go_simp
    with_reducible rfl
  rotate_left
  · simp only [Act.put, List.setIfInBounds_toArray, List.set_cons_zero, List.set_cons_succ, i64_w, i32_w]
    rfl
  refine done_ (by kernel_rfl) ?_

  have HF := Lib.hid (below_step HB2.out hb6)
  go_wp2
  go_ret
  exact ⟨rfl, HF.out⟩
end Go.Proofs.Ytaoacibahdbdkaa.Rep
/-! reply: a reply's bytes, as a contract. -/
namespace Go.Proofs.Ytaoacibahdbdkaa.Rep
open Go.RowKit Go Go.Proofs.Ytaoacibahdbdkaa.QReplySame Go.Proofs.YtaoacibahdbdkaaW.PrintWords Go.Proofs.YtaoacibahdbdkaaW.PrintLast Go.Proofs.YtaoacibahdbdkaaW.PrintMore Go.Proofs.Ytaoacibahdbdkaa.Fra Go.Proofs.Ytaoacibahdbdkaa.Pk Go.Proofs.Ytaoacibahdbdkaa.Bts Go.Proofs.Ytaoacibahdbdkaa.Pr
theorem rightS_small {x : S54} (h : rightS x = true) : 0 ≤ x.f0 ∧ x.f0 ≤ 3 ∧ x.f2.size ≤ 4096 := by
  unfold rightS rightV at h
  split at h
  · simp only [Bool.and_eq_true, beq_iff_eq, Bool.or_eq_true, decide_eq_true_eq] at h; omega
  · split at h
    · simp only [Bool.and_eq_true, beq_iff_eq, Bool.or_eq_true, decide_eq_true_eq] at h; omega
    · split at h
      · simp only [Bool.and_eq_true, beq_iff_eq, Bool.or_eq_true, decide_eq_true_eq] at h; omega
      · split at h
        · simp only [Bool.and_eq_true, beq_iff_eq, Bool.or_eq_true, decide_eq_true_eq] at h; omega
        · cases h
theorem put1 (v : Value) (xs : List Int) (n : Int) (w : World) (h : Byt w v xs) (hl : xs.length ≤ 140737488351300) (h0 : 0 ≤ n) :
    Calls Try.prog 67 #[v, .int .u64 n, .int .i64 1] w fun e w' => ∃ v', e = .returned v' ∧ Made w w' v' (xs ++ leB n 1) := put_pos v xs n 1 w h hl h0 (by omega) (by omega)
theorem put2 (v : Value) (xs : List Int) (n : Int) (w : World) (h : Byt w v xs) (hl : xs.length ≤ 140737488351300) (h0 : 0 ≤ n) :
    Calls Try.prog 67 #[v, .int .u64 n, .int .i64 2] w fun e w' => ∃ v', e = .returned v' ∧ Made w w' v' (xs ++ leB n 2) := put_pos v xs n 2 w h hl h0 (by omega) (by omega)
theorem put4 (v : Value) (xs : List Int) (n : Int) (w : World) (h : Byt w v xs) (hl : xs.length ≤ 140737488351300) (h0 : 0 ≤ n) :
    Calls Try.prog 67 #[v, .int .u64 n, .int .i64 4] w fun e w' => ∃ v', e = .returned v' ∧ Made w w' v' (xs ++ leB n 4) := put_pos v xs n 4 w h hl h0 (by omega) (by omega)
theorem put8 (v : Value) (xs : List Int) (n : Int) (w : World) (h : Byt w v xs) (hl : xs.length ≤ 140737488351300) (h0 : 0 ≤ n) :
    Calls Try.prog 67 #[v, .int .u64 n, .int .i64 8] w fun e w' => ∃ v', e = .returned v' ∧ Made w w' v' (xs ++ leB n 8) := put_pos v xs n 8 w h hl h0 (by omega) (by omega)
theorem own_below {w W : World} {base n size : Nat} {e : TypeId} {v : Value} {xs : List Value} (h : w.ownsRow base e size v n xs) (hb : Below w.heap.size w W) : W.ownsRow base e size v n xs :=
  h.kept (row := none) ⟨hb.os, hb.tape, hb.output, hb.size, fun i hi _ => hb.block i hi⟩ (by cases v.ownBlock <;> simp)
theorem made_step {w W W' : World} {v : Value} {xs : List Int} (hb : Below w.heap.size w W) (h : Made W W' v xs) : Made w W' v xs := ⟨own_weaken h.1 hb.size, below_step hb h.2⟩
theorem made_below {w W W' : World} {v : Value} {xs : List Int} (h : Made w W v xs) (hb : Below W.heap.size W W') : Made w W' v xs := ⟨own_below h.1 hb, below_step h.2 hb⟩
/-- Values' bytes, one behind the other. -/
def vbs (l : List S54) : List Int := l.flatMap fun x => valB x.f0 x.f1 x.f2
theorem vbs_snoc (l : List S54) (x : S54) : vbs (l ++ [x]) = vbs l ++ valB x.f0 x.f1 x.f2 := by simp [vbs]
def headB (h g : Int) (n : Nat) : List Int := [0] ++ leB h 8 ++ leB g 8 ++ leB n 2
theorem headB_len (h g : Int) (n : Nat) : (headB h g n).length = 19 := by simp [headB, leB_length]
theorem vbs_len (l : List S54) (hs : l.all rightS = true) : (vbs l).length ≤ l.length * 4105 := by
  induction l with
  | nil => simp [vbs]
  | cons x l ih =>
    rw [List.all_cons, Bool.and_eq_true] at hs
    have h1 := ih hs.2
    have h2 := valB_len x.f0 x.f1 x.f2
    have h3 := (rightS_small hs.1).2.2
    have e : vbs (x :: l) = valB x.f0 x.f1 x.f2 ++ vbs l := by simp [vbs]
    rw [e, List.length_append, List.length_cons]
    omega
theorem all_take {l : List S54} (hs : l.all rightS = true) (j : Nat) : (l.take j).all rightS = true := by
  rw [List.all_eq_true] at hs ⊢
  exact fun x hx => hs x (List.mem_of_mem_take hx)
set_option maxHeartbeats 2000000 in
set_option maxRecDepth 100000 in
theorem encode_ok (h g : Int) (A : Option Addr) (c : Nat) (l : List S54) (w : World) (hC : Kd.C k54 w A l.length l) (hc : l.length ≤ c) (hl : l.length ≤ 128) (hs : l.all rightS = true) (hh : 0 ≤ h) (hg : 0 ≤ g) :
    Calls Try.prog 53 #[.agg #[.int .i64 0, .int .u64 h, .int .u64 g, .slice A l.length c]] w fun en w' => ∃ v, en = .returned (.tuple #[v, .int .i64 0]) ∧ Made w w' v (headB h g l.length ++ vbs l) := by
  have HC := Lib.hid hC
  have HR := Lib.hid (show rightR 0 h g l = true by simp [rightR, hs, hl])
  have HS := Lib.hid hs
  clear hC hs
  go_enter Try.func53, Try.ntmps53
  go_wp2_with (go_at_call 61; go_loud (refine (reply_Reply_Right.calls 200000 0 h g A c l true _ (Kd.C_below HC.out (below_alloc (Below.refl _ _) _)) hc (by rw [rright_f _ _ _ _ _ (by omega) (by omega), HR.out])).mono ?_; rintro en w2 ⟨rfl, hB2⟩; have hp := blk_below (blk_new w _) hB2; have p0 := blk_cell hp 0; have hz2 : w.heap.size < w2.heap.size := blk_lt hp; have HB2 := Lib.hid (below_step (below_alloc (Below.refl _ _) _) hB2); have HP2 := Lib.hid hp; clear hB2 hp))
  have hW3 := blk_drew (blk_alloc HP2.out (.cells #[.int .u8 0] 5))
  have p1 := blk_cell hW3 1
  have p2 := blk_cell hW3 2
  have HP3 := Lib.hid hW3
  have HM3 := Lib.hid (show Made w (w2.alloc (.cells #[.int .u8 0] 5)).drew (.slice (some ⟨w2.heap.size, 0, none⟩) 1 1) [0] from made_below ⟨own_one _ _ (by omega), below_alloc HB2.out _⟩ (below_drew1 (Below.refl _ _)))
  clear hW3 p0
  refine start_ (n := 10) (S := fun w' => w'.cell? ⟨w.heap.size, 1, none⟩ = some (.int .u64 h) ∧ w'.cell? ⟨w.heap.size, 2, none⟩ = some (.int .u64 g)) (ds := []) #[false, false, false, false, false, false, false, false, false, false] (by kernel_rfl) rfl rfl ⟨p1, p2⟩ (fun hHeld => ?_)
  refine pure_ (i := 0) (N := some 18) (v := ?_) (a' := ?_) #[true, false, false, false, false, false, false, false, false, false] rfl rfl (by kernel_rfl) (fun _ _ _ h => h) (Or.inl ⟨by rfl, ?_⟩) ?_ ?_
  rotate_left
  · intro w'
    go_simp
    with_reducible rfl
  rotate_left
  · simp only [Act.put, List.setIfInBounds_toArray, List.set_cons_zero, List.set_cons_succ, i64_w, i32_w]
    rfl
  refine pure_ (i := 1) (N := some 19) (v := ?_) (a' := ?_) #[true, true, false, false, false, false, false, false, false, false] rfl rfl (by kernel_rfl) (fun _ _ _ h => h) (Or.inl ⟨by rfl, ?_⟩) ?_ ?_
  rotate_left
  · intro w'
    go_simp
    with_reducible rfl
  rotate_left
  · simp only [Act.put, List.setIfInBounds_toArray, List.set_cons_zero, List.set_cons_succ, i64_w, i32_w]
    rfl
  refine pure_ (i := 2) (N := some 20) (v := ?_) (a' := ?_) #[true, true, true, false, false, false, false, false, false, false] rfl rfl (by kernel_rfl) (fun _ _ _ h => h) (Or.inl ⟨by rfl, ?_⟩) ?_ ?_
  rotate_left
  · intro w'
    go_simp
    with_reducible rfl
  rotate_left
  · simp only [Act.put, List.setIfInBounds_toArray, List.set_cons_zero, List.set_cons_succ, i64_w, i32_w]
    rfl
  refine pure_ (i := 5) (N := some 23) (v := ?_) (a' := ?_) #[true, true, true, false, false, true, false, false, false, false] rfl rfl (by kernel_rfl) (fun _ _ _ h => h) (Or.inl ⟨by rfl, ?_⟩) ?_ ?_
  rotate_left
  · intro w'
    go_simp
    with_reducible rfl
  rotate_left
  · simp only [Act.put, List.setIfInBounds_toArray, List.set_cons_zero, List.set_cons_succ, i64_w, i32_w]
    rfl
  refine pure_ (i := 6) (N := some 24) (v := ?_) (a' := ?_) #[true, true, true, false, false, true, true, false, false, false] rfl rfl (by kernel_rfl) (fun _ _ _ h => h) (Or.inl ⟨by rfl, ?_⟩) ?_ ?_
  rotate_left
  · intro w'
    go_simp
    with_reducible rfl
  rotate_left
  · simp only [Act.put, List.setIfInBounds_toArray, List.set_cons_zero, List.set_cons_succ, i64_w, i32_w]
    rfl
  refine take_ (i := 3) (N := some 21) (v := ?_) (a' := ?_) #[true, true, true, true, false, true, true, false, false, false] rfl rfl (by kernel_rfl) (fun _ _ _ h => h) (Or.inl ⟨by rfl, ?_⟩) hHeld ?_ ?_
  rotate_left
  · rintro w' ⟨s0, s1⟩
    go_simp
    with_reducible rfl
  rotate_left
  · simp only [Act.put, List.setIfInBounds_toArray, List.set_cons_zero, List.set_cons_succ, i64_w, i32_w]
    rfl
  refine take_ (i := 7) (N := some 25) (v := ?_) (a' := ?_) #[true, true, true, true, false, true, true, true, false, false] rfl rfl (by kernel_rfl) (fun _ _ _ h => h) (Or.inl ⟨by rfl, ?_⟩) hHeld ?_ ?_
  rotate_left
  · rintro w' ⟨s0, s1⟩
    go_simp
    with_reducible rfl
  rotate_left
  · simp only [Act.put, List.setIfInBounds_toArray, List.set_cons_zero, List.set_cons_succ, i64_w, i32_w]
    rfl
  refine one_ (i := 4) (N := some 22) #[true, true, true, true, true, true, true, true, false, false] rfl rfl (by kernel_rfl) (by decide) (fun K hK => ?_)
  refine goes_ Try.func67 (by kernel_rfl) rfl #[.slice (some ⟨w2.heap.size, 0, none⟩) 1 1, .int .u64 h, .int .i64 8] (by rfl) rfl rfl (by simp only [List.map_toArray, List.map_cons, List.map_nil]; rfl) ?_
  with_reducible refine (put8 _ [0] h _ HM3.out.byt (by simp) hh).mono ?_
  rintro e4 w4 ⟨v4, rfl, hM4⟩
  refine ⟨_, rfl, ?_⟩
  have hp4 := blk_below HP3.out hM4.2
  refine hK.out _ _ ⟨(blk_cell hp4 1), (blk_cell hp4 2)⟩ (fun hHeld => ?_)
  clear hK K
  refine norm_ (a' := ?_) ?_ ?_
  rotate_left
  · show Act.put _ (some 22) _ = _
    simp only [Act.put, List.setIfInBounds_toArray, List.set_cons_zero, List.set_cons_succ, i64_w, i32_w]
    rfl
  refine one_ (i := 8) (N := some 26) #[true, true, true, true, true, true, true, true, true, false] rfl rfl (by kernel_rfl) (by decide) (fun K hK => ?_)
  refine goes_ Try.func67 (by kernel_rfl) rfl #[v4, .int .u64 g, .int .i64 8] (by rfl) rfl rfl (by simp only [List.map_toArray, List.map_cons, List.map_nil]; rfl) ?_
  with_reducible refine (put8 _ ([0] ++ leB h 8) g _ hM4.byt (by simp [leB_length]) hg).mono ?_
  rintro e5 w5 ⟨v5, rfl, hM5⟩
  refine ⟨_, rfl, ?_⟩
  have hp5 := blk_below hp4 hM5.2
  refine hK.out _ _ ⟨(blk_cell hp5 1), (blk_cell hp5 2)⟩ (fun hHeld => ?_)
  clear hK K
  refine norm_ (a' := ?_) ?_ ?_
  rotate_left
  · show Act.put _ (some 26) _ = _
    simp only [Act.put, List.setIfInBounds_toArray, List.set_cons_zero, List.set_cons_succ, i64_w, i32_w]
    rfl
  refine pure_ (i := 9) (N := some 4) (v := ?_) (a' := ?_) #[true, true, true, true, true, true, true, true, true, true] rfl rfl (by kernel_rfl) (fun _ _ _ h => h) (Or.inl ⟨by rfl, ?_⟩) ?_ ?_
  rotate_left
  · intro w'
    go_simp
    with_reducible rfl
  rotate_left
  · simp only [Act.put, List.setIfInBounds_toArray, List.set_cons_zero, List.set_cons_succ, i64_w, i32_w]
    rfl
  refine done_ (by kernel_rfl) ?_

  have HM5 := Lib.hid (made_step (below_step HM3.out.2 hM4.2) hM5)
  have HP5 := Lib.hid hp5
  have p3 := blk_cell hp5 3
  clear hp4 hM4 hM5 hp5 p1 p2
  go_wp2_with (go_at_call 67; go_loud (refine (put2 _ ([0] ++ leB h 8 ++ leB g 8) l.length _ HM5.out.byt (by simp [leB_length]) (by omega)).mono ?_; rintro en w6 ⟨v6, rfl, hM6⟩; have hp6 := blk_below HP5.out hM6.2; have q3 := blk_cell hp6 3; have HP6 := Lib.hid hp6; have HM6 := Lib.hid (made_step HM5.out.2 hM6); clear hp6 hM6))
  go_loopw [4, 36] (fun b i wr => ∃ (j : Nat), j ≤ l.length ∧ i = .int .i64 j ∧ Made w wr b (headB h g l.length ++ vbs (l.take j))) (fun _ i _ => l.length - (intOf i).toNat)
  case atStart => exact ⟨0, by omega, rfl, by simpa [headB, vbs] using HM6.out⟩
  case round =>
    obtain ⟨j, hj, rfl, hM⟩ := hrel
    have HM := Lib.hid hM
    clear hM
    by_cases hlt : j < l.length
    · obtain ⟨x, hx⟩ : ∃ x, l.getD j z54 = x := ⟨_, rfl⟩
      obtain ⟨ad, rfl, a0, a1, a2⟩ := at_V (Kd.C_below HC.out HM.out.2) j hlt x hx
      have hxs : rightS x = true := by
        have := List.all_eq_true.1 HS.out x (by rw [← hx]; simp [List.getD, hlt])
        exact this
      obtain ⟨hx0, hx1, hx2⟩ := rightS_small hxs
      have HT := Lib.hid (take_snoc l j hlt)
      have HXX := Lib.hid hx
      have HLN := Lib.hid (show (headB h g l.length ++ vbs (l.take j)).length ≤ 35184372088832 by
        have h1 := vbs_len (l.take j) (all_take HS.out j)
        rw [List.length_take] at h1
        rw [List.length_append, headB_len]
        omega)
      clear hx hxs
      go_wp2_with (go_at_call 69; go_loud (refine (value_calls _ (headB h g l.length ++ vbs (l.take j)) x.f0 x.f1 x.f2 _ (HM.out.byt.below (below_alloc (Below.refl _ _) _)) hx0 (by omega) HLN.out (by omega)).mono ?_; rintro en w7 ⟨v7, rfl, hM7⟩))
      go_roundw
      case rel =>
        refine ⟨j + 1, by omega, by simp, ?_⟩
        rw [HT.out, HXX.out, vbs_snoc, ← List.append_assoc]
        exact made_step (below_alloc HM.out.2 _) hM7
      case measure => simp [intOf]; omega
    · obtain rfl : j = l.length := by omega
      go_wp2
      go_ret2
      have h1 := HM.out
      rw [List.take_length] at h1
      exact ⟨_, rfl, h1⟩
end Go.Proofs.Ytaoacibahdbdkaa.Rep
/-! reply: what bytes say, in plain words. -/
namespace Go.Proofs.Ytaoacibahdbdkaa.Rep
open Go.RowKit Go Go.Proofs.Ytaoacibahdbdkaa.QReplySame Go.Proofs.YtaoacibahdbdkaaW.PrintWords Go.Proofs.Ytaoacibahdbdkaa.Fra Go.Proofs.Ytaoacibahdbdkaa.Pk Go.Proofs.Ytaoacibahdbdkaa.Bts Go.Proofs.Ytaoacibahdbdkaa.Pr
/-- A value that is read. -/
def valS (xs : List Int) (f : Int) : S54 := ⟨(valueP xs f).1.1, (valueP xs f).1.2.1, (valueP xs f).1.2.2⟩
/-- So many values that are read. -/
def vals : Nat → List Int → Int → List S54 × List Int × Int
  | 0, xs, f => ([], xs, f)
  | n + 1, xs, f => if f = 0 then (valS xs f :: (vals n (valueP xs f).2.1 (valueP xs f).2.2).1, (vals n (valueP xs f).2.1 (valueP xs f).2.2).2) else ([], xs, f)
theorem vals_bad (n : Nat) (xs : List Int) (f : Int) (h : f ≠ 0) : vals n xs f = ([], xs, f) := by
  cases n with
  | zero => rfl
  | succ n => unfold vals; rw [if_neg h]
theorem vals_go (n : Nat) (xs : List Int) : vals (n + 1) xs 0 = (valS xs 0 :: (vals n (valueP xs 0).2.1 (valueP xs 0).2.2).1, (vals n (valueP xs 0).2.1 (valueP xs 0).2.2).2) := by
  rw [vals, if_pos rfl]
theorem vals_len (n : Nat) : ∀ (xs : List Int) (f : Int), (vals n xs f).1.length ≤ n := by
  induction n with
  | zero => intro xs f; simp [vals]
  | succ n ih =>
    intro xs f
    unfold vals
    split
    · simp [ih]
    · simp
/-- What a reply's bytes say: its error, handle and values; what is left, and what is wrong. -/
def repP (xs : List Int) : (Int × Int × Int × List S54) × List Int × Int :=
  let t1 := takeP xs 0 1
  if numB t1.1 = 0 ∧ t1.2.2 = 0 then
    let t2 := takeP t1.2.1 t1.2.2 8
    let t3 := takeP t2.2.1 t2.2.2 8
    let t4 := takeP t3.2.1 t3.2.2 2
    let v := vals (numB t4.1).toNat t4.2.1 t4.2.2
    ((0, numB t2.1, numB t3.1, v.1), v.2)
  else ((numB t1.1, 0, 0, []), t1.2)
theorem takeP_bs1 {xs bs ys : List Int} {f f1 : Int} {n : Nat} (h : takeP xs f n = (bs, ys, f1)) (hb : Bs xs) : Bs bs ∧ Bs ys ∧ bs.length ≤ n ∧ ys.length ≤ xs.length := by
  have h1 := takeP_bs hb f n
  have h2 := takeP_len xs f n
  have h3 := takeP_left xs f n
  rw [h] at h1 h2 h3
  exact ⟨h1.1, h1.2, h2, h3⟩
theorem textP_bs (xs : List Int) (f most : Int) (hb : Bs xs) : Bs (textP xs f most).2.1 ∧ (textP xs f most).2.1.length ≤ xs.length := by
  unfold textP
  have h1 := takeP_bs hb f 2
  have h3 := takeP_left xs f 2
  generalize takeP xs f 2 = t at *
  have h4 := takeP_bs h1.2 (if t.2.2 = 0 ∧ most < numB t.1 then 12 else t.2.2) (numB t.1).toNat
  have h5 := takeP_left t.2.1 (if t.2.2 = 0 ∧ most < numB t.1 then 12 else t.2.2) (numB t.1).toNat
  exact ⟨h4.2, Nat.le_trans h5 h3⟩
theorem valueP_bs (xs : List Int) (f : Int) (hb : Bs xs) : Bs (valueP xs f).2.1 ∧ (valueP xs f).2.1.length ≤ xs.length := by
  have h1 := takeP_bs hb f 1
  have h3 := takeP_left xs f 1
  have e : (valueP xs f).2.1 = (valM xs f).2.2.2.1 := rfl
  rw [e]
  unfold valM
  generalize takeP xs f 1 = t at *
  dsimp only
  split
  · exact ⟨(takeP_bs h1.2 t.2.2 1).2, Nat.le_trans (takeP_left _ _ _) h3⟩
  · split
    · exact ⟨(takeP_bs h1.2 t.2.2 8).2, Nat.le_trans (takeP_left _ _ _) h3⟩
    · split
      · exact ⟨(textP_bs _ _ _ h1.2).1, Nat.le_trans (textP_bs _ _ _ h1.2).2 h3⟩
      · exact ⟨h1.2, h3⟩
theorem numB_small {bs : List Int} (hb : Bs bs) {n : Nat} (hn : bs.length ≤ n) (hn8 : n ≤ 8) : 0 ≤ numB bs ∧ numB bs < 256 ^ n := by
  obtain ⟨h1, h2⟩ := numB_nn bs hb
  have h := Nat.pow_le_pow_right (n := 256) (by decide) hn
  have h' : ((256 ^ bs.length : Nat) : Int) ≤ ((256 ^ n : Nat) : Int) := Int.ofNat_le.2 h
  refine ⟨h1, Int.lt_of_lt_of_le h2 ?_⟩
  simpa using h'
end Go.Proofs.Ytaoacibahdbdkaa.Rep
