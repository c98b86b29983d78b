/- Texts of this claim, laid together: VlR, SlX. -/
import Derived.Test.YtnipbfhfaefieaaUr
/-! The document's order of values. -/
namespace Go.Proofs.Ytnipbfhfaefieaa.Vl
open Go.RowKit Go Go.Proofs.YtnipbfhfaefieaaW.PrintWords Go.Proofs.YtnipbfhfaefieaaW.PrintMore Go.Proofs.YtnipbfhfaefieaaW.PrintLast Go.Proofs.Ytnipbfhfaefieaa.Bts Go.Proofs.Ytnipbfhfaefieaa.Fra Go.Proofs.Ytnipbfhfaefieaa.Arn Go.Proofs.Ytnipbfhfaefieaa.ValPure
theorem drop_consV (s : ByteArray) (i : Nat) (h : i < s.size) : s.data.toList.drop i = (s.data.toList[i]'(by rw [Array.length_toList]; exact h)) :: s.data.toList.drop (i + 1) := by
  rw [List.drop_eq_getElem_cons (by rw [Array.length_toList]; exact h)]
theorem drop_noneV (s : ByteArray) (i : Nat) (h : s.size ≤ i) : s.data.toList.drop i = [] := List.drop_eq_nil_of_le (by rw [Array.length_toList]; exact h)
theorem cmpB_step (s s2 : ByteArray) (i : Nat) (h : i < s.size) (h2 : i < s2.size) : cmpB (s.data.toList.drop i) (s2.data.toList.drop i) = if (s[i].toNat : Int) < (s2[i].toNat : Int) then -1 else if (s2[i].toNat : Int) < (s[i].toNat : Int) then 1 else cmpB (s.data.toList.drop (i + 1)) (s2.data.toList.drop (i + 1)) := by
  rw [drop_consV s i h, drop_consV s2 i h2]
  simp only [cmpB, Lib.compareBytes, UInt8.lt_iff_toNat_lt, Int.ofNat_lt]
  rfl
theorem cmpB_end (s s2 : ByteArray) (i : Nat) (hi : i ≤ s.size) (hi2 : i ≤ s2.size) (h : ¬ (i < s.size ∧ i < s2.size)) : (cmpB (s.data.toList.drop i) (s2.data.toList.drop i) < 0) ↔ ((s.size : Int) < (s2.size : Int)) := by
  by_cases h1 : i < s.size
  · rw [drop_noneV s2 i (by omega), drop_consV s i h1]
    simp [cmpB, Lib.compareBytes]
    omega
  · rw [drop_noneV s i (by omega)]
    by_cases h2 : i < s2.size
    · rw [drop_consV s2 i h2]
      simp [cmpB, Lib.compareBytes]
      omega
    · rw [drop_noneV s2 i (by omega)]
      simp [cmpB, Lib.compareBytes]
      omega
set_option maxHeartbeats 4000000 in
set_option maxRecDepth 100000 in
theorem less_kind (k m : Int) (s : ByteArray) (k2 m2 : Int) (s2 : ByteArray) (w : World) (hk : k ≠ k2) :
    Calls Try.prog 101 #[.agg #[.int .u8 k, .int .i64 m, .string s], .agg #[.int .u8 k2, .int .i64 m2, .string s2]] w fun e w' => e = .returned (.bool (decide (cmpV k m s k2 m2 s2 < 0))) ∧ Below w.heap.size w w' := by
  have hb := below_alloc (below_alloc (Below.refl w.heap.size w) (.cells #[.int .u8 k, .int .i64 m, .string s] 151)) (.cells #[.int .u8 k2, .int .i64 m2, .string s2] 151)
  have hk1 := blk_alloc (blk_new w (.cells #[.int .u8 k, .int .i64 m, .string s] 151)) (.cells #[.int .u8 k2, .int .i64 m2, .string s2] 151)
  have hk2 := new1 w (.cells #[.int .u8 k, .int .i64 m, .string s] 151) (.cells #[.int .u8 k2, .int .i64 m2, .string s2] 151)
  have HB := Lib.hid hb
  have HK1 := Lib.hid hk1
  have HK2 := Lib.hid hk2
  obtain ⟨R, hR⟩ : ∃ R : Bool, decide (cmpV k m s k2 m2 s2 < 0) = R := ⟨_, rfl⟩
  rw [hR]
  have HR := Lib.hid hR
  clear hb hk1 hk2 hR
  have c1 : (k != k2) = true := by simpa using hk
  have hr : R = decide (k < k2) := by
    rw [← HR.out, cmpV_eq, if_neg (fun e => hk ((cmpI_zero k k2).1 e))]
    simp only [cmpI_neg]
  have HR2 := Lib.hid hr
  clear HR hr hk
  go_enter Try.func101, Try.ntmps101
  go_wp2
  go_ret
  exact ⟨by rw [HR2.out]; rfl, HB.out⟩
set_option maxHeartbeats 4000000 in
set_option maxRecDepth 100000 in
theorem less_num (k m : Int) (s : ByteArray) (m2 : Int) (s2 : ByteArray) (w : World) (hm : m ≠ m2) :
    Calls Try.prog 101 #[.agg #[.int .u8 k, .int .i64 m, .string s], .agg #[.int .u8 k, .int .i64 m2, .string s2]] w fun e w' => e = .returned (.bool (decide (cmpV k m s k m2 s2 < 0))) ∧ Below w.heap.size w w' := by
  have hb := below_alloc (below_alloc (Below.refl w.heap.size w) (.cells #[.int .u8 k, .int .i64 m, .string s] 151)) (.cells #[.int .u8 k, .int .i64 m2, .string s2] 151)
  have hk1 := blk_alloc (blk_new w (.cells #[.int .u8 k, .int .i64 m, .string s] 151)) (.cells #[.int .u8 k, .int .i64 m2, .string s2] 151)
  have hk2 := new1 w (.cells #[.int .u8 k, .int .i64 m, .string s] 151) (.cells #[.int .u8 k, .int .i64 m2, .string s2] 151)
  have HB := Lib.hid hb
  have HK1 := Lib.hid hk1
  have HK2 := Lib.hid hk2
  obtain ⟨R, hR⟩ : ∃ R : Bool, decide (cmpV k m s k m2 s2 < 0) = R := ⟨_, rfl⟩
  rw [hR]
  have HR := Lib.hid hR
  clear hb hk1 hk2 hR
  have c2 : (m != m2) = true := by simpa using hm
  have hr : R = decide (m < m2) := by
    rw [← HR.out, cmpV_eq, if_pos ((cmpI_zero k k).2 rfl), if_neg (fun e => hm ((cmpI_zero m m2).1 e))]
    simp only [cmpI_neg]
  have HR2 := Lib.hid hr
  clear HR hr hm
  go_enter Try.func101, Try.ntmps101
  go_wp2
  go_ret
  exact ⟨by rw [HR2.out]; rfl, HB.out⟩
set_option maxHeartbeats 4000000 in
set_option maxRecDepth 100000 in
theorem less_text (k m : Int) (s : ByteArray) (s2 : ByteArray) (w : World) (hs : s.size ≤ 140737488351232) (hs2 : s2.size ≤ 140737488351232) :
    Calls Try.prog 101 #[.agg #[.int .u8 k, .int .i64 m, .string s], .agg #[.int .u8 k, .int .i64 m, .string s2]] w fun e w' => e = .returned (.bool (decide (cmpV k m s k m s2 < 0))) ∧ Below w.heap.size w w' := by
  have hb := below_alloc (below_alloc (Below.refl w.heap.size w) (.cells #[.int .u8 k, .int .i64 m, .string s] 151)) (.cells #[.int .u8 k, .int .i64 m, .string s2] 151)
  have hk1 := blk_alloc (blk_new w (.cells #[.int .u8 k, .int .i64 m, .string s] 151)) (.cells #[.int .u8 k, .int .i64 m, .string s2] 151)
  have hk2 := new1 w (.cells #[.int .u8 k, .int .i64 m, .string s] 151) (.cells #[.int .u8 k, .int .i64 m, .string s2] 151)
  have HB := Lib.hid hb
  have HK1 := Lib.hid hk1
  have HK2 := Lib.hid hk2
  obtain ⟨R, hR⟩ : ∃ R : Bool, decide (cmpV k m s k m s2 < 0) = R := ⟨_, rfl⟩
  rw [hR]
  have HR := Lib.hid hR
  clear hb hk1 hk2 hR
  have hr : R = decide (cmpB (s.data.toList.drop 0) (s2.data.toList.drop 0) < 0) := by
    rw [← HR.out, cmpV_eq, if_pos ((cmpI_zero k k).2 rfl), if_pos ((cmpI_zero m m).2 rfl), List.drop_zero, List.drop_zero]
  have HR0 := Lib.hid hr
  clear HR hr
  have hs1' : (s.size : Int) ≤ 140737488351232 := by omega
  have hs2' : (s2.size : Int) ≤ 140737488351232 := by omega
  go_enter Try.func101, Try.ntmps101
  go_wp2
  go_loopg [5] s.size (fun q i wr => ∃ j : Nat, q + j = s.size ∧ j ≤ s2.size ∧ i = .int .i64 (j : Int) ∧ Hid (R = decide (cmpB (s.data.toList.drop j) (s2.data.toList.drop j) < 0)) ∧ Hid (Below ((w.alloc (.cells #[.int .u8 k, .int .i64 m, .string s] 151)).alloc (.cells #[.int .u8 k, .int .i64 m, .string s2] 151)).heap.size ((w.alloc (.cells #[.int .u8 k, .int .i64 m, .string s] 151)).alloc (.cells #[.int .u8 k, .int .i64 m, .string s2] 151)) wr))
  case atStart => exact ⟨0, rfl, Nat.zero_le _, rfl, HR0, Lib.hid (Below.refl _ _)⟩
  case round =>
    obtain ⟨j, hq, hj2, rfl, HRj, HBj⟩ := hrel
    have k1 := blk_below HK1.out HBj.out
    have k2 := blk_below HK2.out HBj.out
    have x2 := blk_cell k1 2
    have y2 := blk_cell k2 2
    have HBW := Lib.hid (HB.out.trans (HBj.out.mono HB.out.size))
    clear k1 k2
    by_cases h1 : j < s.size
    · have d1 : (j : Int) < (s.size : Int) := by omega
      have d1b := decide_eq_true d1
      by_cases h2 : j < s2.size
      · have d2 : (j : Int) < (s2.size : Int) := by omega
        have d2b := decide_eq_true d2
        have hst := cmpB_step s s2 j h1 h2
        by_cases e : (s[j].toNat : Int) = (s2[j].toNat : Int)
        · have eb : ((s[j].toNat : Int) != (s2[j].toNat : Int)) = false := by simpa using e
          have hrj := HRj.out
          rw [hst, if_neg (by omega), if_neg (by omega)] at hrj
          have HRn := Lib.hid hrj
          clear e hst hrj
          go_wp2
          go_quiet (fail)
          go_wp2
          go_roundg (gk - 1)
          case measure => omega
          case rel => exact ⟨j + 1, by omega, by omega, rfl, HRn, Lib.hid (pw_below_drewN HBj.out _)⟩
        · have eb : ((s[j].toNat : Int) != (s2[j].toNat : Int)) = true := by simpa using e
          have hrj := HRj.out
          have hr2 : R = decide ((s[j].toNat : Int) < (s2[j].toNat : Int)) := by
            rw [hrj, hst]
            by_cases l : (s[j].toNat : Int) < (s2[j].toNat : Int)
            · rw [if_pos l, decide_eq_true l]
              rfl
            · rw [if_neg l, if_pos (by omega), decide_eq_false l]
              rfl
          have HRn := Lib.hid hr2
          clear e hst hrj hr2
          go_wp2
          go_quiet (fail)
          go_wp2
          go_quiet (fail)
          go_wp2
          go_ret
          exact ⟨by rw [HRn.out]; simp only [Int.ofNat_lt]; rfl, pw_below_drewN (pw_below_drewN HBW.out _) _⟩
      · have d2 : ¬ (j : Int) < (s2.size : Int) := by omega
        have d2b := decide_eq_false d2
        have hrj := HRj.out
        have hre := cmpB_end s s2 j (by omega) hj2 (fun q => h2 q.2)
        have hr2 : R = decide ((s.size : Int) < (s2.size : Int)) := by rw [hrj, decide_eq_decide]; exact hre
        have HRn := Lib.hid hr2
        clear hrj hr2 hre
        go_wp2
        go_ret
        exact ⟨by rw [HRn.out]; simp only [Int.ofNat_lt]; rfl, HBW.out⟩
    · have d1 : ¬ (j : Int) < (s.size : Int) := by omega
      have d1b := decide_eq_false d1
      have hrj := HRj.out
      have hre := cmpB_end s s2 j (by omega) hj2 (fun q => h1 q.1)
      have hr2 : R = decide ((s.size : Int) < (s2.size : Int)) := by rw [hrj, decide_eq_decide]; exact hre
      have HRn := Lib.hid hr2
      clear hrj hr2 hre
      go_wp2
      go_ret
      exact ⟨by rw [HRn.out]; simp only [Int.ofNat_lt]; rfl, HBW.out⟩
theorem refless (k m : Int) (s : ByteArray) (k2 m2 : Int) (s2 : ByteArray) (w : World) (hs : s.size ≤ 140737488351232) (hs2 : s2.size ≤ 140737488351232) :
    Calls Try.prog 101 #[.agg #[.int .u8 k, .int .i64 m, .string s], .agg #[.int .u8 k2, .int .i64 m2, .string s2]] w fun e w' => e = .returned (.bool (decide (cmpV k m s k2 m2 s2 < 0))) ∧ Below w.heap.size w w' := by
  by_cases hk : k = k2
  · subst hk
    by_cases hm : m = m2
    · subst hm
      exact less_text k m s s2 w hs hs2
    · exact less_num k m s m2 s2 w hm
  · exact less_kind k m s k2 m2 s2 w hk
theorem refless_b (b : Bool) (k m : Int) (s : ByteArray) (k2 m2 : Int) (s2 : ByteArray) (w : World) (hs : s.size ≤ 140737488351232) (hs2 : s2.size ≤ 140737488351232) (h : decide (cmpV k m s k2 m2 s2 < 0) = b) :
    Calls Try.prog 101 #[.agg #[.int .u8 k, .int .i64 m, .string s], .agg #[.int .u8 k2, .int .i64 m2, .string s2]] w fun e w' => e = .returned (.bool b) ∧ Below w.heap.size w w' := by
  rw [← h]
  exact refless k m s k2 m2 s2 w hs hs2
set_option maxHeartbeats 4000000 in
set_option maxRecDepth 100000 in
theorem refcmp (k m : Int) (s : ByteArray) (k2 m2 : Int) (s2 : ByteArray) (w : World) (hs : s.size ≤ 140737488351232) (hs2 : s2.size ≤ 140737488351232) :
    Calls Try.prog 90 #[.agg #[.int .u8 k, .int .i64 m, .string s], .agg #[.int .u8 k2, .int .i64 m2, .string s2]] w fun e w' => e = .returned (.int .i64 (cmpV k m s k2 m2 s2)) ∧ Below w.heap.size w w' := by
  have hb := below_alloc (below_alloc (Below.refl w.heap.size w) (.cells #[.int .u8 k, .int .i64 m, .string s] 151)) (.cells #[.int .u8 k2, .int .i64 m2, .string s2] 151)
  have hk1 := blk_alloc (blk_new w (.cells #[.int .u8 k, .int .i64 m, .string s] 151)) (.cells #[.int .u8 k2, .int .i64 m2, .string s2] 151)
  have hk2 := new1 w (.cells #[.int .u8 k, .int .i64 m, .string s] 151) (.cells #[.int .u8 k2, .int .i64 m2, .string s2] 151)
  have HB := Lib.hid hb
  have HK1 := Lib.hid hk1
  have HK2 := Lib.hid hk2
  have x0 := blk_cell hk1 0
  have x1 := blk_cell hk1 1
  have x2 := blk_cell hk1 2
  have y0 := blk_cell hk2 0
  have y1 := blk_cell hk2 1
  have y2 := blk_cell hk2 2
  have hsw := cmpV_swap k m s k2 m2 s2
  have hrg := cmpV_range k m s k2 m2 s2
  obtain ⟨R, hR⟩ : ∃ R, cmpV k m s k2 m2 s2 = R := ⟨_, rfl⟩
  rw [hR] at hsw hrg ⊢
  obtain ⟨p1, hp1⟩ : ∃ p : Bool, decide (cmpV k m s k2 m2 s2 < 0) = p := ⟨_, rfl⟩
  obtain ⟨p2, hp2⟩ : ∃ p : Bool, decide (cmpV k2 m2 s2 k m s < 0) = p := ⟨_, rfl⟩
  have HP1 := Lib.hid hp1
  have HP2 := Lib.hid hp2
  have hq1 : p1 = decide (R < 0) := by rw [← hp1, hR]
  have hq2 : p2 = decide (-R < 0) := by rw [← hp2, hsw]
  have HS := Lib.hid (And.intro hs hs2)
  clear hb hk1 hk2 hR hsw hp1 hp2 hs hs2
  rcases hrg with e | e | e
  all_goals (
    subst e
    first
      | (obtain rfl : p1 = true := hq1; obtain rfl : p2 = false := hq2)
      | (obtain rfl : p1 = false := hq1; obtain rfl : p2 = false := hq2)
      | (obtain rfl : p1 = false := hq1; obtain rfl : p2 = true := hq2)
    (try clear hq1); (try clear hq2)
    go_enter Try.func90, Try.ntmps90
    go_wp2_with (first
      | (go_at_call 101; have hx := HB3; clear hx; (with_reducible refine (refless_b _ _ _ _ _ _ _ _ HS.out.2 HS.out.1 HP2.out).mono ?_); rintro e w4 ⟨rfl, hb4⟩; have HB4 := Lib.hid (HB3.out.trans (hb4.mono HB3.out.size)); clear hb4)
      | (go_at_call 101; (with_reducible refine (refless_b _ _ _ _ _ _ _ _ HS.out.1 HS.out.2 HP1.out).mono ?_); rintro e w3 ⟨rfl, hb3⟩; have HB3 := Lib.hid (HB.out.trans (hb3.mono HB.out.size)); have j1 := blk_below HK1.out hb3; have j2 := blk_below HK2.out hb3; have x0 := blk_cell j1 0; have x1 := blk_cell j1 1; have x2 := blk_cell j1 2; have y0 := blk_cell j2 0; have y1 := blk_cell j2 1; have y2 := blk_cell j2 2; clear hb3 j1 j2))
    go_ret
    exact ⟨rfl, HB4.out⟩)
end Go.Proofs.Ytnipbfhfaefieaa.Vl
/-! Lists of values by order: value.Lists and the document's. -/
namespace Go.Proofs.Ytnipbfhfaefieaa.Sl
open Go.RowKit Go Go.Proofs.YtnipbfhfaefieaaW.PrintWords Go.Proofs.YtnipbfhfaefieaaW.PrintMore Go.Proofs.YtnipbfhfaefieaaW.PrintLast Go.Proofs.Ytnipbfhfaefieaa.Bts Go.Proofs.Ytnipbfhfaefieaa.Fra Go.Proofs.Ytnipbfhfaefieaa.ArnP Go.Proofs.Ytnipbfhfaefieaa.Arn Go.Proofs.Ytnipbfhfaefieaa.Ao Go.Proofs.Ytnipbfhfaefieaa.Pv Go.Proofs.Ytnipbfhfaefieaa.ValPure Go.Proofs.Ytnipbfhfaefieaa.Vl

def cmp3 (x y : V3) : Int := cmpV x.1 x.2.1 x.2.2 y.1 y.2.1 y.2.2
def listsV : List V3 → List V3 → Int
  | [], [] => 0
  | [], _ :: _ => -1
  | _ :: _, [] => 1
  | x :: l, y :: m => if cmp3 x y = 0 then listsV l m else cmp3 x y
theorem listsV_step (l m : List V3) (j : Nat) (x y : V3) (hx : l[j]? = some x) (hy : m[j]? = some y) : listsV (l.drop j) (m.drop j) = if cmp3 x y = 0 then listsV (l.drop (j + 1)) (m.drop (j + 1)) else cmp3 x y := by
  obtain ⟨h1, rfl⟩ := List.getElem?_eq_some_iff.1 hx
  obtain ⟨h2, rfl⟩ := List.getElem?_eq_some_iff.1 hy
  rw [List.drop_eq_getElem_cons h1, List.drop_eq_getElem_cons h2]
  rfl
theorem listsV_end (l m : List V3) (j : Nat) (h1 : j ≤ l.length) (h2 : j ≤ m.length) (h : ¬ (j < l.length ∧ j < m.length)) : listsV (l.drop j) (m.drop j) = cmpI (l.length : Int) (m.length : Int) := by
  unfold cmpI
  by_cases a : j < l.length
  · have b : ¬ j < m.length := fun b => h ⟨a, b⟩
    rw [List.drop_eq_getElem_cons a, List.drop_eq_nil_of_le (by omega : m.length ≤ j), if_neg (by omega), if_pos (by omega)]
    rfl
  · rw [List.drop_eq_nil_of_le (by omega : l.length ≤ j)]
    by_cases b : j < m.length
    · rw [List.drop_eq_getElem_cons b, if_pos (by omega)]
      rfl
    · rw [List.drop_eq_nil_of_le (by omega : m.length ≤ j), if_neg (by omega), if_neg (by omega)]
      rfl
theorem listsV_self (l : List V3) : listsV l l = 0 := by
  induction l with
  | nil => rfl
  | cons x l ih =>
    have : cmp3 x x = 0 := (cmpV_zero _ _ _ _ _ _).2 ⟨rfl, rfl, rfl⟩
    unfold listsV
    rw [if_pos this, ih]
def minJ (x y : Int) : Int := if y < x then y else x
theorem minJE (w : World) (ts : Array TypeId) (t : TypeId) (x y : Int) : (Builtin.min_ ts t #[.int .i64 x, .int .i64 y]).run Try.prog w = .ok (.int .i64 (minJ x y)) w := run_min_int2 (P := Try.prog) (w := w) ts t .i64 .i64 x y
theorem minJN (a b : Nat) : minJ (a : Int) (b : Int) = ((min a b : Nat) : Int) := by
  unfold minJ
  split <;> omega
theorem valcmp_is (k m : Int) (s : ByteArray) (k2 m2 : Int) (s2 : ByteArray) (r : Int) (w : World) (h : cmpV k m s k2 m2 s2 = r) :
    Calls Try.prog 99 #[.agg #[.int .u8 k, .int .i64 m, .string s], .agg #[.int .u8 k2, .int .i64 m2, .string s2]] w fun e w' => e = .returned (.int .i64 r) ∧ Below w.heap.size w w' := by
  rw [← h]
  exact valcmp k m s k2 m2 s2 w
theorem refcmp_is (k m : Int) (s : ByteArray) (k2 m2 : Int) (s2 : ByteArray) (r : Int) (w : World) (h : cmpV k m s k2 m2 s2 = r) (hs : s.size ≤ 140737488351232) (hs2 : s2.size ≤ 140737488351232) :
    Calls Try.prog 90 #[.agg #[.int .u8 k, .int .i64 m, .string s], .agg #[.int .u8 k2, .int .i64 m2, .string s2]] w fun e w' => e = .returned (.int .i64 r) ∧ Below w.heap.size w w' := by
  rw [← h]
  exact refcmp k m s k2 m2 s2 w hs hs2
theorem blk3 {V w3 : World} {a : Addr} {v : Value} (h : Below V.heap.size V w3) (hc : V.cell? a = some v) : w3.cell? a = some v := by
  rw [h.cell (p := a) (World.block_lt_of_cell? _ _ hc)]
  exact hc
set_option maxHeartbeats 4000000 in
set_option maxRecDepth 100000 in
theorem lists_calls {Q R : Nat → Prop} (l m : List V3) (v u : Value) (w : World) (hl : RowIn kVal w Q v l) (hm : RowIn kVal w R u m) (hll : l.length ≤ 100000) (hml : m.length ≤ 100000) :
    Calls Try.prog 89 #[v, u] w fun e w' => e = .returned (.int .i64 (listsV l m)) ∧ Below w.heap.size w w' := by
  obtain ⟨A, c, e1, _⟩ := id hl
  obtain ⟨B, d, e2, _⟩ := id hm
  subst e1 e2
  have HL := Lib.hid hl
  have HM := Lib.hid hm
  have hll' : (l.length : Int) ≤ 100000 := by omega
  have hml' : (m.length : Int) ≤ 100000 := by omega
  obtain ⟨P9, hP⟩ : ∃ P9 : Int, listsV (l.drop 0) (m.drop 0) = P9 := ⟨_, rfl⟩
  have hP0 : listsV l m = P9 := hP
  rw [hP0]
  have HP := Lib.hid hP
  have hmn : ∀ (w : World) (ts : Array TypeId) (t : TypeId), (Builtin.min_ ts t #[.int .i64 (l.length : Int), .int .i64 (m.length : Int)]).run Try.prog w = .ok (.int .i64 ((min l.length m.length : Nat) : Int)) w := fun w ts t => by rw [minJE, minJN]
  obtain ⟨M, hM⟩ : ∃ M, min l.length m.length = M := ⟨_, rfl⟩
  rw [hM] at hmn
  have HMM := Lib.hid hM
  clear hM
  clear hl hm hP hP0
  go_enter Try.func89, Try.ntmps89
  go_wp2
  go_loopg [12] l.length (fun q i wr => ∃ j : Nat, q + j = l.length ∧ j ≤ m.length ∧ i = .int .i64 (j : Int) ∧ Hid (listsV (l.drop j) (m.drop j) = P9) ∧ Below w.heap.size w wr)
  case atStart => exact ⟨0, rfl, Nat.zero_le _, rfl, HP, Below.refl _ _⟩
  case round =>
    obtain ⟨j, hq, hjm, rfl, HT, hB⟩ := hrel
    have HB := Lib.hid hB
    clear hB
    by_cases hj : j < l.length ∧ j < m.length
    · obtain ⟨hjl, hj⟩ := hj
      have hj' : (j : Int) < (m.length : Int) := by omega
      have hjl' : (j : Int) < (l.length : Int) := by omega
      have hjM : (j : Int) < (M : Int) := by have := HMM.out; omega
      obtain ⟨x, hx⟩ : ∃ x, l[j]? = some x := ⟨l[j], List.getElem?_eq_getElem hjl⟩
      obtain ⟨y, hy⟩ : ∃ y, m[j]? = some y := ⟨m[j], List.getElem?_eq_getElem hj⟩
      have hst := listsV_step l m j x y hx hy
      rw [HT.out] at hst
      obtain ⟨k1, m1, s1⟩ := x
      obtain ⟨k2, m2, s2⟩ := y
      have hFD : Fr (fun _ => False) w wr.drew := Fr.of_new (below_drew1 HB.out)
      obtain ⟨ad, c', e1, x0, x1, x2⟩ := row_at (HL.out.fr kVal_K hFD (fun _ _ h => h)) j hx
      obtain ⟨bd, d', e2, y0, y1, y2⟩ := row_at (HM.out.fr kVal_K hFD (fun _ _ h => h)) j hy
      obtain rfl : A = some ad := by injection e1
      obtain rfl : B = some bd := by injection e2
      clear hx hy e1 e2 hFD
      obtain ⟨V, hV⟩ : ∃ V, wr.drew = V := ⟨_, rfl⟩
      have hBV : Below w.heap.size w V := by rw [← hV]; exact below_drew1 HB.out
      have HBV := Lib.hid hBV
      clear hBV
      rw [hV] at x0 x1 x2 y0 y1 y2
      have h3 : cmp3 (k1, m1, s1) (k2, m2, s2) = cmpV k1 m1 s1 k2 m2 s2 := rfl
      rw [h3] at hst
      obtain ⟨c9, hc9⟩ : ∃ c9, cmpV k1 m1 s1 k2 m2 s2 = c9 := ⟨_, rfl⟩
      rw [hc9] at hst
      have HC9 := Lib.hid hc9
      clear h3 hc9
      have HST := Lib.hid hst
      clear hst
      by_cases hz : c9 = 0
      · subst hz
        go_wp2
        refine start_ (n := 10) (S := fun w' => w'.cell? (ad.add (j * 3)) = some (.int .u8 k1) ∧ w'.cell? ⟨(ad.add (j * 3)).block, (ad.add (j * 3)).off + 1, none⟩ = some (.int .i64 m1) ∧ w'.cell? ⟨(ad.add (j * 3)).block, (ad.add (j * 3)).off + 2, none⟩ = some (.string s1) ∧ w'.cell? (bd.add (j * 3)) = some (.int .u8 k2) ∧ w'.cell? ⟨(bd.add (j * 3)).block, (bd.add (j * 3)).off + 1, none⟩ = some (.int .i64 m2) ∧ w'.cell? ⟨(bd.add (j * 3)).block, (bd.add (j * 3)).off + 2, none⟩ = some (.string s2)) (ds := []) #[false, false, false, false, false, false, false, false, false, false] (by kernel_rfl) rfl rfl ⟨(by rw [hV]; exact x0), (by rw [hV]; exact x1), (by rw [hV]; exact x2), (by rw [hV]; exact y0), (by rw [hV]; exact y1), (by rw [hV]; exact y2)⟩ (fun hHeld => ?_)
        refine pure_ (i := 0) (N := some 15) (v := ?_) (a' := ?_) #[true, false, false, false, false, false, false, false, false, false] rfl rfl (by kernel_rfl) (fun _ _ _ h => h) (Or.inl ⟨by rfl, ?_⟩) ?_ ?_
        rotate_left
        · intro w'
          go_simp
          with_reducible rfl
        rotate_left
        · simp only [Act.put, List.setIfInBounds_toArray, List.set_cons_zero, List.set_cons_succ]
          rfl
        refine pure_ (i := 1) (N := some 16) (v := ?_) (a' := ?_) #[true, true, false, false, false, false, false, false, false, false] rfl rfl (by kernel_rfl) (fun _ _ _ h => h) (Or.inl ⟨by rfl, ?_⟩) ?_ ?_
        rotate_left
        · intro w'
          go_simp
          with_reducible rfl
        rotate_left
        · simp only [Act.put, List.setIfInBounds_toArray, List.set_cons_zero, List.set_cons_succ]
          rfl
        refine pure_ (i := 2) (N := some 17) (v := ?_) (a' := ?_) #[true, true, true, false, false, false, false, false, false, false] rfl rfl (by kernel_rfl) (fun _ _ _ h => h) (Or.inl ⟨by rfl, ?_⟩) ?_ ?_
        rotate_left
        · intro w'
          go_simp
          with_reducible rfl
        rotate_left
        · simp only [Act.put, List.setIfInBounds_toArray, List.set_cons_zero, List.set_cons_succ]
          rfl
        refine pure_ (i := 4) (N := some 19) (v := ?_) (a' := ?_) #[true, true, true, false, true, false, false, false, false, false] rfl rfl (by kernel_rfl) (fun _ _ _ h => h) (Or.inl ⟨by rfl, ?_⟩) ?_ ?_
        rotate_left
        · intro w'
          go_simp
          with_reducible rfl
        rotate_left
        · simp only [Act.put, List.setIfInBounds_toArray, List.set_cons_zero, List.set_cons_succ]
          rfl
        refine pure_ (i := 5) (N := some 20) (v := ?_) (a' := ?_) #[true, true, true, false, true, true, false, false, false, false] rfl rfl (by kernel_rfl) (fun _ _ _ h => h) (Or.inl ⟨by rfl, ?_⟩) ?_ ?_
        rotate_left
        · intro w'
          go_simp
          with_reducible rfl
        rotate_left
        · simp only [Act.put, List.setIfInBounds_toArray, List.set_cons_zero, List.set_cons_succ]
          rfl
        refine pure_ (i := 6) (N := some 21) (v := ?_) (a' := ?_) #[true, true, true, false, true, true, true, false, false, false] rfl rfl (by kernel_rfl) (fun _ _ _ h => h) (Or.inl ⟨by rfl, ?_⟩) ?_ ?_
        rotate_left
        · intro w'
          go_simp
          with_reducible rfl
        rotate_left
        · simp only [Act.put, List.setIfInBounds_toArray, List.set_cons_zero, List.set_cons_succ]
          rfl
        refine take_ (i := 3) (N := some 18) (v := ?_) (a' := ?_) #[true, true, true, true, true, true, true, false, false, false] rfl rfl (by kernel_rfl) (fun _ _ _ h => h) (Or.inl ⟨by rfl, ?_⟩) hHeld ?_ ?_
        rotate_left
        · rintro w' ⟨s0, s1, s2, s3, s4, s5⟩
          go_simp
          with_reducible rfl
        rotate_left
        · simp only [Act.put, List.setIfInBounds_toArray, List.set_cons_zero, List.set_cons_succ]
          rfl
        refine take_ (i := 7) (N := some 22) (v := ?_) (a' := ?_) #[true, true, true, true, true, true, true, true, false, false] rfl rfl (by kernel_rfl) (fun _ _ _ h => h) (Or.inl ⟨by rfl, ?_⟩) hHeld ?_ ?_
        rotate_left
        · rintro w' ⟨s0, s1, s2, s3, s4, s5⟩
          go_simp
          with_reducible rfl
        rotate_left
        · simp only [Act.put, List.setIfInBounds_toArray, List.set_cons_zero, List.set_cons_succ]
          rfl
        refine one_ (i := 8) (N := some 23) #[true, true, true, true, true, true, true, true, true, false] rfl rfl (by kernel_rfl) (by decide) (fun K hK => ?_)
        refine goes_ Try.func99 (by kernel_rfl) rfl #[.agg #[.int .u8 k1, .int .i64 m1, .string s1], .agg #[.int .u8 k2, .int .i64 m2, .string s2]] (by rfl) rfl rfl (by simp only [List.map_toArray, List.map_cons, List.map_nil]; rfl) ?_
        with_reducible refine (valcmp_is k1 m1 s1 k2 m2 s2 _ _ HC9.out).mono ?_
        rintro e w3 ⟨rfl, hb3⟩
        refine ⟨_, rfl, ?_⟩
        have HB3 := Lib.hid (hV ▸ hb3 : Below V.heap.size V w3)
        refine hK.out _ _ ⟨blk3 HB3.out x0, blk3 HB3.out x1, blk3 HB3.out x2, blk3 HB3.out y0, blk3 HB3.out y1, blk3 HB3.out y2⟩ (fun hHeld => ?_)
        clear hK K
        refine norm_ (a' := ?_) ?_ ?_
        rotate_left
        · show Act.put _ (some 23) _ = _
          simp only [Act.put, List.setIfInBounds_toArray, List.set_cons_zero, List.set_cons_succ]
          rfl
        refine pure_ (i := 9) (N := some 6) (v := ?_) (a' := ?_) #[true, true, true, true, true, true, true, true, true, true] rfl rfl (by kernel_rfl) (fun _ _ _ h => h) (Or.inl ⟨by rfl, ?_⟩) ?_ ?_
        rotate_left
        · intro w'
          go_simp
          with_reducible rfl
        rotate_left
        · simp only [Act.put, List.setIfInBounds_toArray, List.set_cons_zero, List.set_cons_succ]
          rfl
        refine done_ (by kernel_rfl) ?_

        go_wp2
        go_roundg (gk - 1)
        case measure => omega
        case rel =>
          have h9 := HST.out
          rw [if_pos trivial] at h9
          exact ⟨j + 1, by omega, by omega, by simp, Lib.hid h9.symm, HBV.out.trans (HB3.out.mono HBV.out.size)⟩
      · have hzb : (c9 == 0) = false := by simpa using hz
        have hzb2 : (c9 != 0) = true := by simpa using hz
        have h9 := HST.out
        rw [if_neg hz] at h9
        subst h9
        clear hz
        go_wp2
        refine start_ (n := 10) (S := fun w' => w'.cell? (ad.add (j * 3)) = some (.int .u8 k1) ∧ w'.cell? ⟨(ad.add (j * 3)).block, (ad.add (j * 3)).off + 1, none⟩ = some (.int .i64 m1) ∧ w'.cell? ⟨(ad.add (j * 3)).block, (ad.add (j * 3)).off + 2, none⟩ = some (.string s1) ∧ w'.cell? (bd.add (j * 3)) = some (.int .u8 k2) ∧ w'.cell? ⟨(bd.add (j * 3)).block, (bd.add (j * 3)).off + 1, none⟩ = some (.int .i64 m2) ∧ w'.cell? ⟨(bd.add (j * 3)).block, (bd.add (j * 3)).off + 2, none⟩ = some (.string s2)) (ds := []) #[false, false, false, false, false, false, false, false, false, false] (by kernel_rfl) rfl rfl ⟨(by rw [hV]; exact x0), (by rw [hV]; exact x1), (by rw [hV]; exact x2), (by rw [hV]; exact y0), (by rw [hV]; exact y1), (by rw [hV]; exact y2)⟩ (fun hHeld => ?_)
        refine pure_ (i := 0) (N := some 15) (v := ?_) (a' := ?_) #[true, false, false, false, false, false, false, false, false, false] rfl rfl (by kernel_rfl) (fun _ _ _ h => h) (Or.inl ⟨by rfl, ?_⟩) ?_ ?_
        rotate_left
        · intro w'
          go_simp
          with_reducible rfl
        rotate_left
        · simp only [Act.put, List.setIfInBounds_toArray, List.set_cons_zero, List.set_cons_succ]
          rfl
        refine pure_ (i := 1) (N := some 16) (v := ?_) (a' := ?_) #[true, true, false, false, false, false, false, false, false, false] rfl rfl (by kernel_rfl) (fun _ _ _ h => h) (Or.inl ⟨by rfl, ?_⟩) ?_ ?_
        rotate_left
        · intro w'
          go_simp
          with_reducible rfl
        rotate_left
        · simp only [Act.put, List.setIfInBounds_toArray, List.set_cons_zero, List.set_cons_succ]
          rfl
        refine pure_ (i := 2) (N := some 17) (v := ?_) (a' := ?_) #[true, true, true, false, false, false, false, false, false, false] rfl rfl (by kernel_rfl) (fun _ _ _ h => h) (Or.inl ⟨by rfl, ?_⟩) ?_ ?_
        rotate_left
        · intro w'
          go_simp
          with_reducible rfl
        rotate_left
        · simp only [Act.put, List.setIfInBounds_toArray, List.set_cons_zero, List.set_cons_succ]
          rfl
        refine pure_ (i := 4) (N := some 19) (v := ?_) (a' := ?_) #[true, true, true, false, true, false, false, false, false, false] rfl rfl (by kernel_rfl) (fun _ _ _ h => h) (Or.inl ⟨by rfl, ?_⟩) ?_ ?_
        rotate_left
        · intro w'
          go_simp
          with_reducible rfl
        rotate_left
        · simp only [Act.put, List.setIfInBounds_toArray, List.set_cons_zero, List.set_cons_succ]
          rfl
        refine pure_ (i := 5) (N := some 20) (v := ?_) (a' := ?_) #[true, true, true, false, true, true, false, false, false, false] rfl rfl (by kernel_rfl) (fun _ _ _ h => h) (Or.inl ⟨by rfl, ?_⟩) ?_ ?_
        rotate_left
        · intro w'
          go_simp
          with_reducible rfl
        rotate_left
        · simp only [Act.put, List.setIfInBounds_toArray, List.set_cons_zero, List.set_cons_succ]
          rfl
        refine pure_ (i := 6) (N := some 21) (v := ?_) (a' := ?_) #[true, true, true, false, true, true, true, false, false, false] rfl rfl (by kernel_rfl) (fun _ _ _ h => h) (Or.inl ⟨by rfl, ?_⟩) ?_ ?_
        rotate_left
        · intro w'
          go_simp
          with_reducible rfl
        rotate_left
        · simp only [Act.put, List.setIfInBounds_toArray, List.set_cons_zero, List.set_cons_succ]
          rfl
        refine take_ (i := 3) (N := some 18) (v := ?_) (a' := ?_) #[true, true, true, true, true, true, true, false, false, false] rfl rfl (by kernel_rfl) (fun _ _ _ h => h) (Or.inl ⟨by rfl, ?_⟩) hHeld ?_ ?_
        rotate_left
        · rintro w' ⟨s0, s1, s2, s3, s4, s5⟩
          go_simp
          with_reducible rfl
        rotate_left
        · simp only [Act.put, List.setIfInBounds_toArray, List.set_cons_zero, List.set_cons_succ]
          rfl
        refine take_ (i := 7) (N := some 22) (v := ?_) (a' := ?_) #[true, true, true, true, true, true, true, true, false, false] rfl rfl (by kernel_rfl) (fun _ _ _ h => h) (Or.inl ⟨by rfl, ?_⟩) hHeld ?_ ?_
        rotate_left
        · rintro w' ⟨s0, s1, s2, s3, s4, s5⟩
          go_simp
          with_reducible rfl
        rotate_left
        · simp only [Act.put, List.setIfInBounds_toArray, List.set_cons_zero, List.set_cons_succ]
          rfl
        refine one_ (i := 8) (N := some 23) #[true, true, true, true, true, true, true, true, true, false] rfl rfl (by kernel_rfl) (by decide) (fun K hK => ?_)
        refine goes_ Try.func99 (by kernel_rfl) rfl #[.agg #[.int .u8 k1, .int .i64 m1, .string s1], .agg #[.int .u8 k2, .int .i64 m2, .string s2]] (by rfl) rfl rfl (by simp only [List.map_toArray, List.map_cons, List.map_nil]; rfl) ?_
        with_reducible refine (valcmp_is k1 m1 s1 k2 m2 s2 _ _ HC9.out).mono ?_
        rintro e w3 ⟨rfl, hb3⟩
        refine ⟨_, rfl, ?_⟩
        have HB3 := Lib.hid (hV ▸ hb3 : Below V.heap.size V w3)
        refine hK.out _ _ ⟨blk3 HB3.out x0, blk3 HB3.out x1, blk3 HB3.out x2, blk3 HB3.out y0, blk3 HB3.out y1, blk3 HB3.out y2⟩ (fun hHeld => ?_)
        clear hK K
        refine norm_ (a' := ?_) ?_ ?_
        rotate_left
        · show Act.put _ (some 23) _ = _
          simp only [Act.put, List.setIfInBounds_toArray, List.set_cons_zero, List.set_cons_succ]
          rfl
        refine pure_ (i := 9) (N := some 6) (v := ?_) (a' := ?_) #[true, true, true, true, true, true, true, true, true, true] rfl rfl (by kernel_rfl) (fun _ _ _ h => h) (Or.inl ⟨by rfl, ?_⟩) ?_ ?_
        rotate_left
        · intro w'
          go_simp
          with_reducible rfl
        rotate_left
        · simp only [Act.put, List.setIfInBounds_toArray, List.set_cons_zero, List.set_cons_succ]
          rfl
        refine done_ (by kernel_rfl) ?_

        go_wp2
        go_ret
        exact ⟨rfl, HBV.out.trans (HB3.out.mono HBV.out.size)⟩
    · have hend := listsV_end l m j (by omega) hjm hj
      rw [HT.out] at hend
      have HEND := Lib.hid hend
      clear hend
      have hjM : ¬ (j : Int) < (M : Int) := by have := HMM.out; omega
      have h9 := HEND.out
      clear HEND HP HT
      go_wp2_with (go_at_call 100; (with_reducible refine (icmp _ _ _).mono ?_); rintro e w3 ⟨rfl, rfl⟩)
      go_ret
      exact ⟨by rw [h9]; rfl, HB.out⟩
set_option maxHeartbeats 4000000 in
set_option maxRecDepth 100000 in
theorem reflists_calls {Q R : Nat → Prop} (l m : List V3) (v u : Value) (w : World) (hl : RowIn kVal w Q v l) (hm : RowIn kVal w R u m) (hll : l.length ≤ 100000) (hml : m.length ≤ 100000) (hls : ∀ x ∈ l, x.2.2.size ≤ 140737488351232) (hms : ∀ x ∈ m, x.2.2.size ≤ 140737488351232) :
    Calls Try.prog 59 #[v, u] w fun e w' => e = .returned (.int .i64 (listsV l m)) ∧ Below w.heap.size w w' := by
  obtain ⟨A, c, e1, _⟩ := id hl
  obtain ⟨B, d, e2, _⟩ := id hm
  subst e1 e2
  have HL := Lib.hid hl
  have HM := Lib.hid hm
  have hll' : (l.length : Int) ≤ 100000 := by omega
  have hml' : (m.length : Int) ≤ 100000 := by omega
  obtain ⟨P9, hP⟩ : ∃ P9 : Int, listsV (l.drop 0) (m.drop 0) = P9 := ⟨_, rfl⟩
  have hP0 : listsV l m = P9 := hP
  rw [hP0]
  have HP := Lib.hid hP
  clear hl hm hP hP0
  go_enter Try.func59, Try.ntmps59
  go_wp2
  go_loopg [5] l.length (fun q i wr => ∃ j : Nat, q + j = l.length ∧ j ≤ m.length ∧ i = .int .i64 (j : Int) ∧ Hid (listsV (l.drop j) (m.drop j) = P9) ∧ Below w.heap.size w wr)
  case atStart => exact ⟨0, rfl, Nat.zero_le _, rfl, HP, Below.refl _ _⟩
  case round =>
    obtain ⟨j, hq, hjm, rfl, HT, hB⟩ := hrel
    have HB := Lib.hid hB
    clear hB
    by_cases hj : j < l.length ∧ j < m.length
    · obtain ⟨hjl, hj⟩ := hj
      have hj' : (j : Int) < (m.length : Int) := by omega
      have hjl' : (j : Int) < (l.length : Int) := by omega
      obtain ⟨x, hx⟩ : ∃ x, l[j]? = some x := ⟨l[j], List.getElem?_eq_getElem hjl⟩
      obtain ⟨y, hy⟩ : ∃ y, m[j]? = some y := ⟨m[j], List.getElem?_eq_getElem hj⟩
      have hst := listsV_step l m j x y hx hy
      rw [HT.out] at hst
      obtain ⟨k1, m1, s1⟩ := x
      obtain ⟨k2, m2, s2⟩ := y
      have hFD : Fr (fun _ => False) w wr.drew := Fr.of_new (below_drew1 HB.out)
      obtain ⟨ad, c', e1, x0, x1, x2⟩ := row_at (HL.out.fr kVal_K hFD (fun _ _ h => h)) j hx
      obtain ⟨bd, d', e2, y0, y1, y2⟩ := row_at (HM.out.fr kVal_K hFD (fun _ _ h => h)) j hy
      obtain rfl : A = some ad := by injection e1
      obtain rfl : B = some bd := by injection e2
      have HS1 := Lib.hid (hls _ (List.mem_of_getElem? hx))
      have HS2 := Lib.hid (hms _ (List.mem_of_getElem? hy))
      clear hx hy e1 e2 hFD
      obtain ⟨V, hV⟩ : ∃ V, wr.drew = V := ⟨_, rfl⟩
      have hBV : Below w.heap.size w V := by rw [← hV]; exact below_drew1 HB.out
      have HBV := Lib.hid hBV
      clear hBV
      rw [hV] at x0 x1 x2 y0 y1 y2
      have h3 : cmp3 (k1, m1, s1) (k2, m2, s2) = cmpV k1 m1 s1 k2 m2 s2 := rfl
      rw [h3] at hst
      obtain ⟨c9, hc9⟩ : ∃ c9, cmpV k1 m1 s1 k2 m2 s2 = c9 := ⟨_, rfl⟩
      rw [hc9] at hst
      have HC9 := Lib.hid hc9
      clear h3 hc9
      have HST := Lib.hid hst
      clear hst
      by_cases hz : c9 = 0
      · subst hz
        go_wp2
        refine start_ (n := 10) (S := fun w' => w'.cell? (ad.add (j * 3)) = some (.int .u8 k1) ∧ w'.cell? ⟨(ad.add (j * 3)).block, (ad.add (j * 3)).off + 1, none⟩ = some (.int .i64 m1) ∧ w'.cell? ⟨(ad.add (j * 3)).block, (ad.add (j * 3)).off + 2, none⟩ = some (.string s1) ∧ w'.cell? (bd.add (j * 3)) = some (.int .u8 k2) ∧ w'.cell? ⟨(bd.add (j * 3)).block, (bd.add (j * 3)).off + 1, none⟩ = some (.int .i64 m2) ∧ w'.cell? ⟨(bd.add (j * 3)).block, (bd.add (j * 3)).off + 2, none⟩ = some (.string s2)) (ds := []) #[false, false, false, false, false, false, false, false, false, false] (by kernel_rfl) rfl rfl ⟨(by rw [hV]; exact x0), (by rw [hV]; exact x1), (by rw [hV]; exact x2), (by rw [hV]; exact y0), (by rw [hV]; exact y1), (by rw [hV]; exact y2)⟩ (fun hHeld => ?_)
        refine pure_ (i := 0) (N := some 19) (v := ?_) (a' := ?_) #[true, false, false, false, false, false, false, false, false, false] rfl rfl (by kernel_rfl) (fun _ _ _ h => h) (Or.inl ⟨by rfl, ?_⟩) ?_ ?_
        rotate_left
        · intro w'
          go_simp
          with_reducible rfl
        rotate_left
        · simp only [Act.put, List.setIfInBounds_toArray, List.set_cons_zero, List.set_cons_succ]
          rfl
        refine pure_ (i := 1) (N := some 20) (v := ?_) (a' := ?_) #[true, true, false, false, false, false, false, false, false, false] rfl rfl (by kernel_rfl) (fun _ _ _ h => h) (Or.inl ⟨by rfl, ?_⟩) ?_ ?_
        rotate_left
        · intro w'
          go_simp
          with_reducible rfl
        rotate_left
        · simp only [Act.put, List.setIfInBounds_toArray, List.set_cons_zero, List.set_cons_succ]
          rfl
        refine pure_ (i := 2) (N := some 21) (v := ?_) (a' := ?_) #[true, true, true, false, false, false, false, false, false, false] rfl rfl (by kernel_rfl) (fun _ _ _ h => h) (Or.inl ⟨by rfl, ?_⟩) ?_ ?_
        rotate_left
        · intro w'
          go_simp
          with_reducible rfl
        rotate_left
        · simp only [Act.put, List.setIfInBounds_toArray, List.set_cons_zero, List.set_cons_succ]
          rfl
        refine pure_ (i := 4) (N := some 23) (v := ?_) (a' := ?_) #[true, true, true, false, true, false, false, false, false, false] rfl rfl (by kernel_rfl) (fun _ _ _ h => h) (Or.inl ⟨by rfl, ?_⟩) ?_ ?_
        rotate_left
        · intro w'
          go_simp
          with_reducible rfl
        rotate_left
        · simp only [Act.put, List.setIfInBounds_toArray, List.set_cons_zero, List.set_cons_succ]
          rfl
        refine pure_ (i := 5) (N := some 24) (v := ?_) (a' := ?_) #[true, true, true, false, true, true, false, false, false, false] rfl rfl (by kernel_rfl) (fun _ _ _ h => h) (Or.inl ⟨by rfl, ?_⟩) ?_ ?_
        rotate_left
        · intro w'
          go_simp
          with_reducible rfl
        rotate_left
        · simp only [Act.put, List.setIfInBounds_toArray, List.set_cons_zero, List.set_cons_succ]
          rfl
        refine pure_ (i := 6) (N := some 25) (v := ?_) (a' := ?_) #[true, true, true, false, true, true, true, false, false, false] rfl rfl (by kernel_rfl) (fun _ _ _ h => h) (Or.inl ⟨by rfl, ?_⟩) ?_ ?_
        rotate_left
        · intro w'
          go_simp
          with_reducible rfl
        rotate_left
        · simp only [Act.put, List.setIfInBounds_toArray, List.set_cons_zero, List.set_cons_succ]
          rfl
        refine take_ (i := 3) (N := some 22) (v := ?_) (a' := ?_) #[true, true, true, true, true, true, true, false, false, false] rfl rfl (by kernel_rfl) (fun _ _ _ h => h) (Or.inl ⟨by rfl, ?_⟩) hHeld ?_ ?_
        rotate_left
        · rintro w' ⟨s0, s1, s2, s3, s4, s5⟩
          go_simp
          with_reducible rfl
        rotate_left
        · simp only [Act.put, List.setIfInBounds_toArray, List.set_cons_zero, List.set_cons_succ]
          rfl
        refine take_ (i := 7) (N := some 26) (v := ?_) (a' := ?_) #[true, true, true, true, true, true, true, true, false, false] rfl rfl (by kernel_rfl) (fun _ _ _ h => h) (Or.inl ⟨by rfl, ?_⟩) hHeld ?_ ?_
        rotate_left
        · rintro w' ⟨s0, s1, s2, s3, s4, s5⟩
          go_simp
          with_reducible rfl
        rotate_left
        · simp only [Act.put, List.setIfInBounds_toArray, List.set_cons_zero, List.set_cons_succ]
          rfl
        refine one_ (i := 8) (N := some 27) #[true, true, true, true, true, true, true, true, true, false] rfl rfl (by kernel_rfl) (by decide) (fun K hK => ?_)
        refine goes_ Try.func90 (by kernel_rfl) rfl #[.agg #[.int .u8 k1, .int .i64 m1, .string s1], .agg #[.int .u8 k2, .int .i64 m2, .string s2]] (by rfl) rfl rfl (by simp only [List.map_toArray, List.map_cons, List.map_nil]; rfl) ?_
        with_reducible refine (refcmp_is k1 m1 s1 k2 m2 s2 _ _ HC9.out HS1.out HS2.out).mono ?_
        rintro e w3 ⟨rfl, hb3⟩
        refine ⟨_, rfl, ?_⟩
        have HB3 := Lib.hid (hV ▸ hb3 : Below V.heap.size V w3)
        refine hK.out _ _ ⟨blk3 HB3.out x0, blk3 HB3.out x1, blk3 HB3.out x2, blk3 HB3.out y0, blk3 HB3.out y1, blk3 HB3.out y2⟩ (fun hHeld => ?_)
        clear hK K
        refine norm_ (a' := ?_) ?_ ?_
        rotate_left
        · show Act.put _ (some 27) _ = _
          simp only [Act.put, List.setIfInBounds_toArray, List.set_cons_zero, List.set_cons_succ]
          rfl
        refine pure_ (i := 9) (N := some 6) (v := ?_) (a' := ?_) #[true, true, true, true, true, true, true, true, true, true] rfl rfl (by kernel_rfl) (fun _ _ _ h => h) (Or.inl ⟨by rfl, ?_⟩) ?_ ?_
        rotate_left
        · intro w'
          go_simp
          with_reducible rfl
        rotate_left
        · simp only [Act.put, List.setIfInBounds_toArray, List.set_cons_zero, List.set_cons_succ]
          rfl
        refine done_ (by kernel_rfl) ?_

        go_wp2
        go_roundg (gk - 1)
        case measure => omega
        case rel =>
          have h9 := HST.out
          rw [if_pos trivial] at h9
          exact ⟨j + 1, by omega, by omega, by simp, Lib.hid h9.symm, HBV.out.trans (HB3.out.mono HBV.out.size)⟩
      · have hzb : (c9 == 0) = false := by simpa using hz
        have hzb2 : (c9 != 0) = true := by simpa using hz
        have h9 := HST.out
        rw [if_neg hz] at h9
        subst h9
        clear hz
        go_wp2
        refine start_ (n := 10) (S := fun w' => w'.cell? (ad.add (j * 3)) = some (.int .u8 k1) ∧ w'.cell? ⟨(ad.add (j * 3)).block, (ad.add (j * 3)).off + 1, none⟩ = some (.int .i64 m1) ∧ w'.cell? ⟨(ad.add (j * 3)).block, (ad.add (j * 3)).off + 2, none⟩ = some (.string s1) ∧ w'.cell? (bd.add (j * 3)) = some (.int .u8 k2) ∧ w'.cell? ⟨(bd.add (j * 3)).block, (bd.add (j * 3)).off + 1, none⟩ = some (.int .i64 m2) ∧ w'.cell? ⟨(bd.add (j * 3)).block, (bd.add (j * 3)).off + 2, none⟩ = some (.string s2)) (ds := []) #[false, false, false, false, false, false, false, false, false, false] (by kernel_rfl) rfl rfl ⟨(by rw [hV]; exact x0), (by rw [hV]; exact x1), (by rw [hV]; exact x2), (by rw [hV]; exact y0), (by rw [hV]; exact y1), (by rw [hV]; exact y2)⟩ (fun hHeld => ?_)
        refine pure_ (i := 0) (N := some 19) (v := ?_) (a' := ?_) #[true, false, false, false, false, false, false, false, false, false] rfl rfl (by kernel_rfl) (fun _ _ _ h => h) (Or.inl ⟨by rfl, ?_⟩) ?_ ?_
        rotate_left
        · intro w'
          go_simp
          with_reducible rfl
        rotate_left
        · simp only [Act.put, List.setIfInBounds_toArray, List.set_cons_zero, List.set_cons_succ]
          rfl
        refine pure_ (i := 1) (N := some 20) (v := ?_) (a' := ?_) #[true, true, false, false, false, false, false, false, false, false] rfl rfl (by kernel_rfl) (fun _ _ _ h => h) (Or.inl ⟨by rfl, ?_⟩) ?_ ?_
        rotate_left
        · intro w'
          go_simp
          with_reducible rfl
        rotate_left
        · simp only [Act.put, List.setIfInBounds_toArray, List.set_cons_zero, List.set_cons_succ]
          rfl
        refine pure_ (i := 2) (N := some 21) (v := ?_) (a' := ?_) #[true, true, true, false, false, false, false, false, false, false] rfl rfl (by kernel_rfl) (fun _ _ _ h => h) (Or.inl ⟨by rfl, ?_⟩) ?_ ?_
        rotate_left
        · intro w'
          go_simp
          with_reducible rfl
        rotate_left
        · simp only [Act.put, List.setIfInBounds_toArray, List.set_cons_zero, List.set_cons_succ]
          rfl
        refine pure_ (i := 4) (N := some 23) (v := ?_) (a' := ?_) #[true, true, true, false, true, false, false, false, false, false] rfl rfl (by kernel_rfl) (fun _ _ _ h => h) (Or.inl ⟨by rfl, ?_⟩) ?_ ?_
        rotate_left
        · intro w'
          go_simp
          with_reducible rfl
        rotate_left
        · simp only [Act.put, List.setIfInBounds_toArray, List.set_cons_zero, List.set_cons_succ]
          rfl
        refine pure_ (i := 5) (N := some 24) (v := ?_) (a' := ?_) #[true, true, true, false, true, true, false, false, false, false] rfl rfl (by kernel_rfl) (fun _ _ _ h => h) (Or.inl ⟨by rfl, ?_⟩) ?_ ?_
        rotate_left
        · intro w'
          go_simp
          with_reducible rfl
        rotate_left
        · simp only [Act.put, List.setIfInBounds_toArray, List.set_cons_zero, List.set_cons_succ]
          rfl
        refine pure_ (i := 6) (N := some 25) (v := ?_) (a' := ?_) #[true, true, true, false, true, true, true, false, false, false] rfl rfl (by kernel_rfl) (fun _ _ _ h => h) (Or.inl ⟨by rfl, ?_⟩) ?_ ?_
        rotate_left
        · intro w'
          go_simp
          with_reducible rfl
        rotate_left
        · simp only [Act.put, List.setIfInBounds_toArray, List.set_cons_zero, List.set_cons_succ]
          rfl
        refine take_ (i := 3) (N := some 22) (v := ?_) (a' := ?_) #[true, true, true, true, true, true, true, false, false, false] rfl rfl (by kernel_rfl) (fun _ _ _ h => h) (Or.inl ⟨by rfl, ?_⟩) hHeld ?_ ?_
        rotate_left
        · rintro w' ⟨s0, s1, s2, s3, s4, s5⟩
          go_simp
          with_reducible rfl
        rotate_left
        · simp only [Act.put, List.setIfInBounds_toArray, List.set_cons_zero, List.set_cons_succ]
          rfl
        refine take_ (i := 7) (N := some 26) (v := ?_) (a' := ?_) #[true, true, true, true, true, true, true, true, false, false] rfl rfl (by kernel_rfl) (fun _ _ _ h => h) (Or.inl ⟨by rfl, ?_⟩) hHeld ?_ ?_
        rotate_left
        · rintro w' ⟨s0, s1, s2, s3, s4, s5⟩
          go_simp
          with_reducible rfl
        rotate_left
        · simp only [Act.put, List.setIfInBounds_toArray, List.set_cons_zero, List.set_cons_succ]
          rfl
        refine one_ (i := 8) (N := some 27) #[true, true, true, true, true, true, true, true, true, false] rfl rfl (by kernel_rfl) (by decide) (fun K hK => ?_)
        refine goes_ Try.func90 (by kernel_rfl) rfl #[.agg #[.int .u8 k1, .int .i64 m1, .string s1], .agg #[.int .u8 k2, .int .i64 m2, .string s2]] (by rfl) rfl rfl (by simp only [List.map_toArray, List.map_cons, List.map_nil]; rfl) ?_
        with_reducible refine (refcmp_is k1 m1 s1 k2 m2 s2 _ _ HC9.out HS1.out HS2.out).mono ?_
        rintro e w3 ⟨rfl, hb3⟩
        refine ⟨_, rfl, ?_⟩
        have HB3 := Lib.hid (hV ▸ hb3 : Below V.heap.size V w3)
        refine hK.out _ _ ⟨blk3 HB3.out x0, blk3 HB3.out x1, blk3 HB3.out x2, blk3 HB3.out y0, blk3 HB3.out y1, blk3 HB3.out y2⟩ (fun hHeld => ?_)
        clear hK K
        refine norm_ (a' := ?_) ?_ ?_
        rotate_left
        · show Act.put _ (some 27) _ = _
          simp only [Act.put, List.setIfInBounds_toArray, List.set_cons_zero, List.set_cons_succ]
          rfl
        refine pure_ (i := 9) (N := some 6) (v := ?_) (a' := ?_) #[true, true, true, true, true, true, true, true, true, true] rfl rfl (by kernel_rfl) (fun _ _ _ h => h) (Or.inl ⟨by rfl, ?_⟩) ?_ ?_
        rotate_left
        · intro w'
          go_simp
          with_reducible rfl
        rotate_left
        · simp only [Act.put, List.setIfInBounds_toArray, List.set_cons_zero, List.set_cons_succ]
          rfl
        refine done_ (by kernel_rfl) ?_

        go_wp2
        go_ret
        exact ⟨rfl, HBV.out.trans (HB3.out.mono HBV.out.size)⟩
    · have hend := listsV_end l m j (by omega) hjm hj
      rw [HT.out] at hend
      have HEND := Lib.hid hend
      clear hend
      by_cases hjl : j < l.length
      · have d1 : (j : Int) < (l.length : Int) := by omega
        have d2 : ¬ (j : Int) < (m.length : Int) := by omega
        have q1 : ¬ (l.length : Int) < (m.length : Int) := by omega
        have q2 : (m.length : Int) < (l.length : Int) := by omega
        have h9 := HEND.out
        rw [cmpI_gt q1 q2] at h9
        subst h9
        clear HEND HP HT
        go_wp2
        go_ret
        exact ⟨rfl, HB.out⟩
      · have d1 : ¬ (j : Int) < (l.length : Int) := by omega
        by_cases hm2 : l.length < m.length
        · have q1 : (l.length : Int) < (m.length : Int) := by omega
          have h9 := HEND.out
          rw [cmpI_lt q1] at h9
          subst h9
          clear HEND HP HT
          go_wp2
          go_ret
          exact ⟨rfl, HB.out⟩
        · have q1 : ¬ (l.length : Int) < (m.length : Int) := by omega
          have q2 : ¬ (m.length : Int) < (l.length : Int) := by omega
          have h9 := HEND.out
          rw [cmpI_eq q1 q2] at h9
          subst h9
          clear HEND HP HT
          go_wp2
          go_ret
          exact ⟨rfl, HB.out⟩
end Go.Proofs.Ytnipbfhfaefieaa.Sl
