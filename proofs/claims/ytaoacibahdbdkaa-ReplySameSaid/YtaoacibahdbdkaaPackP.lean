/- packed: what is put is what is read. Lists alone. -/
import Derived.Test.YtaoacibahdbdkaaPackU
import Derived.Test.YtaoacibahdbdkaaPackV
namespace Go.Proofs.Ytaoacibahdbdkaa.Pr
open Go.RowKit Go Go.Proofs.YtaoacibahdbdkaaW.PrintWords Go.Proofs.YtaoacibahdbdkaaW.PrintMore Go.Proofs.Ytaoacibahdbdkaa.Bts Go.Proofs.Ytaoacibahdbdkaa.Pk Go.Proofs.Ytaoacibahdbdkaa.Fra Go.Proofs.Ytaoacibahdbdkaa.QPackedPuts

theorem leB_cons (n : Int) (k : Nat) : leB n (k + 1) = n % 256 :: leB (n / 256) k := by
  unfold leB
  rw [List.range_succ_eq_map, List.map_cons, List.map_map]
  congr 1
  · simp
  · apply List.map_congr_left
    intro j _
    simp only [Function.comp]
    have : (2 : Int) ^ (8 * (j + 1)) = 256 * 2 ^ (8 * j) := by rw [Nat.mul_add, Int.pow_add, Int.mul_comm]; rfl
    rw [show j.succ = j + 1 from rfl, this, Int.ediv_ediv_of_nonneg (by decide)]
theorem emod_step (n m : Int) (hm : 0 < m) : n % (256 * m) = n % 256 + 256 * (n / 256 % m) := by
  have h1 : n = 256 * (n / 256) + n % 256 := (Int.mul_ediv_add_emod n 256).symm
  have h2 : n / 256 = m * (n / 256 / m) + n / 256 % m := (Int.mul_ediv_add_emod _ m).symm
  have h3 := Int.emod_nonneg n (show (256 : Int) ≠ 0 by decide)
  have h4 := Int.emod_lt_of_pos n (show (0 : Int) < 256 by decide)
  have h5 := Int.emod_nonneg (n / 256) (show m ≠ 0 by omega)
  have h6 := Int.emod_lt_of_pos (n / 256) hm
  have e : n = (256 * m) * (n / 256 / m) + (n % 256 + 256 * (n / 256 % m)) := by
    have h7 : 256 * (n / 256) = 256 * (m * (n / 256 / m)) + 256 * (n / 256 % m) := by rw [← Int.mul_add, ← h2]
    rw [Int.mul_assoc]; omega
  rw [e, Int.mul_add_emod_self_left, ← e]
  apply Int.emod_eq_of_lt
  · omega
  · omega
theorem numB_leB : ∀ (k : Nat) (n : Int), numB (leB n k) = n % 256 ^ k
  | 0, n => by simp [leB, numB]
  | k + 1, n => by
    rw [leB_cons]
    simp only [numB]
    rw [numB_leB k, Int.pow_succ, Int.mul_comm (256 ^ k), emod_step n _ (Int.pow_pos (by decide))]
theorem bs_leB (n : Int) (k : Nat) : Bs (leB n k) := by
  intro x hx
  unfold leB at hx
  obtain ⟨j, _, rfl⟩ := List.mem_map.1 hx
  omega
theorem takeP_app (ys zs : List Int) (k : Nat) (h : ys.length = k) : takeP (ys ++ zs) 0 k = (ys, zs, 0) := by
  unfold takeP
  rw [if_pos rfl, if_neg (by rw [List.length_append]; omega), List.take_left' h, List.drop_left' h]
theorem bs_bytesOf (s : ByteArray) : Bs (bytesOf s) := by
  intro x hx
  unfold bytesOf at hx
  obtain ⟨c, _, rfl⟩ := List.mem_map.1 hx
  have := c.toNat_lt
  omega
theorem bs_app {xs ys : List Int} (h : Bs xs) (k : Bs ys) : Bs (xs ++ ys) := fun x hx => (List.mem_append.1 hx).elim (h x) (k x)
theorem bs_one (x : Int) (h0 : 0 ≤ x) (h1 : x ≤ 255) : Bs [x] := fun y hy => by
  rw [List.mem_singleton] at hy; subst hy; exact ⟨h0, h1⟩
theorem valB_1 (n : Int) (s : ByteArray) : valB 1 n s = 1 :: leB (n % 18446744073709551616) 1 := by unfold valB; rw [if_pos rfl]; rfl
theorem valB_2 (n : Int) (s : ByteArray) : valB 2 n s = 2 :: leB (n % 18446744073709551616) 8 := by unfold valB; rw [if_neg (by decide), if_pos rfl]; rfl
theorem valB_3 (n : Int) (s : ByteArray) : valB 3 n s = 3 :: (leB s.size 2 ++ bytesOf s) := by unfold valB; rw [if_neg (by decide), if_neg (by decide), if_pos rfl]; rfl
theorem valB_0 (k n : Int) (s : ByteArray) (h1 : k ≠ 1) (h2 : k ≠ 2) (h3 : k ≠ 3) : valB k n s = [k % 256] := by unfold valB; rw [if_neg h1, if_neg h2, if_neg h3]
theorem valB_len (k n : Int) (s : ByteArray) : (valB k n s).length ≤ s.size + 9 := by
  by_cases k1 : k = 1
  · subst k1; rw [valB_1, List.length_cons, leB_length]; omega
  by_cases k2 : k = 2
  · subst k2; rw [valB_2, List.length_cons, leB_length]; omega
  by_cases k3 : k = 3
  · subst k3; rw [valB_3, List.length_cons, List.length_append, leB_length, bytesOf_length]; omega
  rw [valB_0 k n s k1 k2 k3]; simp
theorem bs_cons {x : Int} {xs : List Int} (h0 : 0 ≤ x) (h1 : x ≤ 255) (h : Bs xs) : Bs (x :: xs) := bs_app (xs := [x]) (bs_one x h0 h1) h
theorem bs_valB (k n : Int) (s : ByteArray) : Bs (valB k n s) := by
  by_cases k1 : k = 1
  · subst k1; rw [valB_1]; exact bs_cons (by omega) (by omega) (bs_leB _ _)
  by_cases k2 : k = 2
  · subst k2; rw [valB_2]; exact bs_cons (by omega) (by omega) (bs_leB _ _)
  by_cases k3 : k = 3
  · subst k3; rw [valB_3]; exact bs_cons (by omega) (by omega) (bs_app (bs_leB _ _) (bs_bytesOf _))
  rw [valB_0 k n s k1 k2 k3]
  exact bs_one _ (by omega) (by omega)
theorem valM_1 {xs bs ys : List Int} {f f1 : Int} (h : takeP xs f 1 = (bs, ys, f1)) (k1 : numB bs = 1) : valM xs f = (1, wrap64 (numB (takeP ys f1 1).1), ByteArray.empty, (takeP ys f1 1).2) := by
  unfold valM; simp only [h, k1, if_true]
theorem valM_2 {xs bs ys : List Int} {f f1 : Int} (h : takeP xs f 1 = (bs, ys, f1)) (k1 : numB bs = 2) : valM xs f = (2, wrap64 (numB (takeP ys f1 8).1), ByteArray.empty, (takeP ys f1 8).2) := by
  unfold valM; simp only [h, k1]; rw [if_neg (by decide), if_pos trivial]
theorem valM_3 {xs bs ys : List Int} {f f1 : Int} (h : takeP xs f 1 = (bs, ys, f1)) (k1 : numB bs = 3) : valM xs f = (3, 0, strOfNums (textP ys f1 4096).1, (textP ys f1 4096).2) := by
  unfold valM; simp only [h, k1]; rw [if_neg (by decide), if_neg (by decide), if_pos trivial]
theorem valM_0 {xs bs ys : List Int} {f f1 : Int} (h : takeP xs f 1 = (bs, ys, f1)) (h1 : numB bs ≠ 1) (h2 : numB bs ≠ 2) (h3 : numB bs ≠ 3) : valM xs f = (numB bs, 0, ByteArray.empty, ys, f1) := by
  unfold valM; simp only [h]; rw [if_neg h1, if_neg h2, if_neg h3]
theorem str_bytes (s : ByteArray) : strOfNums (bytesOf s) = s := by
  unfold strOfNums bytesOf
  rw [List.map_map]
  have : ∀ l : List UInt8, l.map ((fun n : Int => UInt8.ofNat n.toNat) ∘ fun b => (b.toNat : Int)) = l := by
    intro l; induction l with
    | nil => rfl
    | cons x l ih => simp [ih]
  rw [this]
theorem textP_app (s : ByteArray) (most : Int) (zs : List Int) (h : (s.size : Int) ≤ most) (h2 : s.size < 65536) :
    textP (leB s.size 2 ++ bytesOf s ++ zs) 0 most = (bytesOf s, zs, 0) := by
  unfold textP
  rw [List.append_assoc, takeP_app _ _ 2 (leB_length _ _)]
  simp only
  have e : numB (leB (s.size : Int) 2) = s.size := by rw [numB_leB]; omega
  rw [e, if_neg (by omega), Int.toNat_natCast, takeP_app _ _ s.size (bytesOf_length s)]
theorem right_cases {k n : Int} {s : ByteArray} (h : easementref01_Right.f k n s = some true) :
    (k = 0 ∧ n = 0 ∧ s = ByteArray.empty) ∨ (k = 1 ∧ (n = 0 ∨ n = 1) ∧ s = ByteArray.empty) ∨ (k = 2 ∧ s = ByteArray.empty) ∨ (k = 3 ∧ n = 0 ∧ s.size ≤ 4096) := by
  have he : ∀ t : ByteArray, (t.toList == ([] : List UInt8)) = true → t = ByteArray.empty := by
    intro t ht
    rw [beq_iff_eq] at ht
    have e : t.toList = t.data.toList := ByteArray.toList_eq t
    rw [e] at ht
    cases t with
    | mk d => cases d with
      | mk l => simp at ht; subst ht; rfl
  unfold easementref01_Right.f at h
  by_cases k0 : k = 0
  · rw [if_pos k0] at h
    split at h
    · rename_i hn; exact .inl ⟨k0, hn, he s (Option.some.inj h)⟩
    · cases h
  rw [if_neg k0] at h
  by_cases k1 : k = 1
  · rw [if_pos k1] at h
    split at h
    · rename_i hn; exact .inr (.inl ⟨k1, .inl hn, he s (Option.some.inj h)⟩)
    · split at h
      · rename_i hn; exact .inr (.inl ⟨k1, .inr hn, he s (Option.some.inj h)⟩)
      · cases h
  rw [if_neg k1] at h
  by_cases k2 : k = 2
  · rw [if_pos k2] at h
    exact .inr (.inr (.inl ⟨k2, he s (Option.some.inj h)⟩))
  rw [if_neg k2] at h
  by_cases k3 : k = 3
  · rw [if_pos k3] at h
    split at h
    · rename_i hn
      have := of_decide_eq_true (Option.some.inj h)
      exact .inr (.inr (.inr ⟨k3, hn, by omega⟩))
    · cases h
  rw [if_neg k3] at h
  cases h
theorem rightV_of {k n : Int} {s : ByteArray} (h : easementref01_Right.f k n s = some true) : rightV k n s = true := by
  rcases right_cases h with ⟨rfl, rfl, rfl⟩ | ⟨rfl, rfl | rfl, rfl⟩ | ⟨rfl, rfl⟩ | ⟨rfl, rfl, hs⟩
  · decide +kernel
  · decide +kernel
  · decide +kernel
  · have : (ByteArray.empty.toList == ([] : List UInt8)) = true := by decide +kernel
    unfold rightV value_Value_Right.f; rw [if_neg (by decide), if_neg (by decide), if_pos rfl, this]; rfl
  · unfold rightV value_Value_Right.f; rw [if_neg (by decide), if_neg (by decide), if_neg (by decide), if_pos rfl, if_pos rfl]; show decide _ = true; rw [decide_eq_true_iff]; omega
theorem valueP_app (k n : Int) (s : ByteArray) (zs : List Int) (h : easementref01_Right.f k n s = some true) (hn : -9223372036854775808 ≤ n ∧ n ≤ 9223372036854775807) :
    valueP (valB k n s ++ zs) 0 = ((k, n, s), zs, 0) := by
  have hr := rightV_of h
  rw [valueP_eq]
  have t1 : ∀ (j : Int) (ys : List Int), takeP ((j :: ys) ++ zs) 0 1 = ([j], ys ++ zs, 0) := fun j ys => takeP_app [j] (ys ++ zs) 1 rfl
  have n1 : ∀ j : Int, numB [j] = j := fun j => by simp [numB]
  rcases right_cases h with ⟨rfl, rfl, rfl⟩ | ⟨rfl, hn1, rfl⟩ | ⟨rfl, rfl⟩ | ⟨rfl, rfl, hs⟩
  · rw [valB_0 0 0 _ (by decide) (by decide) (by decide), valM_0 (t1 _ []) (by rw [n1]; decide) (by rw [n1]; decide) (by rw [n1]; decide), n1]
    exact end_ok (zf := (zs, 0)) rfl hr
  · rw [valB_1, valM_1 (t1 _ _) (n1 _), takeP_app _ _ 1 (leB_length _ _)]
    simp only
    rw [numB_leB, show wrap64 (n % 18446744073709551616 % 256 ^ 1) = n by unfold wrap64; omega]
    exact end_ok (zf := (zs, 0)) rfl hr
  · rw [valB_2, valM_2 (t1 _ _) (n1 _), takeP_app _ _ 8 (leB_length _ _)]
    simp only
    rw [numB_leB, show wrap64 (n % 18446744073709551616 % 256 ^ 8) = n by unfold wrap64; omega]
    exact end_ok (zf := (zs, 0)) rfl hr
  · rw [valB_3, valM_3 (t1 _ _) (n1 _), textP_app s 4096 zs (by omega) (by omega)]
    simp only
    rw [str_bytes]
    exact end_ok (zf := (zs, 0)) rfl hr
theorem strOfNums_append (xs ys : List Int) : strOfNums (xs ++ ys) = strOfNums xs ++ strOfNums ys := by
  apply ByteArray.ext
  rw [ByteArray.data_append]
  simp [strOfNums]
theorem str_ahead (s : ByteArray) (ys : List Int) : strOfNums (bytesOf s ++ ys) = s ++ strOfNums ys := by rw [strOfNums_append, str_bytes]
theorem refNum_l (z : Nat) (hz : z ≤ 8) : ∀ (d i k : Nat) (m : Int) (acc : List Int), i + d = z → d < k → 0 ≤ m → m ≤ 18446744073709551615 → acc.length = i →
    easementref02_Number.l0 k m z acc i = some (acc ++ leB m d)
  | 0, i, k, m, acc, hi, hk, h0, h1, hl => by
    obtain ⟨k, rfl⟩ : ∃ q, k = q + 1 := ⟨k - 1, by omega⟩
    simp only [easementref02_Number.l0]
    rw [if_neg (by omega)]
    simp [leB]
  | d + 1, i, k, m, acc, hi, hk, h0, h1, hl => by
    obtain ⟨k, rfl⟩ : ∃ q, k = q + 1 := ⟨k - 1, by omega⟩
    simp only [easementref02_Number.l0]
    rw [if_pos (by omega), if_pos (by omega), if_pos (by omega)]
    have e1 : IntKind.u64.wrap (Int.tdiv m 256) = m / 256 := by rw [Int.tdiv_eq_ediv_of_nonneg h0]; simp [IntKind.wrap, IntKind.bits, IntKind.signed]; omega
    have e2 : Int.tmod m 256 % 256 = m % 256 := by rw [Int.tmod_eq_emod_of_nonneg h0]; omega
    have e3 : wrap64 ((i : Int) + 1) = ((i + 1 : Nat) : Int) := by unfold wrap64; omega
    rw [e1, e2, e3, refNum_l z hz d (i + 1) k (m / 256) (acc ++ [m % 256]) (by omega) (by omega) (by omega) (by omega) (by simp [hl]), leB_cons]
    simp
theorem refNum (n : Int) (h0 : 0 ≤ n) (h1 : n ≤ 18446744073709551615) (z : Nat) (hz : z ≤ 8) : easementref02_Number.f 10 n z = some (leB n z) := by
  unfold easementref02_Number.f
  exact refNum_l z hz z 0 10 n [] (by omega) (by omega) h0 h1 rfl
theorem refText (s : ByteArray) (hs : s.size ≤ 140737488300000) : easementref02_Text.f 10 s = some (leB s.size 2 ++ bytesOf s) := by
  unfold easementref02_Text.f
  have e : IntKind.u64.wrap (s.size : Int) = s.size := by simp [IntKind.wrap, IntKind.bits, IntKind.signed]; omega
  rw [e, show (2 : Int) = ((2 : Nat) : Int) from rfl, refNum _ (by omega) (by omega) 2 (by omega)]
  simp only [Option.bind_some]
  rw [if_pos (by rw [leB_length]; omega)]
theorem refValue (k m : Int) (t : ByteArray) (hk0 : 0 ≤ k) (hk1 : k ≤ 255) (ht : t.size ≤ 140737488300000) : easementref02_Value.f 10 k m t = some (valB k m t) := by
  unfold easementref02_Value.f
  simp only [Option.bind_some]
  by_cases k1 : k = 1
  · subst k1; rw [if_pos rfl, if_pos (by simp), valB_1]
    have : leB (m % 18446744073709551616) 1 = [m % 256] := by rw [leB_one]; congr 1; omega
    rw [this]; rfl
  rw [if_neg k1]
  by_cases k2 : k = 2
  · subst k2
    have e : IntKind.u64.wrap m = m % 18446744073709551616 := by simp [IntKind.wrap, IntKind.bits, IntKind.signed]
    rw [if_pos rfl, e, show (8 : Int) = ((8 : Nat) : Int) from rfl, refNum _ (by omega) (by omega) 8 (by omega), valB_2]
    simp only [Option.bind_some]
    rw [if_pos (by simp [leB_length])]; rfl
  rw [if_neg k2]
  by_cases k3 : k = 3
  · subst k3
    rw [if_pos rfl, refText t ht, valB_3]
    simp only [Option.bind_some]
    rw [if_pos (by simp [leB_length, bytesOf_length]; omega)]; rfl
  rw [if_neg k3, valB_0 k m t k1 k2 k3]
  congr 2; omega
theorem byt_conv {w : World} {v : Value} {xs : List Int} (h : Byt w v xs) (hm : xs.length ≤ 9223372036854775807) : (convert 56 9 v).run Try.prog w = .ok (.string (strOfNums xs)) w := by
  obtain ⟨A, c, rfl, hc, hn, hC⟩ := h.C hm
  exact Kd.C_string (c := c) (src := 56) (dst := 9) (e := 5) Try.underlying56 Try.underlying5 Try.underlying9 hC
theorem byt_convE {w : World} {v : Value} {xs : List Int} {s : ByteArray} (h : Byt w v xs) (hm : xs.length ≤ 9223372036854775807) (hs : strOfNums xs = s) : (convert 56 9 v).run Try.prog w = .ok (.string s) w := by
  rw [← hs]; exact byt_conv h hm
theorem byt_of_R {w : World} {base : Nat} {ok : Nat → Prop} {v : Value} {xs : List Int} (h : Kd.R (Kd.int .u8) 5 w base ok v xs) : Byt w v xs := SlR.of_own (Kd.own_of_R h)
end Go.Proofs.Ytaoacibahdbdkaa.Pr
