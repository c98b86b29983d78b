/- hash: the number of values, and the law HashLists, walked. -/
import Derived.Test.YtaoacibahdbdkaaHashL
import Derived.Test.YtaoacibahdbdkaaOpen
import Derived.ArgAppend
namespace Go.Proofs.Ytaoacibahdbdkaa.Hsh
open Go.RowKit Go Go.Proofs.YtaoacibahdbdkaaW.PrintWords Go.Proofs.YtaoacibahdbdkaaW.PrintMore Go.Proofs.YtaoacibahdbdkaaW.PrintLast Go.Proofs.Ytaoacibahdbdkaa.Bts Go.Proofs.Ytaoacibahdbdkaa.Fra Go.Proofs.Ytaoacibahdbdkaa.Pk Go.Proofs.Ytaoacibahdbdkaa.Pr Go.Proofs.Ytaoacibahdbdkaa.QPackedPuts
abbrev kV : Kd (Int × Int × ByteArray) := Kd.pair (Kd.int .u8) (Kd.pair (Kd.int .i64) Kd.string)
abbrev zV : Int × Int × ByteArray := (0, 0, ByteArray.empty)
theorem at_V {w : World} {A : Option Addr} {n : Nat} {l : List (Int × Int × ByteArray)} (h : kV.C w A n l) (i : Nat) (h1 : i < n) (hl : l.length = n) (k m : Int) (s : ByteArray) (hx : l.getD i zV = (k, m, s)) :
    ∃ ad, A = some ad ∧ w.cell? (ad.add (i * 3)) = some (.int .u8 k) ∧ w.cell? ⟨(ad.add (i * 3)).block, (ad.add (i * 3)).off + 1, none⟩ = some (.int .i64 m) ∧ w.cell? ⟨(ad.add (i * 3)).block, (ad.add (i * 3)).off + 2, none⟩ = some (.string s) := by
  obtain ⟨ad, c, e, _, hK, hc⟩ := Kd.C_get h zV (i : Int) (by omega) (by omega)
  rw [Int.toNat_natCast] at hK hc
  rw [hx] at hK
  obtain ⟨_, _, rfl, rfl, ⟨_, _, rfl, rfl, rfl⟩⟩ := hK
  have hc : ∀ j u, [Value.int .u8 k, Value.int .i64 m, Value.string s][j]? = some u → w.cell? (ad.add (i * 3 + j)) = some u := hc
  exact ⟨ad, e, hc 0 _ rfl, by rw [← add_field _ _ 1 (by omega)]; exact hc 1 _ rfl, by rw [← add_field _ _ 2 (by omega)]; exact hc 2 _ rfl⟩
def allStep (seed n : Int) (v : Int × Int × ByteArray) : Int := mixI (bits .xor .u64 n (ofI seed v.1 v.2.1 v.2.2))
def allI (seed : Int) (l : List (Int × Int × ByteArray)) : Int := l.foldl (allStep seed) (keyI seed)
theorem allI_snoc (seed : Int) (l : List (Int × Int × ByteArray)) (v : Int × Int × ByteArray) : allI seed (l ++ [v]) = allStep seed (allI seed l) v := by simp [allI]
theorem of_bd (seed k n : Int) (s : ByteArray) : 0 ≤ ofI seed k n s ∧ ofI seed k n s ≤ 18446744073709551615 := by
  have h := bytesI_bd seed (valB k n s)
  exact mixI_bd _ h.1 h.2
theorem allI_bd (seed : Int) (l : List (Int × Int × ByteArray)) : 0 ≤ allI seed l ∧ allI seed l ≤ 18446744073709551615 := by
  rcases List.eq_nil_or_concat l with rfl | ⟨l', v, rfl⟩
  · exact key_bd seed
  · rw [List.concat_eq_append, allI_snoc]
    have h1 := allI_bd seed l'
    have h2 := of_bd seed v.1 v.2.1 v.2.2
    have h3 := xor_bd _ _ h1.1 h1.2 h2.1 h2.2
    exact mixI_bd _ h3.1 h3.2
termination_by l.length
decreasing_by subst_vars; simp
abbrev GoodV (l : List (Int × Int × ByteArray)) : Prop := ∀ x : Int × Int × ByteArray, x ∈ l → (0 ≤ x.1 ∧ x.1 ≤ 255) ∧ x.2.2.size ≤ 35184372088832
set_option maxHeartbeats 4000000 in
set_option maxRecDepth 100000 in
theorem all_calls (g : Nat) (seed : Int) (A : Option Addr) (c : Nat) (l : List (Int × Int × ByteArray)) (W0 w : World) (h : Hr w g seed) (hC : kV.C W0 A l.length l) (hB0 : Below W0.heap.size W0 w) (hg0 : W0.heap.size ≤ g) (hl : l.length ≤ 1000000) (hgood : GoodV l) :
    Calls Try.prog 44 #[.pointer (some ⟨g, 0, none⟩), .slice A l.length c] w fun e w' => e = .returned (.int .u64 (allI seed l)) ∧ Hr w' g seed ∧ Fr (· = g) w w' := by
  have H := Lib.hid h
  have HC := Lib.hid hC
  have HB := Lib.hid hB0
  have HGD := Lib.hid hgood
  clear h hC hB0 hgood
  go_enter Try.func44, Try.ntmps44
  go_wp2_with (first
    | (go_at_call 77; go_loud (refine (start_calls g seed _ H.out).mono ?_; rintro e w1 ⟨rfl, h1, hF1⟩; have H1 := Lib.hid h1; have HF1 := Lib.hid hF1; clear h1 hF1)))
  go_loopw [5, 14] (fun v i wr => ∃ j : Nat, j ≤ l.length ∧ i = .int .i64 j ∧ v = .int .u64 (allI seed (l.take j)) ∧ Hr wr g seed ∧ Fr (· = g) w wr) (fun _ i _ => l.length - (intOf i).toNat)
  case atStart => exact ⟨0, by omega, rfl, rfl, H1.out, HF1.out⟩
  case round =>
    obtain ⟨j, hj, rfl, rfl, hH, hF⟩ := hrel
    have HH := Lib.hid hH
    have HF := Lib.hid hF
    clear hH hF H1 HF1
    by_cases hlt : j < l.length
    · obtain ⟨x, hx⟩ : ∃ x, l.getD j zV = x := ⟨_, rfl⟩
      obtain ⟨k, m, s⟩ := x
      have he : l.getD j zV = l[j] := by simp [List.getD, hlt]
      have hg1 := HGD.out l[j] (List.getElem_mem hlt)
      rw [← he, hx] at hg1
      obtain ⟨⟨hk0, hk1⟩, hs⟩ := hg1
      have HT := Lib.hid (show l.take (j + 1) = l.take j ++ [(k, m, s)] by rw [← List.take_append_getElem hlt, ← he, hx])
      have hBW : Below W0.heap.size W0 wr := HB.out.trans (HF.out.below (fun k hk => by subst hk; exact hg0) HB.out.size)
      obtain ⟨ad, rfl, y0, y1, y2⟩ := at_V (Kd.C_below HC.out hBW) j hlt rfl k m s hx
      have hb1 := allI_bd seed (l.take j)
      have hb2 := of_bd seed k m s
      have hb3 := xor_bd _ _ hb1.1 hb1.2 hb2.1 hb2.2
      have HB3 := Lib.hid hb3
      have hs' : s.size ≤ 35184372088832 := hs
      clear hb1 hb2 hb3 hx he hBW hs
      go_wp2_with (first
        | (go_at_call 42; go_loud (refine (of_calls g seed k m s _ (HH.out.below (below_alloc (Below.refl _ _) _)) hk0 hk1 hs').mono ?_; rintro e w2 ⟨rfl, h2, hF2⟩; have H2 := Lib.hid h2; have HF2 := Lib.hid ((HF.out.new _).trans hF2); clear h2 hF2))
        | (go_at_call 29; refine (mix_calls _ _ HB3.out.1 HB3.out.2).mono ?_; rintro e w3 ⟨rfl, rfl⟩))
      go_roundw
      case rel => exact ⟨j + 1, by omega, by simp, by rw [HT.out, allI_snoc]; rfl, H2.out, HF2.out⟩
      case measure => simp [intOf]; omega
    · go_wp2
      go_ret
      obtain rfl : j = l.length := by omega
      rw [List.take_length]
      exact ⟨rfl, HH.out, HF.out⟩
set_option maxHeartbeats 4000000 in
set_option maxRecDepth 100000 in
theorem refAll_calls (seed : Int) (A : Option Addr) (c : Nat) (l : List (Int × Int × ByteArray)) (w : World) (hC : kV.C w A l.length l) (hl : l.length ≤ 1000000) (hgood : GoodV l) :
    Calls Try.prog 45 #[.int .u64 seed, .slice A l.length c] w fun e w' => e = .returned (.int .u64 (allI seed l)) ∧ Below w.heap.size w w' := by
  have HC := Lib.hid hC
  have HGD := Lib.hid hgood
  clear hC hgood
  go_enter Try.func45, Try.ntmps45
  go_wp2_with (first
    | (go_at_call 76; go_loud (refine (refKey_calls _ _).mono ?_; rintro e w1 ⟨rfl, rfl⟩)))
  go_loopw [5, 6] (fun v i wr => ∃ j : Nat, j ≤ l.length ∧ i = .int .i64 j ∧ v = .int .u64 (allI seed (l.take j)) ∧ Below w.heap.size w wr) (fun _ i _ => l.length - (intOf i).toNat)
  case atStart => exact ⟨0, by omega, rfl, rfl, Below.refl _ _⟩
  case round =>
    obtain ⟨j, hj, rfl, rfl, hB⟩ := hrel
    have HB := Lib.hid hB
    clear hB
    by_cases hlt : j < l.length
    · obtain ⟨x, hx⟩ : ∃ x, l.getD j zV = x := ⟨_, rfl⟩
      obtain ⟨k, m, s⟩ := x
      have he : l.getD j zV = l[j] := by simp [List.getD, hlt]
      have hg1 := HGD.out l[j] (List.getElem_mem hlt)
      rw [← he, hx] at hg1
      obtain ⟨⟨hk0, hk1⟩, hs⟩ := hg1
      have HT := Lib.hid (show l.take (j + 1) = l.take j ++ [(k, m, s)] by rw [← List.take_append_getElem hlt, ← he, hx])
      obtain ⟨ad, rfl, y0, y1, y2⟩ := at_V (Kd.C_below HC.out HB.out) j hlt rfl k m s hx
      have hb1 := allI_bd seed (l.take j)
      have hb2 := of_bd seed k m s
      have hb3 := xor_bd _ _ hb1.1 hb1.2 hb2.1 hb2.2
      have HB3 := Lib.hid hb3
      have hs' : s.size ≤ 35184372088832 := hs
      clear hb1 hb2 hb3 hx he hs
      go_wp2_with (first
        | (go_at_call 41; go_loud (refine (refOf_calls seed k m s _ hk0 hk1 hs').mono ?_; rintro e w2 ⟨rfl, hB2⟩; have HBn := Lib.hid (below_step (by repeat (first | (with_reducible first | exact HB.out | apply below_alloc | apply pw_below_drewN | apply below_drew1) | exact HB.out)) hB2); clear HB; have HB := HBn; clear HBn))
        | (go_at_call 43; refine (refMix_calls _ _ HB3.out.1 HB3.out.2).mono ?_; rintro e w3 ⟨rfl, rfl⟩))
      go_roundw
      case rel => exact ⟨j + 1, by omega, by go_num, by rw [HT.out, allI_snoc]; rfl, HB.out⟩
      case measure => simp [intOf]; omega
    · go_wp2
      go_ret
      obtain rfl : j = l.length := by omega
      rw [List.take_length]
      exact ⟨rfl, HB.out⟩
end Go.Proofs.Ytaoacibahdbdkaa.Hsh
