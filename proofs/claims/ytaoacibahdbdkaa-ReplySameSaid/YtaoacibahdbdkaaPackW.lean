/- packed: numbers, texts and values put behind bytes, as contracts. -/
import Derived.Test.YtaoacibahdbdkaaProg
import Derived.Test.YtaoacibahdbdkaaBytes
import Derived.WalkKit
import Derived.WalkSpells
import Derived.OwnWalk
import Derived.ArgAppend
import Derived.Maps.AppendAt
import Derived.KernelRfl
import Derived.Lib.Hide
import Derived.Laws.BitsLemmas
import Derived.Lib.AppendStr
namespace Go.Proofs.Ytaoacibahdbdkaa.Pk
open Go.RowKit Go Go.Proofs.YtaoacibahdbdkaaW.PrintWords Go.Proofs.YtaoacibahdbdkaaW.PrintMore Go.Proofs.Ytaoacibahdbdkaa.Bts
attribute [local go_sem] max2_int min2_int max_two min_two

theorem infoByte : (Try.prog.info? 5).map (fun i => (i.zero, i.size, i.bytes)) = some (some (.int .u8 0), 1, 1) := by kernel_rfl
set_option maxHeartbeats 1000000 in
theorem clip_calls (A : Option Addr) (n c : Nat) (w : World) (h : n ≤ c) (_hm : (n : Int) ≤ 9223372036854775807) :
    Calls Try.prog 92 #[.slice A n c] w fun e w' => e = .returned (.slice A n n) ∧ w = w' := by
  have hc : (n : Int) ≤ (c : Int) := by omega
  go_enter Try.func92, Try.ntmps92
  go_wp2
  go_ret
  exact ⟨rfl, rfl⟩
/-- The lowest bytes of a number. -/
def leB (n : Int) (k : Nat) : List Int := (List.range k).map fun j => n / 2 ^ (8 * j) % 256
theorem leB_succ (n : Int) (k : Nat) : leB n (k + 1) = leB n k ++ [n / 2 ^ (8 * k) % 256] := by simp [leB, List.range_succ]
theorem leB_length (n : Int) (k : Nat) : (leB n k).length = k := by simp [leB]
/-- How many bytes a number is put in. -/
def sizeP (size : Int) : Nat := min (max size 0).toNat 8
def PutAt (w wr : World) (A : Option Addr) (xs : List Int) (n : Int) (v : Value) (i : Nat) : Prop :=
  (i = 0 ∧ v = .slice A xs.length xs.length ∨ 0 < i ∧ wr.ownsRow w.heap.size 5 1 v (xs ++ leB n i).length (nums .u8 (xs ++ leB n i))) ∧ Below w.heap.size w wr
set_option maxHeartbeats 4000000 in
set_option maxRecDepth 100000 in
theorem put_calls (v : Value) (xs : List Int) (n size : Int) (w : World) (h : Byt w v xs) (hl : xs.length ≤ 140737488351300) (h0 : 0 ≤ n) :
    Calls Try.prog 67 #[v, .int .u64 n, .int .i64 size] w fun e w' => ∃ v', e = .returned v' ∧ ∃ A c, (v = .slice A xs.length c ∧ xs.length ≤ c) ∧ PutAt w w' A xs n v' (sizeP size) := by
  obtain ⟨_, A, c, rfl, hc, hn, hcell⟩ := h
  have HC := Lib.hid hcell
  have HN := Lib.hid hn
  clear hcell hn
  obtain ⟨k, hk⟩ : ∃ k, sizeP size = k := ⟨_, rfl⟩
  have hk8 : k ≤ 8 := by rw [← hk]; unfold sizeP; omega
  rw [hk]
  obtain ⟨m, hm⟩ : ∃ m : Int, (if size < 0 then (0 : Int) else size) = m := ⟨_, rfl⟩
  have hkk : (if 8 < m then (8 : Int) else m) = (k : Int) := by
    rw [← hk, ← hm]; unfold sizeP; split <;> split <;> omega
  obtain ⟨i0, hi, hz0, hz1, hz2⟩ := info_parts infoByte
  have HK := Lib.hid hk
  clear hk
  go_enter Try.func67, Try.ntmps67
  go_wp2_with (go_at_call 92; refine (clip_calls _ _ _ _ hc (by omega)).mono ?_; rintro e w1 ⟨rfl, rfl⟩)
  have HM := Lib.hid hm
  have HKK := Lib.hid hkk
  clear hm hkk
  go_loopw [0, 13] (fun v i wr => ∃ j : Nat, j ≤ k ∧ i = .int .i64 j ∧ PutAt w wr A xs n v j) (fun _ i _ => k - (intOf i).toNat)
  case atStart => exact ⟨0, by omega, rfl, .inl ⟨rfl, rfl⟩, Below.refl _ _⟩
  case round =>
    obtain ⟨j, hj, rfl, hP, hB⟩ := hrel
    by_cases hlt : j < k
    · rcases hP with ⟨rfl, rfl⟩ | ⟨hj0, hown⟩
      · have hsz := hB.size
        go_wp2_with (at_builtin; refine wpList_append_grows _ rfl (.tmp 16) (.tmp 22) 56 rfl 5 i0 (.int .u8 0) 1 1 Try.underlying56 hi hz0 hz1 hz2 rfl (by decide) A xs.length xs.length (nums .u8 xs) rfl ?hnone ?hlo ?holds ⟨wr.heap.size, 0, none⟩ 1 1 [.int .u8 (n % 256)] rfl rfl (cell_one_new _ _ _) ?h1c ?hfull ?b1 ?b2 ?_)
        case hnone => intro hA; have := HN.out hA; omega
        case hlo => rw [nums_length, Nat.mul_one]
        case holds =>
          intro b hb j u hu
          exact pw_cell_below (below_step hB (below_alloc (Below.refl _ _) _)) (HC.out b hb j u hu)
        case h1c => intro u hu; simp at hu; subst hu; rfl
        case hfull => omega
        case b1 => unfold maxLen; omega
        case b2 => omega
        intro v' w2 hown hg
        go_wp2
        go_roundw
        case rel =>
          refine ⟨1, by omega, by go_num, .inr ⟨by omega, ?_⟩, below_then hB hsz ⟨hg.os, hg.tape, hg.output, by have := hg.size; simp at this; omega, fun i hi => (hg.block i (by simp; omega) (by simp)).trans (Below.heap_alloc wr _ i hi)⟩⟩
          have e : leB n 1 = [n % 256] := by simp [leB]
          rw [e, List.length_append, nums_append]
          exact own_weaken hown (by first | omega | (simp; omega))
        case measure => simp [intOf]; omega
      · have hsz := hB.size
        have hv := own_slice hown
        obtain ⟨A1, c1, rfl⟩ := hv
        have HO := Lib.hid hown
        clear hown
        have hlen : (xs ++ leB n j).length = xs.length + j := by rw [List.length_append, leB_length]
        have hj7 : j ≤ 7 := by omega
        have h80 : 0 ≤ (8 : Int) * (j : Int) := by omega
        have h81 : (8 : Int) * (j : Int) ≤ 64 := by omega
        have h82 : ((8 : Int) * (j : Int)).toNat = 8 * j := by omega
        go_wp2_with (at_builtin; refine print_append_num (w0 := w) w.heap.size rfl (.tmp 16) (.tmp 22) 56 5 .u8 1 rfl Try.underlying56 infoByte (by decide) _ (xs ++ leB n j) (n / 2 ^ (8 * j) % 256) rfl rfl HO.out hB hsz (by rw [hlen]; omega) ?_)
        intro v1 w1 hown1 hB1 _ _
        go_wp2
        go_roundw
        case rel =>
          refine ⟨j + 1, by omega, by go_num, .inr ⟨by omega, ?_⟩, hB1⟩
          rw [leB_succ]
          simpa using hown1
        case measure => simp [intOf]; omega
    · go_wp2
      go_ret
      have e : j = k := by omega
      subst e
      exact ⟨_, rfl, A, c, ⟨rfl, hc⟩, hP, hB⟩
/-- What is made is a row of the call's own. -/
def Made (w w' : World) (v : Value) (xs : List Int) : Prop := w'.ownsRow w.heap.size 5 1 v xs.length (nums .u8 xs) ∧ Below w.heap.size w w'
theorem put_pos (v : Value) (xs : List Int) (n : Int) (k : Nat) (w : World) (h : Byt w v xs) (hl : xs.length ≤ 140737488351300) (h0 : 0 ≤ n) (hk : 0 < k) (hk8 : k ≤ 8) :
    Calls Try.prog 67 #[v, .int .u64 n, .int .i64 k] w fun e w' => ∃ v', e = .returned v' ∧ Made w w' v' (xs ++ leB n k) := by
  have e : sizeP (k : Int) = k := by unfold sizeP; omega
  refine (put_calls v xs n k w h hl h0).mono ?_
  rintro e' w' ⟨v', rfl, A, c, _, hP, hB⟩
  rw [e] at hP
  rcases hP with ⟨h, _⟩ | ⟨_, h⟩
  · omega
  · exact ⟨v', rfl, h, hB⟩
theorem Made.byt {w w' : World} {v : Value} {xs : List Int} (h : Made w w' v xs) : Byt w' v xs := SlR.of_own h.1
set_option maxHeartbeats 4000000 in
set_option maxRecDepth 100000 in
theorem text_calls (v : Value) (xs : List Int) (s : ByteArray) (w : World) (h : Byt w v xs) (hl : xs.length ≤ 70368744170000) (hs : s.size ≤ 70368744170000) :
    Calls Try.prog 68 #[v, .string s] w fun e w' => ∃ v', e = .returned v' ∧ Made w w' v' (xs ++ leB s.size 2 ++ bytesOf s) := by
  have H := Lib.hid h
  clear h
  have hb := bytesOf_length s
  go_enter Try.func68, Try.ntmps68
  have hlen : (xs ++ leB (s.size : Int) 2).length = xs.length + 2 := by rw [List.length_append, leB_length]
  have HL := Lib.hid hlen
  clear hlen
  go_wp2_with (first
    | (go_at_call 67; refine (put_pos _ xs _ 2 _ H.out (by omega) (by omega) (by omega) (by omega)).mono ?_; rintro e w1 ⟨v1, rfl, hown, hB⟩)
    | (at_builtin; refine print_append_str (w0 := w) w.heap.size rfl (.tmp 9) (.tmp 10) 56 9 5 rfl Try.underlying56 Try.underlying9 infoByte _ (xs ++ leB (s.size : Int) 2) s rfl rfl hown hB hB.size (by rw [HL.out]; omega) ?_; intro v2 w2 hown2 hB2 _))
  go_ret
  exact ⟨_, rfl, hown2, hB2⟩
end Go.Proofs.Ytaoacibahdbdkaa.Pk
