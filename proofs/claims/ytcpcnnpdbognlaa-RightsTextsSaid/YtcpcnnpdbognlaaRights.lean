/- rights: Has and Text, as contracts: the text of rights, letter by letter. -/
import Derived.Test.YtcpcnnpdbognlaaShelfB
import Derived.Test.YtcpcnnpdbognlaaBuilder
import Derived.Test.YtcpcnnpdbognlaaWWords
import Derived.Test.YtcpcnnpdbognlaaWMore
import Derived.Laws.BitsLemmas
import Derived.Lib.Hide
import Derived.Deep.QuietTactic
import Derived.BigQuiet
import Derived.Laws.Strings
namespace Go.Proofs.Ytcpcnnpdbognlaa.Rg
open Go.RowKit Go Go.Proofs.YtcpcnnpdbognlaaW.PrintWords Go.Proofs.YtcpcnnpdbognlaaW.PrintMore

abbrev letters : ByteArray := ⟨#[114, 100, 116, 103, 118]⟩
def hasU (s t : Int) : Bool := Go.bits .and .u8 s t == t
theorem has_calls (s t : Int) (w : World) : Calls Try.prog 54 #[.int .u8 s, .int .u8 t] w fun e w' => e = .returned (.bool (hasU s t)) ∧ w' = w := by
  go_enter Try.func54, Try.ntmps54
  go_wp2
  go_ret
  exact ⟨rfl, rfl⟩
def pow (i : Nat) : Int := IntKind.u8.wrap (1 * 2 ^ i)
def letterAt (s : Int) (i : Nat) : UInt8 := if hasU s (2 ^ i) then letters.data.toList.getD i 0 else 45
def textL (s : Int) : List UInt8 := [letterAt s 0, letterAt s 1, letterAt s 2, letterAt s 3, letterAt s 4]
theorem textL_get (s : Int) (k : Nat) (h : k < 5) : (textL s).take (k + 1) = (textL s).take k ++ [letterAt s k] := by
  have : k = 0 ∨ k = 1 ∨ k = 2 ∨ k = 3 ∨ k = 4 := by omega
  rcases this with rfl | rfl | rfl | rfl | rfl <;> rfl
theorem hasc : ∀ k (h : k < letters.size), (letters[k]'h).toNat < 128 ∧ (letters[k]'h).toNat = (letters.data.toList.getD k 0).toNat := by
    intro k h
    have h : k < 5 := h
    have : k = 0 ∨ k = 1 ∨ k = 2 ∨ k = 3 ∨ k = 4 := by omega
    rcases this with rfl | rfl | rfl | rfl | rfl
    · exact ⟨(by decide : (114 : UInt8).toNat < 128), rfl⟩
    · exact ⟨(by decide : (100 : UInt8).toNat < 128), rfl⟩
    · exact ⟨(by decide : (116 : UInt8).toNat < 128), rfl⟩
    · exact ⟨(by decide : (103 : UInt8).toNat < 128), rfl⟩
    · exact ⟨(by decide : (118 : UInt8).toNat < 128), rfl⟩
set_option maxHeartbeats 4000000 in
set_option maxRecDepth 100000 in
theorem text_calls (s : Int) (w : World) :
    Calls Try.prog 56 #[.int .u8 s] w fun e w' => e = .returned (.string ⟨(textL s).toArray⟩) ∧ Below w.heap.size w w' := by
  go_enter Try.func56, Try.ntmps56
  go_wp2
  go_loopw [] (fun wr => ∃ k : Nat, k ≤ 5 ∧ Lib.IsBuilderF 120 5 w.heap.size w.heap.size (Lib.byteCells ((textL s).take k)) wr ∧ wr.heap[w.heap.size + 1]? = some (.stringIter letters k) ∧ Below w.heap.size w wr) (fun wr => 5 - wr.iterPos (w.heap.size + 1))
  case atStart =>
    refine ⟨0, by omega, (Lib.IsBuilderF.of (Lib.fresh_isBuilder 120 5 w)).alloc _, ?_, ((Below.refl _ w).alloc (Nat.le_refl _) _).alloc (by simp) _⟩
    have := World.iter_heap (w.alloc (.cells #[.pointer none, .slice none 0 0] 120)) letters 0
    simpa using this
  case round =>
    obtain ⟨k, hk, hI, hit, hbw⟩ := hrel
    have hsz : w.heap.size + 1 < wr.heap.size := (Array.getElem?_eq_some_iff.1 hit).1
    have hlen : ∀ k, ((textL s).take k).length ≤ 5 := fun k => by rw [List.length_take]; simp [textL]; omega
    by_cases hp : k < 5
    · have hp' : k < letters.size := hp
      have hT := Lib.hid (textL_get s k hp)
      have hnx : ∀ ty, (Instr.next (.pointer (some ⟨w.heap.size + 1, 0, none⟩)) true ty).run Try.prog wr = _ := fun ty => Lib.run_next_ascii_at wr (w.heap.size + 1) letters k ty hit hp' (hasc k hp').1
      have hI2 := hI.iterAt hit (k + 1)
      have hit2 := Lib.iterAt_heap wr (w.heap.size + 1) letters k (k + 1) hit
      have hbw2 := Lib.below_iterAt hbw (k := w.heap.size + 1) (by omega) letters (k + 1)
      have hsz2 : w.heap.size ≤ (wr.iterAt (w.heap.size + 1) letters (k + 1)).heap.size := by rw [Lib.iterAt_size]; omega
      have hL := hlen k
      have hpw : (1 : Int) * 2 ^ k = 2 ^ k := by simp
      obtain ⟨q, hq⟩ : ∃ q : Int, (2 : Int) ^ k = q := ⟨_, rfl⟩
      have hq8 : 0 ≤ q ∧ q ≤ 255 := by
        have : k = 0 ∨ k = 1 ∨ k = 2 ∨ k = 3 ∨ k = 4 := by omega
        rcases this with rfl | rfl | rfl | rfl | rfl <;> (subst hq; decide)
      cases hh : hasU s (2 ^ k)
      · have hA : letterAt s k = 45 := by unfold letterAt; rw [hh]; rfl
        rw [hq] at hh
        go_wp2_with (first | (go_at_call 54; refine (has_calls _ _ _).mono ?_; rintro e w2 ⟨rfl, rfl⟩) | (go_at_call 76; refine (Bld.writeByte w.heap.size w.heap.size _ 45 _ hI2 (by rw [Lib.byteCells_length]; omega) hsz2).mono ?_; rintro e W1 ⟨rfl, h1, b1, k1⟩))
        go_roundw
        case rel =>
          refine ⟨k + 1, by omega, ?_, k1.iter hit2 (by omega), hbw2.trans b1⟩
          rw [hT.out, hA, Lib.byteCells_append]; exact Or.inr h1
        case measure =>
          simp only [World.iterPos, k1.iter hit2 (by omega), hit]
          omega
      · have hA : letterAt s k = letters.data.toList.getD k 0 := by unfold letterAt; rw [hh]; rfl
        rw [hq] at hh
        have hc := hasc k hp'
        go_wp2_with (first | (go_at_call 54; refine (has_calls _ _ _).mono ?_; rintro e w2 ⟨rfl, rfl⟩) | (go_at_call 75; refine (Bld.writeRune w.heap.size w.heap.size _ ((letters[k]'hp').toNat : Int) (by omega) (by omega) _ hI2 (by rw [Lib.byteCells_length]; omega) hsz2).mono ?_; rintro e W1 ⟨rfl, h1, b1, k1⟩))
        go_roundw
        case rel =>
          refine ⟨k + 1, by omega, ?_, k1.iter hit2 (by omega), hbw2.trans b1⟩
          rw [hT.out, hA, Lib.byteCells_append]
          rw [hc.2] at h1
          exact Or.inr h1
        case measure =>
          simp only [World.iterPos, k1.iter hit2 (by omega), hit]
          omega
    · have hk5 : k = 5 := by omega
      subst hk5
      have hnx : ∀ ty, (Instr.next (.pointer (some ⟨w.heap.size + 1, 0, none⟩)) true ty).run Try.prog wr = _ := fun ty => Lib.run_next_end_at wr (w.heap.size + 1) letters 5 ty hit (by decide)
      go_wp2_with (go_at_call 77; refine (Try.Builder_String_any_k w.heap.size w.heap.size _ _ hI (by omega)).mono ?_)
      rintro e W1 ⟨rfl, _, b1, _⟩
      go_wp2
      go_ret
      exact ⟨rfl, hbw.trans b1⟩

theorem bthen {w W w2 : World} (h : Below w.heap.size w W) (h2 : Below W.heap.size W w2) : Below w.heap.size w w2 := below_then h h.size h2
def byteAt (t : ByteArray) (k : Nat) : Int := bt t k
def parseTo (t : ByteArray) : Nat → Int
  | 0 => 0
  | k + 1 => if t.size = 5 ∧ byteAt t k = byteAt letters k then Go.bits .or .u8 (parseTo t k) (2 ^ k) else parseTo t k
def parseL (t : ByteArray) : Int × Int := if textL (parseTo t 5) = t.data.toList then (parseTo t 5, 0) else (0, 10)
set_option maxHeartbeats 4000000 in
set_option maxRecDepth 100000 in
theorem parse_calls (t : ByteArray) (w : World) :
    Calls Try.prog 58 #[.string t] w fun e w' => e = .returned (.tuple #[.int .u8 (parseL t).1, .int .i64 (parseL t).2]) ∧ Below w.heap.size w w' := by
  go_enter Try.func58, Try.ntmps58
  go_wp2
  go_loopw [4] (fun s wr => ∃ k : Nat, k ≤ 5 ∧ s = .int .u8 (parseTo t k) ∧ wr.heap[w.heap.size]? = some (.stringIter letters k) ∧ Below w.heap.size w wr) (fun _ wr => 5 - wr.iterPos (w.heap.size))
  case atStart =>
    refine ⟨0, by omega, rfl, ?_, (Below.refl _ w).alloc (Nat.le_refl _) _⟩
    have := World.iter_heap w letters 0
    simpa using this
  case round =>
    obtain ⟨k, hk, rfl, hit, hbw⟩ := hrel
    have hsz : w.heap.size < wr.heap.size := (Array.getElem?_eq_some_iff.1 hit).1
    by_cases hp : k < 5
    · have hp' : k < letters.size := hp
      have hnx : ∀ ty, (Instr.next (.pointer (some ⟨w.heap.size, 0, none⟩)) true ty).run Try.prog wr = _ := fun ty => Lib.run_next_ascii_at wr w.heap.size letters k ty hit hp' (hasc k hp').1
      have hit2 := Lib.iterAt_heap wr w.heap.size letters k (k + 1) hit
      have hbw2 := Lib.below_iterAt hbw (k := w.heap.size) (by omega) letters (k + 1)
      have hpw : (1 : Int) * 2 ^ k = 2 ^ k := by simp
      have hpw8 : IntKind.u8.wrap ((2 : Int) ^ k) = 2 ^ k := by
        have : k = 0 ∨ k = 1 ∨ k = 2 ∨ k = 3 ∨ k = 4 := by omega
        rcases this with rfl | rfl | rfl | rfl | rfl <;> decide
      by_cases h5 : t.size = 5
      · have h5' : ((t.size : Int) == 5) = true := by rw [h5]; rfl
        have hk0 : (k : Int) < (t.size : Int) := by omega
        have hkt : k < t.size := by omega
        have e1 : ∀ h : k < t.size, ((t[k]'h).toNat : Int) = byteAt t k := fun h => by simp [byteAt, bt, h]
        have e2 : ∀ h : k < letters.size, ((letters[k]'h).toNat : Int) = byteAt letters k := fun h => by simp only [byteAt, bt, Int.toNat_natCast]; rw [dif_pos h]
        by_cases hbb : byteAt t k = byteAt letters k
        · have HB := Lib.hid hbb
          go_wp2
          go_quiet (fail)
          go_wp2
          go_roundw
          case rel =>
            refine ⟨k + 1, by omega, ?_, hit2, pw_below_drewN hbw2 _⟩
            show _ = Value.int .u8 (if _ then _ else _)
            rw [if_pos ⟨h5, HB.out⟩]
          case measure =>
            simp only [World.iterPos, World.drewN, hit2, hit]
            omega
        · have HB := Lib.hid hbb
          have hb2 : (byteAt t k == byteAt letters k) = false := by rw [beq_eq_false_iff_ne]; exact hbb
          go_wp2
          go_quiet (fail)
          go_wp2
          go_roundw
          case rel =>
            refine ⟨k + 1, by omega, ?_, hit2, pw_below_drewN hbw2 _⟩
            show _ = Value.int .u8 (if _ then _ else _)
            rw [if_neg (fun h => HB.out h.2)]
          case measure =>
            simp only [World.iterPos, World.drewN, hit2, hit]
            omega
      · have h5' : ((t.size : Int) == 5) = false := by
          rw [beq_eq_false_iff_ne]; omega
        go_wp2
        go_quiet (fail)
        go_wp2
        go_roundw
        case rel =>
          refine ⟨k + 1, by omega, ?_, hit2, pw_below_drewN hbw2 _⟩
          show _ = Value.int .u8 (if _ then _ else _)
          rw [if_neg (fun h => h5 h.1)]
        case measure =>
          simp only [World.iterPos, World.drewN, hit2, hit]
          omega
    · have hk5 : k = 5 := by omega
      subst hk5
      have hnx : ∀ ty, (Instr.next (.pointer (some ⟨w.heap.size, 0, none⟩)) true ty).run Try.prog wr = _ := fun ty => Lib.run_next_end_at wr w.heap.size letters 5 ty hit (by decide)
      by_cases he : textL (parseTo t 5) = t.data.toList
      · have hP : parseL t = (parseTo t 5, 0) := by unfold parseL; rw [if_pos he]
        have he' : (textL (parseTo t 5) == t.toList) = true := by rw [ByteArray.toList_eq]; simp [he]
        go_wp2_with (go_at_call 56; refine (text_calls _ _).mono ?_; rintro e W1 ⟨rfl, b1⟩)
        go_ret2
        rw [hP]
        exact ⟨rfl, bthen hbw b1⟩
      · have hP : parseL t = (0, 10) := by unfold parseL; rw [if_neg he]
        have he' : (textL (parseTo t 5) == t.toList) = false := by rw [ByteArray.toList_eq, beq_eq_false_iff_ne]; exact he
        go_wp2_with (go_at_call 56; refine (text_calls _ _).mono ?_; rintro e W1 ⟨rfl, b1⟩)
        go_ret2
        rw [hP]
        exact ⟨rfl, bthen hbw b1⟩
theorem text9 : textL 9 = [114, 45, 45, 103, 45] := by decide +kernel
set_option maxHeartbeats 1000000 in
set_option maxRecDepth 100000 in
theorem lives_calls (w : World) : Calls Try.prog 52 #[] w fun e w' => e = .returned (.bool true) ∧ Below w.heap.size w w' := by
  have ht := text_calls 9
  rw [text9] at ht
  have HT := Lib.hid ht
  clear ht
  go_enter Try.func52, Try.ntmps52
  go_wp2_with (go_at_call 56; refine (HT.out _).mono ?_; rintro e W1 ⟨rfl, b1⟩)
  go_ret
  exact ⟨rfl, b1⟩
end Go.Proofs.Ytcpcnnpdbognlaa.Rg