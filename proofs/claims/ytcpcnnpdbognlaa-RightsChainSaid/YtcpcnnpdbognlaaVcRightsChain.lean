/- RightsChain: the plain law over the printed functions: what is given on is never more than what was there first. No condition. -/
import Derived.Test.YtcpcnnpdbognlaaQRightsChainx
import Derived.Laws.Strings
namespace Go.Proofs.Ytcpcnnpdbognlaa.VcRightsChain
set_option linter.unusedVariables false
open Go.RowKit Go.Proofs.Ytcpcnnpdbognlaa.QRightsChain Go.Proofs.YtcpcnnpdbognlaaW.PrintWords Go.Proofs.YtcpcnnpdbognlaaW.PrintLast Go.Proofs.YtcpcnnpdbognlaaW.PrintMore
theorem u8_nat {x : Int} (p : IntKind.u8.min ≤ x ∧ x ≤ IntKind.u8.max) : ∃ a : Nat, x = a ∧ a < 256 := by
  have h : 0 ≤ x ∧ x ≤ 255 := p
  exact ⟨x.toNat, by omega, by omega⟩

theorem and_nat (a b : Nat) (ha : a < 256) (hb : b < 256) : Go.bits .and .u8 a b = ((a &&& b : Nat) : Int) :=
  (bits_nat .u8 8 (by decide) (fun n h0 h1 => by rw [IntKind.wrap_u8]; omega) a b ha hb).1
def sub (a b : Nat) : Prop := a &&& b = b
theorem has_f (a b : Nat) (ha : a < 256) (hb : b < 256) : rights_Set_Has.f a b = some (decide (a &&& b = b)) := by
  unfold rights_Set_Has.f
  rw [and_nat a b ha hb]
  congr 1
  by_cases h : a &&& b = b
  · simp [h]
  · have : ¬ ((a &&& b : Nat) : Int) = (b : Int) := by omega
    simp [h, this]
theorem sub_trans (a h s : Nat) (h1 : a &&& h = h) (h2 : h &&& s = s) : a &&& s = s := by
  calc a &&& s = a &&& (h &&& s) := by rw [h2]
    _ = (a &&& h) &&& s := (Nat.and_assoc a h s).symm
    _ = s := by rw [h1, h2]
theorem tmod_nat (a : Nat) : Int.tmod (a : Int) 32 = ((a % 32 : Nat) : Int) := by
  rw [Int.tmod_eq_emod_of_nonneg (by omega)]; omega
theorem att_f (k h n : Nat) (hk : 1 ≤ k) (hh : h < 256) (hn : n < 256) : ∃ s e, rights_Attenuate.f k h n = some (s, e) ∧ (e = 0 → s = n ∧ h &&& n = n) := by
  obtain ⟨k, rfl⟩ : ∃ m, k = m + 1 := ⟨k - 1, by omega⟩
  have key : ∀ b, ∃ s e, rights_Attenuate.j0 (k + 1) h n b = some (s, e) ∧ (e = 0 → s = n ∧ h &&& n = n) := by
    intro b
    simp only [rights_Attenuate.j0]
    cases b with
    | true => rw [if_pos rfl]; exact ⟨0, 1, rfl, fun h => by omega⟩
    | false =>
      rw [if_neg (by simp)]
      have h8 := has_f h 8 hh (by decide)
      rw [show ((8 : Nat) : Int) = 8 from rfl] at h8
      rw [h8, Option.bind_some]
      by_cases e8 : h &&& 8 = 8
      · rw [if_pos (by simpa using e8), has_f h n hh hn, Option.bind_some]
        by_cases en : h &&& n = n
        · rw [if_pos (by simpa using en)]; exact ⟨n, 0, rfl, fun _ => ⟨rfl, en⟩⟩
        · rw [if_neg (by simpa using en)]; exact ⟨0, 6, rfl, fun h => by omega⟩
      · rw [if_neg (by simpa using e8)]; exact ⟨0, 6, rfl, fun h => by omega⟩
  unfold rights_Attenuate.f rights_Set_Right.f
  simp only [Option.bind_some]
  split
  · exact key _
  · exact key _
theorem law_l0 (a : Nat) (ha : a < 256) (l : List Int) (hl : (l.length : Int) ≤ 140737488351232) (hb : ∀ x ∈ l, IntKind.u8.min ≤ x ∧ x ≤ IntKind.u8.max) (d : Nat) : ∀ (k i h : Nat), l.length - i = d → i ≤ l.length → d + 2 ≤ k → h < 256 → a &&& h = h →
    easementlaw16_RightsChain.l0 k a h l (l.length : Int) i = some true := by
  induction d with
  | zero =>
    intro k i h hd hi hk hh hs
    obtain ⟨k, rfl⟩ : ∃ m, k = m + 1 := ⟨k - 1, by omega⟩
    simp only [easementlaw16_RightsChain.l0]
    rw [if_neg (by omega)]
  | succ d ih =>
    intro k i h hd hi hk hh hs
    obtain ⟨k, rfl⟩ : ∃ m, k = m + 1 := ⟨k - 1, by omega⟩
    have hw : wrap64 ((i : Int) + 1) = ((i + 1 : Nat) : Int) := by unfold wrap64; omega
    obtain ⟨n, hn, hn8⟩ : ∃ n : Nat, rd l (i : Int) = n ∧ n < 256 := by
      have : rd l (i : Int) = l[i]'(by omega) := by simp [rd, List.getD, show i < l.length by omega]
      rw [this]
      exact u8_nat (hb _ (List.getElem_mem _))
    simp only [easementlaw16_RightsChain.l0]
    rw [if_pos (by omega), if_pos (by omega), if_pos (by omega), hn, tmod_nat, hw]
    have hm : n % 32 < 256 := by omega
    obtain ⟨s, e, hf, he⟩ := att_f k h (n % 32) (by omega) hh hm
    rw [hf, Option.bind_some]
    by_cases e0 : e = 0
    · obtain ⟨rfl, hsub⟩ := he e0
      have hs2 := sub_trans a h (n % 32) hs hsub
      rw [if_pos e0, has_f h (n % 32) hh hm, Option.bind_some, if_pos (by simpa using hsub), has_f a (n % 32) ha hm, Option.bind_some, if_pos (by simpa using hs2)]
      exact ih k (i + 1) (n % 32) (by omega) (by omega) (by omega) hm hs2
    · rw [if_neg e0]
      exact ih k (i + 1) h (by omega) (by omega) (by omega) hh hs
theorem first_sub : ∀ a : Nat, a < 256 → a &&& (a % 32) = a % 32 := by decide +kernel
theorem law_f (a : Nat) (ha : a < 256) (l : List Int) (hl : (l.length : Int) ≤ 140737488351232) (hb : ∀ x ∈ l, IntKind.u8.min ≤ x ∧ x ≤ IntKind.u8.max) : easementlaw16_RightsChain.f (l.length + 3) a l = some true := by
  have key : ∀ b, easementlaw16_RightsChain.j0 (l.length + 3) a l b = some true := by
    intro b
    simp only [easementlaw16_RightsChain.j0]
    cases b with
    | true => rw [if_pos rfl]; rfl
    | false =>
      rw [if_neg (by simp), tmod_nat]
      exact law_l0 a ha l hl hb l.length (l.length + 2) 0 (a % 32) (by omega) (by omega) (by omega) (by omega) (first_sub a ha)
  unfold easementlaw16_RightsChain.f
  rw [show easementlaw16_lives.f = some true from rfl, Option.bind_some, if_pos rfl]
  exact key _
theorem walk (x0 : Int) (A1 : Option Addr) (c1 : Nat) (x1 : List (Int)) (W : World) (p0 : (IntKind.u8.min ≤ x0 ∧ x0 ≤ IntKind.u8.max)) (l1 : x1.length ≤ c1) (C1 : Kd.C (Kd.int .u8) W A1 x1.length x1) (p1 : (x1.length ≤ maxLen ∧ x1.length * Try.prog.bytesOf 5 ≤ 140737488351232 ∧ ∀ x ∈ x1, (IntKind.u8.min ≤ x ∧ x ≤ IntKind.u8.max))) :
    Calls Try.prog 14 #[.int .u8 x0, .slice A1 x1.length c1] W fun e W' => e = .returned (.bool true) ∧ Below W.heap.size W W' := by
  obtain ⟨a, rfl, ha⟩ := u8_nat p0
  have b : Try.prog.bytesOf 5 = 1 := by kernel_rfl
  rw [b] at p1
  exact easementlaw16_RightsChain.calls _ a A1 c1 x1 true W C1 l1 (law_f a ha x1 (by omega) p1.2.2)
end Go.Proofs.Ytcpcnnpdbognlaa.VcRightsChain
