/- Texts of this claim, laid together: SlU, SlV, SlW, ValPure, Shelf, Val. -/
import Derived.Test.YtnipbfhfaefieaaUq
import Derived.Test.YtnipbfhfaefieaaWZeros
import Derived.Lib.Bytealg
import Derived.Test.YtnipbfhfaefieaaWWords
import Derived.Shelf.Small.Strs
import Derived.Test.YtnipbfhfaefieaaProg
import Derived.Test.YtnipbfhfaefieaaUc
/-! slice's law: values as the document has them. -/
namespace Go.Proofs.Ytnipbfhfaefieaa.Sl
open Go.RowKit Go Go.Proofs.YtnipbfhfaefieaaW.PrintWords Go.Proofs.YtnipbfhfaefieaaW.PrintMore Go.Proofs.YtnipbfhfaefieaaW.PrintLast Go.Proofs.Ytnipbfhfaefieaa.Bts Go.Proofs.Ytnipbfhfaefieaa.Fra Go.Proofs.Ytnipbfhfaefieaa.ArnP Go.Proofs.Ytnipbfhfaefieaa.Arn Go.Proofs.Ytnipbfhfaefieaa.Ao Go.Proofs.Ytnipbfhfaefieaa.Pv
theorem infoRef : (Try.prog.info? 151).map (fun i => (i.zero, i.size, i.bytes)) = some (some (.agg #[.int .u8 0, .int .i64 0, .string (⟨#[]⟩ : ByteArray)]), 3, 32) := by kernel_rfl
/-- An own row of the document's values. -/
abbrev DR (w : World) (base : Nat) (v : Value) (xs : List V3) : Prop := kVal.R 151 w base (fun j => base ≤ j) v xs
set_option maxHeartbeats 4000000 in
set_option maxRecDepth 100000 in
theorem of_calls (l : List V3) (A : Option Addr) (c : Nat) (w : World) (hl : kVal.C w A l.length l) (hll : l.length ≤ 2000) :
    Calls Try.prog 60 #[.slice A l.length c] w fun e w' => ∃ u, e = .returned u ∧ DR w' w.heap.size u l ∧ Below w.heap.size w w' := by
  have hll' : (l.length : Int) ≤ 2000 := by omega
  have HL := Lib.hid hl
  clear hl
  go_enter Try.func60, Try.ntmps60
  go_wp2
  go_loopg [3, 8] l.length (fun q u i wr => ∃ j : Nat, q + j = l.length ∧ i = .int .i64 (j : Int) ∧ DR wr w.heap.size u (l.take j) ∧ Below w.heap.size w wr)
  case atStart => exact ⟨0, rfl, rfl, Kd.R_nil _ _ _ _ _, Below.refl _ _⟩
  case round =>
    obtain ⟨j, hq, rfl, hR, hB⟩ := hrel
    have HR := Lib.hid hR
    have HB := Lib.hid hB
    clear hR hB
    by_cases hj : j < l.length
    · have hj' : (j : Int) < (l.length : Int) := by omega
      obtain ⟨x, hx⟩ : ∃ x, l[j]? = some x := ⟨l[j], List.getElem?_eq_getElem hj⟩
      obtain ⟨k, m, s⟩ := x
      obtain ⟨ad, e1, x0, x1, x2⟩ := row_atC (Kd.C_below HL.out HB.out) j hx
      subst e1
      have htk : l.take (j + 1) = l.take j ++ [(k, m, s)] := by
        rw [List.take_succ_eq_append_getElem hj]
        congr 2
        rw [List.getElem?_eq_getElem hj] at hx
        exact Option.some.inj hx
      have HTK := Lib.hid htk
      have hlj : (l.take j).length ≤ 2000 := by rw [List.length_take]; omega
      clear hx htk
      go_wp2_with (at_builtin; go_loud (refine Kd.R_append kVal (w0 := w) (W := wr.alloc (.cells #[.int .u8 k, .int .i64 m, .string s] 66)) w.heap.size rfl (.tmp 12) (.tmp 20) 99 151 (.agg #[.int .u8 0, .int .i64 0, .string (⟨#[]⟩ : ByteArray)]) 32 rfl Try.underlying99 infoRef rfl (by decide) (by decide) _ (l.take j) (k, m, s) [.int .u8 k, .int .i64 m, .string s] (fun j => w.heap.size ≤ j) (fun _ => False) rfl (by rw [World.size_alloc]; rfl) ⟨_, _, rfl, rfl, _, _, rfl, rfl, rfl⟩ (fun _ hk => hk.elim) (fun j hj => by have := HB.out.size; rw [World.size_alloc] at hj; omega) (Kd.R_alloc HR.out _) (below_alloc HB.out _) (below_alloc HB.out _).size (by omega) ?_; intro v2 w2 ho hb _ _; have HR6 := Lib.hid ho; have HB6 := Lib.hid hb; clear ho hb))
      go_roundg (gk - 1)
      case measure => omega
      case rel => exact ⟨j + 1, by omega, by simp, by rw [HTK.out]; exact HR6.out, HB6.out⟩
    · have hjn : j = l.length := by omega
      subst hjn
      have hj' : ¬ (l.length : Int) < (l.length : Int) := by omega
      have hR := HR.out
      rw [List.take_length] at hR
      have HRF := Lib.hid hR
      clear hR
      go_wp2
      go_ret
      exact ⟨_, rfl, HRF.out, HB.out⟩
end Go.Proofs.Ytnipbfhfaefieaa.Sl
/-! slices.Grow of no row of values. -/
namespace Go.Proofs.Ytnipbfhfaefieaa.Sl
open Go.RowKit Go Go.Proofs.YtnipbfhfaefieaaW.PrintWords Go.Proofs.YtnipbfhfaefieaaW.PrintMore Go.Proofs.YtnipbfhfaefieaaW.PrintLast Go.Proofs.Ytnipbfhfaefieaa.Bts Go.Proofs.Ytnipbfhfaefieaa.Fra Go.Proofs.Ytnipbfhfaefieaa.ArnP Go.Proofs.Ytnipbfhfaefieaa.Arn Go.Proofs.Ytnipbfhfaefieaa.Ao Go.Proofs.Ytnipbfhfaefieaa.Pv
set_option maxHeartbeats 4000000 in
set_option maxRecDepth 100000 in
theorem grow_calls (n : Nat) (w : World) (hn : n ≤ 2000) :
    Calls Try.prog 88 #[.slice none 0 0, .int .i64 n] w fun e w' => ∃ u, e = .returned u ∧ VR w' w.heap.size u [] ∧ Below w.heap.size w w' := by
  have hneg : ¬ (n : Int) < 0 := by omega
  have hw1 : wrap64 (n : Int) = n := by unfold wrap64; omega
  have hn' : (n : Int) ≤ 2000 := by omega
  rcases Nat.eq_zero_or_pos n with rfl | hp
  · go_enter Try.func88, Try.ntmps88
    go_wp2
    go_ret
    exact ⟨_, rfl, VR.none _ _, Below.refl _ _⟩
  · have hp' : (0 : Int) < (n : Int) := by omega
    go_enter Try.func88, Try.ntmps88
    go_wp2_with (at_builtin; go_loud (refine Kd.R_append_zeros kVal (w0 := w) w.heap.size rfl (.tmp 20) (.tmp 21) 41 3 66 (.agg #[.int .u8 0, .int .i64 0, .string (⟨#[]⟩ : ByteArray)]) 32 rfl Try.underlying41 Try.underlying3 ClV.infoVal rfl (by decide) (by decide) (.slice none 0 0) [] (0, 0, ⟨#[]⟩) (n : Int) (fun j => w.heap.size ≤ j) rfl rfl ⟨_, _, rfl, rfl, _, _, rfl, rfl, rfl⟩ (fun j hj => hj) (VR.none _ _) (by omega) (Below.refl _ _) (Nat.le_refl _) (by rw [List.length_nil]; omega) ?_; intro v2 w2 ho hb _ _; obtain ⟨_, inner, hown, _⟩ := id ho; obtain ⟨g, c2, e2, hc2, _⟩ := own_some hown (by simp; omega); subst e2; have hc3 : ¬ c2 = 0 := (by simp at hc2; omega); have HO := Lib.hid (Kd.R_take (m := 0) ho (Nat.zero_le _)); have HB2 := Lib.hid hb; clear ho hb hown))
    go_ret
    exact ⟨_, rfl, HO.out, HB2.out⟩
end Go.Proofs.Ytnipbfhfaefieaa.Sl
/-! slices.Concat of two rows of values. -/
namespace Go.Proofs.Ytnipbfhfaefieaa.Sl
open Go.RowKit Go Go.Proofs.YtnipbfhfaefieaaW.PrintWords Go.Proofs.YtnipbfhfaefieaaW.PrintMore Go.Proofs.YtnipbfhfaefieaaW.PrintLast Go.Proofs.Ytnipbfhfaefieaa.Bts Go.Proofs.Ytnipbfhfaefieaa.Fra Go.Proofs.Ytnipbfhfaefieaa.ArnP Go.Proofs.Ytnipbfhfaefieaa.Arn Go.Proofs.Ytnipbfhfaefieaa.Ao Go.Proofs.Ytnipbfhfaefieaa.Pv
theorem grow_I (n : Nat) (x : Int) (hx : x = n) (w : World) (hn : n ≤ 2000) :
    Calls Try.prog 88 #[.slice none 0 0, .int .i64 x] w fun e w' => ∃ u, e = .returned u ∧ VR w' w.heap.size u [] ∧ Below w.heap.size w w' := by
  subst hx
  exact grow_calls n w hn
set_option maxHeartbeats 4000000 in
set_option maxRecDepth 100000 in
theorem concat_calls (g : Nat) (A B : Option Addr) (c d : Nat) (l l2 : List V3) (w : World) (hg : w.heap[g]? = some (.cells #[.slice A l.length c, .slice B l2.length d] 41 (0, 0))) (hl : kVal.C w A l.length l) (hl2 : kVal.C w B l2.length l2) (h1 : l.length ≤ 1000) (h2 : l2.length ≤ 1000) :
    Calls Try.prog 57 #[.slice (some ⟨g, 0, none⟩) 2 2] w fun e w' => ∃ u, e = .returned u ∧ VR w' w.heap.size u (l ++ l2) ∧ Below w.heap.size w w' := by
  have HG := Lib.hid hg
  have HL := Lib.hid (And.intro hl hl2)
  have c0 := blk_cell hg 0
  have c1 := blk_cell hg 1
  have n1 : ¬ (l.length : Int) < 0 := by omega
  have n2 : ¬ (l.length : Int) + (l2.length : Int) < 0 := by omega
  have e1 : wrap64 (l.length : Int) = (l.length : Int) := by unfold wrap64; omega
  have e2 : wrap64 ((l.length : Int) + (l2.length : Int)) = (l.length : Int) + (l2.length : Int) := by unfold wrap64; omega
  clear hg hl hl2
  go_enter Try.func57, Try.ntmps57
  go_wp2
  go_loopg [3, 11] 2 (fun q s i wr => ∃ j : Nat, q + j = 2 ∧ i = .int .i64 (j : Int) ∧ s = .int .i64 (if j = 0 then 0 else if j = 1 then (l.length : Int) else (l.length : Int) + (l2.length : Int)) ∧ w = wr)
  case atStart => exact ⟨0, rfl, rfl, rfl, rfl⟩
  case round =>
    obtain ⟨j, hq, rfl, rfl, hw⟩ := hrel
    subst hw
    rcases j with _ | _ | j
    · go_wp2
      go_roundg 1
      case measure => omega
      case rel => exact ⟨1, by omega, rfl, rfl, rfl⟩
    · go_wp2
      go_roundg 0
      case measure => omega
      case rel => exact ⟨2, by omega, rfl, rfl, rfl⟩
    · have hj0 : j = 0 := by omega
      subst hj0
      go_wp2_with (go_at_call 88; go_loud (refine (grow_I (l.length + l2.length) _ (by simp) _ (by omega)).mono ?_; rintro e w3 ⟨u3, rfl, hR3, hB3⟩; have HR3 := Lib.hid hR3; have HB3 := Lib.hid hB3; clear hR3 hB3))
      go_loopg [6, 27] 2 (fun q v i wq => ∃ j : Nat, q + j = 2 ∧ i = .int .i64 (j : Int) ∧ VR wq w.heap.size v (if j = 0 then [] else if j = 1 then l else l ++ l2) ∧ Below w.heap.size w wq)
      case atStart => exact ⟨0, rfl, rfl, HR3.out, HB3.out⟩
      case round =>
        obtain ⟨j, hq, rfl, hR, hB⟩ := hrel
        have HR := Lib.hid hR
        have HB := Lib.hid hB
        have hk := blk_below HG.out hB
        have c0 := blk_cell hk 0
        have c1 := blk_cell hk 1
        clear hR hB hk
        rcases j with _ | _ | j
        · go_wp2_with (at_builtin; go_loud (refine Kd.R_append_rows kVal (Rr := kVal.K wr) (w0 := w) w.heap.size rfl (.tmp 31) (.tmp 32) 41 66 (.agg #[.int .u8 0, .int .i64 0, .string (⟨#[]⟩ : ByteArray)]) 32 rfl Try.underlying41 ClV.infoVal rfl (by decide) (by decide) _ [] l A l.length c (fun j => w.heap.size ≤ j) (fun _ => False) rfl rfl HR.out (Kd.C_below HL.out.1 HB.out) (fun _ _ h => h) (fun _ h => h.elim) (fun j hj => by have := HB.out.size; omega) HB.out HB.out.size (by (try simp only [List.length_nil]); omega) ?_; intro v2 w2 ho hb _ _; have HR6 := Lib.hid ho; have HB6 := Lib.hid hb; clear ho hb))
          go_roundg 1
          case measure => omega
          case rel => exact ⟨1, by omega, rfl, HR6.out, HB6.out⟩
        · go_wp2_with (at_builtin; go_loud (refine Kd.R_append_rows kVal (Rr := kVal.K wr) (w0 := w) w.heap.size rfl (.tmp 31) (.tmp 32) 41 66 (.agg #[.int .u8 0, .int .i64 0, .string (⟨#[]⟩ : ByteArray)]) 32 rfl Try.underlying41 ClV.infoVal rfl (by decide) (by decide) _ l l2 B l2.length d (fun j => w.heap.size ≤ j) (fun _ => False) rfl rfl HR.out (Kd.C_below HL.out.2 HB.out) (fun _ _ h => h) (fun _ h => h.elim) (fun j hj => by have := HB.out.size; omega) HB.out HB.out.size (by (try simp only [List.length_nil]); omega) ?_; intro v2 w2 ho hb _ _; have HR6 := Lib.hid ho; have HB6 := Lib.hid hb; clear ho hb))
          go_roundg 0
          case measure => omega
          case rel => exact ⟨2, by omega, rfl, HR6.out, HB6.out⟩
        · have hj0 : j = 0 := by omega
          subst hj0
          go_wp2
          go_ret
          exact ⟨_, rfl, HR.out, HB.out⟩
end Go.Proofs.Ytnipbfhfaefieaa.Sl
/-! The order of values, ar plain mathematics: numbers, bytes, and values by kind, number and bytes. No program is named here. -/
namespace Go.Proofs.Ytnipbfhfaefieaa.ValPure
open Go.Proofs.YtnipbfhfaefieaaW.PrintWords

def cmpI (a b : Int) : Int := if a < b then -1 else if a > b then 1 else 0
theorem cmpI_range (a b : Int) : cmpI a b = -1 ∨ cmpI a b = 0 ∨ cmpI a b = 1 := by unfold cmpI; split; · exact .inl rfl
                                                                                   · split; · exact .inr (.inr rfl)
                                                                                     · exact .inr (.inl rfl)
theorem cmpI_swap (a b : Int) : cmpI b a = - cmpI a b := by unfold cmpI; split <;> split <;> (try split) <;> omega
theorem cmpI_zero (a b : Int) : cmpI a b = 0 ↔ a = b := by unfold cmpI; split; · omega
                                                           · split <;> omega
theorem cmpI_neg (a b : Int) : cmpI a b < 0 ↔ a < b := by unfold cmpI; split; · omega
                                                          · split <;> omega
/-- Lists of bytes by order. -/
abbrev cmpB (a b : List UInt8) : Int := Lib.compareBytes a b
theorem cmpB_range : ∀ a b, cmpB a b = -1 ∨ cmpB a b = 0 ∨ cmpB a b = 1
  | [], [] => by simp [cmpB, Lib.compareBytes]
  | [], _ :: _ => by simp [cmpB, Lib.compareBytes]
  | _ :: _, [] => by simp [cmpB, Lib.compareBytes]
  | a :: ar, b :: br => by
    have := cmpB_range ar br
    simp only [cmpB, Lib.compareBytes] at *
    split
    · simp
    · split
      · simp
      · exact this
theorem cmpB_swap : ∀ a b, cmpB b a = - cmpB a b
  | [], [] => by simp [cmpB, Lib.compareBytes]
  | [], _ :: _ => by simp [cmpB, Lib.compareBytes]
  | _ :: _, [] => by simp [cmpB, Lib.compareBytes]
  | a :: ar, b :: br => by
    have := cmpB_swap ar br
    simp only [cmpB, Lib.compareBytes] at *
    by_cases h : a < b
    · have h' : ¬ b < a := by rw [UInt8.lt_iff_toNat_lt] at *; omega
      simp [h, h']
    · by_cases h2 : b < a
      · simp [h, h2]
      · simp [h, h2, this]
theorem cmpB_zero : ∀ a b, cmpB a b = 0 ↔ a = b
  | [], [] => by simp [cmpB, Lib.compareBytes]
  | [], _ :: _ => by simp [cmpB, Lib.compareBytes]
  | _ :: _, [] => by simp [cmpB, Lib.compareBytes]
  | a :: ar, b :: br => by
    have := cmpB_zero ar br
    simp only [cmpB, Lib.compareBytes] at *
    by_cases h : a < b
    · have : a ≠ b := by intro e; subst e; exact absurd h (by rw [UInt8.lt_iff_toNat_lt]; omega)
      simp [h, this]
    · by_cases h2 : b < a
      · have : a ≠ b := by intro e; subst e; exact absurd h2 (by rw [UInt8.lt_iff_toNat_lt]; omega)
        simp [h, h2, this]
      · have e : a = b := by rw [UInt8.lt_iff_toNat_lt] at *; exact UInt8.toNat_inj.1 (by omega)
        simp [e, this]
/-- The first that isn't 0. -/
def or0 : List Int → Int
  | [] => 0
  | x :: l => if x = 0 then or0 l else x
/-- Values by kind, by number, by bytes. -/
def cmpV (a0 a1 : Int) (a2 : ByteArray) (b0 b1 : Int) (b2 : ByteArray) : Int := or0 [cmpI a0 b0, cmpI a1 b1, cmpB a2.data.toList b2.data.toList]
theorem cmpV_eq (a0 a1 : Int) (a2 : ByteArray) (b0 b1 : Int) (b2 : ByteArray) :
    cmpV a0 a1 a2 b0 b1 b2 = if cmpI a0 b0 = 0 then if cmpI a1 b1 = 0 then cmpB a2.data.toList b2.data.toList else cmpI a1 b1 else cmpI a0 b0 := by
  unfold cmpV or0 or0 or0 or0
  split
  · split
    · split
      · rename_i h; exact h.symm
      · rfl
    · rfl
  · rfl
theorem cmpV_range (a0 a1 : Int) (a2 : ByteArray) (b0 b1 : Int) (b2 : ByteArray) : cmpV a0 a1 a2 b0 b1 b2 = -1 ∨ cmpV a0 a1 a2 b0 b1 b2 = 0 ∨ cmpV a0 a1 a2 b0 b1 b2 = 1 := by
  rw [cmpV_eq]; split
  · split
    · exact cmpB_range _ _
    · exact cmpI_range _ _
  · exact cmpI_range _ _
theorem cmpV_swap (a0 a1 : Int) (a2 : ByteArray) (b0 b1 : Int) (b2 : ByteArray) : cmpV b0 b1 b2 a0 a1 a2 = - cmpV a0 a1 a2 b0 b1 b2 := by
  rw [cmpV_eq, cmpV_eq, cmpI_swap a0 b0, cmpI_swap a1 b1, cmpB_swap a2.data.toList b2.data.toList]
  by_cases e0 : cmpI a0 b0 = 0
  · by_cases e1 : cmpI a1 b1 = 0
    · simp [e0, e1]
    · have e1' : ¬ (- cmpI a1 b1 = 0) := by omega
      simp [e0, e1]
  · simp [e0]
theorem toList_inj (a b : ByteArray) : a.data.toList = b.data.toList ↔ a = b := by
  constructor
  · intro h
    have : a.data = b.data := Array.ext' h
    cases a; cases b; simp_all
  · intro h; rw [h]
theorem cmpV_zero (a0 a1 : Int) (a2 : ByteArray) (b0 b1 : Int) (b2 : ByteArray) : cmpV a0 a1 a2 b0 b1 b2 = 0 ↔ a0 = b0 ∧ a1 = b1 ∧ a2 = b2 := by
  rw [cmpV_eq]
  have h0 := cmpI_zero a0 b0
  have h1 := cmpI_zero a1 b1
  have h2 := cmpB_zero a2.data.toList b2.data.toList
  rw [toList_inj] at h2
  split
  · rename_i e0
    split
    · rename_i e1
      rw [h2]
      exact ⟨fun h => ⟨h0.1 e0, h1.1 e1, h⟩, fun h => h.2.2⟩
    · rename_i e1
      exact ⟨fun h => absurd h e1, fun h => absurd (h1.2 h.2.1) e1⟩
  · rename_i e0
    exact ⟨fun h => absurd h e0, fun h => absurd (h0.2 h.1) e0⟩
end Go.Proofs.Ytnipbfhfaefieaa.ValPure
/-! Shelf -/
namespace Go.Proofs
open Go.Shelf
open Go.RowKit in
def Try.lays106_ren : Go.Shelf.Ren := ⟨fun | 106 => 107 | 213 => 111 | 265 => 112 | n => n, fun | 9 => 9 | 3 => 3 | n => n, fun | n => n⟩
theorem Try.lays106 : Go.Proofs.Lays.n106 Try.prog Try.lays106_ren := {
  mixed := by kernel_rfl
  f106 := Try.func107.trans (congrArg some (by kernel_rfl))
  f213 := Try.func111.trans (congrArg some (by kernel_rfl))
  f265 := Try.func112.trans (congrArg some (by kernel_rfl))
  t3 := Try.underlying3
  a3 := Try.isAgg3
  z3 := Try.sizeOf3
  v3 := Try.zeroValue3
  t9 := Try.underlying9
  a9 := Try.isAgg9
  z9 := Try.sizeOf9
  v9 := Try.zeroValue9 }
open Go.RowKit in
/-- strings.Compare: "Compare returns an integer comparing two strings lexicographically. The result will be 0 if a == b, -1 if a < b, and +1 if a > b.": IT RETURNS 'Lib.compareBytes a b'; the world is as it was. (LAID: no walk: one application.) -/
theorem Try.strings_Compare (a b : ByteArray) (w : World) :
    Calls Try.prog 107 #[.string a, .string b] w fun e w' => e = .returned (.int .i64 (Lib.compareBytes a.data.toList b.data.toList)) ∧ w' = w := Any.strings_Compare Try.lays106 a b w
end Go.Proofs
/-! value.Compare: by kind, by number, by bytes. -/
namespace Go.Proofs.Ytnipbfhfaefieaa.Vl
open Go.RowKit Go Go.Proofs.YtnipbfhfaefieaaW.PrintWords Go.Proofs.YtnipbfhfaefieaaW.PrintMore Go.Proofs.YtnipbfhfaefieaaW.PrintLast Go.Proofs.Ytnipbfhfaefieaa.Bts Go.Proofs.Ytnipbfhfaefieaa.Fra Go.Proofs.Ytnipbfhfaefieaa.Arn Go.Proofs.Ytnipbfhfaefieaa.ValPure
theorem cmpI_lt {x y : Int} (h : x < y) : cmpI x y = -1 := if_pos h
theorem cmpI_gt {x y : Int} (h1 : ¬ x < y) (h : y < x) : cmpI x y = 1 := (if_neg h1).trans (if_pos h)
theorem cmpI_eq {x y : Int} (h1 : ¬ x < y) (h : ¬ y < x) : cmpI x y = 0 := (if_neg h1).trans (if_neg h)
theorem nanK (x : Int) (w : World) : Calls Try.prog 109 #[.int .u8 x] w fun e w' => e = .returned (.bool false) ∧ w = w' := by
  go_enter Try.func109, Try.ntmps109
  go_wp2
  go_ret
  exact ⟨by simp, rfl⟩
theorem nan64 (x : Int) (w : World) : Calls Try.prog 110 #[.int .i64 x] w fun e w' => e = .returned (.bool false) ∧ w = w' := by
  go_enter Try.func110, Try.ntmps110
  go_wp2
  go_ret
  exact ⟨by simp, rfl⟩
theorem nanI (x : Int) (w : World) : Calls Try.prog 108 #[.int .i64 x] w fun e w' => e = .returned (.bool false) ∧ w = w' := by
  go_enter Try.func108, Try.ntmps108
  go_wp2
  go_ret
  exact ⟨by simp, rfl⟩
theorem kcmp (x y : Int) (w : World) : Calls Try.prog 105 #[.int .u8 x, .int .u8 y] w fun e w' => e = .returned (.int .i64 (cmpI x y)) ∧ w = w' := by
  by_cases h : x < y
  · rw [cmpI_lt h]
    go_enter Try.func105, Try.ntmps105
    go_wp2_with (go_at_call 109; refine (nanK _ _).mono ?_; rintro e w' ⟨rfl, rfl⟩)
    go_ret
    exact ⟨rfl, rfl⟩
  · by_cases h2 : y < x
    · rw [cmpI_gt h h2]
      go_enter Try.func105, Try.ntmps105
      go_wp2_with (go_at_call 109; refine (nanK _ _).mono ?_; rintro e w' ⟨rfl, rfl⟩)
      go_ret
      exact ⟨rfl, rfl⟩
    · rw [cmpI_eq h h2]
      go_enter Try.func105, Try.ntmps105
      go_wp2_with (go_at_call 109; refine (nanK _ _).mono ?_; rintro e w' ⟨rfl, rfl⟩)
      go_ret
      exact ⟨rfl, rfl⟩
theorem ncmp (x y : Int) (w : World) : Calls Try.prog 106 #[.int .i64 x, .int .i64 y] w fun e w' => e = .returned (.int .i64 (cmpI x y)) ∧ w = w' := by
  by_cases h : x < y
  · rw [cmpI_lt h]
    go_enter Try.func106, Try.ntmps106
    go_wp2_with (go_at_call 110; refine (nan64 _ _).mono ?_; rintro e w' ⟨rfl, rfl⟩)
    go_ret
    exact ⟨rfl, rfl⟩
  · by_cases h2 : y < x
    · rw [cmpI_gt h h2]
      go_enter Try.func106, Try.ntmps106
      go_wp2_with (go_at_call 110; refine (nan64 _ _).mono ?_; rintro e w' ⟨rfl, rfl⟩)
      go_ret
      exact ⟨rfl, rfl⟩
    · rw [cmpI_eq h h2]
      go_enter Try.func106, Try.ntmps106
      go_wp2_with (go_at_call 110; refine (nan64 _ _).mono ?_; rintro e w' ⟨rfl, rfl⟩)
      go_ret
      exact ⟨rfl, rfl⟩
theorem icmp (x y : Int) (w : World) : Calls Try.prog 100 #[.int .i64 x, .int .i64 y] w fun e w' => e = .returned (.int .i64 (cmpI x y)) ∧ w = w' := by
  by_cases h : x < y
  · rw [cmpI_lt h]
    go_enter Try.func100, Try.ntmps100
    go_wp2_with (go_at_call 108; refine (nanI _ _).mono ?_; rintro e w' ⟨rfl, rfl⟩)
    go_ret
    exact ⟨rfl, rfl⟩
  · by_cases h2 : y < x
    · rw [cmpI_gt h h2]
      go_enter Try.func100, Try.ntmps100
      go_wp2_with (go_at_call 108; refine (nanI _ _).mono ?_; rintro e w' ⟨rfl, rfl⟩)
      go_ret
      exact ⟨rfl, rfl⟩
    · rw [cmpI_eq h h2]
      go_enter Try.func100, Try.ntmps100
      go_wp2_with (go_at_call 108; refine (nanI _ _).mono ?_; rintro e w' ⟨rfl, rfl⟩)
      go_ret
      exact ⟨rfl, rfl⟩
/-- The first of three that isn't 0. -/
theorem or3 (g : Nat) (a b c : Int) (w : World) (hg : w.heap[g]? = some (.cells #[.int .i64 a, .int .i64 b, .int .i64 c] 3 (0, 0))) :
    Calls Try.prog 104 #[.slice (some ⟨g, 0, none⟩) 3 3] w fun e w' => e = .returned (.int .i64 (or0 [a, b, c])) ∧ w = w' := by
  have c0 := blk_cell hg 0
  have c1 := blk_cell hg 1
  have c2 := blk_cell hg 2
  obtain ⟨R, hR⟩ : ∃ R, or0 [a, b, c] = R := ⟨_, rfl⟩
  rw [hR]
  have HR := Lib.hid hR
  clear hg hR
  go_enter Try.func104, Try.ntmps104
  go_wp2
  go_loopg [8] 3 (fun q i wr => ∃ j : Nat, q + j = 3 ∧ i = .int .i64 (j : Int) ∧ Hid (0 < j → a = 0) ∧ Hid (1 < j → b = 0) ∧ Hid (2 < j → c = 0) ∧ w = wr)
  case atStart => exact ⟨0, rfl, rfl, Lib.hid (by omega), Lib.hid (by omega), Lib.hid (by omega), rfl⟩
  case round =>
    obtain ⟨j, hq, rfl, h0, h1, h2, hw⟩ := hrel
    subst hw
    rcases j with _ | _ | _ | j
    · by_cases ha : a = 0
      · have hab : (a == 0) = true := by simpa using ha
        have hab2 : (a != 0) = false := by simpa using ha
        have HA := Lib.hid ha
        clear ha
        go_wp2
        go_roundg 2
        case measure => omega
        case rel => exact ⟨1, by omega, rfl, Lib.hid (fun _ => HA.out), Lib.hid (by omega), Lib.hid (by omega), rfl⟩
      · have hab2 : (a != 0) = true := by simpa using ha
        have hr : R = a := by rw [← HR.out]; simp only [or0]; rw [if_neg ha]
        subst hr
        clear HR
        go_wp2
        go_ret
        exact ⟨rfl, rfl⟩
    · have HA := Lib.hid (h0.out (by omega))
      by_cases hb : b = 0
      · have hab2 : (b != 0) = false := by simpa using hb
        have HB := Lib.hid hb
        clear hb
        go_wp2
        go_roundg 1
        case measure => omega
        case rel => exact ⟨2, by omega, rfl, Lib.hid (fun _ => HA.out), Lib.hid (fun _ => HB.out), Lib.hid (by omega), rfl⟩
      · have hab2 : (b != 0) = true := by simpa using hb
        have hr : R = b := by rw [← HR.out]; simp only [or0]; rw [if_pos HA.out, if_neg hb]
        subst hr
        clear HR
        go_wp2
        go_ret
        exact ⟨rfl, rfl⟩
    · have HA := Lib.hid (h0.out (by omega))
      have HB := Lib.hid (h1.out (by omega))
      by_cases hb : c = 0
      · have hab2 : (c != 0) = false := by simpa using hb
        have HC := Lib.hid hb
        clear hb
        go_wp2
        go_roundg 0
        case measure => omega
        case rel => exact ⟨3, by omega, rfl, Lib.hid (fun _ => HA.out), Lib.hid (fun _ => HB.out), Lib.hid (fun _ => HC.out), rfl⟩
      · have hab2 : (c != 0) = true := by simpa using hb
        have hr : R = c := by rw [← HR.out]; simp only [or0]; rw [if_pos HA.out, if_pos HB.out, if_neg hb]
        subst hr
        clear HR
        go_wp2
        go_ret
        exact ⟨rfl, rfl⟩
    · have hj0 : j = 0 := by omega
      subst hj0
      have hr : R = 0 := by rw [← HR.out]; simp only [or0]; rw [if_pos (h0.out (by omega)), if_pos (h1.out (by omega)), if_pos (h2.out (by omega))]
      subst hr
      clear HR
      go_wp2
      go_ret
      exact ⟨rfl, rfl⟩
set_option maxHeartbeats 4000000 in
set_option maxRecDepth 100000 in
theorem valcmp (k m : Int) (s : ByteArray) (k2 m2 : Int) (s2 : ByteArray) (w : World) :
    Calls Try.prog 99 #[.agg #[.int .u8 k, .int .i64 m, .string s], .agg #[.int .u8 k2, .int .i64 m2, .string s2]] w fun e w' => e = .returned (.int .i64 (cmpV k m s k2 m2 s2)) ∧ Below w.heap.size w w' := by
  have hb := below_alloc (below_alloc (Below.refl w.heap.size w) (.cells #[.int .u8 k, .int .i64 m, .string s] 66)) (.cells #[.int .u8 k2, .int .i64 m2, .string s2] 66)
  have hk1 := blk_alloc (blk_new w (.cells #[.int .u8 k, .int .i64 m, .string s] 66)) (.cells #[.int .u8 k2, .int .i64 m2, .string s2] 66)
  have hk2 := new1 w (.cells #[.int .u8 k, .int .i64 m, .string s] 66) (.cells #[.int .u8 k2, .int .i64 m2, .string s2] 66)
  obtain ⟨V, hV⟩ : ∃ V, ((w.alloc (.cells #[.int .u8 k, .int .i64 m, .string s] 66)).alloc (.cells #[.int .u8 k2, .int .i64 m2, .string s2] 66)).drew = V := ⟨_, rfl⟩
  have hd : Below ((w.alloc (.cells #[.int .u8 k, .int .i64 m, .string s] 66)).alloc (.cells #[.int .u8 k2, .int .i64 m2, .string s2] 66)).heap.size ((w.alloc (.cells #[.int .u8 k, .int .i64 m, .string s] 66)).alloc (.cells #[.int .u8 k2, .int .i64 m2, .string s2] 66)) V := by rw [← hV]; exact below_drew1 (Below.refl _ _)
  have j1 := blk_below hk1 hd
  have j2 := blk_below hk2 hd
  have HBV := Lib.hid (hb.trans (hd.mono hb.size))
  have HK1 := Lib.hid j1
  have HK2 := Lib.hid j2
  obtain ⟨R, hR⟩ : ∃ R, cmpV k m s k2 m2 s2 = R := ⟨_, rfl⟩
  rw [hR]
  have HR := Lib.hid hR
  clear hb hk1 hk2 hd j1 j2 hR
  go_enter Try.func99, Try.ntmps99
  go_wp2
  refine start_ (n := 18) (S := fun w' => w'.cell? ⟨w.heap.size, 0, none⟩ = some (.int .u8 k) ∧ w'.cell? ⟨w.heap.size, 1, none⟩ = some (.int .i64 m) ∧ w'.cell? ⟨w.heap.size, 2, none⟩ = some (.string s) ∧ w'.cell? ⟨w.heap.size + 1, 0, none⟩ = some (.int .u8 k2) ∧ w'.cell? ⟨w.heap.size + 1, 1, none⟩ = some (.int .i64 m2) ∧ w'.cell? ⟨w.heap.size + 1, 2, none⟩ = some (.string s2)) (ds := []) #[false, false, false, false, false, false, false, false, false, false, false, false, false, false, false, false, false, false] (by kernel_rfl) rfl rfl ⟨(by first | exact blk_cell HK1.out 0 | (rw [hV]; exact blk_cell HK1.out 0)), (by first | exact blk_cell HK1.out 1 | (rw [hV]; exact blk_cell HK1.out 1)), (by first | exact blk_cell HK1.out 2 | (rw [hV]; exact blk_cell HK1.out 2)), (by first | exact blk_cell HK2.out 0 | (rw [hV]; exact blk_cell HK2.out 0)), (by first | exact blk_cell HK2.out 1 | (rw [hV]; exact blk_cell HK2.out 1)), (by first | exact blk_cell HK2.out 2 | (rw [hV]; exact blk_cell HK2.out 2))⟩ (fun hHeld => ?_)
  refine pure_ (i := 0) (N := some 5) (v := ?_) (a' := ?_) #[true, false, false, false, false, false, false, false, false, false, false, false, false, false, false, false, false, false] rfl rfl (by kernel_rfl) (fun _ _ _ h => h) (Or.inl ⟨by rfl, ?_⟩) ?_ ?_
  rotate_left
  · intro w'
    go_simp
    with_reducible rfl
  rotate_left
  · simp only [Act.put, List.setIfInBounds_toArray, List.set_cons_zero, List.set_cons_succ]
    rfl
  refine pure_ (i := 2) (N := some 7) (v := ?_) (a' := ?_) #[true, false, true, false, false, false, false, false, false, false, false, false, false, false, false, false, false, false] rfl rfl (by kernel_rfl) (fun _ _ _ h => h) (Or.inl ⟨by rfl, ?_⟩) ?_ ?_
  rotate_left
  · intro w'
    go_simp
    with_reducible rfl
  rotate_left
  · simp only [Act.put, List.setIfInBounds_toArray, List.set_cons_zero, List.set_cons_succ]
    rfl
  refine pure_ (i := 5) (N := some 10) (v := ?_) (a' := ?_) #[true, false, true, false, false, true, false, false, false, false, false, false, false, false, false, false, false, false] rfl rfl (by kernel_rfl) (fun _ _ _ h => h) (Or.inl ⟨by rfl, ?_⟩) ?_ ?_
  rotate_left
  · intro w'
    go_simp
    with_reducible rfl
  rotate_left
  · simp only [Act.put, List.setIfInBounds_toArray, List.set_cons_zero, List.set_cons_succ]
    rfl
  refine pure_ (i := 7) (N := some 12) (v := ?_) (a' := ?_) #[true, false, true, false, false, true, false, true, false, false, false, false, false, false, false, false, false, false] rfl rfl (by kernel_rfl) (fun _ _ _ h => h) (Or.inl ⟨by rfl, ?_⟩) ?_ ?_
  rotate_left
  · intro w'
    go_simp
    with_reducible rfl
  rotate_left
  · simp only [Act.put, List.setIfInBounds_toArray, List.set_cons_zero, List.set_cons_succ]
    rfl
  refine pure_ (i := 10) (N := some 15) (v := ?_) (a' := ?_) #[true, false, true, false, false, true, false, true, false, false, true, false, false, false, false, false, false, false] rfl rfl (by kernel_rfl) (fun _ _ _ h => h) (Or.inl ⟨by rfl, ?_⟩) ?_ ?_
  rotate_left
  · intro w'
    go_simp
    with_reducible rfl
  rotate_left
  · simp only [Act.put, List.setIfInBounds_toArray, List.set_cons_zero, List.set_cons_succ]
    rfl
  refine pure_ (i := 12) (N := some 17) (v := ?_) (a' := ?_) #[true, false, true, false, false, true, false, true, false, false, true, false, true, false, false, false, false, false] rfl rfl (by kernel_rfl) (fun _ _ _ h => h) (Or.inl ⟨by rfl, ?_⟩) ?_ ?_
  rotate_left
  · intro w'
    go_simp
    with_reducible rfl
  rotate_left
  · simp only [Act.put, List.setIfInBounds_toArray, List.set_cons_zero, List.set_cons_succ]
    rfl
  refine take_ (i := 1) (N := some 6) (v := ?_) (a' := ?_) #[true, true, true, false, false, true, false, true, false, false, true, false, true, false, false, false, false, false] rfl rfl (by kernel_rfl) (fun _ _ _ h => h) (Or.inl ⟨by rfl, ?_⟩) hHeld ?_ ?_
  rotate_left
  · rintro w' ⟨s0, s1, s2, s3, s4, s5⟩
    go_simp
    with_reducible rfl
  rotate_left
  · simp only [Act.put, List.setIfInBounds_toArray, List.set_cons_zero, List.set_cons_succ]
    rfl
  refine take_ (i := 3) (N := some 8) (v := ?_) (a' := ?_) #[true, true, true, true, false, true, false, true, false, false, true, false, true, false, false, false, false, false] rfl rfl (by kernel_rfl) (fun _ _ _ h => h) (Or.inl ⟨by rfl, ?_⟩) hHeld ?_ ?_
  rotate_left
  · rintro w' ⟨s0, s1, s2, s3, s4, s5⟩
    go_simp
    with_reducible rfl
  rotate_left
  · simp only [Act.put, List.setIfInBounds_toArray, List.set_cons_zero, List.set_cons_succ]
    rfl
  refine take_ (i := 6) (N := some 11) (v := ?_) (a' := ?_) #[true, true, true, true, false, true, true, true, false, false, true, false, true, false, false, false, false, false] rfl rfl (by kernel_rfl) (fun _ _ _ h => h) (Or.inl ⟨by rfl, ?_⟩) hHeld ?_ ?_
  rotate_left
  · rintro w' ⟨s0, s1, s2, s3, s4, s5⟩
    go_simp
    with_reducible rfl
  rotate_left
  · simp only [Act.put, List.setIfInBounds_toArray, List.set_cons_zero, List.set_cons_succ]
    rfl
  refine take_ (i := 8) (N := some 13) (v := ?_) (a' := ?_) #[true, true, true, true, false, true, true, true, true, false, true, false, true, false, false, false, false, false] rfl rfl (by kernel_rfl) (fun _ _ _ h => h) (Or.inl ⟨by rfl, ?_⟩) hHeld ?_ ?_
  rotate_left
  · rintro w' ⟨s0, s1, s2, s3, s4, s5⟩
    go_simp
    with_reducible rfl
  rotate_left
  · simp only [Act.put, List.setIfInBounds_toArray, List.set_cons_zero, List.set_cons_succ]
    rfl
  refine take_ (i := 11) (N := some 16) (v := ?_) (a' := ?_) #[true, true, true, true, false, true, true, true, true, false, true, true, true, false, false, false, false, false] rfl rfl (by kernel_rfl) (fun _ _ _ h => h) (Or.inl ⟨by rfl, ?_⟩) hHeld ?_ ?_
  rotate_left
  · rintro w' ⟨s0, s1, s2, s3, s4, s5⟩
    go_simp
    with_reducible rfl
  rotate_left
  · simp only [Act.put, List.setIfInBounds_toArray, List.set_cons_zero, List.set_cons_succ]
    rfl
  refine take_ (i := 13) (N := some 18) (v := ?_) (a' := ?_) #[true, true, true, true, false, true, true, true, true, false, true, true, true, true, false, false, false, false] rfl rfl (by kernel_rfl) (fun _ _ _ h => h) (Or.inl ⟨by rfl, ?_⟩) hHeld ?_ ?_
  rotate_left
  · rintro w' ⟨s0, s1, s2, s3, s4, s5⟩
    go_simp
    with_reducible rfl
  rotate_left
  · simp only [Act.put, List.setIfInBounds_toArray, List.set_cons_zero, List.set_cons_succ]
    rfl
  refine one_ (i := 4) (N := some 9) #[true, true, true, true, true, true, true, true, true, false, true, true, true, true, false, false, false, false] rfl rfl (by kernel_rfl) (by decide) (fun K hK => ?_)
  refine goes_ Try.func105 (by kernel_rfl) rfl #[.int .u8 k, .int .u8 k2] (by rfl) rfl rfl (by simp only [List.map_toArray, List.map_cons, List.map_nil]; rfl) ?_
  with_reducible refine (kcmp k k2 _).mono ?_
  rintro e w3 ⟨rfl, hw3⟩
  refine ⟨_, rfl, ?_⟩
  subst hw3
  refine hK.out _ _ ⟨(by first | exact blk_cell HK1.out 0 | (rw [hV]; exact blk_cell HK1.out 0)), (by first | exact blk_cell HK1.out 1 | (rw [hV]; exact blk_cell HK1.out 1)), (by first | exact blk_cell HK1.out 2 | (rw [hV]; exact blk_cell HK1.out 2)), (by first | exact blk_cell HK2.out 0 | (rw [hV]; exact blk_cell HK2.out 0)), (by first | exact blk_cell HK2.out 1 | (rw [hV]; exact blk_cell HK2.out 1)), (by first | exact blk_cell HK2.out 2 | (rw [hV]; exact blk_cell HK2.out 2))⟩ (fun hHeld => ?_)
  clear hK K
  refine norm_ (a' := ?_) ?_ ?_
  rotate_left
  · show Act.put _ (some 9) _ = _
    simp only [Act.put, List.setIfInBounds_toArray, List.set_cons_zero, List.set_cons_succ]
    rfl
  refine one_ (i := 9) (N := some 14) #[true, true, true, true, true, true, true, true, true, true, true, true, true, true, false, false, false, false] rfl rfl (by kernel_rfl) (by decide) (fun K hK => ?_)
  refine goes_ Try.func106 (by kernel_rfl) rfl #[.int .i64 m, .int .i64 m2] (by rfl) rfl rfl (by simp only [List.map_toArray, List.map_cons, List.map_nil]; rfl) ?_
  with_reducible refine (ncmp m m2 _).mono ?_
  rintro e w3 ⟨rfl, hw3⟩
  refine ⟨_, rfl, ?_⟩
  subst hw3
  refine hK.out _ _ ⟨(by first | exact blk_cell HK1.out 0 | (rw [hV]; exact blk_cell HK1.out 0)), (by first | exact blk_cell HK1.out 1 | (rw [hV]; exact blk_cell HK1.out 1)), (by first | exact blk_cell HK1.out 2 | (rw [hV]; exact blk_cell HK1.out 2)), (by first | exact blk_cell HK2.out 0 | (rw [hV]; exact blk_cell HK2.out 0)), (by first | exact blk_cell HK2.out 1 | (rw [hV]; exact blk_cell HK2.out 1)), (by first | exact blk_cell HK2.out 2 | (rw [hV]; exact blk_cell HK2.out 2))⟩ (fun hHeld => ?_)
  clear hK K
  refine norm_ (a' := ?_) ?_ ?_
  rotate_left
  · show Act.put _ (some 14) _ = _
    simp only [Act.put, List.setIfInBounds_toArray, List.set_cons_zero, List.set_cons_succ]
    rfl
  refine one_ (i := 14) (N := some 19) #[true, true, true, true, true, true, true, true, true, true, true, true, true, true, true, false, false, false] rfl rfl (by kernel_rfl) (by decide) (fun K hK => ?_)
  refine goes_ Try.func107 (by kernel_rfl) rfl #[.string s, .string s2] (by rfl) rfl rfl (by simp only [List.map_toArray, List.map_cons, List.map_nil]; rfl) ?_
  with_reducible refine (Try.strings_Compare s s2 _).mono ?_
  rintro e w3 ⟨rfl, hw3⟩
  refine ⟨_, rfl, ?_⟩
  subst hw3
  refine hK.out _ _ ⟨(by first | exact blk_cell HK1.out 0 | (rw [hV]; exact blk_cell HK1.out 0)), (by first | exact blk_cell HK1.out 1 | (rw [hV]; exact blk_cell HK1.out 1)), (by first | exact blk_cell HK1.out 2 | (rw [hV]; exact blk_cell HK1.out 2)), (by first | exact blk_cell HK2.out 0 | (rw [hV]; exact blk_cell HK2.out 0)), (by first | exact blk_cell HK2.out 1 | (rw [hV]; exact blk_cell HK2.out 1)), (by first | exact blk_cell HK2.out 2 | (rw [hV]; exact blk_cell HK2.out 2))⟩ (fun hHeld => ?_)
  clear hK K
  refine norm_ (a' := ?_) ?_ ?_
  rotate_left
  · show Act.put _ (some 19) _ = _
    simp only [Act.put, List.setIfInBounds_toArray, List.set_cons_zero, List.set_cons_succ]
    rfl
  refine one_ (i := 15) (N := some 20) #[true, true, true, true, true, true, true, true, true, true, true, true, true, true, true, true, false, false] rfl rfl (by kernel_rfl) (by decide) (fun K hK => ?_)
  refine value_ (w1 := ?_) (v := ?_) (by rfl) rfl ?_ ?_
  rotate_left 2
  · go_simp
    constructor
    · rfl
    · rfl
  have hnb : Below V.heap.size V (V.alloc (.cells #[.int .i64 (cmpI k k2), .int .i64 (cmpI m m2), .int .i64 (Lib.compareBytes s.data.toList s2.data.toList)] 3)) := below_alloc (Below.refl _ _) _
  have HNB := Lib.hid hnb
  clear hnb
  refine hK.out _ _ ⟨(by first | exact blk_cell (blk_below HK1.out HNB.out) 0 | (rw [hV]; exact blk_cell (blk_below HK1.out HNB.out) 0)), (by first | exact blk_cell (blk_below HK1.out HNB.out) 1 | (rw [hV]; exact blk_cell (blk_below HK1.out HNB.out) 1)), (by first | exact blk_cell (blk_below HK1.out HNB.out) 2 | (rw [hV]; exact blk_cell (blk_below HK1.out HNB.out) 2)), (by first | exact blk_cell (blk_below HK2.out HNB.out) 0 | (rw [hV]; exact blk_cell (blk_below HK2.out HNB.out) 0)), (by first | exact blk_cell (blk_below HK2.out HNB.out) 1 | (rw [hV]; exact blk_cell (blk_below HK2.out HNB.out) 1)), (by first | exact blk_cell (blk_below HK2.out HNB.out) 2 | (rw [hV]; exact blk_cell (blk_below HK2.out HNB.out) 2))⟩ (fun hHeld => ?_)
  clear hK K
  refine norm_ (a' := ?_) ?_ ?_
  rotate_left
  · show Act.put _ (some 20) _ = _
    simp only [Act.put, List.setIfInBounds_toArray, List.set_cons_zero, List.set_cons_succ]
    rfl
  refine one_ (i := 16) (N := some 21) #[true, true, true, true, true, true, true, true, true, true, true, true, true, true, true, true, true, false] rfl rfl (by kernel_rfl) (by decide) (fun K hK => ?_)
  refine goes_ Try.func104 (by kernel_rfl) rfl #[.slice (some ⟨V.heap.size, 0, none⟩) 3 3] (by rfl) rfl rfl (by simp only [List.map_toArray, List.map_cons, List.map_nil]; rfl) ?_
  with_reducible refine (or3 V.heap.size (cmpI k k2) (cmpI m m2) (Lib.compareBytes s.data.toList s2.data.toList) _ (by first | exact blk_new V _ | (rw [hV]; exact blk_new V _))).mono ?_
  rintro e w3 ⟨rfl, hw3⟩
  refine ⟨_, rfl, ?_⟩
  subst hw3
  refine hK.out _ _ ⟨(by first | exact blk_cell (blk_below HK1.out HNB.out) 0 | (rw [hV]; exact blk_cell (blk_below HK1.out HNB.out) 0)), (by first | exact blk_cell (blk_below HK1.out HNB.out) 1 | (rw [hV]; exact blk_cell (blk_below HK1.out HNB.out) 1)), (by first | exact blk_cell (blk_below HK1.out HNB.out) 2 | (rw [hV]; exact blk_cell (blk_below HK1.out HNB.out) 2)), (by first | exact blk_cell (blk_below HK2.out HNB.out) 0 | (rw [hV]; exact blk_cell (blk_below HK2.out HNB.out) 0)), (by first | exact blk_cell (blk_below HK2.out HNB.out) 1 | (rw [hV]; exact blk_cell (blk_below HK2.out HNB.out) 1)), (by first | exact blk_cell (blk_below HK2.out HNB.out) 2 | (rw [hV]; exact blk_cell (blk_below HK2.out HNB.out) 2))⟩ (fun hHeld => ?_)
  clear hK K
  refine norm_ (a' := ?_) ?_ ?_
  rotate_left
  · show Act.put _ (some 21) _ = _
    simp only [Act.put, List.setIfInBounds_toArray, List.set_cons_zero, List.set_cons_succ]
    rfl
  refine pure_ (i := 17) (N := some 4) (v := ?_) (a' := ?_) #[true, true, true, true, true, true, true, true, true, true, true, true, true, true, true, true, true, true] rfl rfl (by kernel_rfl) (fun _ _ _ h => h) (Or.inl ⟨by rfl, ?_⟩) ?_ ?_
  rotate_left
  · intro w'
    go_simp
    with_reducible rfl
  rotate_left
  · simp only [Act.put, List.setIfInBounds_toArray, List.set_cons_zero, List.set_cons_succ]
    rfl
  refine done_ (by kernel_rfl) ?_

  go_wp2
  go_ret
  exact ⟨by rw [← HR.out]; rfl, HBV.out.trans (HNB.out.mono HBV.out.size)⟩
end Go.Proofs.Ytnipbfhfaefieaa.Vl
