/- ledger: the law LedgerActs, walked; no wrap words. -/
import Derived.Test.YtaoacibahdbdkaaLedW
import Derived.Test.YtaoacibahdbdkaaLedG
import Derived.Test.YtaoacibahdbdkaaArrEq
namespace Go.Proofs.Ytaoacibahdbdkaa.LedX
open Go.RowKit Go Go.Proofs.YtaoacibahdbdkaaW.PrintWords Go.Proofs.YtaoacibahdbdkaaW.PrintMore Go.Proofs.YtaoacibahdbdkaaW.PrintLast Go.Proofs.Ytaoacibahdbdkaa.Bts Go.Proofs.Ytaoacibahdbdkaa.Fra Go.Maps Go.Proofs.Ytaoacibahdbdkaa.Led Go.Proofs.Ytaoacibahdbdkaa.LedW
abbrev kAct : Kd (Int × Int × Int × Int × Int) := Kd.pair (Kd.int .u8) (Kd.pair (Kd.int .u32) (Kd.pair (Kd.int .i64) (Kd.pair (Kd.int .i64) (Kd.int .i64))))
theorem at_A {w : World} {A : Option Addr} {n : Nat} {l : List (Int × Int × Int × Int × Int)} (h : kAct.C w A n l) (i : Nat) (h1 : i < n) (k u x y z : Int) (hx : l.getD i (0, 0, 0, 0, 0) = (k, u, x, y, z)) :
    ∃ ad, A = some ad ∧ w.cell? (ad.add (i * 5)) = some (.int .u8 k) ∧ w.cell? ⟨(ad.add (i * 5)).block, (ad.add (i * 5)).off + 1, none⟩ = some (.int .u32 u) ∧ w.cell? ⟨(ad.add (i * 5)).block, (ad.add (i * 5)).off + 2, none⟩ = some (.int .i64 x) ∧ w.cell? ⟨(ad.add (i * 5)).block, (ad.add (i * 5)).off + 3, none⟩ = some (.int .i64 y) ∧ w.cell? ⟨(ad.add (i * 5)).block, (ad.add (i * 5)).off + 4, none⟩ = some (.int .i64 z) := by
  obtain ⟨ad, c, e, _, hK, hc⟩ := Kd.C_get h (0, 0, 0, 0, 0) (i : Int) (by omega) (by omega)
  rw [Int.toNat_natCast] at hK hc
  rw [hx] at hK
  obtain ⟨_, _, rfl, rfl, _, _, rfl, rfl, _, _, rfl, rfl, _, _, rfl, rfl, rfl⟩ := hK
  have hc : ∀ j v, [Value.int .u8 k, Value.int .u32 u, Value.int .i64 x, Value.int .i64 y, Value.int .i64 z][j]? = some v → w.cell? (ad.add (i * 5 + j)) = some v := hc
  exact ⟨ad, e, hc 0 _ rfl, by rw [← add_field _ _ 1 (by omega)]; exact hc 1 _ rfl, by rw [← add_field _ _ 2 (by omega)]; exact hc 2 _ rfl, by rw [← add_field _ _ 3 (by omega)]; exact hc 3 _ rfl, by rw [← add_field _ _ 4 (by omega)]; exact hc 4 _ rfl⟩
theorem lx_low {B B' g n : Nat} {w : World} {most : Int × Int × Int} {keys : List Int} {f : Int → Int × Int × Int} (h : LX B w g n most keys f) (hb : B' ≤ B) : LX B' w g n most keys f :=
  let ⟨b, D, blk, h⟩ := h
  ⟨b, D, blk, h.obj, h.map, fun k hk => let ⟨p1, p2, p3, p4⟩ := h.acc k hk; ⟨p1, p2, Nat.le_trans hb p3, p4⟩, h.no, h.inj, Nat.le_trans hb h.low⟩
abbrev T3 (w : World) (b : Nat) (x y z : Int) : Prop := w.heap[b]? = some (.cells #[.int .i64 x, .int .i64 y, .int .i64 z] 26 (0, 0))
abbrev H4 (w : World) (b : Nat) (f : Int → Int × Int × Int) : Prop := w.heap[b]? = some (.cells #[.int .i64 (f 0).1, .int .i64 (f 0).2.1, .int .i64 (f 0).2.2, .int .i64 (f 1).1, .int .i64 (f 1).2.1, .int .i64 (f 1).2.2, .int .i64 (f 2).1, .int .i64 (f 2).2.1, .int .i64 (f 2).2.2, .int .i64 (f 3).1, .int .i64 (f 3).2.1, .int .i64 (f 3).2.2] 37 (0, 0))
def upto (p : Nat → Bool) : Nat → Bool
  | 0 => false
  | n + 1 => upto p n || p n
def at3 (x y z : Int) : Nat → Int
  | 0 => x
  | 1 => y
  | _ => z
theorem H4.fro {W : World} {h q : Nat} {f : Int → Int × Int × Int} (H : H4 W h f) (hq : q < 4) : W.frozen? ⟨h, q * 3, none⟩ = false ∧ W.frozen? ⟨h, q * 3 + 1, none⟩ = false ∧ W.frozen? ⟨h, q * 3 + 2, none⟩ = false := by
  rcases (by omega : q = 0 ∨ q = 1 ∨ q = 2 ∨ q = 3) with rfl | rfl | rfl | rfl
  · exact ⟨blk_frozen H 0, blk_frozen H 1, blk_frozen H 2⟩
  · exact ⟨blk_frozen H 3, blk_frozen H 4, blk_frozen H 5⟩
  · exact ⟨blk_frozen H 6, blk_frozen H 7, blk_frozen H 8⟩
  · exact ⟨blk_frozen H 9, blk_frozen H 10, blk_frozen H 11⟩
def wN (x : Int) : Bool := decide (x < 0) || decide (1125899906842624 < x)
theorem H4.at {W : World} {h q : Nat} {f : Int → Int × Int × Int} (H : H4 W h f) (hq : q < 4) : W.cell? ⟨h, q * 3, none⟩ = some (.int .i64 (f q).1) ∧ W.cell? ⟨h, q * 3 + 1, none⟩ = some (.int .i64 (f q).2.1) ∧ W.cell? ⟨h, q * 3 + 2, none⟩ = some (.int .i64 (f q).2.2) := by
  rcases (by omega : q = 0 ∨ q = 1 ∨ q = 2 ∨ q = 3) with rfl | rfl | rfl | rfl
  · exact ⟨blk_cell H 0, blk_cell H 1, blk_cell H 2⟩
  · exact ⟨blk_cell H 3, blk_cell H 4, blk_cell H 5⟩
  · exact ⟨blk_cell H 6, blk_cell H 7, blk_cell H 8⟩
  · exact ⟨blk_cell H 9, blk_cell H 10, blk_cell H 11⟩
theorem within_not (x y z a b c : Int) : withinB x y z a b c = !(decide (a < x) || decide (b < y) || decide (c < z)) := by
  unfold withinB
  simp only [Bool.not_or, ← decide_not, Int.not_lt]
theorem eq3 (a b c x y z : Int) (w : World) : (Op.equalIn 10000 26 (bill a b c) (bill x y z)).run Try.prog w = .ok (a == x && b == y && c == z) w :=
  ArrEq.equalIn_arr3 9998 Try.underlying26 Try.underlying3 w a b c x y z (by kernel_rfl) (fun _ _ _ => ⟨by kernel_rfl, by kernel_rfl, by kernel_rfl⟩)
/-- Between two calls: the ledger, what one may, what each has. -/
structure ST (w : World) (W : World) (g t h : Nat) (m1 m2 m3 : Int) (n : Nat) (f f2 : Int → Int × Int × Int) : Prop where
  led : LX w.heap.size W g n (m1, m2, m3) [0, 1, 2, 3] f
  top : T3 W t m1 m2 m3
  have_ : H4 W h f2
  bel : Below w.heap.size w W
  tl : w.heap.size ≤ t
  hl : w.heap.size ≤ h
def Bnd (m1 m2 m3 : Int) (f : Int → Int × Int × Int) : Prop := ∀ k, 0 ≤ (f k).1 ∧ (f k).1 ≤ m1 ∧ 0 ≤ (f k).2.1 ∧ (f k).2.1 ≤ m2 ∧ 0 ≤ (f k).2.2 ∧ (f k).2.2 ≤ m3
theorem ST.below {w W W' : World} {g t h : Nat} {m1 m2 m3 : Int} {n : Nat} {f f2 : Int → Int × Int × Int} (s : ST w W g t h m1 m2 m3 n f f2) (hb : Below W.heap.size W W') : ST w W' g t h m1 m2 m3 n f f2 :=
  ⟨s.led.below hb, blk_below s.top hb, blk_below s.have_ hb, below_step s.bel hb, s.tl, s.hl⟩
/-- A call of the ledger: only its own blocks turn. -/
theorem ST.fl {w W W' : World} {g t h : Nat} {m1 m2 m3 : Int} {n n' : Nat} {f f' f2 : Int → Int × Int × Int} (s : ST w W g t h m1 m2 m3 n f f2) (hL : LX w.heap.size W' g n' (m1, m2, m3) [0, 1, 2, 3] f') (hf : Fl w.heap.size W W') : ST w W' g t h m1 m2 m3 n' f' f2 :=
  ⟨hL, hf.blk s.top (Lt.no s.top (by decide)), hf.blk s.have_ (Lt.no s.have_ (by decide)), fl_below s.bel (Nat.le_refl _) hf, s.tl, s.hl⟩
theorem ST.set {w W : World} {g t h : Nat} {m1 m2 m3 : Int} {n : Nat} {f f2 f3 : Int → Int × Int × Int} (s : ST w W g t h m1 m2 m3 n f f2) (o : Nat) (v : Value) (h4 : H4 (W.setCell ⟨h, o, none⟩ v) h f3) : ST w (W.setCell ⟨h, o, none⟩ v) g t h m1 m2 m3 n f f3 := by
  have hne : ¬ t = h := fun e => by
    have := s.top
    unfold T3 at this
    rw [e, s.have_] at this
    injection (Option.some.inj this) with _ h2
    exact absurd h2 (by decide)
  refine ⟨LX.kept s.led (Fr.set h o v) (fun j hj e => ?_), blk_far s.top hne _, h4, Below.setCell s.bel s.hl _, s.tl, s.hl⟩
  subst e
  rcases hj with hj | hj
  · exact Lt.no s.have_ (by decide) hj
  · obtain ⟨b', hb'⟩ := s.led.obj
    rw [← hj, s.have_] at hb'
    injection (Option.some.inj hb') with _ h2
    exact absurd h2 (by decide)
theorem ST.far {w W : World} {g t h b : Nat} {m1 m2 m3 : Int} {n : Nat} {f f2 : Int → Int × Int × Int} {x y z : Int} (s : ST w W g t h m1 m2 m3 n f f2) (hb : T3 W b x y z) (hl : w.heap.size ≤ b) (ht : t ≠ b) (o : Nat) (v : Value) : ST w (W.setCell ⟨b, o, none⟩ v) g t h m1 m2 m3 n f f2 := by
  have hne : h ≠ b := fun e => by
    have := s.have_
    unfold H4 at this
    rw [e, hb] at this
    injection (Option.some.inj this) with _ h2
    exact absurd h2 (by decide)
  refine ⟨LX.kept s.led (Fr.set b o v) (fun j hj e => ?_), blk_far s.top ht _, blk_far s.have_ hne _, Below.setCell s.bel hl _, s.tl, s.hl⟩
  subst e
  rcases hj with hj | hj
  · exact Lt.no hb (by decide) hj
  · obtain ⟨b', hb'⟩ := s.led.obj
    rw [← hj, hb] at hb'
    injection (Option.some.inj hb') with _ h2
    exact absurd h2 (by decide)
def Sg (F : Int → Int) : Nat → Int
  | 0 => 0
  | n + 1 => wi (Sg F n + F n)
theorem Sg_4 (F : Int → Int) : Sg F 4 = wi (sumK [0, 1, 2, 3] (fun _ => true) F) := by
  simp only [Sg, sumK, List.map_cons, List.map_nil, List.sum_cons, List.sum_nil, if_true]
  rw [show ((0 : Nat) : Int) = 0 from rfl, show ((1 : Nat) : Int) = 1 from rfl, show ((2 : Nat) : Int) = 2 from rfl, show ((3 : Nat) : Int) = 3 from rfl]
  unfold wi wrap64
  omega
theorem row_at (f' : Int → Int × Int × Int) (k : Nat) (hk : k < 4) (V : World) : (Instr.index 37 (.agg #[.int .i64 (f' 0).1, .int .i64 (f' 0).2.1, .int .i64 (f' 0).2.2, .int .i64 (f' 1).1, .int .i64 (f' 1).2.1, .int .i64 (f' 1).2.2, .int .i64 (f' 2).1, .int .i64 (f' 2).2.1, .int .i64 (f' 2).2.2, .int .i64 (f' 3).1, .int .i64 (f' 3).2.1, .int .i64 (f' 3).2.2]) (.int .i64 (k : Int))).run Try.prog V = .ok (bill (f' k).1 (f' k).2.1 (f' k).2.2) V := by
  have i0 : ∀ (a0 a1 a2 a3 a4 a5 a6 a7 a8 a9 a10 a11 : Int), (Instr.index 37 (.agg #[.int .i64 a0, .int .i64 a1, .int .i64 a2, .int .i64 a3, .int .i64 a4, .int .i64 a5, .int .i64 a6, .int .i64 a7, .int .i64 a8, .int .i64 a9, .int .i64 a10, .int .i64 a11]) (.int .i64 0)).run Try.prog V = .ok (bill a0 a1 a2) V := fun _ _ _ _ _ _ _ _ _ _ _ _ => by kernel_rfl
  have i1 : ∀ (a0 a1 a2 a3 a4 a5 a6 a7 a8 a9 a10 a11 : Int), (Instr.index 37 (.agg #[.int .i64 a0, .int .i64 a1, .int .i64 a2, .int .i64 a3, .int .i64 a4, .int .i64 a5, .int .i64 a6, .int .i64 a7, .int .i64 a8, .int .i64 a9, .int .i64 a10, .int .i64 a11]) (.int .i64 1)).run Try.prog V = .ok (bill a3 a4 a5) V := fun _ _ _ _ _ _ _ _ _ _ _ _ => by kernel_rfl
  have i2 : ∀ (a0 a1 a2 a3 a4 a5 a6 a7 a8 a9 a10 a11 : Int), (Instr.index 37 (.agg #[.int .i64 a0, .int .i64 a1, .int .i64 a2, .int .i64 a3, .int .i64 a4, .int .i64 a5, .int .i64 a6, .int .i64 a7, .int .i64 a8, .int .i64 a9, .int .i64 a10, .int .i64 a11]) (.int .i64 2)).run Try.prog V = .ok (bill a6 a7 a8) V := fun _ _ _ _ _ _ _ _ _ _ _ _ => by kernel_rfl
  have i3 : ∀ (a0 a1 a2 a3 a4 a5 a6 a7 a8 a9 a10 a11 : Int), (Instr.index 37 (.agg #[.int .i64 a0, .int .i64 a1, .int .i64 a2, .int .i64 a3, .int .i64 a4, .int .i64 a5, .int .i64 a6, .int .i64 a7, .int .i64 a8, .int .i64 a9, .int .i64 a10, .int .i64 a11]) (.int .i64 3)).run Try.prog V = .ok (bill a9 a10 a11) V := fun _ _ _ _ _ _ _ _ _ _ _ _ => by kernel_rfl
  rcases (by omega : k = 0 ∨ k = 1 ∨ k = 2 ∨ k = 3) with rfl | rfl | rfl | rfl
  · exact i0 _ _ _ _ _ _ _ _ _ _ _ _
  · exact i1 _ _ _ _ _ _ _ _ _ _ _ _
  · exact i2 _ _ _ _ _ _ _ _ _ _ _ _
  · exact i3 _ _ _ _ _ _ _ _ _ _ _ _
/-- Some of one's three numbers are new. -/
def part (f : Int → Int × Int × Int) (q : Int) (a b c : Int) (j : Nat) : Int → Int × Int × Int := fun k => if k = q then (if 0 < j then a else (f q).1, if 1 < j then b else (f q).2.1, if 2 < j then c else (f q).2.2) else f k
theorem part_0 (f : Int → Int × Int × Int) (q a b c : Int) : part f q a b c 0 = f := by
  funext k
  unfold part
  by_cases e : k = q
  · subst e; simp
  · rw [if_neg e]
theorem part_3 (f : Int → Int × Int × Int) (q a b c : Int) : part f q a b c 3 = fun k => if k = q then (a, b, c) else f k := by
  funext k
  unfold part
  simp
theorem H4.put {W : World} {h q : Nat} {f : Int → Int × Int × Int} {a b c : Int} (hq : q < 4) (j : Nat) (hj : j < 3) (H : H4 W h (part f q a b c j)) : H4 (W.setCell ⟨h, q * 3 + j, none⟩ (.int .i64 (at3 a b c j))) h (part f q a b c (j + 1)) := by
  rcases (by omega : q = 0 ∨ q = 1 ∨ q = 2 ∨ q = 3) with rfl | rfl | rfl | rfl <;> rcases (by omega : j = 0 ∨ j = 1 ∨ j = 2) with rfl | rfl | rfl <;> exact blk_put H _ _ rfl
theorem rightB_pos {x y z : Int} (h : rightB x y z = true) : 0 ≤ x ∧ 0 ≤ y ∧ 0 ≤ z := by
  unfold rightB at h
  simp only [Bool.and_eq_true, decide_eq_true_eq] at h
  exact ⟨h.1.1, h.1.2, h.2⟩
theorem withinB_le {x y z a b c : Int} (h : withinB x y z a b c = true) : x ≤ a ∧ y ≤ b ∧ z ≤ c := by
  unfold withinB at h
  simp only [Bool.and_eq_true, decide_eq_true_eq] at h
  exact ⟨h.1.1, h.1.2, h.2⟩
theorem wi_in {a : Int} (h0 : -9223372036854775808 ≤ a) (h1 : a ≤ 9223372036854775807) : wi a = a := by unfold wi wrap64; omega
theorem bnd_part {m1 m2 m3 : Int} {f : Int → Int × Int × Int} {q a b c : Int} (H : Bnd m1 m2 m3 f) (h : 0 ≤ a ∧ a ≤ m1 ∧ 0 ≤ b ∧ b ≤ m2 ∧ 0 ≤ c ∧ c ≤ m3) : Bnd m1 m2 m3 (part f q a b c 3) := by
  intro k
  rw [part_3]
  dsimp only
  split
  · exact h
  · exact H k
theorem bnd_take {m1 m2 m3 x y z p1 p2 p3 q : Int} {f : Int → Int × Int × Int} (H : Bnd m1 m2 m3 f) (hf : f q = (p1, p2, p3)) (hr : rightB x y z = true) (hw : withinB x y z (wi (m1 - p1)) (wi (m2 - p2)) (wi (m3 - p3)) = true) (b1 : m1 ≤ 1099511627776) (b2 : m2 ≤ 1099511627776) (b3 : m3 ≤ 1099511627776) : Bnd m1 m2 m3 (part f q (wi (p1 + x)) (wi (p2 + y)) (wi (p3 + z)) 3) := by
  have hp := H q
  rw [hf] at hp
  dsimp only at hp
  obtain ⟨x0, y0, z0⟩ := rightB_pos hr
  rw [wi_in (a := m1 - p1) (by omega) (by omega), wi_in (a := m2 - p2) (by omega) (by omega), wi_in (a := m3 - p3) (by omega) (by omega)] at hw
  obtain ⟨x1, y1, z1⟩ := withinB_le hw
  rw [wi_in (a := p1 + x) (by omega) (by omega), wi_in (a := p2 + y) (by omega) (by omega), wi_in (a := p3 + z) (by omega) (by omega)]
  exact bnd_part H ⟨by omega, by omega, by omega, by omega, by omega, by omega⟩
theorem bnd_give {m1 m2 m3 x y z p1 p2 p3 q : Int} {f : Int → Int × Int × Int} (H : Bnd m1 m2 m3 f) (hf : f q = (p1, p2, p3)) (hr : rightB x y z = true) (hw : withinB x y z p1 p2 p3 = true) (b1 : m1 ≤ 1099511627776) (b2 : m2 ≤ 1099511627776) (b3 : m3 ≤ 1099511627776) : Bnd m1 m2 m3 (part f q (wi (p1 - x)) (wi (p2 - y)) (wi (p3 - z)) 3) := by
  have hp := H q
  rw [hf] at hp
  dsimp only at hp
  obtain ⟨x0, y0, z0⟩ := rightB_pos hr
  obtain ⟨x1, y1, z1⟩ := withinB_le hw
  rw [wi_in (a := p1 - x) (by omega) (by omega), wi_in (a := p2 - y) (by omega) (by omega), wi_in (a := p3 - z) (by omega) (by omega)]
  exact bnd_part H ⟨by omega, by omega, by omega, by omega, by omega, by omega⟩
set_option maxHeartbeats 16000000 in
set_option maxRecDepth 100000 in
theorem main (m1 m2 m3 : Int) (A : Option Addr) (c : Nat) (l : List (Int × Int × Int × Int × Int)) (w : World) (hC : kAct.C w A l.length l) (hl : l.length ≤ 100) (hm : okN m1 = true ∧ okN m2 = true ∧ okN m3 = true) (hi : ∀ x : Int × Int × Int × Int × Int, x ∈ l → 0 ≤ x.1 ∧ 0 ≤ x.2.1) :
    Calls Try.prog 4 #[bill m1 m2 m3, .slice A l.length c] w fun e w' => e = .returned (.bool true) ∧ Below w.heap.size w w' := by
  have hl' : (l.length : Int) ≤ 100 := by omega
  have HG := Lib.hid (good_iff m1 m2 m3)
  have HN := Lib.hid (show rightB m1 m2 m3 = true ∧ withinB m1 m2 m3 topN topN topN = true by
    have := HG.out
    rw [hm.1, hm.2.1, hm.2.2] at this
    simpa using this)
  obtain ⟨hm1, hm2, hm3⟩ := hm
  obtain ⟨a1, b1⟩ := okN_true hm1
  obtain ⟨a2, b2⟩ := okN_true hm2
  obtain ⟨a3, b3⟩ := okN_true hm3
  have HC := Lib.hid hC
  have HI := Lib.hid hi
  clear hC hi hm1 hm2 hm3
  go_enter Try.func4, Try.ntmps4
  go_wp2_with (first
    | (go_at_call 17; go_loud (refine (three_calls _ _ _ _).mono ?_; rintro e w3 ⟨rfl, hB3⟩; have HL3 := Lib.hid (HL2.out.below hB3); have HB3 := Lib.hid (below_step HB2.out hB3); clear hB3))
    | (go_at_call 22; go_loud (refine (new_calls m1 m2 m3 [0, 1, 2, 3] _ HN.out.1 HN.out.2).mono ?_; rintro e w2 ⟨g, rfl, hL2, _, hB2⟩; have HL2 := Lib.hid (lx_low hL2 HB.out.size); have HB2 := Lib.hid (below_step HB.out hB2); have hp2 := blk_below HP.out hB2; have p0 := blk_cell hp2 0; have p1 := blk_cell hp2 1; have p2 := blk_cell hp2 2; clear hB2 hp2 hL2))
    | (go_at_call 16; go_loud (refine (lives_calls _).mono ?_; rintro e w1 ⟨rfl, hB1⟩; have HB := Lib.hid (below_step (below_alloc (Below.refl w.heap.size w) _) hB1); have HP := Lib.hid (blk_below (blk_new w _) hB1); have p0 := blk_cell HP.out 0; have p1 := blk_cell HP.out 1; have p2 := blk_cell HP.out 2; clear hB1)))
  have HT3 := Lib.hid (blk_new w3 (.cells #[.int .i64 m1, .int .i64 m2, .int .i64 m3] 26))
  have HL4 := Lib.hid (HL3.out.below (below_alloc (Below.refl _ _) (.cells #[.int .i64 m1, .int .i64 m2, .int .i64 m3] 26)))
  have HB4 := Lib.hid (below_alloc HB3.out (.cells #[.int .i64 m1, .int .i64 m2, .int .i64 m3] 26))
  have hzz : w.heap.size ≤ w3.heap.size := HB3.out.size
  go_loopw [47] (fun i wr => ∃ j : Nat, i = .int .i64 j ∧ j ≤ 3 ∧ wr = w3.alloc (.cells #[.int .i64 m1, .int .i64 m2, .int .i64 m3] 26)) (fun i _ => 3 - (intOf i).toNat)
  case atStart => exact ⟨0, rfl, by omega, rfl⟩
  case round =>
    obtain ⟨j, rfl, hj, rfl⟩ := hrel
    rcases (by omega : j = 0 ∨ j = 1 ∨ j = 2 ∨ j = 3) with rfl | rfl | rfl | rfl
    · have ix : ∀ (xx yy zz : Int) (V : World), (Instr.index 26 (bill xx yy zz) (.int .i64 0)).run Try.prog V = .ok (.int .i64 xx) V := fun _ _ _ _ => by kernel_rfl
      go_wp2
      go_roundw
      case rel => exact ⟨1, by simp, by omega, trivial⟩
      case measure => simp [intOf]
    · have ix : ∀ (xx yy zz : Int) (V : World), (Instr.index 26 (bill xx yy zz) (.int .i64 1)).run Try.prog V = .ok (.int .i64 yy) V := fun _ _ _ _ => by kernel_rfl
      go_wp2
      go_roundw
      case rel => exact ⟨2, by simp, by omega, trivial⟩
      case measure => simp [intOf]
    · have ix : ∀ (xx yy zz : Int) (V : World), (Instr.index 26 (bill xx yy zz) (.int .i64 2)).run Try.prog V = .ok (.int .i64 zz) V := fun _ _ _ _ => by kernel_rfl
      go_wp2
      go_roundw
      case rel => exact ⟨3, by simp, by omega, trivial⟩
      case measure => simp [intOf]
    · clear hj
      rw [show ((3 : Nat) : Int) = 3 from rfl]
      go_wp2_with fail
      have HS0 := Lib.hid (show ST w ((w3.alloc (.cells #[.int .i64 m1, .int .i64 m2, .int .i64 m3] 26)).alloc (.cells #[.int .i64 0, .int .i64 0, .int .i64 0, .int .i64 0, .int .i64 0, .int .i64 0, .int .i64 0, .int .i64 0, .int .i64 0, .int .i64 0, .int .i64 0, .int .i64 0] 37)) g w3.heap.size (w3.heap.size + 1) m1 m2 m3 0 (fun _ => (0, 0, 0)) (fun _ => (0, 0, 0)) from ⟨HL4.out.below (below_alloc (Below.refl _ _) _), blk_alloc HT3.out _, blk_new1 w3 _ _, below_alloc HB4.out _, by omega, by omega⟩)
      go_loopw [67] (fun i wr => ∃ (j n : Nat) (f : Int → Int × Int × Int), i = .int .i64 j ∧ j ≤ l.length ∧ n ≤ 10 * j ∧ Bnd m1 m2 m3 f ∧ ST w wr g w3.heap.size (w3.heap.size + 1) m1 m2 m3 n f f) (fun i _ => l.length - (intOf i).toNat)
      case atStart => exact ⟨0, 0, _, rfl, by omega, by omega, fun _ => ⟨Int.le_refl 0, a1, Int.le_refl 0, a2, Int.le_refl 0, a3⟩, HS0.out⟩
      case round =>
        obtain ⟨wo, rfl⟩ : ∃ wo : World, wo = wr := ⟨_, rfl⟩
        obtain ⟨j, n, f, rfl, hj, hn, hbd, hS⟩ := hrel
        have HBD := Lib.hid hbd
        clear hbd
        have HS := Lib.hid hS
        clear hS
        by_cases hlt : j < l.length
        · obtain ⟨⟨kk, u, x, y, z⟩, hx⟩ : ∃ x, l.getD j (0, 0, 0, 0, 0) = x := ⟨_, rfl⟩
          obtain ⟨ad, rfl, c0, c1, c2, c3, c4⟩ := at_A (Kd.C_below HC.out HS.out.bel) j hlt kk u x y z hx
          have hik : 0 ≤ kk ∧ 0 ≤ u := HI.out (kk, u, x, y, z) (by rw [← hx]; simp [List.getD, hlt])
          obtain ⟨q, hq⟩ : ∃ q : Nat, u % 4 = (q : Int) := ⟨(u % 4).toNat, by omega⟩
          have hq4 : q < 4 := by omega
          clear hx
          go_wp2_with (go_at_call 17; go_loud (refine (three_calls _ _ _ _).mono ?_; rintro e w5 ⟨rfl, hB5⟩; have HB5 := Lib.hid hB5; clear hB5))
          obtain ⟨W6, hW6⟩ : ∃ W6, w5.alloc (.cells #[.int .i64 x, .int .i64 y, .int .i64 z] 26) = W6 := ⟨_, rfl⟩
          have HB6 := Lib.hid (show Below (wo.alloc (.cells #[.int .u8 kk, .int .u32 u, .int .i64 x, .int .i64 y, .int .i64 z] 40)).heap.size (wo.alloc (.cells #[.int .u8 kk, .int .u32 u, .int .i64 x, .int .i64 y, .int .i64 z] 40)) W6 by rw [← hW6]; exact below_alloc HB5.out _)
          have HS6 := Lib.hid ((HS.out.below (below_alloc (Below.refl _ _) _)).below HB6.out)
          have HA6 := Lib.hid (blk_below (blk_new wo _) HB6.out)
          have HV6 := Lib.hid (show T3 W6 w5.heap.size x y z by rw [← hW6]; exact blk_new w5 _)
          obtain ⟨fq, hfq⟩ : ∃ fq, f q = fq := ⟨_, rfl⟩
          obtain ⟨p1, p2, p3⟩ := fq
          have HFQ := Lib.hid hfq
          rw [hW6]
          clear hW6 HB5 c0 c1 c2 c3 c4 hfq
          go_loopw [78, 15, 16, 17] (fun i s15 s16 s17 wx => ∃ j3 : Nat, i = .int .i64 j3 ∧ j3 ≤ 3 ∧ s15 = .bool (upto (fun k => wN (at3 x y z k)) j3) ∧ s16 = .bool (upto (fun k => decide (wi (at3 m1 m2 m3 k - at3 p1 p2 p3 k) < at3 x y z k)) j3) ∧ s17 = .bool (upto (fun k => decide (at3 p1 p2 p3 k < at3 x y z k)) j3) ∧ Below W6.heap.size W6 wx) (fun i _ _ _ _ => 3 - (intOf i).toNat)
          case atStart => exact ⟨0, rfl, by omega, rfl, rfl, rfl, Below.refl _ _⟩
          case round =>
            obtain ⟨j3, rfl, hj3, rfl, rfl, rfl, hB7⟩ := hrel
            have HB7 := Lib.hid hB7
            have hx4 := HS6.out.below hB7
            have HS7 := Lib.hid hx4
            clear hB7
            have t0 := blk_cell hx4.top 0
            have t1 := blk_cell hx4.top 1
            have t2 := blk_cell hx4.top 2
            obtain ⟨k0, k1, k2⟩ := hx4.have_.at hq4
            rw [HFQ.out] at k0 k1 k2
            clear hx4
            rcases (by omega : j3 = 0 ∨ j3 = 1 ∨ j3 = 2 ∨ j3 = 3) with rfl | rfl | rfl | rfl
            · as_aux_lemma => (
              have ix : ∀ (xx yy zz : Int) (V : World), (Instr.index 26 (bill xx yy zz) (.int .i64 0)).run Try.prog V = .ok (.int .i64 xx) V := fun _ _ _ _ => by kernel_rfl
              have ea : ∀ (p : Nat → Bool), upto p 1 = (upto p 0 || p 0) := fun _ => rfl
              generalize hbw : upto (fun k => wN (at3 x y z k)) 0 = bw
              generalize hbo : upto (fun k => decide (wi (at3 m1 m2 m3 k - at3 p1 p2 p3 k) < at3 x y z k)) 0 = bo
              generalize hbu : upto (fun k => decide (at3 p1 p2 p3 k < at3 x y z k)) 0 = bu
              have HW3 := Lib.hid hbw
              have HO3 := Lib.hid hbo
              have HU3 := Lib.hid hbu
              have HEA := Lib.hid ea
              clear hbw hbo hbu ea
              rcases (by omega : x < 0 ∨ (0 ≤ x ∧ 1125899906842624 < x) ∨ (0 ≤ x ∧ x ≤ 1125899906842624)) with hv | ⟨hv, hv2⟩ | ⟨hv, hv2⟩
              · cases bo <;> cases bu
                all_goals (
                  go_wp2
                  all_goals (
                  go_quiet (fail)
                  go_wp2
                  go_roundw
                  case rel =>
                    refine ⟨1, by simp, by omega, ?_, ?_, ?_, pw_below_drewN HB7.out _⟩
                    · rw [HEA.out, HW3.out]; simp [wN, at3, hv]
                    · rw [HEA.out, HO3.out]; simp [at3]
                    · rw [HEA.out, HU3.out]; simp [at3]
                  case measure => simp [intOf]))
              · cases bo <;> cases bu
                all_goals (
                  go_wp2
                  all_goals (
                  go_quiet (fail)
                  go_wp2
                  go_roundw
                  case rel =>
                    refine ⟨1, by simp, by omega, ?_, ?_, ?_, pw_below_drewN HB7.out _⟩
                    · rw [HEA.out, HW3.out]; simp [wN, at3, hv2]
                    · rw [HEA.out, HO3.out]; simp [at3]
                    · rw [HEA.out, HU3.out]; simp [at3]
                  case measure => simp [intOf]))
              · cases bo <;> cases bu
                all_goals (
                  go_wp2
                  all_goals (
                  go_quiet (fail)
                  go_wp2
                  go_roundw
                  case rel =>
                    refine ⟨1, by simp, by omega, ?_, ?_, ?_, pw_below_drewN HB7.out _⟩
                    · rw [HEA.out, HW3.out]; simp [wN, at3] <;> omega
                    · rw [HEA.out, HO3.out]; simp [at3]
                    · rw [HEA.out, HU3.out]; simp [at3]
                  case measure => simp [intOf]))
              )
            · as_aux_lemma => (
              have ix : ∀ (xx yy zz : Int) (V : World), (Instr.index 26 (bill xx yy zz) (.int .i64 1)).run Try.prog V = .ok (.int .i64 yy) V := fun _ _ _ _ => by kernel_rfl
              have ea : ∀ (p : Nat → Bool), upto p 2 = (upto p 1 || p 1) := fun _ => rfl
              generalize hbw : upto (fun k => wN (at3 x y z k)) 1 = bw
              generalize hbo : upto (fun k => decide (wi (at3 m1 m2 m3 k - at3 p1 p2 p3 k) < at3 x y z k)) 1 = bo
              generalize hbu : upto (fun k => decide (at3 p1 p2 p3 k < at3 x y z k)) 1 = bu
              have HW3 := Lib.hid hbw
              have HO3 := Lib.hid hbo
              have HU3 := Lib.hid hbu
              have HEA := Lib.hid ea
              clear hbw hbo hbu ea
              rcases (by omega : y < 0 ∨ (0 ≤ y ∧ 1125899906842624 < y) ∨ (0 ≤ y ∧ y ≤ 1125899906842624)) with hv | ⟨hv, hv2⟩ | ⟨hv, hv2⟩
              · cases bo <;> cases bu
                all_goals (
                  go_wp2
                  all_goals (
                  go_quiet (fail)
                  go_wp2
                  go_roundw
                  case rel =>
                    refine ⟨2, by simp, by omega, ?_, ?_, ?_, pw_below_drewN HB7.out _⟩
                    · rw [HEA.out, HW3.out]; simp [wN, at3, hv]
                    · rw [HEA.out, HO3.out]; simp [at3]
                    · rw [HEA.out, HU3.out]; simp [at3]
                  case measure => simp [intOf]))
              · cases bo <;> cases bu
                all_goals (
                  go_wp2
                  all_goals (
                  go_quiet (fail)
                  go_wp2
                  go_roundw
                  case rel =>
                    refine ⟨2, by simp, by omega, ?_, ?_, ?_, pw_below_drewN HB7.out _⟩
                    · rw [HEA.out, HW3.out]; simp [wN, at3, hv2]
                    · rw [HEA.out, HO3.out]; simp [at3]
                    · rw [HEA.out, HU3.out]; simp [at3]
                  case measure => simp [intOf]))
              · cases bo <;> cases bu
                all_goals (
                  go_wp2
                  all_goals (
                  go_quiet (fail)
                  go_wp2
                  go_roundw
                  case rel =>
                    refine ⟨2, by simp, by omega, ?_, ?_, ?_, pw_below_drewN HB7.out _⟩
                    · rw [HEA.out, HW3.out]; simp [wN, at3] <;> omega
                    · rw [HEA.out, HO3.out]; simp [at3]
                    · rw [HEA.out, HU3.out]; simp [at3]
                  case measure => simp [intOf]))
              )
            · as_aux_lemma => (
              have ix : ∀ (xx yy zz : Int) (V : World), (Instr.index 26 (bill xx yy zz) (.int .i64 2)).run Try.prog V = .ok (.int .i64 zz) V := fun _ _ _ _ => by kernel_rfl
              have ea : ∀ (p : Nat → Bool), upto p 3 = (upto p 2 || p 2) := fun _ => rfl
              generalize hbw : upto (fun k => wN (at3 x y z k)) 2 = bw
              generalize hbo : upto (fun k => decide (wi (at3 m1 m2 m3 k - at3 p1 p2 p3 k) < at3 x y z k)) 2 = bo
              generalize hbu : upto (fun k => decide (at3 p1 p2 p3 k < at3 x y z k)) 2 = bu
              have HW3 := Lib.hid hbw
              have HO3 := Lib.hid hbo
              have HU3 := Lib.hid hbu
              have HEA := Lib.hid ea
              clear hbw hbo hbu ea
              rcases (by omega : z < 0 ∨ (0 ≤ z ∧ 1125899906842624 < z) ∨ (0 ≤ z ∧ z ≤ 1125899906842624)) with hv | ⟨hv, hv2⟩ | ⟨hv, hv2⟩
              · cases bo <;> cases bu
                all_goals (
                  go_wp2
                  all_goals (
                  go_quiet (fail)
                  go_wp2
                  go_roundw
                  case rel =>
                    refine ⟨3, by simp, by omega, ?_, ?_, ?_, pw_below_drewN HB7.out _⟩
                    · rw [HEA.out, HW3.out]; simp [wN, at3, hv]
                    · rw [HEA.out, HO3.out]; simp [at3]
                    · rw [HEA.out, HU3.out]; simp [at3]
                  case measure => simp [intOf]))
              · cases bo <;> cases bu
                all_goals (
                  go_wp2
                  all_goals (
                  go_quiet (fail)
                  go_wp2
                  go_roundw
                  case rel =>
                    refine ⟨3, by simp, by omega, ?_, ?_, ?_, pw_below_drewN HB7.out _⟩
                    · rw [HEA.out, HW3.out]; simp [wN, at3, hv2]
                    · rw [HEA.out, HO3.out]; simp [at3]
                    · rw [HEA.out, HU3.out]; simp [at3]
                  case measure => simp [intOf]))
              · cases bo <;> cases bu
                all_goals (
                  go_wp2
                  all_goals (
                  go_quiet (fail)
                  go_wp2
                  go_roundw
                  case rel =>
                    refine ⟨3, by simp, by omega, ?_, ?_, ?_, pw_below_drewN HB7.out _⟩
                    · rw [HEA.out, HW3.out]; simp [wN, at3] <;> omega
                    · rw [HEA.out, HO3.out]; simp [at3]
                    · rw [HEA.out, HU3.out]; simp [at3]
                  case measure => simp [intOf]))
              )
            · rw [show ((3 : Nat) : Int) = 3 from rfl]
              clear hj3 k0 k1 k2 t0 t1 t2
              have hv6 := blk_below HV6.out HB7.out
              have v0 := blk_cell hv6 0
              have v1 := blk_cell hv6 1
              have v2 := blk_cell hv6 2
              have HV7 := Lib.hid hv6
              have ha7 := blk_below HA6.out HB7.out
              have HA7 := Lib.hid ha7
              have d0 := blk_cell ha7 0
              clear hv6 ha7
              generalize hbw : upto (fun k => wN (at3 x y z k)) 3 = bw
              generalize hbo : upto (fun k => decide (wi (at3 m1 m2 m3 k - at3 p1 p2 p3 k) < at3 x y z k)) 3 = bo
              generalize hbu : upto (fun k => decide (at3 p1 p2 p3 k < at3 x y z k)) 3 = bu
              have HBW := Lib.hid hbw
              have HBO := Lib.hid hbo
              have HBU := Lib.hid hbu
              clear hbw hbo hbu
              by_cases hbig : 1125899906842624 < x ∨ 1125899906842624 < y ∨ 1125899906842624 < z
              · obtain rfl : bw = true := by
                  rw [← HBW.out]
                  simp only [upto, wN, at3, Bool.false_or, Bool.or_eq_true, decide_eq_true_eq]
                  omega
                rcases (by omega : 1125899906842624 < x ∨ (x ≤ 1125899906842624 ∧ 1125899906842624 < y) ∨ (x ≤ 1125899906842624 ∧ y ≤ 1125899906842624 ∧ 1125899906842624 < z)) with h1 | ⟨h1, h2⟩ | ⟨h1, h2, h3⟩
                all_goals (
                  clear hbig
                  go_wp2
                  go_ret
                  exact ⟨rfl, HS7.out.bel⟩)
              · obtain ⟨hx50, hy50, hz50⟩ : x ≤ 1125899906842624 ∧ y ≤ 1125899906842624 ∧ z ≤ 1125899906842624 := by omega
                clear hbig
                have HWR := Lib.hid (show rightB x y z = !bw by
                  rw [← HBW.out]
                  simp only [upto, wN, at3, rightB, Bool.false_or]
                  rw [decide_eq_false (show ¬ 1125899906842624 < x by omega), decide_eq_false (show ¬ 1125899906842624 < y by omega), decide_eq_false (show ¬ 1125899906842624 < z by omega)]
                  simp only [Bool.or_false, Bool.not_or, ← decide_not, Int.not_lt])
                obtain ⟨W7, rfl⟩ : ∃ W7 : World, W7 = wr := ⟨_, rfl⟩
                go_upto_region 28 with fail
                go_cut [128] (fun s128 wx => s128 = .bool false ∧ wx = W7)
                case first =>
                  cases bw
                  all_goals (
                    go_wp2_with fail
                    go_meet
                    exact ⟨by first | rfl | (simp only [decide_eq_false (show ¬ 1125899906842624 < x by omega), decide_eq_false (show ¬ 1125899906842624 < y by omega), decide_eq_false (show ¬ 1125899906842624 < z by omega)]; rfl), rfl⟩)
                case rest =>
                  obtain ⟨rfl, rfl⟩ := hcut
                  clear v0 v1 v2
                  go_upto_block 6 with fail
                  have d1 := blk_cell HA7.out 1
                  have d2 := blk_cell HA7.out 2
                  have d3 := blk_cell HA7.out 3
                  have d4 := blk_cell HA7.out 4
                  have HQK := Lib.hid (show (q : Int) ∈ [(0 : Int), 1, 2, 3] by rcases (by omega : q = 0 ∨ q = 1 ∨ q = 2 ∨ q = 3) with rfl | rfl | rfl | rfl <;> decide)
                  have HNM := Lib.hid (show n < maxLen by unfold maxLen; omega)
                  have hq0 : (0 : Int) ≤ q := by omega
                  have hq1 : (q : Int) ≤ 4294967295 := by omega
                  have hao : ¬ wo.heap.size = w3.heap.size + 1 := by
                    intro e
                    have h1 := HA7.out
                    have h2 := HS7.out.have_
                    unfold H4 at h2
                    rw [← e, h1] at h2
                    injection (Option.some.inj h2) with _ h3
                    exact absurd h3 (by decide)
                  have HPB := Lib.hid (show 0 ≤ p1 ∧ p1 ≤ m1 ∧ 0 ≤ p2 ∧ p2 ≤ m2 ∧ 0 ≤ p3 ∧ p3 ≤ m3 by have := HBD.out q; rw [HFQ.out] at this; exact this)
                  have HWO := Lib.hid (show withinB x y z (wi (m1 - p1)) (wi (m2 - p2)) (wi (m3 - p3)) = !bo by rw [within_not, ← HBO.out]; simp only [upto, at3, Bool.false_or])
                  have HWU := Lib.hid (show withinB x y z p1 p2 p3 = !bu by rw [within_not, ← HBU.out]; simp only [upto, at3, Bool.false_or])
                  go_cut [20, 21, 22, 23, 24, 25] from 129 to 198 (fun _ _ _ _ _ _ wx => ∃ (n' : Nat) (f' : Int → Int × Int × Int), n' ≤ n + 1 ∧ Bnd m1 m2 m3 f' ∧ ST w wx g w3.heap.size (w3.heap.size + 1) m1 m2 m3 n' f' f')
                  case first =>
                    rcases (by omega : kk % 3 = 0 ∨ kk % 3 = 1 ∨ kk % 3 = 2) with hk | hk | hk
                    · as_aux_lemma => (
                      cases bw
                      · cases bo
                        · have v0 := blk_cell HV7.out 0
                          have v1 := blk_cell HV7.out 1
                          have v2 := blk_cell HV7.out 2
                          go_wp2_with fail
                          clear v0 v1 v2 hk
                          go_loopw [146] (fun i wx => ∃ j4 : Nat, i = .int .i64 j4 ∧ j4 ≤ 3 ∧ ST w wx g w3.heap.size (w3.heap.size + 1) m1 m2 m3 n f (part f q (wi (p1 + x)) (wi (p2 + y)) (wi (p3 + z)) j4) ∧ wx.heap[wo.heap.size]? = some (.cells #[.int .u8 kk, .int .u32 u, .int .i64 x, .int .i64 y, .int .i64 z] 40 (0, 0))) (fun i _ => 3 - (intOf i).toNat)
                          case atStart => exact ⟨0, rfl, by omega, by rw [part_0]; exact HS7.out, HA7.out⟩
                          case round =>
                            as_aux_lemma => (
                            obtain ⟨j4, rfl, hj4, hS8, hA8⟩ := hrel
                            have HS8 := Lib.hid hS8
                            have HA8 := Lib.hid hA8
                            obtain ⟨k0, k1, k2⟩ := hS8.have_.at hq4
                            obtain ⟨z0, z1, z2⟩ := hS8.have_.fro hq4
                            clear hS8 hA8
                            rcases (by omega : j4 = 0 ∨ j4 = 1 ∨ j4 = 2 ∨ j4 = 3) with rfl | rfl | rfl | rfl
                            · have hpt : part f q (wi (p1 + x)) (wi (p2 + y)) (wi (p3 + z)) 0 q = (p1, p2, p3) := by simp [part, HFQ.out]
                              rw [hpt] at k0 k1 k2
                              have ix : ∀ (xx yy zz : Int) (V : World), (Instr.index 26 (bill xx yy zz) (.int .i64 0)).run Try.prog V = .ok (.int .i64 xx) V := fun _ _ _ _ => by kernel_rfl
                              clear hpt
                              go_wp2
                              go_region
                              go_wp2
                              go_roundw
                              case rel => exact ⟨1, by simp, by omega, (HS8.out.set (q * 3 + 0) _ (H4.put hq4 0 (by omega) HS8.out.have_)).below (below_drew1 (Below.refl _ _)), blk_drew (blk_far HA8.out hao _)⟩
                              case measure => simp [intOf]
                            · have hpt : part f q (wi (p1 + x)) (wi (p2 + y)) (wi (p3 + z)) 1 q = (wi (p1 + x), p2, p3) := by simp [part, HFQ.out]
                              rw [hpt] at k0 k1 k2
                              have ix : ∀ (xx yy zz : Int) (V : World), (Instr.index 26 (bill xx yy zz) (.int .i64 1)).run Try.prog V = .ok (.int .i64 yy) V := fun _ _ _ _ => by kernel_rfl
                              clear hpt
                              go_wp2
                              go_region
                              go_wp2
                              go_roundw
                              case rel => exact ⟨2, by simp, by omega, (HS8.out.set (q * 3 + 1) _ (H4.put hq4 1 (by omega) HS8.out.have_)).below (below_drew1 (Below.refl _ _)), blk_drew (blk_far HA8.out hao _)⟩
                              case measure => simp [intOf]
                            · have hpt : part f q (wi (p1 + x)) (wi (p2 + y)) (wi (p3 + z)) 2 q = (wi (p1 + x), wi (p2 + y), p3) := by simp [part, HFQ.out]
                              rw [hpt] at k0 k1 k2
                              have ix : ∀ (xx yy zz : Int) (V : World), (Instr.index 26 (bill xx yy zz) (.int .i64 2)).run Try.prog V = .ok (.int .i64 zz) V := fun _ _ _ _ => by kernel_rfl
                              clear hpt
                              go_wp2
                              go_region
                              go_wp2
                              go_roundw
                              case rel => exact ⟨3, by simp, by omega, (HS8.out.set (q * 3 + 2) _ (H4.put hq4 2 (by omega) HS8.out.have_)).below (below_drew1 (Below.refl _ _)), blk_drew (blk_far HA8.out hao _)⟩
                              case measure => simp [intOf]
                            · clear k0 k1 k2 z0 z1 z2
                              have d0 := blk_cell HA8.out 0
                              have d2 := blk_cell HA8.out 2
                              have d3 := blk_cell HA8.out 3
                              have d4 := blk_cell HA8.out 4
                              go_wp2_with (go_at_call 23; go_loud (refine (take_ok q x y z _ HS8.out.led hq0 hq1 HQK.out HS8.out.bel.size HNM.out HWR.out (by rw [HFQ.out]; exact HWO.out)).mono ?_; rintro e w9 ⟨rfl, hL9, hF9⟩))
                              go_meet
                              rw [HFQ.out, ← part_3] at hL9
                              exact ⟨n + 1, _, by omega, bnd_take HBD.out HFQ.out HWR.out HWO.out b1 b2 b3, HS8.out.fl hL9 hF9⟩
                            )
                        · go_wp2_with (go_at_call 23; go_loud (refine (take_over q x y z _ HS7.out.led hq0 hq1 HQK.out HS7.out.bel.size HNM.out HWR.out (by rw [HFQ.out]; exact HWO.out)).mono ?_; rintro e w9 ⟨rfl, hL9, hF9⟩))
                          go_meet
                          exact ⟨n + 1, f, by omega, HBD.out, HS7.out.fl hL9 hF9⟩
                      · go_wp2_with (go_at_call 23; go_loud (refine (take_wrong q x y z _ HWR.out).mono ?_; rintro e w9 ⟨rfl, hB9⟩))
                        go_meet
                        exact ⟨n, f, by omega, HBD.out, HS7.out.below hB9⟩
                      )
                    · as_aux_lemma => (
                      cases bw
                      · cases bu
                        · have v0 := blk_cell HV7.out 0
                          have v1 := blk_cell HV7.out 1
                          have v2 := blk_cell HV7.out 2
                          go_wp2_with fail
                          clear v0 v1 v2 hk
                          go_loopw [178] (fun i wx => ∃ j4 : Nat, i = .int .i64 j4 ∧ j4 ≤ 3 ∧ ST w wx g w3.heap.size (w3.heap.size + 1) m1 m2 m3 n f (part f q (wi (p1 - x)) (wi (p2 - y)) (wi (p3 - z)) j4) ∧ wx.heap[wo.heap.size]? = some (.cells #[.int .u8 kk, .int .u32 u, .int .i64 x, .int .i64 y, .int .i64 z] 40 (0, 0))) (fun i _ => 3 - (intOf i).toNat)
                          case atStart => exact ⟨0, rfl, by omega, by rw [part_0]; exact HS7.out, HA7.out⟩
                          case round =>
                            as_aux_lemma => (
                            obtain ⟨j4, rfl, hj4, hS8, hA8⟩ := hrel
                            have HS8 := Lib.hid hS8
                            have HA8 := Lib.hid hA8
                            obtain ⟨k0, k1, k2⟩ := hS8.have_.at hq4
                            obtain ⟨z0, z1, z2⟩ := hS8.have_.fro hq4
                            clear hS8 hA8
                            rcases (by omega : j4 = 0 ∨ j4 = 1 ∨ j4 = 2 ∨ j4 = 3) with rfl | rfl | rfl | rfl
                            · have hpt : part f q (wi (p1 - x)) (wi (p2 - y)) (wi (p3 - z)) 0 q = (p1, p2, p3) := by simp [part, HFQ.out]
                              rw [hpt] at k0 k1 k2
                              have ix : ∀ (xx yy zz : Int) (V : World), (Instr.index 26 (bill xx yy zz) (.int .i64 0)).run Try.prog V = .ok (.int .i64 xx) V := fun _ _ _ _ => by kernel_rfl
                              clear hpt
                              go_wp2
                              go_region
                              go_wp2
                              go_roundw
                              case rel => exact ⟨1, by simp, by omega, (HS8.out.set (q * 3 + 0) _ (H4.put hq4 0 (by omega) HS8.out.have_)).below (below_drew1 (Below.refl _ _)), blk_drew (blk_far HA8.out hao _)⟩
                              case measure => simp [intOf]
                            · have hpt : part f q (wi (p1 - x)) (wi (p2 - y)) (wi (p3 - z)) 1 q = (wi (p1 - x), p2, p3) := by simp [part, HFQ.out]
                              rw [hpt] at k0 k1 k2
                              have ix : ∀ (xx yy zz : Int) (V : World), (Instr.index 26 (bill xx yy zz) (.int .i64 1)).run Try.prog V = .ok (.int .i64 yy) V := fun _ _ _ _ => by kernel_rfl
                              clear hpt
                              go_wp2
                              go_region
                              go_wp2
                              go_roundw
                              case rel => exact ⟨2, by simp, by omega, (HS8.out.set (q * 3 + 1) _ (H4.put hq4 1 (by omega) HS8.out.have_)).below (below_drew1 (Below.refl _ _)), blk_drew (blk_far HA8.out hao _)⟩
                              case measure => simp [intOf]
                            · have hpt : part f q (wi (p1 - x)) (wi (p2 - y)) (wi (p3 - z)) 2 q = (wi (p1 - x), wi (p2 - y), p3) := by simp [part, HFQ.out]
                              rw [hpt] at k0 k1 k2
                              have ix : ∀ (xx yy zz : Int) (V : World), (Instr.index 26 (bill xx yy zz) (.int .i64 2)).run Try.prog V = .ok (.int .i64 zz) V := fun _ _ _ _ => by kernel_rfl
                              clear hpt
                              go_wp2
                              go_region
                              go_wp2
                              go_roundw
                              case rel => exact ⟨3, by simp, by omega, (HS8.out.set (q * 3 + 2) _ (H4.put hq4 2 (by omega) HS8.out.have_)).below (below_drew1 (Below.refl _ _)), blk_drew (blk_far HA8.out hao _)⟩
                              case measure => simp [intOf]
                            · clear k0 k1 k2 z0 z1 z2
                              have d0 := blk_cell HA8.out 0
                              have d2 := blk_cell HA8.out 2
                              have d3 := blk_cell HA8.out 3
                              have d4 := blk_cell HA8.out 4
                              go_wp2_with (go_at_call 24; go_loud (refine (give_ok q x y z _ HS8.out.led hq0 hq1 HQK.out HS8.out.bel.size HNM.out HWR.out (by rw [HFQ.out]; exact HWU.out)).mono ?_; rintro e w9 ⟨rfl, hL9, hF9⟩))
                              go_meet
                              rw [HFQ.out, ← part_3] at hL9
                              exact ⟨n + 1, _, by omega, bnd_give HBD.out HFQ.out HWR.out HWU.out b1 b2 b3, HS8.out.fl hL9 hF9⟩
                            )
                        · go_wp2_with (go_at_call 24; go_loud (refine (give_under q x y z _ HS7.out.led hq0 hq1 HQK.out HS7.out.bel.size HNM.out HWR.out (by rw [HFQ.out]; exact HWU.out)).mono ?_; rintro e w9 ⟨rfl, hL9, hF9⟩))
                          go_meet
                          exact ⟨n + 1, f, by omega, HBD.out, HS7.out.fl hL9 hF9⟩
                      · go_wp2_with (go_at_call 24; go_loud (refine (give_wrong q x y z _ HWR.out).mono ?_; rintro e w9 ⟨rfl, hB9⟩))
                        go_meet
                        exact ⟨n, f, by omega, HBD.out, HS7.out.below hB9⟩
                      )
                    · as_aux_lemma => (
                      have q3 : ∀ (a b c : Int) (V : World), (Op.equalIn 10000 26 (bill a b c) (bill a b c)).run Try.prog V = .ok true V := fun a b c V => by rw [eq3]; simp
                      have hq4' : (q : Int) < 4 := by omega
                      have hsd := HS7.out.below (below_drew1 (Below.refl _ _))
                      obtain ⟨k0, k1, k2⟩ := hsd.have_.at hq4
                      rw [HFQ.out] at k0 k1 k2
                      have HSD := Lib.hid hsd
                      clear hsd
                      go_wp2
                      refine start_ (n := 8) (S := fun w' => w'.cell? ⟨w3.heap.size + 1, q * 3, none⟩ = some (.int .i64 p1) ∧ w'.cell? ⟨w3.heap.size + 1, q * 3 + 1, none⟩ = some (.int .i64 p2) ∧ w'.cell? ⟨w3.heap.size + 1, q * 3 + 2, none⟩ = some (.int .i64 p3)) (ds := []) #[false, false, false, false, false, false, false, false] (by kernel_rfl) rfl rfl ⟨k0, k1, k2⟩ (fun hHeld => ?_)
                      refine pure_ (i := 0) (N := some 132) (v := ?_) (a' := ?_) #[true, false, false, false, false, false, false, false] rfl rfl (by kernel_rfl) (fun _ _ _ h => h) (Or.inl ⟨by rfl, ?_⟩) ?_ ?_
                      rotate_left
                      · intro w'
                        go_simp
                        with_reducible rfl
                      rotate_left
                      · simp only [Act.put, List.setIfInBounds_toArray, List.set_cons_zero, List.set_cons_succ]
                        rfl
                      refine pure_ (i := 1) (N := some 133) (v := ?_) (a' := ?_) #[true, true, false, false, false, false, false, false] rfl rfl (by kernel_rfl) (fun _ _ _ h => h) (Or.inl ⟨by rfl, ?_⟩) ?_ ?_
                      rotate_left
                      · intro w'
                        go_simp
                        with_reducible rfl
                      rotate_left
                      · simp only [Act.put, List.setIfInBounds_toArray, List.set_cons_zero, List.set_cons_succ]
                        rfl
                      refine pure_ (i := 4) (N := some 136) (v := ?_) (a' := ?_) #[true, true, false, false, true, false, false, false] rfl rfl (by kernel_rfl) (fun _ _ _ h => h) (Or.inl ⟨by rfl, ?_⟩) ?_ ?_
                      rotate_left
                      · intro w'
                        go_simp
                        with_reducible rfl
                      rotate_left
                      · simp only [Act.put, List.setIfInBounds_toArray, List.set_cons_zero, List.set_cons_succ]
                        rfl
                      refine pure_ (i := 5) (N := some 137) (v := ?_) (a' := ?_) #[true, true, false, false, true, true, false, false] rfl rfl (by kernel_rfl) (fun _ _ _ h => h) (Or.inl ⟨by rfl, ?_⟩) ?_ ?_
                      rotate_left
                      · intro w'
                        go_simp
                        with_reducible rfl
                      rotate_left
                      · simp only [Act.put, List.setIfInBounds_toArray, List.set_cons_zero, List.set_cons_succ]
                        rfl
                      refine take_ (i := 6) (N := some 138) (v := ?_) (a' := ?_) #[true, true, false, false, true, true, true, false] rfl rfl (by kernel_rfl) (fun _ _ _ h => h) (Or.inl ⟨by rfl, ?_⟩) hHeld ?_ ?_
                      rotate_left
                      · rintro w' ⟨s0, s1, s2⟩
                        go_simp
                        with_reducible rfl
                      rotate_left
                      · simp only [Act.put, List.setIfInBounds_toArray, List.set_cons_zero, List.set_cons_succ]
                        rfl
                      refine one_ (i := 2) (N := some 134) #[true, true, true, false, true, true, true, false] rfl rfl (by kernel_rfl) (by decide) (fun K hK => ?_)
                      refine goes_ Try.func25 (by kernel_rfl) rfl #[.pointer (some ⟨g, 0, none⟩), .int .u32 (q : Int)] (by rfl) rfl rfl (by simp only [List.map_toArray, List.map_cons, List.map_nil]; rfl) ?_
                      with_reducible refine (close_calls q _ HSD.out.led hq0 hq1 HQK.out HSD.out.bel.size HNM.out).mono ?_
                      rintro e w8 ⟨rfl, hL8, hF8⟩
                      refine ⟨_, rfl, ?_⟩
                      rw [HFQ.out]
                      have hS8 := HSD.out.fl hL8 hF8
                      obtain ⟨r0, r1, r2⟩ := hS8.have_.at hq4
                      rw [HFQ.out] at r0 r1 r2
                      refine hK.out _ _ ⟨r0, r1, r2⟩ (fun hHeld => ?_)
                      clear hK K
                      refine norm_ (a' := ?_) ?_ ?_
                      rotate_left
                      · show Act.put _ (some 134) _ = _
                        simp only [Act.put, List.setIfInBounds_toArray, List.set_cons_zero, List.set_cons_succ]
                        rfl
                      refine one_ (i := 3) (N := some 135) #[true, true, true, true, true, true, true, false] rfl rfl (by kernel_rfl) (by decide) (fun K hK => ?_)
                      refine goes_ Try.func17 (by kernel_rfl) rfl #[bill p1 p2 p3] (by rfl) rfl rfl (by simp only [List.map_toArray, List.map_cons, List.map_nil]; rfl) ?_
                      with_reducible refine (three_calls _ _ _ _).mono ?_
                      rintro e w9 ⟨rfl, hB9⟩
                      refine ⟨_, rfl, ?_⟩
                      have hS9 := hS8.below hB9
                      obtain ⟨s0, s1, s2⟩ := hS9.have_.at hq4
                      rw [HFQ.out] at s0 s1 s2
                      refine hK.out _ _ ⟨s0, s1, s2⟩ (fun hHeld => ?_)
                      clear hK K
                      refine norm_ (a' := ?_) ?_ ?_
                      rotate_left
                      · show Act.put _ (some 135) _ = _
                        simp only [Act.put, List.setIfInBounds_toArray, List.set_cons_zero, List.set_cons_succ]
                        rfl
                      refine pure_ (i := 7) (N := some 139) (v := ?_) (a' := ?_) #[true, true, true, true, true, true, true, true] rfl rfl (by kernel_rfl) (fun _ _ _ h => h) (Or.inl ⟨by rfl, ?_⟩) ?_ ?_
                      rotate_left
                      · intro w'
                        go_simp
                        with_reducible rfl
                      rotate_left
                      · simp only [Act.put, List.setIfInBounds_toArray, List.set_cons_zero, List.set_cons_succ]
                        rfl
                      refine done_ (by kernel_rfl) ?_

                      have HS9 := Lib.hid hS9
                      obtain ⟨z0, z1, z2⟩ := hS9.have_.fro hq4
                      clear hS8 hL8 hF8 hB9 hS9 k0 k1 k2 r0 r1 r2
                      go_wp2_with fail
                      go_meet
                      have hS1 := HS9.out.set (q * 3) (.int .i64 0) (f3 := part f q 0 0 0 1) (H4.put hq4 0 (by omega) (by rw [part_0]; exact HS9.out.have_))
                      have hS2 := hS1.set (q * 3 + 1) (.int .i64 0) (H4.put hq4 1 (by omega) hS1.have_)
                      have hS3 := hS2.set (q * 3 + 2) (.int .i64 0) (H4.put hq4 2 (by omega) hS2.have_)
                      rw [← part_3] at hS3
                      exact ⟨n + 1, part f q 0 0 0 3, by omega, bnd_part HBD.out ⟨by omega, by omega, by omega, by omega, by omega, by omega⟩, hS3⟩
                      )
                  case rest =>
                    as_aux_lemma => (
                    clear d0 d1 d2 d3 d4
                    obtain ⟨n', f', hn', hbd', hS'⟩ := hcut
                    have HS' := Lib.hid hS'
                    have HB' := Lib.hid hbd'
                    have y0 := blk_cell (blk_alloc hS'.have_ (.cells #[.int .i64 0, .int .i64 0, .int .i64 0] 26)) 0
                    have y1 := blk_cell (blk_alloc hS'.have_ (.cells #[.int .i64 0, .int .i64 0, .int .i64 0] 26)) 1
                    have y2 := blk_cell (blk_alloc hS'.have_ (.cells #[.int .i64 0, .int .i64 0, .int .i64 0] 26)) 2
                    have y3 := blk_cell (blk_alloc hS'.have_ (.cells #[.int .i64 0, .int .i64 0, .int .i64 0] 26)) 3
                    have y4 := blk_cell (blk_alloc hS'.have_ (.cells #[.int .i64 0, .int .i64 0, .int .i64 0] 26)) 4
                    have y5 := blk_cell (blk_alloc hS'.have_ (.cells #[.int .i64 0, .int .i64 0, .int .i64 0] 26)) 5
                    have y6 := blk_cell (blk_alloc hS'.have_ (.cells #[.int .i64 0, .int .i64 0, .int .i64 0] 26)) 6
                    have y7 := blk_cell (blk_alloc hS'.have_ (.cells #[.int .i64 0, .int .i64 0, .int .i64 0] 26)) 7
                    have y8 := blk_cell (blk_alloc hS'.have_ (.cells #[.int .i64 0, .int .i64 0, .int .i64 0] 26)) 8
                    have y9 := blk_cell (blk_alloc hS'.have_ (.cells #[.int .i64 0, .int .i64 0, .int .i64 0] 26)) 9
                    have y10 := blk_cell (blk_alloc hS'.have_ (.cells #[.int .i64 0, .int .i64 0, .int .i64 0] 26)) 10
                    have y11 := blk_cell (blk_alloc hS'.have_ (.cells #[.int .i64 0, .int .i64 0, .int .i64 0] 26)) 11
                    clear hS' hbd'
                    go_wp2_with fail
                    clear y0 y1 y2 y3 y4 y5 y6 y7 y8 y9 y10 y11
                    have hsl : w.heap.size ≤ wc.heap.size := HS'.out.bel.size
                    have hst : w3.heap.size ≠ wc.heap.size := by have : w3.heap.size < wc.heap.size := blk_lt HS'.out.top; omega
                    have HSA := Lib.hid (HS'.out.below (below_alloc (Below.refl _ _) (.cells #[.int .i64 0, .int .i64 0, .int .i64 0] 26)))
                    have HTA := Lib.hid (blk_new wc (.cells #[.int .i64 0, .int .i64 0, .int .i64 0] 26))
                    go_loopw [200] (fun i wx => ∃ (j6 n2 : Nat), i = .int .i64 j6 ∧ j6 ≤ 4 ∧ n2 ≤ n' + j6 ∧ ST w wx g w3.heap.size (w3.heap.size + 1) m1 m2 m3 n2 f' f' ∧ T3 wx wc.heap.size (Sg (fun k => (f' k).1) j6) (Sg (fun k => (f' k).2.1) j6) (Sg (fun k => (f' k).2.2) j6)) (fun i _ => 4 - (intOf i).toNat)
                    case atStart => exact ⟨0, n', rfl, by omega, by omega, HSA.out, HTA.out⟩
                    case round =>
                      as_aux_lemma => (
                      obtain ⟨j6, n2, rfl, hj6, hn2, hS8, hT8⟩ := hrel
                      have HS8 := Lib.hid hS8
                      obtain ⟨wy, rfl⟩ : ∃ wy : World, wy = wr := ⟨_, rfl⟩
                      have HNM2 := Lib.hid (show n2 < maxLen by unfold maxLen; omega)
                      by_cases hlt6 : j6 < 4
                      · obtain ⟨⟨r1, r2, r3⟩, hfr⟩ : ∃ r, f' j6 = r := ⟨_, rfl⟩
                        obtain ⟨s1, e1⟩ : ∃ s, Sg (fun k => (f' k).1) j6 = s := ⟨_, rfl⟩
                        obtain ⟨s2, e2⟩ : ∃ s, Sg (fun k => (f' k).2.1) j6 = s := ⟨_, rfl⟩
                        obtain ⟨s3, e3⟩ : ∃ s, Sg (fun k => (f' k).2.2) j6 = s := ⟨_, rfl⟩
                        rw [e1, e2, e3] at hT8
                        have HT8 := Lib.hid hT8
                        have hbr := HB'.out j6
                        rw [hfr] at hbr
                        obtain ⟨br1, br2, br3, br4, br5, br6⟩ := hbr
                        have ix4 : ∀ V, (Instr.index 37 (.agg #[.int .i64 (f' 0).1, .int .i64 (f' 0).2.1, .int .i64 (f' 0).2.2, .int .i64 (f' 1).1, .int .i64 (f' 1).2.1, .int .i64 (f' 1).2.2, .int .i64 (f' 2).1, .int .i64 (f' 2).2.1, .int .i64 (f' 2).2.2, .int .i64 (f' 3).1, .int .i64 (f' 3).2.1, .int .i64 (f' 3).2.2]) (.int .i64 (j6 : Int))).run Try.prog V = .ok (bill r1 r2 r3) V := by
                          intro V
                          have h1 := row_at f' j6 hlt6 V
                          rw [hfr] at h1
                          exact h1
                        have HFR := Lib.hid hfr
                        have E1 := Lib.hid e1
                        have E2 := Lib.hid e2
                        have E3 := Lib.hid e3
                        have HQ6 := Lib.hid (show (j6 : Int) ∈ [(0 : Int), 1, 2, 3] by
                          clear hS8 hT8 hfr e1 e2 e3 hj6 hn2 ix4
                          rcases (by omega : j6 = 0 ∨ j6 = 1 ∨ j6 = 2 ∨ j6 = 3) with rfl | rfl | rfl | rfl <;> decide)
                        clear hfr e1 e2 e3 hS8 hT8
                        go_wp2_with fail
                        have hsr : wc.heap.size < wy.heap.size := blk_lt HT8.out
                        have hrs : wy.heap.size ≠ wc.heap.size := by omega
                        go_loopw [205] (fun i wx => ∃ j7 : Nat, i = .int .i64 j7 ∧ j7 ≤ 3 ∧ ST w wx g w3.heap.size (w3.heap.size + 1) m1 m2 m3 n2 f' f' ∧ T3 wx wc.heap.size (if 0 < j7 then wi (s1 + r1) else s1) (if 1 < j7 then wi (s2 + r2) else s2) (if 2 < j7 then wi (s3 + r3) else s3) ∧ T3 wx wy.heap.size r1 r2 r3) (fun i _ => 3 - (intOf i).toNat)
                        case atStart => exact ⟨0, rfl, by omega, HS8.out.below (below_alloc (Below.refl _ _) _), blk_alloc HT8.out _, blk_new wy _⟩
                        case round =>
                          as_aux_lemma => (
                          obtain ⟨j7, rfl, hj7, hS9, hT9, hR9⟩ := hrel
                          have HS9 := Lib.hid hS9
                          have HT9 := Lib.hid hT9
                          have HR9 := Lib.hid hR9
                          have t0 := blk_cell hS9.top 0
                          have t1 := blk_cell hS9.top 1
                          have t2 := blk_cell hS9.top 2
                          have z0 := blk_frozen hT9 0
                          have z1 := blk_frozen hT9 1
                          have z2 := blk_frozen hT9 2
                          have y0 := blk_cell hT9 0
                          have y1 := blk_cell hT9 1
                          have y2 := blk_cell hT9 2
                          clear hS9 hT9 hR9 ix4
                          rcases (by omega : j7 = 0 ∨ j7 = 1 ∨ j7 = 2 ∨ j7 = 3) with rfl | rfl | rfl | rfl
                          · have ix : ∀ (xx yy zz : Int) (V : World), (Instr.index 26 (bill xx yy zz) (.int .i64 0)).run Try.prog V = .ok (.int .i64 xx) V := fun _ _ _ _ => by kernel_rfl
                            go_wp2
                            go_roundw
                            case rel => exact ⟨1, by simp, by omega, HS9.out.far HT9.out hsl hst _ _, blk_put HT9.out 0 _ rfl, blk_far HR9.out hrs _⟩
                            case measure => simp [intOf]
                          · have ix : ∀ (xx yy zz : Int) (V : World), (Instr.index 26 (bill xx yy zz) (.int .i64 1)).run Try.prog V = .ok (.int .i64 yy) V := fun _ _ _ _ => by kernel_rfl
                            go_wp2
                            go_roundw
                            case rel => exact ⟨2, by simp, by omega, HS9.out.far HT9.out hsl hst _ _, blk_put HT9.out 1 _ rfl, blk_far HR9.out hrs _⟩
                            case measure => simp [intOf]
                          · have ix : ∀ (xx yy zz : Int) (V : World), (Instr.index 26 (bill xx yy zz) (.int .i64 2)).run Try.prog V = .ok (.int .i64 zz) V := fun _ _ _ _ => by kernel_rfl
                            go_wp2
                            go_roundw
                            case rel => exact ⟨3, by simp, by omega, HS9.out.far HT9.out hsl hst _ _, blk_put HT9.out 2 _ rfl, blk_far HR9.out hrs _⟩
                            case measure => simp [intOf]
                          · clear t0 t1 t2 y0 y1 y2 z0 z1 z2
                            have hkw : (j6 : Int) % 4294967296 = j6 := by omega
                            have q3 : ∀ (a b c : Int) (V : World), (Op.equalIn 10000 26 (bill a b c) (bill a b c)).run Try.prog V = .ok true V := fun a b c V => by rw [eq3]; simp
                            have HTT := Lib.hid (show T3 wr wc.heap.size (wi (s1 + r1)) (wi (s2 + r2)) (wi (s3 + r3)) from HT9.out)
                            have HSD := Lib.hid (HS9.out.below (below_drew1 (Below.refl _ _)))
                            have HRD := Lib.hid (blk_below HR9.out (below_drew1 (Below.refl _ _)))
                            have HTD := Lib.hid (blk_below HTT.out (below_drew1 (Below.refl _ _)))
                            have hj60 : (0 : Int) ≤ j6 := by omega
                            have hj61 : (j6 : Int) ≤ 4294967295 := by omega
                            have HHAS := Lib.hid (show ∀ V, LX w.heap.size V g n2 (m1, m2, m3) [0, 1, 2, 3] f' → w.heap.size ≤ V.heap.size → Calls Try.prog 26 #[.pointer (some ⟨g, 0, none⟩), .int .u32 ((j6 : Int) % 4294967296)] V fun e w' => e = .returned (bill (f' j6).1 (f' j6).2.1 (f' j6).2.2) ∧ (∃ a, LA w.heap.size w' g (n2 + 1) (m1, m2, m3) [0, 1, 2, 3] f' j6 a) ∧ Fl w.heap.size V w' from fun V h hB => by rw [hkw]; exact has_calls j6 V h hj60 hj61 HQ6.out hB HNM2.out)
                            clear hkw
                            go_wp2
                            refine start_ (n := 7) (S := fun w' => w'.cell? ⟨wy.heap.size, 0, none⟩ = some (.int .i64 r1) ∧ w'.cell? ⟨wy.heap.size, 1, none⟩ = some (.int .i64 r2) ∧ w'.cell? ⟨wy.heap.size, 2, none⟩ = some (.int .i64 r3)) (ds := []) #[false, false, false, false, false, false, false] (by kernel_rfl) rfl rfl ⟨(blk_cell HRD.out 0), (blk_cell HRD.out 1), (blk_cell HRD.out 2)⟩ (fun hHeld => ?_)
                            refine pure_ (i := 0) (N := some 221) (v := ?_) (a' := ?_) #[true, false, false, false, false, false, false] rfl rfl (by kernel_rfl) (fun _ _ _ h => h) (Or.inl ⟨by rfl, ?_⟩) ?_ ?_
                            rotate_left
                            · intro w'
                              go_simp
                              with_reducible rfl
                            rotate_left
                            · simp only [Act.put, List.setIfInBounds_toArray, List.set_cons_zero, List.set_cons_succ]
                              rfl
                            refine pure_ (i := 1) (N := some 222) (v := ?_) (a' := ?_) #[true, true, false, false, false, false, false] rfl rfl (by kernel_rfl) (fun _ _ _ h => h) (Or.inl ⟨by rfl, ?_⟩) ?_ ?_
                            rotate_left
                            · intro w'
                              go_simp
                              with_reducible rfl
                            rotate_left
                            · simp only [Act.put, List.setIfInBounds_toArray, List.set_cons_zero, List.set_cons_succ]
                              rfl
                            refine pure_ (i := 2) (N := some 223) (v := ?_) (a' := ?_) #[true, true, true, false, false, false, false] rfl rfl (by kernel_rfl) (fun _ _ _ h => h) (Or.inl ⟨by rfl, ?_⟩) ?_ ?_
                            rotate_left
                            · intro w'
                              go_simp
                              with_reducible rfl
                            rotate_left
                            · simp only [Act.put, List.setIfInBounds_toArray, List.set_cons_zero, List.set_cons_succ]
                              rfl
                            refine take_ (i := 5) (N := some 226) (v := ?_) (a' := ?_) #[true, true, true, false, false, true, false] rfl rfl (by kernel_rfl) (fun _ _ _ h => h) (Or.inl ⟨by rfl, ?_⟩) hHeld ?_ ?_
                            rotate_left
                            · rintro w' ⟨s0, s1, s2⟩
                              go_simp
                              with_reducible rfl
                            rotate_left
                            · simp only [Act.put, List.setIfInBounds_toArray, List.set_cons_zero, List.set_cons_succ]
                              rfl
                            refine one_ (i := 3) (N := some 224) #[true, true, true, true, false, true, false] rfl rfl (by kernel_rfl) (by decide) (fun K hK => ?_)
                            refine goes_ Try.func26 (by kernel_rfl) rfl #[.pointer (some ⟨g, 0, none⟩), .int .u32 ((j6 : Int) % 4294967296)] (by rfl) rfl rfl (by simp only [List.map_toArray, List.map_cons, List.map_nil]; rfl) ?_
                            with_reducible refine (HHAS.out _ HSD.out.led HSD.out.bel.size).mono ?_
                            rintro e w8 ⟨rfl, ⟨a8, hA8⟩, hF8⟩
                            refine ⟨_, rfl, ?_⟩
                            rw [HFR.out]
                            have hS8 := HSD.out.fl hA8.lx hF8
                            have hR8 := hF8.blk HRD.out (Lt.no HRD.out (by decide))
                            have hT8 := hF8.blk HTD.out (Lt.no HTD.out (by decide))
                            refine hK.out _ _ ⟨(blk_cell hR8 0), (blk_cell hR8 1), (blk_cell hR8 2)⟩ (fun hHeld => ?_)
                            clear hK K
                            refine norm_ (a' := ?_) ?_ ?_
                            rotate_left
                            · show Act.put _ (some 224) _ = _
                              simp only [Act.put, List.setIfInBounds_toArray, List.set_cons_zero, List.set_cons_succ]
                              rfl
                            refine one_ (i := 4) (N := some 225) #[true, true, true, true, true, true, false] rfl rfl (by kernel_rfl) (by decide) (fun K hK => ?_)
                            refine goes_ Try.func17 (by kernel_rfl) rfl #[bill r1 r2 r3] (by rfl) rfl rfl (by simp only [List.map_toArray, List.map_cons, List.map_nil]; rfl) ?_
                            with_reducible refine (three_calls _ _ _ _).mono ?_
                            rintro e w9 ⟨rfl, hB9⟩
                            refine ⟨_, rfl, ?_⟩
                            have hR9 := blk_below hR8 hB9
                            refine hK.out _ _ ⟨(blk_cell hR9 0), (blk_cell hR9 1), (blk_cell hR9 2)⟩ (fun hHeld => ?_)
                            clear hK K
                            refine norm_ (a' := ?_) ?_ ?_
                            rotate_left
                            · show Act.put _ (some 225) _ = _
                              simp only [Act.put, List.setIfInBounds_toArray, List.set_cons_zero, List.set_cons_succ]
                              rfl
                            refine pure_ (i := 6) (N := some 227) (v := ?_) (a' := ?_) #[true, true, true, true, true, true, true] rfl rfl (by kernel_rfl) (fun _ _ _ h => h) (Or.inl ⟨by rfl, ?_⟩) ?_ ?_
                            rotate_left
                            · intro w'
                              go_simp
                              with_reducible rfl
                            rotate_left
                            · simp only [Act.put, List.setIfInBounds_toArray, List.set_cons_zero, List.set_cons_succ]
                              rfl
                            refine done_ (by kernel_rfl) ?_

                            have HS10 := Lib.hid (hS8.below hB9)
                            have HT10 := Lib.hid (blk_below hT8 hB9)
                            clear hA8 hF8 hS8 hR8 hT8 hB9 hR9
                            go_wp2
                            go_roundw
                            case rel =>
                              refine ⟨j6 + 1, n2 + 1, by simp, by omega, by omega, HS10.out, ?_⟩
                              show T3 _ _ (wi (Sg (fun k => (f' k).1) j6 + (f' j6).1)) (wi (Sg (fun k => (f' k).2.1) j6 + (f' j6).2.1)) (wi (Sg (fun k => (f' k).2.2) j6 + (f' j6).2.2))
                              rw [E1.out, E2.out, E3.out, HFR.out]
                              exact HT10.out
                            case measure => simp [intOf]; omega
                          )
                      · obtain rfl : j6 = 4 := by omega
                        rw [Sg_4, Sg_4, Sg_4] at hT8
                        have hsum := fun (V : World) (hL : LX w.heap.size V g n2 (m1, m2, m3) [0, 1, 2, 3] f') (hB : w.heap.size ≤ V.heap.size) => sum_calls V hL (by decide) hB
                        obtain ⟨u1, hu1⟩ : ∃ v, wi (sumK [0, 1, 2, 3] (fun _ => true) fun k => (f' k).1) = v := ⟨_, rfl⟩
                        obtain ⟨u2, hu2⟩ : ∃ v, wi (sumK [0, 1, 2, 3] (fun _ => true) fun k => (f' k).2.1) = v := ⟨_, rfl⟩
                        obtain ⟨u3, hu3⟩ : ∃ v, wi (sumK [0, 1, 2, 3] (fun _ => true) fun k => (f' k).2.2) = v := ⟨_, rfl⟩
                        rw [hu1, hu2, hu3] at hT8 hsum
                        have HSUM := Lib.hid hsum
                        have q3 : ∀ (a b c : Int) (V : World), (Op.equalIn 10000 26 (bill a b c) (bill a b c)).run Try.prog V = .ok true V := fun a b c V => by rw [eq3]; simp
                        have HSD := Lib.hid (HS8.out.below (below_drew1 (Below.refl _ _)))
                        have HTD := Lib.hid (blk_below hT8 (below_drew1 (Below.refl _ _)))
                        clear hu1 hu2 hu3 hsum hS8 hT8
                        go_wp2
                        refine start_ (n := 5) (S := fun w' => w'.cell? ⟨wc.heap.size, 0, none⟩ = some (.int .i64 u1) ∧ w'.cell? ⟨wc.heap.size, 1, none⟩ = some (.int .i64 u2) ∧ w'.cell? ⟨wc.heap.size, 2, none⟩ = some (.int .i64 u3)) (ds := []) #[false, false, false, false, false] (by kernel_rfl) rfl rfl ⟨(blk_cell HTD.out 0), (blk_cell HTD.out 1), (blk_cell HTD.out 2)⟩ (fun hHeld => ?_)
                        refine pure_ (i := 0) (N := some 229) (v := ?_) (a' := ?_) #[true, false, false, false, false] rfl rfl (by kernel_rfl) (fun _ _ _ h => h) (Or.inl ⟨by rfl, ?_⟩) ?_ ?_
                        rotate_left
                        · intro w'
                          go_simp
                          with_reducible rfl
                        rotate_left
                        · simp only [Act.put, List.setIfInBounds_toArray, List.set_cons_zero, List.set_cons_succ]
                          rfl
                        refine take_ (i := 3) (N := some 232) (v := ?_) (a' := ?_) #[true, false, false, true, false] rfl rfl (by kernel_rfl) (fun _ _ _ h => h) (Or.inl ⟨by rfl, ?_⟩) hHeld ?_ ?_
                        rotate_left
                        · rintro w' ⟨s0, s1, s2⟩
                          go_simp
                          with_reducible rfl
                        rotate_left
                        · simp only [Act.put, List.setIfInBounds_toArray, List.set_cons_zero, List.set_cons_succ]
                          rfl
                        refine one_ (i := 1) (N := some 230) #[true, true, false, true, false] rfl rfl (by kernel_rfl) (by decide) (fun K hK => ?_)
                        refine goes_ Try.func27 (by kernel_rfl) rfl #[.pointer (some ⟨g, 0, none⟩)] (by rfl) rfl rfl (by simp only [List.map_toArray, List.map_cons, List.map_nil]; rfl) ?_
                        with_reducible refine (HSUM.out _ HSD.out.led HSD.out.bel.size).mono ?_
                        rintro e w8 ⟨rfl, hB8⟩
                        refine ⟨_, rfl, ?_⟩
                        have hT8 := blk_below HTD.out hB8
                        refine hK.out _ _ ⟨(blk_cell hT8 0), (blk_cell hT8 1), (blk_cell hT8 2)⟩ (fun hHeld => ?_)
                        clear hK K
                        refine norm_ (a' := ?_) ?_ ?_
                        rotate_left
                        · show Act.put _ (some 230) _ = _
                          simp only [Act.put, List.setIfInBounds_toArray, List.set_cons_zero, List.set_cons_succ]
                          rfl
                        refine one_ (i := 2) (N := some 231) #[true, true, true, true, false] rfl rfl (by kernel_rfl) (by decide) (fun K hK => ?_)
                        refine goes_ Try.func17 (by kernel_rfl) rfl #[bill u1 u2 u3] (by rfl) rfl rfl (by simp only [List.map_toArray, List.map_cons, List.map_nil]; rfl) ?_
                        with_reducible refine (three_calls _ _ _ _).mono ?_
                        rintro e w9 ⟨rfl, hB9⟩
                        refine ⟨_, rfl, ?_⟩
                        have hT9 := blk_below hT8 hB9
                        refine hK.out _ _ ⟨(blk_cell hT9 0), (blk_cell hT9 1), (blk_cell hT9 2)⟩ (fun hHeld => ?_)
                        clear hK K
                        refine norm_ (a' := ?_) ?_ ?_
                        rotate_left
                        · show Act.put _ (some 231) _ = _
                          simp only [Act.put, List.setIfInBounds_toArray, List.set_cons_zero, List.set_cons_succ]
                          rfl
                        refine pure_ (i := 4) (N := some 233) (v := ?_) (a' := ?_) #[true, true, true, true, true] rfl rfl (by kernel_rfl) (fun _ _ _ h => h) (Or.inl ⟨by rfl, ?_⟩) ?_ ?_
                        rotate_left
                        · intro w'
                          go_simp
                          with_reducible rfl
                        rotate_left
                        · simp only [Act.put, List.setIfInBounds_toArray, List.set_cons_zero, List.set_cons_succ]
                          rfl
                        refine done_ (by kernel_rfl) ?_

                        have HS10 := Lib.hid ((HSD.out.below hB8).below hB9)
                        clear hB8 hB9 hT8 hT9
                        go_wp2
                        go_roundw
                        case rel => exact ⟨j + 1, n2, f', by simp, by omega, by omega, HB'.out, HS10.out⟩
                        case measure => simp [intOf]; omega
                      )
                    )
        · obtain rfl : j = l.length := by omega
          go_wp2
          go_ret
          exact ⟨rfl, HS.out.bel⟩
theorem walk (x0_0 : Int) (x0_1 : Int) (x0_2 : Int) (A1 : Option Addr) (c1 : Nat) (x1 : List ((Int) × (Int) × ((Int) × (Int) × (Int)))) (W : World) (p0_0 : (IntKind.i64.min ≤ x0_0 ∧ x0_0 ≤ IntKind.i64.max)) (p0_1 : (IntKind.i64.min ≤ x0_1 ∧ x0_1 ≤ IntKind.i64.max)) (p0_2 : (IntKind.i64.min ≤ x0_2 ∧ x0_2 ≤ IntKind.i64.max)) (l1 : x1.length ≤ c1) (C1 : Kd.C (Kd.pair (Kd.int .u8) (Kd.pair (Kd.int .u32) (Kd.pair (Kd.int .i64) (Kd.pair (Kd.int .i64) (Kd.int .i64))))) W A1 x1.length x1) (p1 : (x1.length ≤ maxLen ∧ x1.length * Try.prog.bytesOf 40 ≤ 140737488351232 ∧ ∀ x : Int × Int × Int × Int × Int, x ∈ x1 → ((IntKind.u8.min ≤ x.1 ∧ x.1 ≤ IntKind.u8.max) ∧ ((IntKind.u32.min ≤ x.2.1 ∧ x.2.1 ≤ IntKind.u32.max) ∧ ((IntKind.i64.min ≤ x.2.2.1 ∧ x.2.2.1 ≤ IntKind.i64.max) ∧ ((IntKind.i64.min ≤ x.2.2.2.1 ∧ x.2.2.2.1 ≤ IntKind.i64.max) ∧ (IntKind.i64.min ≤ x.2.2.2.2 ∧ x.2.2.2.2 ≤ IntKind.i64.max))))))) :
    Calls Try.prog 4 #[.agg #[.int .i64 x0_0, .int .i64 x0_1, .int .i64 x0_2], .slice A1 x1.length c1] W fun e W' => e = .returned (.bool true) ∧ Below W.heap.size W W' := by
  have hb1 := p1.2.1
  have hby : 1 ≤ Try.prog.bytesOf 40 := by rw [show Try.prog.bytesOf 40 = 32 by kernel_rfl]; omega
  by_cases hl : 100 < x1.length
  · exact long_ x0_0 x0_1 x0_2 A1 x1.length c1 W (by have := Nat.le_mul_of_pos_right x1.length hby; omega) hl
  · cases hb : okN x0_0 && okN x0_1 && okN x0_2
    · exact bad x0_0 x0_1 x0_2 A1 x1.length c1 W (by omega) hb
    · simp only [Bool.and_eq_true] at hb
      exact main x0_0 x0_1 x0_2 A1 c1 x1 W C1 (by omega) ⟨hb.1.1, hb.1.2, hb.2⟩ (fun x hx => ⟨(p1.2.2 x hx).1.1, (p1.2.2 x hx).2.1.1⟩)
end Go.Proofs.Ytaoacibahdbdkaa.LedX
