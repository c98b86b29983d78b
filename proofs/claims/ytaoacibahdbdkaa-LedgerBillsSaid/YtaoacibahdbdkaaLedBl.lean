/- ledger: the law LedgerBills, walked. -/
import Derived.Test.YtaoacibahdbdkaaLedN
import Derived.Test.YtaoacibahdbdkaaArrEq
import Derived.Handy
import Derived.Deep.DeepCutAuto
import Derived.Deep.CutRange
namespace Go.Proofs.Ytaoacibahdbdkaa.LedBl
open Go.RowKit Go Go.Proofs.YtaoacibahdbdkaaW.PrintWords Go.Proofs.YtaoacibahdbdkaaW.PrintMore Go.Proofs.YtaoacibahdbdkaaW.PrintLast Go.Proofs.Ytaoacibahdbdkaa.Bts Go.Proofs.Ytaoacibahdbdkaa.Fra Go.Maps Go.Proofs.Ytaoacibahdbdkaa.Led
abbrev A3 (w : World) (b : Nat) (x y z : Int) : Prop := w.heap[b]? = some (.cells #[.int .i64 x, .int .i64 y, .int .i64 z] 26 (0, 0))
abbrev B3 (w : World) (b : Nat) (x y z : Int) : Prop := w.heap[b]? = some (.cells #[.int .i64 x, .int .i64 y, .int .i64 z] 23 (0, 0))
/-- A block that is new. -/
def New1 (w w' : World) (b : Nat) (x y z : Int) : Prop := A3 w' b x y z ∧ w.heap.size ≤ b
structure Two (w w' : World) (s t : Value) (x y z p q r : Int) : Prop where
  at_ : ∃ b c : Nat, s = .pointer (some ⟨b, 0, none⟩) ∧ t = .pointer (some ⟨c, 0, none⟩) ∧ b ≠ c ∧ w.heap.size ≤ b ∧ w.heap.size ≤ c ∧ A3 w' b x y z ∧ A3 w' c p q r
  bel : Below w.heap.size w w'
theorem bcell {W w1 : World} (hb : Below W.heap.size W w1) : (∀ b o, b < W.heap.size → w1.cell? ⟨b, o, none⟩ = W.cell? ⟨b, o, none⟩) ∧ (∀ b o, b < W.heap.size → w1.frozen? ⟨b, o, none⟩ = W.frozen? ⟨b, o, none⟩) :=
  ⟨fun b o h => hb.cell (p := ⟨b, o, none⟩) h, fun b o h => hb.frozen (p := ⟨b, o, none⟩) h⟩
theorem blk_newAt {w : World} {o : Obj} {b : Nat} (h : b = w.heap.size) : (w.alloc o).heap[b]? = some o := by rw [h]; exact blk_new w o
theorem A3.set3 {w : World} {b : Nat} {x y z x' y' z' : Int} (h : A3 w b x y z) : A3 (((w.setCell ⟨b, 0, none⟩ (.int .i64 x')).setCell ⟨b, 1, none⟩ (.int .i64 y')).setCell ⟨b, 2, none⟩ (.int .i64 z')) b x' y' z' := ret3 h _ _ _
theorem A3.far3 {w : World} {b c : Nat} {x y z : Int} {u v t : Value} (h : A3 w b x y z) (hne : b ≠ c) : A3 (((w.setCell ⟨c, 0, none⟩ u).setCell ⟨c, 1, none⟩ v).setCell ⟨c, 2, none⟩ t) b x y z :=
  blk_far (blk_far (blk_far h hne _) hne _) hne _
theorem below3 {B : Nat} {w w' : World} {c : Nat} {u v t : Value} (h : Below B w w') (hB : B ≤ w.heap.size) (hc : B ≤ c) : Below B w (((w'.setCell ⟨c, 0, none⟩ u).setCell ⟨c, 1, none⟩ v).setCell ⟨c, 2, none⟩ t) :=
  Fr.below (S := fun j => B ≤ j) (Fr.then_ (Fr.of_below h (fun j hj => .inl hj)) (fr3 w' c u v t) (fun j e => .inl (by omega))) (fun j h => h) hB
theorem eq3 (a b c x y z : Int) (w : World) : (Op.equalIn 10000 26 (bill a b c) (bill x y z)).run Try.prog w = .ok (a == x && b == y && c == z) w :=
  ArrEq.equalIn_arr3 9998 Try.underlying26 Try.underlying3 w a b c x y z (by kernel_rfl) (fun _ _ _ => ⟨by kernel_rfl, by kernel_rfl, by kernel_rfl⟩)
/-- How far the rounds have come: k of three. -/
structure Good (x y : Int × Int × Int) (l : List (Int × Int × Int)) (k : Nat) (u v : Int × Int × Int) (wn rt : Bool) : Prop where
  u0 : u.1 = if 0 < k then (sumB l x).1 else x.1
  u1 : u.2.1 = if 1 < k then (sumB l x).2.1 else x.2.1
  u2 : u.2.2 = if 2 < k then (sumB l x).2.2 else x.2.2
  v0 : v.1 = if 0 < k then wi (x.1 - y.1) else x.1
  v1 : v.2.1 = if 1 < k then wi (x.2.1 - y.2.1) else x.2.1
  v2 : v.2.2 = if 2 < k then wi (x.2.2 - y.2.2) else x.2.2
  wn_ : wn = ((decide (0 < k) → x.1 ≤ y.1) ∧ (decide (1 < k) → x.2.1 ≤ y.2.1) ∧ (decide (2 < k) → x.2.2 ≤ y.2.2) : Bool)
  rt_ : rt = ((decide (0 < k) → 0 ≤ x.1) ∧ (decide (1 < k) → 0 ≤ x.2.1) ∧ (decide (2 < k) → 0 ≤ x.2.2) : Bool)
theorem good0 (x y : Int × Int × Int) (l : List (Int × Int × Int)) : Good x y l 0 (x.1, x.2.1, x.2.2) (x.1, x.2.1, x.2.2) true true := by
  constructor <;> simp
theorem Good.at_0 {x y u v : Int × Int × Int} {l : List (Int × Int × Int)} {wn rt : Bool} (h : Good x y l 0 u v wn rt) : u.1 = x.1 ∧ v.1 = x.1 := ⟨h.u0, h.v0⟩
theorem Good.at_1 {x y u v : Int × Int × Int} {l : List (Int × Int × Int)} {wn rt : Bool} (h : Good x y l 1 u v wn rt) : u.2.1 = x.2.1 ∧ v.2.1 = x.2.1 := ⟨h.u1, h.v1⟩
theorem Good.at_2 {x y u v : Int × Int × Int} {l : List (Int × Int × Int)} {wn rt : Bool} (h : Good x y l 2 u v wn rt) : u.2.2 = x.2.2 ∧ v.2.2 = x.2.2 := ⟨h.u2, h.v2⟩
theorem Good.to_1 {x y : Int × Int × Int} {u0 u1 u2 v0 v1 v2 : Int} {l : List (Int × Int × Int)} {wn rt : Bool} (h : Good x y l 0 (u0, u1, u2) (v0, v1, v2) wn rt) {a b : Int} (ha : a = (sumB l x).1) (hb : b = wi (x.1 - y.1)) : Good x y l 1 (a, u1, u2) (b, v1, v2) (wn && decide (x.1 ≤ y.1)) (rt && decide (0 ≤ x.1)) := by
  obtain ⟨h1, h2, h3, h4, h5, h6, h7, h8⟩ := h
  subst ha hb
  constructor <;> simp_all
theorem Good.to_2 {x y : Int × Int × Int} {u0 u1 u2 v0 v1 v2 : Int} {l : List (Int × Int × Int)} {wn rt : Bool} (h : Good x y l 1 (u0, u1, u2) (v0, v1, v2) wn rt) {a b : Int} (ha : a = (sumB l x).2.1) (hb : b = wi (x.2.1 - y.2.1)) : Good x y l 2 (u0, a, u2) (v0, b, v2) (wn && decide (x.2.1 ≤ y.2.1)) (rt && decide (0 ≤ x.2.1)) := by
  obtain ⟨h1, h2, h3, h4, h5, h6, h7, h8⟩ := h
  subst ha hb
  constructor <;> simp_all
theorem Good.to_3 {x y : Int × Int × Int} {u0 u1 u2 v0 v1 v2 : Int} {l : List (Int × Int × Int)} {wn rt : Bool} (h : Good x y l 2 (u0, u1, u2) (v0, v1, v2) wn rt) {a b : Int} (ha : a = (sumB l x).2.2) (hb : b = wi (x.2.2 - y.2.2)) : Good x y l 3 (u0, u1, a) (v0, v1, b) (wn && decide (x.2.2 ≤ y.2.2)) (rt && decide (0 ≤ x.2.2)) := by
  obtain ⟨h1, h2, h3, h4, h5, h6, h7, h8⟩ := h
  subst ha hb
  constructor <;> simp_all [Bool.and_assoc]
theorem Good.end_ {x y u v : Int × Int × Int} {l : List (Int × Int × Int)} {wn rt : Bool} (h : Good x y l 3 u v wn rt) :
    u = sumB l x ∧ v = (wi (x.1 - y.1), wi (x.2.1 - y.2.1), wi (x.2.2 - y.2.2)) ∧ wn = withinB x.1 x.2.1 x.2.2 y.1 y.2.1 y.2.2 ∧ rt = rightB x.1 x.2.1 x.2.2 := by
  obtain ⟨h1, h2, h3, h4, h5, h6, h7, h8⟩ := h
  obtain ⟨u0, u1, u2⟩ := u
  obtain ⟨v0, v1, v2⟩ := v
  refine ⟨?_, ?_, ?_, ?_⟩
  · simp_all
  · simp_all
  · rw [h7]; simp [withinB, Bool.and_assoc]
  · rw [h8]; simp [rightB, Bool.and_assoc]
set_option maxHeartbeats 4000000 in
set_option maxRecDepth 100000 in
theorem walk (x0_0 : Int) (x0_1 : Int) (x0_2 : Int) (x1_0 : Int) (x1_1 : Int) (x1_2 : Int) (A2 : Option Addr) (c2 : Nat) (x2 : List ((Int) × (Int) × (Int))) (W : World) (p0_0 : (IntKind.i64.min ≤ x0_0 ∧ x0_0 ≤ IntKind.i64.max)) (p0_1 : (IntKind.i64.min ≤ x0_1 ∧ x0_1 ≤ IntKind.i64.max)) (p0_2 : (IntKind.i64.min ≤ x0_2 ∧ x0_2 ≤ IntKind.i64.max)) (p1_0 : (IntKind.i64.min ≤ x1_0 ∧ x1_0 ≤ IntKind.i64.max)) (p1_1 : (IntKind.i64.min ≤ x1_1 ∧ x1_1 ≤ IntKind.i64.max)) (p1_2 : (IntKind.i64.min ≤ x1_2 ∧ x1_2 ≤ IntKind.i64.max)) (l2 : x2.length ≤ c2) (C2 : Kd.C (Kd.pair (Kd.int .i64) (Kd.pair (Kd.int .i64) (Kd.int .i64))) W A2 x2.length x2) (p2 : (x2.length ≤ maxLen ∧ x2.length * Try.prog.bytesOf 23 ≤ 140737488351232 ∧ ∀ x : (Int × Int × Int), x ∈ x2 → ((IntKind.i64.min ≤ x.1 ∧ x.1 ≤ IntKind.i64.max) ∧ ((IntKind.i64.min ≤ x.2.1 ∧ x.2.1 ≤ IntKind.i64.max) ∧ (IntKind.i64.min ≤ x.2.2 ∧ x.2.2 ≤ IntKind.i64.max))))) :
    Calls Try.prog 3 #[.agg #[.int .i64 x0_0, .int .i64 x0_1, .int .i64 x0_2], .agg #[.int .i64 x1_0, .int .i64 x1_1, .int .i64 x1_2], .slice A2 x2.length c2] W fun e W' => e = .returned (.bool true) ∧ Below W.heap.size W W' := by
  have HC := Lib.hid C2
  clear p0_0 p0_1 p0_2 p1_0 p1_1 p1_2 l2 C2 p2
  by_cases hlen : 50 < x2.length
  · go_enter Try.func3, Try.ntmps3
    go_wp2_with (first
      | (go_at_call 16; go_loud (refine (lives_calls _).mono ?_; rintro e w1 ⟨rfl, hB1⟩; have HB := Lib.hid (below_step (below_alloc (below_alloc (Below.refl W.heap.size W) _) _) hB1); clear hB1))
      | (go_at_call 16; go_loud (refine (lives_calls _).mono ?_; rintro e w2 ⟨rfl, hB2⟩; have HB2 := Lib.hid (below_step HB.out hB2); clear hB2)))
    go_ret
    exact ⟨rfl, HB2.out⟩
  have hlen : x2.length ≤ 50 := by omega
  go_enter Try.func3, Try.ntmps3
  go_upto_region 3 with (go_at_call 16; go_loud (refine (lives_calls _).mono ?_; rintro e w1 ⟨rfl, hB1⟩; have HB := Lib.hid (below_step (below_alloc (below_alloc (Below.refl W.heap.size W) _) _) hB1); have HP := Lib.hid (blk_below (blk_alloc (blk_new W _) _) hB1); have HQ := Lib.hid (blk_below (blk_new1 W _ _) hB1); clear hB1))
  have kp : ∀ V, Below w1.heap.size w1 V → B3 V W.heap.size x0_0 x0_1 x0_2 := fun V h => blk_below HP.out h
  have kq : ∀ V, Below w1.heap.size w1 V → B3 V (W.heap.size + 1) x1_0 x1_1 x1_2 := fun V h => blk_below HQ.out h
  have KP := Lib.hid kp
  have KQ := Lib.hid kq
  clear kp kq
  go_cut [7, 8] (fun s7 s8 wx => Two w1 wx s7 s8 x0_0 x0_1 x0_2 x1_0 x1_1 x1_2)
  case first =>
    have hS := Below.refl w1.heap.size w1
    have q0 : ∀ V, Below w1.heap.size w1 V → V.cell? ⟨W.heap.size, 0, none⟩ = some (.int .i64 x0_0) := fun V h => blk_cell (KP.out V h) 0
    have q1 : ∀ V, Below w1.heap.size w1 V → V.cell? ⟨W.heap.size, 1, none⟩ = some (.int .i64 x0_1) := fun V h => blk_cell (KP.out V h) 1
    have q2 : ∀ V, Below w1.heap.size w1 V → V.cell? ⟨W.heap.size, 2, none⟩ = some (.int .i64 x0_2) := fun V h => blk_cell (KP.out V h) 2
    have r0 : ∀ V, Below w1.heap.size w1 V → V.cell? ⟨W.heap.size + 1, 0, none⟩ = some (.int .i64 x1_0) := fun V h => blk_cell (KQ.out V h) 0
    have r1 : ∀ V, Below w1.heap.size w1 V → V.cell? ⟨W.heap.size + 1, 1, none⟩ = some (.int .i64 x1_1) := fun V h => blk_cell (KQ.out V h) 1
    have r2 : ∀ V, Below w1.heap.size w1 V → V.cell? ⟨W.heap.size + 1, 2, none⟩ = some (.int .i64 x1_2) := fun V h => blk_cell (KQ.out V h) 2
    go_region_held3 (fun V => Below w1.heap.size w1 V) (repeat' (first | (with_reducible exact Below.refl _ _) | (with_reducible assumption) | (with_reducible refine Below.alloc ?_ ?_ _) | (with_reducible refine Below.drew ?_) | (with_reducible refine Below.setCell ?_ ?_ _) | (with_reducible refine pw_below_drewN ?_ _) | (refine below_step (W := ?_) ?_ ?_; rotate_left 2; (with_reducible assumption)) | go_size)) (first
      | (go_at_call 17; refine (three_calls _ _ _ _).mono ?_; rintro e w3 ⟨rfl, hB3⟩; obtain ⟨hc3, hf3⟩ := bcell hB3; have hz3 := hB3.size; (try simp only [World.size_alloc, World.size_drew, Nat.add_one_le_iff] at hz3); (try have hy3 := Nat.lt_of_succ_lt hz3); (try have hx3 := Nat.lt_of_lt_of_le (by assumption) hz3); (try have hx3 := Nat.lt_trans (by assumption) hz3)))
    all_goals (go_wp2_with fail; go_meet)
    all_goals (
      clear hS
      refine ⟨⟨_, _, rfl, rfl, ?_, ?_, ?_, ?_, ?_⟩, ?_⟩
      · first | omega | go_size
      · first | omega | go_size
      · first | omega | go_size
      · (repeat' (first | (with_reducible assumption) | (with_reducible first | exact blk_new _ _ | exact blk_new1 _ _ _ | exact blk_new2 _ _ _ _ | (refine blk_newAt (b := _) ?_; simp only [World.size_alloc, World.size_setCell, World.size_drew]; done) | refine A3.set3 (x := 0) (y := 0) (z := 0) ?_ | refine A3.far3 ?_ ?_ | refine blk_alloc ?_ _ | refine blk_drew ?_ | refine blk_drewN ?_ _) | (with_reducible refine blk_below (w := ?_) ?_ hB3) | (with_reducible refine blk_below (w := ?_) ?_ ?_; rotate_left 2; (with_reducible assumption)) | omega))
      · (repeat' (first | (with_reducible assumption) | (with_reducible first | exact blk_new _ _ | exact blk_new1 _ _ _ | exact blk_new2 _ _ _ _ | (refine blk_newAt (b := _) ?_; simp only [World.size_alloc, World.size_setCell, World.size_drew]; done) | refine A3.set3 (x := 0) (y := 0) (z := 0) ?_ | refine A3.far3 ?_ ?_ | refine blk_alloc ?_ _ | refine blk_drew ?_ | refine blk_drewN ?_ _) | (with_reducible refine blk_below (w := ?_) ?_ hB3) | (with_reducible refine blk_below (w := ?_) ?_ ?_; rotate_left 2; (with_reducible assumption)) | omega))
      · have hS := Below.refl w1.heap.size w1
        (repeat' (first | (with_reducible exact Below.refl _ _) | (with_reducible assumption) | (with_reducible refine Below.alloc ?_ ?_ _) | (with_reducible refine Below.drew ?_) | (with_reducible refine Below.setCell ?_ ?_ _) | (with_reducible refine pw_below_drewN ?_ _) | (refine below_step (W := ?_) ?_ ?_; rotate_left 2; (with_reducible assumption)) | go_size)))
  case rest =>
    obtain ⟨⟨b, c, rfl, rfl, hbc, hb1, hc1, hX, hY⟩, hB2⟩ := hcut
    have HX := Lib.hid hX
    have HY := Lib.hid hY
    have HB2 := Lib.hid hB2
    have HS2 := Lib.hid hB2.size
    have b0 := blk_cell hX 0
    have b1 := blk_cell hX 1
    have b2 := blk_cell hX 2
    have hlb : b < wc.heap.size := blk_lt hX
    have hlc : c < wc.heap.size := blk_lt hY
    clear hX hY hB2
    go_upto_region 4 with fail
    go_cut [9, 10, 11, 12] (fun s9 s10 s11 s12 wx => Two wc wx s9 s10 x0_0 x0_1 x0_2 x0_0 x0_1 x0_2 ∧ s11 = .bool true ∧ s12 = .bool true)
    case first =>
      have hS := Below.refl wc.heap.size wc
      go_region_held3 (fun V => V.cell? ⟨b, 0, none⟩ = some (.int .i64 x0_0) ∧ V.cell? ⟨b, 1, none⟩ = some (.int .i64 x0_1) ∧ V.cell? ⟨b, 2, none⟩ = some (.int .i64 x0_2)) (go_keep) (fail)
      all_goals (go_wp2_with fail; go_meet)
      all_goals (
        refine ⟨⟨⟨_, _, rfl, rfl, ?_, ?_, ?_, ?_, ?_⟩, ?_⟩, rfl, rfl⟩
        · first | omega | go_size
        · first | omega | go_size
        · first | omega | go_size
        · (repeat' (first | (with_reducible assumption) | (with_reducible first | exact blk_new _ _ | exact blk_new1 _ _ _ | exact blk_new2 _ _ _ _ | (refine blk_newAt (b := _) ?_; simp only [World.size_alloc, World.size_setCell, World.size_drew]; done) | refine A3.set3 (x := 0) (y := 0) (z := 0) ?_ | refine A3.far3 ?_ ?_ | refine blk_alloc ?_ _ | refine blk_drew ?_ | refine blk_drewN ?_ _) | (with_reducible refine blk_below (w := ?_) ?_ hB3) | (with_reducible refine blk_below (w := ?_) ?_ ?_; rotate_left 2; (with_reducible assumption)) | omega))
        · (repeat' (first | (with_reducible assumption) | (with_reducible first | exact blk_new _ _ | exact blk_new1 _ _ _ | exact blk_new2 _ _ _ _ | (refine blk_newAt (b := _) ?_; simp only [World.size_alloc, World.size_setCell, World.size_drew]; done) | refine A3.set3 (x := 0) (y := 0) (z := 0) ?_ | refine A3.far3 ?_ ?_ | refine blk_alloc ?_ _ | refine blk_drew ?_ | refine blk_drewN ?_ _) | (with_reducible refine blk_below (w := ?_) ?_ hB3) | (with_reducible refine blk_below (w := ?_) ?_ ?_; rotate_left 2; (with_reducible assumption)) | omega))
        · (repeat' (first | (with_reducible exact Below.refl _ _) | (with_reducible assumption) | (with_reducible refine Below.alloc ?_ ?_ _) | (with_reducible refine Below.drew ?_) | (with_reducible refine Below.setCell ?_ ?_ _) | (with_reducible refine pw_below_drewN ?_ _) | (refine below_step (W := ?_) ?_ ?_; rotate_left 2; (with_reducible assumption)) | go_size)))
    case rest =>
      obtain ⟨⟨⟨d, e, rfl, rfl, hde, hd1, he1, hS0, hL0⟩, hB3⟩, rfl, rfl⟩ := hcut
      have HB4 := Lib.hid (below_step HB2.out hB3)
      have hx4 := blk_below HX.out hB3
      have hy4 := blk_below HY.out hB3
      have hdx : ¬ d = b ∧ ¬ d = c ∧ ¬ e = b ∧ ¬ e = c := by omega
      obtain ⟨hdb, hdc, heb, hec⟩ := hdx
      have HX4 := Lib.hid hx4
      have HY4 := Lib.hid hy4
      have HS0 := Lib.hid hS0
      have HL0 := Lib.hid hL0
      clear hx4 hy4 hB3 hS0 hL0 b0 b1 b2 HX HY
      go_wp2
      go_loopw [11, 12, 30] (fun s11 s12 i wr => ∃ (k : Nat) (u0 u1 u2 v0 v1 v2 : Int) (wn rt : Bool), k ≤ 3 ∧ i = .int .i64 k ∧ s11 = .bool wn ∧ s12 = .bool rt ∧ Good (x0_0, x0_1, x0_2) (x1_0, x1_1, x1_2) x2 k (u0, u1, u2) (v0, v1, v2) wn rt ∧ A3 wr b x0_0 x0_1 x0_2 ∧ A3 wr c x1_0 x1_1 x1_2 ∧ A3 wr d u0 u1 u2 ∧ A3 wr e v0 v1 v2 ∧ Below w1.heap.size w1 wr) (fun _ _ i _ => 3 - (intOf i).toNat)
      case atStart => exact ⟨0, _, _, _, _, _, _, _, _, by omega, rfl, rfl, rfl, good0 _ _ _, HX4.out, HY4.out, HS0.out, HL0.out, HB4.out⟩
      case round =>
        obtain ⟨k, u0, u1, u2, v0, v1, v2, wn, rt, hk, rfl, rfl, rfl, hg, h1, h2, h3, h4, h5⟩ := hrel
        have HG := Lib.hid hg
        have H1 := Lib.hid h1
        have H2 := Lib.hid h2
        have H3 := Lib.hid h3
        have H4 := Lib.hid h4
        have H5 := Lib.hid h5
        have b0 := blk_cell h1 0
        have b1 := blk_cell h1 1
        have b2 := blk_cell h1 2
        have c0 := blk_cell h2 0
        have c1 := blk_cell h2 1
        have c2' := blk_cell h2 2
        have e0 := blk_cell h4 0
        have e1 := blk_cell h4 1
        have e2 := blk_cell h4 2
        have ef0 := blk_frozen h4 0
        have ef1 := blk_frozen h4 1
        have ef2 := blk_frozen h4 2
        have hlb' : b < wr.heap.size := blk_lt h1
        have hlc' : c < wr.heap.size := blk_lt h2
        have hld' : d < wr.heap.size := blk_lt h3
        have hle' : e < wr.heap.size := blk_lt h4
        have hk4 : k = 0 ∨ k = 1 ∨ k = 2 ∨ k = 3 := by omega
        clear hg h1 h2 h3 h4 h5
        rcases hk4 with rfl | rfl | rfl | rfl
        · obtain ⟨wo, rfl⟩ : ∃ wo : World, wo = wr := ⟨_, rfl⟩
          have hgk := HG.out.at_0
          obtain ⟨hu, hv⟩ := hgk
          have HU := Lib.hid hu
          have HV := Lib.hid hv
          have ix : ∀ (xx yy zz : Int) (V : World), (Instr.index 26 (bill xx yy zz) (.int .i64 0)).run Try.prog V = .ok (.int .i64 xx) V := fun _ _ _ _ => by kernel_rfl
          clear hu hv
          cases wn <;> cases rt
          all_goals (
            go_wp2
            go_region
            go_wp2
            go_quiet (fail)
            go_wp2
            go_loopw [60] (fun i wv => ∃ t : Nat, t ≤ x2.length ∧ i = .int .i64 t ∧ A3 wv b x0_0 x0_1 x0_2 ∧ A3 wv c x1_0 x1_1 x1_2 ∧ A3 wv d (sumB (x2.take t) (x0_0, x0_1, x0_2)).1 u1 u2 ∧ A3 wv e (wi (v0 - x1_0)) v1 v2 ∧ Below w1.heap.size w1 wv) (fun i _ => x2.length - (intOf i).toNat)
            case atStart => exact ⟨0, by omega, rfl, blk_drewN (blk_far H1.out (Ne.symm heb) _) _, blk_drewN (blk_far H2.out (Ne.symm hec) _) _, by have h3 := H3.out; rw [HU.out] at h3; exact blk_drewN (blk_far h3 hde _) _, blk_drewN (blk_put H4.out 0 _ rfl) _, pw_below_drewN (Below.setCell H5.out (by show w1.heap.size ≤ e; have := HS2.out; omega) _) _⟩
            case round =>
              obtain ⟨t, ht, rfl, g1, g2, g3, g4, g5⟩ := hrel
              have G1 := Lib.hid g1
              have G2 := Lib.hid g2
              have G4 := Lib.hid g4
              have G5 := Lib.hid g5
              have hwd : w1.heap.size ≤ d := by have := HS2.out; omega
              by_cases hlt : t < x2.length
              · obtain ⟨xx, yy, zz, hx⟩ : ∃ x y z, x2.getD t (0, 0, 0) = (x, y, z) := ⟨_, _, _, rfl⟩
                obtain ⟨ad, rfl, a0, a1, a2⟩ := at_B (Kd.C_below HC.out (below_step HB.out g5)) t hlt xx yy zz hx
                have HT := Lib.hid (sumB_take x2 t hlt (x0_0, x0_1, x0_2) xx yy zz hx)
                obtain ⟨cur, hcur⟩ : ∃ cur, (sumB (x2.take t) (x0_0, x0_1, x0_2)).1 = cur := ⟨_, rfl⟩
                rw [hcur] at g3
                have G3 := Lib.hid g3
                have HCUR := Lib.hid hcur
                clear hx hcur g1 g2 g3 g4 g5
                have hd2 := blk_drew (blk_alloc G3.out (.cells #[.int .i64 xx, .int .i64 yy, .int .i64 zz] 23))
                have hp2 := blk_drew (blk_new wr (.cells #[.int .i64 xx, .int .i64 yy, .int .i64 zz] 23))
                have p0 := blk_cell hp2 0
                have p1 := blk_cell hp2 1
                have p2 := blk_cell hp2 2
                have pd := blk_cell hd2 0
                have HD2 := Lib.hid hd2
                have HP2 := Lib.hid hp2
                clear hd2 hp2
                go_wp2
                refine start_ (n := 10) (S := fun w' => w'.cell? ⟨wr.heap.size, 0, none⟩ = some (.int .i64 xx) ∧ w'.cell? ⟨wr.heap.size, 1, none⟩ = some (.int .i64 yy) ∧ w'.cell? ⟨wr.heap.size, 2, none⟩ = some (.int .i64 zz) ∧ w'.cell? ⟨d, 0, none⟩ = some (.int .i64 cur)) (ds := [9]) #[false, false, false, false, false, false, false, false, false, false] (by kernel_rfl) rfl rfl ⟨p0, p1, p2, pd⟩ (fun hHeld => ?_)
                refine pure_ (i := 0) (N := some 64) (v := ?_) (a' := ?_) #[true, false, false, false, false, false, false, false, false, false] rfl rfl (by kernel_rfl) (fun _ _ _ h => h) (Or.inl ⟨by rfl, ?_⟩) ?_ ?_
                rotate_left
                · intro w'
                  go_simp
                  with_reducible rfl
                rotate_left
                · simp only [Act.put, List.setIfInBounds_toArray, List.set_cons_zero, List.set_cons_succ, i64_w, i32_w]
                  rfl
                refine pure_ (i := 1) (N := some 65) (v := ?_) (a' := ?_) #[true, true, false, false, false, false, false, false, false, false] rfl rfl (by kernel_rfl) (fun _ _ _ h => h) (Or.inl ⟨by rfl, ?_⟩) ?_ ?_
                rotate_left
                · intro w'
                  go_simp
                  with_reducible rfl
                rotate_left
                · simp only [Act.put, List.setIfInBounds_toArray, List.set_cons_zero, List.set_cons_succ, i64_w, i32_w]
                  rfl
                refine pure_ (i := 5) (N := some 69) (v := ?_) (a' := ?_) #[true, true, false, false, false, true, false, false, false, false] rfl rfl (by kernel_rfl) (fun _ _ _ h => h) (Or.inl ⟨by rfl, ?_⟩) ?_ ?_
                rotate_left
                · intro w'
                  go_simp
                  with_reducible rfl
                rotate_left
                · simp only [Act.put, List.setIfInBounds_toArray, List.set_cons_zero, List.set_cons_succ, i64_w, i32_w]
                  rfl
                refine take_ (i := 2) (N := some 66) (v := ?_) (a' := ?_) #[true, true, true, false, false, true, false, false, false, false] rfl rfl (by kernel_rfl) (fun _ _ _ h => h) (Or.inl ⟨by rfl, ?_⟩) hHeld ?_ ?_
                rotate_left
                · rintro w' ⟨s0, s1, s2, s3⟩
                  go_simp
                  with_reducible rfl
                rotate_left
                · simp only [Act.put, List.setIfInBounds_toArray, List.set_cons_zero, List.set_cons_succ, i64_w, i32_w]
                  rfl
                refine take_ (i := 3) (N := some 67) (v := ?_) (a' := ?_) #[true, true, true, true, false, true, false, false, false, false] rfl rfl (by kernel_rfl) (fun _ _ _ h => h) (Or.inl ⟨by rfl, ?_⟩) hHeld ?_ ?_
                rotate_left
                · rintro w' ⟨s0, s1, s2, s3⟩
                  go_simp
                  with_reducible rfl
                rotate_left
                · simp only [Act.put, List.setIfInBounds_toArray, List.set_cons_zero, List.set_cons_succ, i64_w, i32_w]
                  rfl
                refine one_ (i := 4) (N := some 68) #[true, true, true, true, true, true, false, false, false, false] rfl rfl (by kernel_rfl) (by decide) (fun K hK => ?_)
                refine goes_ Try.func17 (by kernel_rfl) rfl #[bill xx yy zz] (by rfl) rfl rfl (by simp only [List.map_toArray, List.map_cons, List.map_nil]; rfl) ?_
                with_reducible refine (three_calls _ _ _ _).mono ?_
                rintro e w3 ⟨rfl, hB3⟩
                refine ⟨_, rfl, ?_⟩
                have hd3 := blk_below HD2.out hB3
                have hp3 := blk_below HP2.out hB3
                have hd3c := blk_cell hd3 0
                have hd3f := blk_frozen hd3 0
                refine hK.out _ _ ⟨(blk_cell hp3 0), (blk_cell hp3 1), (blk_cell hp3 2), (blk_cell hd3 0)⟩ (fun hHeld => ?_)
                clear hK K
                refine norm_ (a' := ?_) ?_ ?_
                rotate_left
                · show Act.put _ (some 68) _ = _
                  simp only [Act.put, List.setIfInBounds_toArray, List.set_cons_zero, List.set_cons_succ, i64_w, i32_w]
                  rfl
                refine take_ (i := 6) (N := some 70) (v := ?_) (a' := ?_) #[true, true, true, true, true, true, true, false, false, false] rfl rfl (by kernel_rfl) (fun _ _ _ h => h) (Or.inl ⟨by rfl, ?_⟩) hHeld ?_ ?_
                rotate_left
                · rintro w' ⟨s0, s1, s2, s3⟩
                  go_simp
                  with_reducible rfl
                rotate_left
                · simp only [Act.put, List.setIfInBounds_toArray, List.set_cons_zero, List.set_cons_succ, i64_w, i32_w]
                  rfl
                refine pure_ (i := 7) (N := some 71) (v := ?_) (a' := ?_) #[true, true, true, true, true, true, true, true, false, false] rfl rfl (by kernel_rfl) (fun _ _ _ h => h) (Or.inl ⟨by rfl, ?_⟩) ?_ ?_
                rotate_left
                · intro w'
                  go_simp
                  with_reducible rfl
                rotate_left
                · simp only [Act.put, List.setIfInBounds_toArray, List.set_cons_zero, List.set_cons_succ, i64_w, i32_w]
                  rfl
                refine pure_ (i := 8) (N := some 72) (v := ?_) (a' := ?_) #[true, true, true, true, true, true, true, true, true, false] rfl rfl (by kernel_rfl) (fun _ _ _ h => h) (Or.inl ⟨by rfl, ?_⟩) ?_ ?_
                rotate_left
                · intro w'
                  go_simp
                  with_reducible rfl
                rotate_left
                · simp only [Act.put, List.setIfInBounds_toArray, List.set_cons_zero, List.set_cons_succ, i64_w, i32_w]
                  rfl
                refine last_ (i := 9) (N := none) #[true, true, true, true, true, true, true, true, true, true] rfl rfl (by kernel_rfl) (by decide) (fun K hK => ?_)
                refine skip_ (w1 := ?_) (by rfl) rfl ?_ ?_
                rotate_left
                · go_simp
                  rfl
                refine hK.out _ _ ?_
                clear hK K
                refine done_ (by kernel_rfl) ?_

                have HD3 := Lib.hid hd3
                have HB3 := Lib.hid hB3
                clear hd3 hp3 hd3c hd3f hB3
                go_wp2
                go_roundw
                case rel =>
                  refine ⟨t + 1, by omega, by simp, blk_far (blk_below (blk_drew (blk_alloc G1.out _)) HB3.out) (Ne.symm hdb) _, blk_far (blk_below (blk_drew (blk_alloc G2.out _)) HB3.out) (Ne.symm hdc) _, ?_, blk_far (blk_below (blk_drew (blk_alloc G4.out _)) HB3.out) (Ne.symm hde) _, Below.setCell (below_step (below_drew1 (below_alloc G5.out _)) HB3.out) hwd _⟩
                  rw [HT.out]
                  refine blk_put HD3.out 0 _ ?_
                  rw [← HCUR.out]
                  rfl
                case measure => simp [intOf]; omega
              · obtain rfl : t = x2.length := by omega
                rw [List.take_length] at g3
                have G3 := Lib.hid g3
                clear g1 g2 g3 g4 g5
                go_wp2
                go_roundw
                case rel => exact ⟨1, _, _, _, _, _, _, _, _, by omega, by simp, rfl, rfl, by simpa using HG.out.to_1 rfl (show wi (v0 - x1_0) = wi (x0_0 - x1_0) by rw [HV.out]), G1.out, G2.out, G3.out, G4.out, G5.out⟩
                case measure => simp [intOf])
        · obtain ⟨wo, rfl⟩ : ∃ wo : World, wo = wr := ⟨_, rfl⟩
          have hgk := HG.out.at_1
          obtain ⟨hu, hv⟩ := hgk
          have HU := Lib.hid hu
          have HV := Lib.hid hv
          have ix : ∀ (xx yy zz : Int) (V : World), (Instr.index 26 (bill xx yy zz) (.int .i64 1)).run Try.prog V = .ok (.int .i64 yy) V := fun _ _ _ _ => by kernel_rfl
          clear hu hv
          cases wn <;> cases rt
          all_goals (
            go_wp2
            go_region
            go_wp2
            go_quiet (fail)
            go_wp2
            go_loopw [60] (fun i wv => ∃ t : Nat, t ≤ x2.length ∧ i = .int .i64 t ∧ A3 wv b x0_0 x0_1 x0_2 ∧ A3 wv c x1_0 x1_1 x1_2 ∧ A3 wv d u0 (sumB (x2.take t) (x0_0, x0_1, x0_2)).2.1 u2 ∧ A3 wv e v0 (wi (v1 - x1_1)) v2 ∧ Below w1.heap.size w1 wv) (fun i _ => x2.length - (intOf i).toNat)
            case atStart => exact ⟨0, by omega, rfl, blk_drewN (blk_far H1.out (Ne.symm heb) _) _, blk_drewN (blk_far H2.out (Ne.symm hec) _) _, by have h3 := H3.out; rw [HU.out] at h3; exact blk_drewN (blk_far h3 hde _) _, blk_drewN (blk_put H4.out 1 _ rfl) _, pw_below_drewN (Below.setCell H5.out (by show w1.heap.size ≤ e; have := HS2.out; omega) _) _⟩
            case round =>
              obtain ⟨t, ht, rfl, g1, g2, g3, g4, g5⟩ := hrel
              have G1 := Lib.hid g1
              have G2 := Lib.hid g2
              have G4 := Lib.hid g4
              have G5 := Lib.hid g5
              have hwd : w1.heap.size ≤ d := by have := HS2.out; omega
              by_cases hlt : t < x2.length
              · obtain ⟨xx, yy, zz, hx⟩ : ∃ x y z, x2.getD t (0, 0, 0) = (x, y, z) := ⟨_, _, _, rfl⟩
                obtain ⟨ad, rfl, a0, a1, a2⟩ := at_B (Kd.C_below HC.out (below_step HB.out g5)) t hlt xx yy zz hx
                have HT := Lib.hid (sumB_take x2 t hlt (x0_0, x0_1, x0_2) xx yy zz hx)
                obtain ⟨cur, hcur⟩ : ∃ cur, (sumB (x2.take t) (x0_0, x0_1, x0_2)).2.1 = cur := ⟨_, rfl⟩
                rw [hcur] at g3
                have G3 := Lib.hid g3
                have HCUR := Lib.hid hcur
                clear hx hcur g1 g2 g3 g4 g5
                have hd2 := blk_drew (blk_alloc G3.out (.cells #[.int .i64 xx, .int .i64 yy, .int .i64 zz] 23))
                have hp2 := blk_drew (blk_new wr (.cells #[.int .i64 xx, .int .i64 yy, .int .i64 zz] 23))
                have p0 := blk_cell hp2 0
                have p1 := blk_cell hp2 1
                have p2 := blk_cell hp2 2
                have pd := blk_cell hd2 1
                have HD2 := Lib.hid hd2
                have HP2 := Lib.hid hp2
                clear hd2 hp2
                go_wp2
                refine start_ (n := 10) (S := fun w' => w'.cell? ⟨wr.heap.size, 0, none⟩ = some (.int .i64 xx) ∧ w'.cell? ⟨wr.heap.size, 1, none⟩ = some (.int .i64 yy) ∧ w'.cell? ⟨wr.heap.size, 2, none⟩ = some (.int .i64 zz) ∧ w'.cell? ⟨d, 1, none⟩ = some (.int .i64 cur)) (ds := [9]) #[false, false, false, false, false, false, false, false, false, false] (by kernel_rfl) rfl rfl ⟨p0, p1, p2, pd⟩ (fun hHeld => ?_)
                refine pure_ (i := 0) (N := some 64) (v := ?_) (a' := ?_) #[true, false, false, false, false, false, false, false, false, false] rfl rfl (by kernel_rfl) (fun _ _ _ h => h) (Or.inl ⟨by rfl, ?_⟩) ?_ ?_
                rotate_left
                · intro w'
                  go_simp
                  with_reducible rfl
                rotate_left
                · simp only [Act.put, List.setIfInBounds_toArray, List.set_cons_zero, List.set_cons_succ, i64_w, i32_w]
                  rfl
                refine pure_ (i := 1) (N := some 65) (v := ?_) (a' := ?_) #[true, true, false, false, false, false, false, false, false, false] rfl rfl (by kernel_rfl) (fun _ _ _ h => h) (Or.inl ⟨by rfl, ?_⟩) ?_ ?_
                rotate_left
                · intro w'
                  go_simp
                  with_reducible rfl
                rotate_left
                · simp only [Act.put, List.setIfInBounds_toArray, List.set_cons_zero, List.set_cons_succ, i64_w, i32_w]
                  rfl
                refine pure_ (i := 5) (N := some 69) (v := ?_) (a' := ?_) #[true, true, false, false, false, true, false, false, false, false] rfl rfl (by kernel_rfl) (fun _ _ _ h => h) (Or.inl ⟨by rfl, ?_⟩) ?_ ?_
                rotate_left
                · intro w'
                  go_simp
                  with_reducible rfl
                rotate_left
                · simp only [Act.put, List.setIfInBounds_toArray, List.set_cons_zero, List.set_cons_succ, i64_w, i32_w]
                  rfl
                refine take_ (i := 2) (N := some 66) (v := ?_) (a' := ?_) #[true, true, true, false, false, true, false, false, false, false] rfl rfl (by kernel_rfl) (fun _ _ _ h => h) (Or.inl ⟨by rfl, ?_⟩) hHeld ?_ ?_
                rotate_left
                · rintro w' ⟨s0, s1, s2, s3⟩
                  go_simp
                  with_reducible rfl
                rotate_left
                · simp only [Act.put, List.setIfInBounds_toArray, List.set_cons_zero, List.set_cons_succ, i64_w, i32_w]
                  rfl
                refine take_ (i := 3) (N := some 67) (v := ?_) (a' := ?_) #[true, true, true, true, false, true, false, false, false, false] rfl rfl (by kernel_rfl) (fun _ _ _ h => h) (Or.inl ⟨by rfl, ?_⟩) hHeld ?_ ?_
                rotate_left
                · rintro w' ⟨s0, s1, s2, s3⟩
                  go_simp
                  with_reducible rfl
                rotate_left
                · simp only [Act.put, List.setIfInBounds_toArray, List.set_cons_zero, List.set_cons_succ, i64_w, i32_w]
                  rfl
                refine one_ (i := 4) (N := some 68) #[true, true, true, true, true, true, false, false, false, false] rfl rfl (by kernel_rfl) (by decide) (fun K hK => ?_)
                refine goes_ Try.func17 (by kernel_rfl) rfl #[bill xx yy zz] (by rfl) rfl rfl (by simp only [List.map_toArray, List.map_cons, List.map_nil]; rfl) ?_
                with_reducible refine (three_calls _ _ _ _).mono ?_
                rintro e w3 ⟨rfl, hB3⟩
                refine ⟨_, rfl, ?_⟩
                have hd3 := blk_below HD2.out hB3
                have hp3 := blk_below HP2.out hB3
                have hd3c := blk_cell hd3 1
                have hd3f := blk_frozen hd3 1
                refine hK.out _ _ ⟨(blk_cell hp3 0), (blk_cell hp3 1), (blk_cell hp3 2), (blk_cell hd3 1)⟩ (fun hHeld => ?_)
                clear hK K
                refine norm_ (a' := ?_) ?_ ?_
                rotate_left
                · show Act.put _ (some 68) _ = _
                  simp only [Act.put, List.setIfInBounds_toArray, List.set_cons_zero, List.set_cons_succ, i64_w, i32_w]
                  rfl
                refine take_ (i := 6) (N := some 70) (v := ?_) (a' := ?_) #[true, true, true, true, true, true, true, false, false, false] rfl rfl (by kernel_rfl) (fun _ _ _ h => h) (Or.inl ⟨by rfl, ?_⟩) hHeld ?_ ?_
                rotate_left
                · rintro w' ⟨s0, s1, s2, s3⟩
                  go_simp
                  with_reducible rfl
                rotate_left
                · simp only [Act.put, List.setIfInBounds_toArray, List.set_cons_zero, List.set_cons_succ, i64_w, i32_w]
                  rfl
                refine pure_ (i := 7) (N := some 71) (v := ?_) (a' := ?_) #[true, true, true, true, true, true, true, true, false, false] rfl rfl (by kernel_rfl) (fun _ _ _ h => h) (Or.inl ⟨by rfl, ?_⟩) ?_ ?_
                rotate_left
                · intro w'
                  go_simp
                  with_reducible rfl
                rotate_left
                · simp only [Act.put, List.setIfInBounds_toArray, List.set_cons_zero, List.set_cons_succ, i64_w, i32_w]
                  rfl
                refine pure_ (i := 8) (N := some 72) (v := ?_) (a' := ?_) #[true, true, true, true, true, true, true, true, true, false] rfl rfl (by kernel_rfl) (fun _ _ _ h => h) (Or.inl ⟨by rfl, ?_⟩) ?_ ?_
                rotate_left
                · intro w'
                  go_simp
                  with_reducible rfl
                rotate_left
                · simp only [Act.put, List.setIfInBounds_toArray, List.set_cons_zero, List.set_cons_succ, i64_w, i32_w]
                  rfl
                refine last_ (i := 9) (N := none) #[true, true, true, true, true, true, true, true, true, true] rfl rfl (by kernel_rfl) (by decide) (fun K hK => ?_)
                refine skip_ (w1 := ?_) (by rfl) rfl ?_ ?_
                rotate_left
                · go_simp
                  rfl
                refine hK.out _ _ ?_
                clear hK K
                refine done_ (by kernel_rfl) ?_

                have HD3 := Lib.hid hd3
                have HB3 := Lib.hid hB3
                clear hd3 hp3 hd3c hd3f hB3
                go_wp2
                go_roundw
                case rel =>
                  refine ⟨t + 1, by omega, by simp, blk_far (blk_below (blk_drew (blk_alloc G1.out _)) HB3.out) (Ne.symm hdb) _, blk_far (blk_below (blk_drew (blk_alloc G2.out _)) HB3.out) (Ne.symm hdc) _, ?_, blk_far (blk_below (blk_drew (blk_alloc G4.out _)) HB3.out) (Ne.symm hde) _, Below.setCell (below_step (below_drew1 (below_alloc G5.out _)) HB3.out) hwd _⟩
                  rw [HT.out]
                  refine blk_put HD3.out 1 _ ?_
                  rw [← HCUR.out]
                  rfl
                case measure => simp [intOf]; omega
              · obtain rfl : t = x2.length := by omega
                rw [List.take_length] at g3
                have G3 := Lib.hid g3
                clear g1 g2 g3 g4 g5
                go_wp2
                go_roundw
                case rel => exact ⟨2, _, _, _, _, _, _, _, _, by omega, by simp, rfl, rfl, by simpa using HG.out.to_2 rfl (show wi (v1 - x1_1) = wi (x0_1 - x1_1) by rw [HV.out]), G1.out, G2.out, G3.out, G4.out, G5.out⟩
                case measure => simp [intOf])
        · obtain ⟨wo, rfl⟩ : ∃ wo : World, wo = wr := ⟨_, rfl⟩
          have hgk := HG.out.at_2
          obtain ⟨hu, hv⟩ := hgk
          have HU := Lib.hid hu
          have HV := Lib.hid hv
          have ix : ∀ (xx yy zz : Int) (V : World), (Instr.index 26 (bill xx yy zz) (.int .i64 2)).run Try.prog V = .ok (.int .i64 zz) V := fun _ _ _ _ => by kernel_rfl
          clear hu hv
          cases wn <;> cases rt
          all_goals (
            go_wp2
            go_region
            go_wp2
            go_quiet (fail)
            go_wp2
            go_loopw [60] (fun i wv => ∃ t : Nat, t ≤ x2.length ∧ i = .int .i64 t ∧ A3 wv b x0_0 x0_1 x0_2 ∧ A3 wv c x1_0 x1_1 x1_2 ∧ A3 wv d u0 u1 (sumB (x2.take t) (x0_0, x0_1, x0_2)).2.2 ∧ A3 wv e v0 v1 (wi (v2 - x1_2)) ∧ Below w1.heap.size w1 wv) (fun i _ => x2.length - (intOf i).toNat)
            case atStart => exact ⟨0, by omega, rfl, blk_drewN (blk_far H1.out (Ne.symm heb) _) _, blk_drewN (blk_far H2.out (Ne.symm hec) _) _, by have h3 := H3.out; rw [HU.out] at h3; exact blk_drewN (blk_far h3 hde _) _, blk_drewN (blk_put H4.out 2 _ rfl) _, pw_below_drewN (Below.setCell H5.out (by show w1.heap.size ≤ e; have := HS2.out; omega) _) _⟩
            case round =>
              obtain ⟨t, ht, rfl, g1, g2, g3, g4, g5⟩ := hrel
              have G1 := Lib.hid g1
              have G2 := Lib.hid g2
              have G4 := Lib.hid g4
              have G5 := Lib.hid g5
              have hwd : w1.heap.size ≤ d := by have := HS2.out; omega
              by_cases hlt : t < x2.length
              · obtain ⟨xx, yy, zz, hx⟩ : ∃ x y z, x2.getD t (0, 0, 0) = (x, y, z) := ⟨_, _, _, rfl⟩
                obtain ⟨ad, rfl, a0, a1, a2⟩ := at_B (Kd.C_below HC.out (below_step HB.out g5)) t hlt xx yy zz hx
                have HT := Lib.hid (sumB_take x2 t hlt (x0_0, x0_1, x0_2) xx yy zz hx)
                obtain ⟨cur, hcur⟩ : ∃ cur, (sumB (x2.take t) (x0_0, x0_1, x0_2)).2.2 = cur := ⟨_, rfl⟩
                rw [hcur] at g3
                have G3 := Lib.hid g3
                have HCUR := Lib.hid hcur
                clear hx hcur g1 g2 g3 g4 g5
                have hd2 := blk_drew (blk_alloc G3.out (.cells #[.int .i64 xx, .int .i64 yy, .int .i64 zz] 23))
                have hp2 := blk_drew (blk_new wr (.cells #[.int .i64 xx, .int .i64 yy, .int .i64 zz] 23))
                have p0 := blk_cell hp2 0
                have p1 := blk_cell hp2 1
                have p2 := blk_cell hp2 2
                have pd := blk_cell hd2 2
                have HD2 := Lib.hid hd2
                have HP2 := Lib.hid hp2
                clear hd2 hp2
                go_wp2
                refine start_ (n := 10) (S := fun w' => w'.cell? ⟨wr.heap.size, 0, none⟩ = some (.int .i64 xx) ∧ w'.cell? ⟨wr.heap.size, 1, none⟩ = some (.int .i64 yy) ∧ w'.cell? ⟨wr.heap.size, 2, none⟩ = some (.int .i64 zz) ∧ w'.cell? ⟨d, 2, none⟩ = some (.int .i64 cur)) (ds := [9]) #[false, false, false, false, false, false, false, false, false, false] (by kernel_rfl) rfl rfl ⟨p0, p1, p2, pd⟩ (fun hHeld => ?_)
                refine pure_ (i := 0) (N := some 64) (v := ?_) (a' := ?_) #[true, false, false, false, false, false, false, false, false, false] rfl rfl (by kernel_rfl) (fun _ _ _ h => h) (Or.inl ⟨by rfl, ?_⟩) ?_ ?_
                rotate_left
                · intro w'
                  go_simp
                  with_reducible rfl
                rotate_left
                · simp only [Act.put, List.setIfInBounds_toArray, List.set_cons_zero, List.set_cons_succ, i64_w, i32_w]
                  rfl
                refine pure_ (i := 1) (N := some 65) (v := ?_) (a' := ?_) #[true, true, false, false, false, false, false, false, false, false] rfl rfl (by kernel_rfl) (fun _ _ _ h => h) (Or.inl ⟨by rfl, ?_⟩) ?_ ?_
                rotate_left
                · intro w'
                  go_simp
                  with_reducible rfl
                rotate_left
                · simp only [Act.put, List.setIfInBounds_toArray, List.set_cons_zero, List.set_cons_succ, i64_w, i32_w]
                  rfl
                refine pure_ (i := 5) (N := some 69) (v := ?_) (a' := ?_) #[true, true, false, false, false, true, false, false, false, false] rfl rfl (by kernel_rfl) (fun _ _ _ h => h) (Or.inl ⟨by rfl, ?_⟩) ?_ ?_
                rotate_left
                · intro w'
                  go_simp
                  with_reducible rfl
                rotate_left
                · simp only [Act.put, List.setIfInBounds_toArray, List.set_cons_zero, List.set_cons_succ, i64_w, i32_w]
                  rfl
                refine take_ (i := 2) (N := some 66) (v := ?_) (a' := ?_) #[true, true, true, false, false, true, false, false, false, false] rfl rfl (by kernel_rfl) (fun _ _ _ h => h) (Or.inl ⟨by rfl, ?_⟩) hHeld ?_ ?_
                rotate_left
                · rintro w' ⟨s0, s1, s2, s3⟩
                  go_simp
                  with_reducible rfl
                rotate_left
                · simp only [Act.put, List.setIfInBounds_toArray, List.set_cons_zero, List.set_cons_succ, i64_w, i32_w]
                  rfl
                refine take_ (i := 3) (N := some 67) (v := ?_) (a' := ?_) #[true, true, true, true, false, true, false, false, false, false] rfl rfl (by kernel_rfl) (fun _ _ _ h => h) (Or.inl ⟨by rfl, ?_⟩) hHeld ?_ ?_
                rotate_left
                · rintro w' ⟨s0, s1, s2, s3⟩
                  go_simp
                  with_reducible rfl
                rotate_left
                · simp only [Act.put, List.setIfInBounds_toArray, List.set_cons_zero, List.set_cons_succ, i64_w, i32_w]
                  rfl
                refine one_ (i := 4) (N := some 68) #[true, true, true, true, true, true, false, false, false, false] rfl rfl (by kernel_rfl) (by decide) (fun K hK => ?_)
                refine goes_ Try.func17 (by kernel_rfl) rfl #[bill xx yy zz] (by rfl) rfl rfl (by simp only [List.map_toArray, List.map_cons, List.map_nil]; rfl) ?_
                with_reducible refine (three_calls _ _ _ _).mono ?_
                rintro e w3 ⟨rfl, hB3⟩
                refine ⟨_, rfl, ?_⟩
                have hd3 := blk_below HD2.out hB3
                have hp3 := blk_below HP2.out hB3
                have hd3c := blk_cell hd3 2
                have hd3f := blk_frozen hd3 2
                refine hK.out _ _ ⟨(blk_cell hp3 0), (blk_cell hp3 1), (blk_cell hp3 2), (blk_cell hd3 2)⟩ (fun hHeld => ?_)
                clear hK K
                refine norm_ (a' := ?_) ?_ ?_
                rotate_left
                · show Act.put _ (some 68) _ = _
                  simp only [Act.put, List.setIfInBounds_toArray, List.set_cons_zero, List.set_cons_succ, i64_w, i32_w]
                  rfl
                refine take_ (i := 6) (N := some 70) (v := ?_) (a' := ?_) #[true, true, true, true, true, true, true, false, false, false] rfl rfl (by kernel_rfl) (fun _ _ _ h => h) (Or.inl ⟨by rfl, ?_⟩) hHeld ?_ ?_
                rotate_left
                · rintro w' ⟨s0, s1, s2, s3⟩
                  go_simp
                  with_reducible rfl
                rotate_left
                · simp only [Act.put, List.setIfInBounds_toArray, List.set_cons_zero, List.set_cons_succ, i64_w, i32_w]
                  rfl
                refine pure_ (i := 7) (N := some 71) (v := ?_) (a' := ?_) #[true, true, true, true, true, true, true, true, false, false] rfl rfl (by kernel_rfl) (fun _ _ _ h => h) (Or.inl ⟨by rfl, ?_⟩) ?_ ?_
                rotate_left
                · intro w'
                  go_simp
                  with_reducible rfl
                rotate_left
                · simp only [Act.put, List.setIfInBounds_toArray, List.set_cons_zero, List.set_cons_succ, i64_w, i32_w]
                  rfl
                refine pure_ (i := 8) (N := some 72) (v := ?_) (a' := ?_) #[true, true, true, true, true, true, true, true, true, false] rfl rfl (by kernel_rfl) (fun _ _ _ h => h) (Or.inl ⟨by rfl, ?_⟩) ?_ ?_
                rotate_left
                · intro w'
                  go_simp
                  with_reducible rfl
                rotate_left
                · simp only [Act.put, List.setIfInBounds_toArray, List.set_cons_zero, List.set_cons_succ, i64_w, i32_w]
                  rfl
                refine last_ (i := 9) (N := none) #[true, true, true, true, true, true, true, true, true, true] rfl rfl (by kernel_rfl) (by decide) (fun K hK => ?_)
                refine skip_ (w1 := ?_) (by rfl) rfl ?_ ?_
                rotate_left
                · go_simp
                  rfl
                refine hK.out _ _ ?_
                clear hK K
                refine done_ (by kernel_rfl) ?_

                have HD3 := Lib.hid hd3
                have HB3 := Lib.hid hB3
                clear hd3 hp3 hd3c hd3f hB3
                go_wp2
                go_roundw
                case rel =>
                  refine ⟨t + 1, by omega, by simp, blk_far (blk_below (blk_drew (blk_alloc G1.out _)) HB3.out) (Ne.symm hdb) _, blk_far (blk_below (blk_drew (blk_alloc G2.out _)) HB3.out) (Ne.symm hdc) _, ?_, blk_far (blk_below (blk_drew (blk_alloc G4.out _)) HB3.out) (Ne.symm hde) _, Below.setCell (below_step (below_drew1 (below_alloc G5.out _)) HB3.out) hwd _⟩
                  rw [HT.out]
                  refine blk_put HD3.out 2 _ ?_
                  rw [← HCUR.out]
                  rfl
                case measure => simp [intOf]; omega
              · obtain rfl : t = x2.length := by omega
                rw [List.take_length] at g3
                have G3 := Lib.hid g3
                clear g1 g2 g3 g4 g5
                go_wp2
                go_roundw
                case rel => exact ⟨3, _, _, _, _, _, _, _, _, by omega, by simp, rfl, rfl, by simpa using HG.out.to_3 rfl (show wi (v2 - x1_2) = wi (x0_2 - x1_2) by rw [HV.out]), G1.out, G2.out, G3.out, G4.out, G5.out⟩
                case measure => simp [intOf])
        · obtain ⟨hu, hv, hw, hr⟩ := HG.out.end_
          simp only [Prod.mk.injEq] at hv
          obtain ⟨rfl, rfl, rfl⟩ := hv
          have HW := Lib.hid hw.symm
          have HR := Lib.hid hr.symm
          have hplus : ∀ V, Below wr.heap.size wr V → Calls Try.prog 18 #[bill x0_0 x0_1 x0_2, .slice A2 x2.length c2] V fun e V' => e = .returned (bill u0 u1 u2) ∧ Below V.heap.size V V' := fun V hV => by
            have := plus_calls A2 c2 x2 x0_0 x0_1 x0_2 V (Kd.C_below HC.out (below_step (below_step HB.out H5.out) hV)) (by omega)
            rw [← hu] at this
            exact this
          have kp : ∀ V, Below wr.heap.size wr V → B3 V W.heap.size x0_0 x0_1 x0_2 := fun V h => KP.out V (below_step H5.out h)
          have kq : ∀ V, Below wr.heap.size wr V → B3 V (W.heap.size + 1) x1_0 x1_1 x1_2 := fun V h => KQ.out V (below_step H5.out h)
          have kd : ∀ V, Below wr.heap.size wr V → A3 V d u0 u1 u2 := fun V h => blk_below H3.out h
          have ke : ∀ V, Below wr.heap.size wr V → A3 V e (wi (x0_0 - x1_0)) (wi (x0_1 - x1_1)) (wi (x0_2 - x1_2)) := fun V h => blk_below H4.out h
          have m0 : ∀ V, Below wr.heap.size wr V → V.cell? ⟨W.heap.size, 0, none⟩ = some (.int .i64 x0_0) := fun V h => blk_cell (kp V h) 0
          have m1 : ∀ V, Below wr.heap.size wr V → V.cell? ⟨W.heap.size, 1, none⟩ = some (.int .i64 x0_1) := fun V h => blk_cell (kp V h) 1
          have m2 : ∀ V, Below wr.heap.size wr V → V.cell? ⟨W.heap.size, 2, none⟩ = some (.int .i64 x0_2) := fun V h => blk_cell (kp V h) 2
          have n0 : ∀ V, Below wr.heap.size wr V → V.cell? ⟨W.heap.size + 1, 0, none⟩ = some (.int .i64 x1_0) := fun V h => blk_cell (kq V h) 0
          have n1 : ∀ V, Below wr.heap.size wr V → V.cell? ⟨W.heap.size + 1, 1, none⟩ = some (.int .i64 x1_1) := fun V h => blk_cell (kq V h) 1
          have n2 : ∀ V, Below wr.heap.size wr V → V.cell? ⟨W.heap.size + 1, 2, none⟩ = some (.int .i64 x1_2) := fun V h => blk_cell (kq V h) 2
          have d0 : ∀ V, Below wr.heap.size wr V → V.cell? ⟨d, 0, none⟩ = some (.int .i64 u0) := fun V h => blk_cell (kd V h) 0
          have d1 : ∀ V, Below wr.heap.size wr V → V.cell? ⟨d, 1, none⟩ = some (.int .i64 u1) := fun V h => blk_cell (kd V h) 1
          have d2 : ∀ V, Below wr.heap.size wr V → V.cell? ⟨d, 2, none⟩ = some (.int .i64 u2) := fun V h => blk_cell (kd V h) 2
          have f0 : ∀ V, Below wr.heap.size wr V → V.cell? ⟨e, 0, none⟩ = some (.int .i64 (wi (x0_0 - x1_0))) := fun V h => blk_cell (ke V h) 0
          have f1 : ∀ V, Below wr.heap.size wr V → V.cell? ⟨e, 1, none⟩ = some (.int .i64 (wi (x0_1 - x1_1))) := fun V h => blk_cell (ke V h) 1
          have f2 : ∀ V, Below wr.heap.size wr V → V.cell? ⟨e, 2, none⟩ = some (.int .i64 (wi (x0_2 - x1_2))) := fun V h => blk_cell (ke V h) 2
          have hS := Below.refl wr.heap.size wr
          have q3 : ∀ (a b c : Int) (V : World), (Op.equalIn 10000 26 (bill a b c) (bill a b c)).run Try.prog V = .ok true V := fun a b c V => by rw [eq3]; simp
          clear hu hw hr hdb hdc heb hec hde b0 b1 b2 c0 c1 c2' e0 e1 e2 ef0 ef1 ef2 kp kq kd ke
          go_wp2
          go_region_held3 (fun V => Below wr.heap.size wr V) (repeat' (first | (with_reducible exact Below.refl _ _) | (with_reducible assumption) | (with_reducible refine Below.alloc ?_ ?_ _) | (with_reducible refine Below.drew ?_) | (with_reducible refine Below.setCell ?_ ?_ _) | (with_reducible refine pw_below_drewN ?_ _) | (refine below_step (W := ?_) ?_ ?_; rotate_left 2; (with_reducible assumption)) | go_size)) (first
            | (go_at_call 18; refine (hplus _ (by assumption)).mono ?_; rintro e w3 ⟨rfl, hB3⟩)
            | (go_at_call 17; refine (three_calls _ _ _ _).mono ?_; rintro e w4 ⟨rfl, hB4⟩)
            | (go_at_call 19; refine (minus_calls _ _ _ _ _ _ _).mono ?_; rintro e w5 ⟨rfl, hB5⟩)
            | (go_at_call 20; refine (within_is wn _ _ _ _ _ _ _ HW.out).mono ?_; rintro e w6 ⟨rfl, hB6⟩)
            | (go_at_call 21; refine (right_is rt _ _ _ _ HR.out).mono ?_; rintro e w7 ⟨rfl, hB7⟩))
          have hfin : Below wr.heap.size wr w7 := by assumption
          have HF := Lib.hid (below_step (below_step HB.out H5.out) hfin)
          clear hfin
          go_wp2
          go_ret
          exact ⟨rfl, HF.out⟩
end Go.Proofs.Ytaoacibahdbdkaa.LedBl
