/- reply: the law ReplySame, walked. -/
import Derived.Test.YtaoacibahdbdkaaRepL
import Derived.Test.YtaoacibahdbdkaaOpen
namespace Go.Proofs.Ytaoacibahdbdkaa.RepW
open Go.RowKit Go Go.Proofs.Ytaoacibahdbdkaa.QReplySame Go.Proofs.YtaoacibahdbdkaaW.PrintWords Go.Proofs.YtaoacibahdbdkaaW.PrintLast Go.Proofs.YtaoacibahdbdkaaW.PrintMore Go.Proofs.Ytaoacibahdbdkaa.Fra Go.Proofs.Ytaoacibahdbdkaa.Rep
abbrev RB (w : World) (b : Nat) (e h g : Int) (A : Option Addr) (n c : Nat) : Prop := w.heap[b]? = some (.cells #[.int .i64 e, .int .u64 h, .int .u64 g, .slice A n c] 82 (0, 0))
theorem sameR_self (e h g : Int) (l : List S54) : sameR e h g l e h g l = true := by simp [sameR]
set_option maxHeartbeats 2000000 in
set_option maxRecDepth 100000 in
theorem long_ (e0 h0 g0 : Int) (A0 : Option Addr) (n0 c0 : Nat) (e1 h1 g1 : Int) (A1 : Option Addr) (n1 c1 : Nat) (w : World) (hn0 : n0 ≤ 140737488351232) (hn1 : n1 ≤ 140737488351232) (hl : 100 < n0 + n1) :
    Calls Try.prog 11 #[.agg #[.int .i64 e0, .int .u64 h0, .int .u64 g0, .slice A0 n0 c0], .agg #[.int .i64 e1, .int .u64 h1, .int .u64 g1, .slice A1 n1 c1]] w fun e w' => e = .returned (.bool true) ∧ Below w.heap.size w w' := by
  have hl' : (100 : Int) < (n0 : Int) + (n1 : Int) := by omega
  go_enter Try.func11, Try.ntmps11
  go_wp2_with (first
    | (go_at_call 46; go_loud (have _t := HB.out; refine (lives_calls _).mono ?_; rintro e w2 ⟨rfl, hB2⟩; have HB2 := Lib.hid (below_step HB.out hB2); clear hB2))
    | (go_at_call 46; go_loud (refine (lives_calls _).mono ?_; rintro e w1 ⟨rfl, hB1⟩; have HB := Lib.hid (below_step (below_alloc (below_alloc (Below.refl w.heap.size w) _) _) hB1); have hp := blk_below (blk_alloc (blk_new w _) _) hB1; have hq := blk_below (blk_new1 w _ _) hB1; have p3 := blk_cell hp 3; have q3 := blk_cell hq 3; clear hB1 hp hq)))
  go_ret
  exact ⟨rfl, HB2.out⟩
set_option maxHeartbeats 4000000 in
set_option maxRecDepth 100000 in
theorem main (e0 h0 g0 : Int) (A0 : Option Addr) (c0 : Nat) (l0 : List S54) (e1 h1 g1 : Int) (A1 : Option Addr) (c1 : Nat) (l1 : List S54) (w : World) (hC0 : Kd.C k54 w A0 l0.length l0) (hc0 : l0.length ≤ c0) (hC1 : Kd.C k54 w A1 l1.length l1) (hc1 : l1.length ≤ c1) (hl : l0.length + l1.length ≤ 100) :
    Calls Try.prog 11 #[.agg #[.int .i64 e0, .int .u64 h0, .int .u64 g0, .slice A0 l0.length c0], .agg #[.int .i64 e1, .int .u64 h1, .int .u64 g1, .slice A1 l1.length c1]] w fun e w' => e = .returned (.bool true) ∧ Below w.heap.size w w' := by
  have hl' : (l0.length : Int) + (l1.length : Int) ≤ 100 := by omega
  have hl0 : l0.length ≤ 100000 := by omega
  have hl1 : l1.length ≤ 100000 := by omega
  have HC0 := Lib.hid hC0
  have HC1 := Lib.hid hC1
  obtain ⟨s, hs⟩ : ∃ s, sameR e0 h0 g0 l0 e1 h1 g1 l1 = s := ⟨_, rfl⟩
  have HS := Lib.hid hs
  have HS1 := Lib.hid (same_f 200000 e0 h0 g0 l0 e1 h1 g1 l1 hl0 (by omega))
  have HS2 := Lib.hid (same_f 200000 e0 h0 g0 l0 e0 h0 g0 l0 hl0 (by omega))
  clear hC0 hC1 hs
  by_cases he : e0 = e1
  · subst he
    have HSM := Lib.hid (show sameR (e0 % 256) h0 g0 l0 (e0 % 256) h1 g1 l1 = s by rw [← HS.out]; simp [sameR])
    go_enter Try.func11, Try.ntmps11
    go_wp2_with (go_at_call 46; go_loud (refine (lives_calls _).mono ?_; rintro e w1 ⟨rfl, hB1⟩; have HB := Lib.hid (below_step (below_alloc (below_alloc (Below.refl w.heap.size w) _) _) hB1); have hp := blk_below (blk_alloc (blk_new w _) _) hB1; have hq := blk_below (blk_new1 w _ _) hB1; have p3 := blk_cell hp 3; have q3 := blk_cell hq 3; have HP := Lib.hid hp; have HQ := Lib.hid hq; clear hB1 hp hq))
    clear p3 q3
    have hS := Below.refl w1.heap.size w1
    have kp : ∀ V, Below w1.heap.size w1 V → RB V w.heap.size e0 h0 g0 A0 l0.length c0 := fun V h => blk_below HP.out h
    have kq : ∀ V, Below w1.heap.size w1 V → RB V (w.heap.size + 1) e0 h1 g1 A1 l1.length c1 := fun V h => blk_below HQ.out h
    have p0 : ∀ V, Below w1.heap.size w1 V → V.cell? ⟨w.heap.size, 0, none⟩ = some (.int .i64 e0) := fun V h => blk_cell (kp V h) 0
    have p1 : ∀ V, Below w1.heap.size w1 V → V.cell? ⟨w.heap.size, 1, none⟩ = some (.int .u64 h0) := fun V h => blk_cell (kp V h) 1
    have p2 : ∀ V, Below w1.heap.size w1 V → V.cell? ⟨w.heap.size, 2, none⟩ = some (.int .u64 g0) := fun V h => blk_cell (kp V h) 2
    have p3 : ∀ V, Below w1.heap.size w1 V → V.cell? ⟨w.heap.size, 3, none⟩ = some (.slice A0 l0.length c0) := fun V h => blk_cell (kp V h) 3
    have q0 : ∀ V, Below w1.heap.size w1 V → V.cell? ⟨w.heap.size + 1, 0, none⟩ = some (.int .i64 e0) := fun V h => blk_cell (kq V h) 0
    have q1 : ∀ V, Below w1.heap.size w1 V → V.cell? ⟨w.heap.size + 1, 1, none⟩ = some (.int .u64 h1) := fun V h => blk_cell (kq V h) 1
    have q2 : ∀ V, Below w1.heap.size w1 V → V.cell? ⟨w.heap.size + 1, 2, none⟩ = some (.int .u64 g1) := fun V h => blk_cell (kq V h) 2
    have q3 : ∀ V, Below w1.heap.size w1 V → V.cell? ⟨w.heap.size + 1, 3, none⟩ = some (.slice A1 l1.length c1) := fun V h => blk_cell (kq V h) 3
    have KP := Lib.hid kp
    have KQ := Lib.hid kq
    clear kp kq
    have tk := trivial
    go_region_held3 (fun V => Below w1.heap.size w1 V) (repeat' (first | (with_reducible exact Below.refl _ _) | (with_reducible assumption) | (with_reducible refine Below.alloc ?_ ?_ _) | (with_reducible refine Below.drew ?_) | (with_reducible refine Below.setCell ?_ ?_ _) | (with_reducible refine pw_below_drewN ?_ _) | (refine below_step (W := ?_) ?_ ?_; rotate_left 2; (with_reducible assumption)) | go_size)) (first
      | (go_at_call 48; have _t := tk; refine (plain_calls e0 h0 g0 A0 c0 l0 _ (Kd.C_below HC0.out (below_step HB.out (by assumption))) hl0).mono ?_; rintro e w3 ⟨v3, rfl, hv3, hB3⟩; clear tk)
      | (go_at_call 48; refine (plain_calls e0 h1 g1 A1 c1 l1 _ (Kd.C_below HC1.out (below_step HB.out (by assumption))) hl1).mono ?_; rintro e w4 ⟨v4, rfl, hv4, hB4⟩)
      | (go_at_call 47; refine (same_calls _ _ _ _ l0 _ _ _ _ l1 _ (hv3.below hB4) hv4 hl0).mono ?_; rw [HSM.out]; rintro e w5 ⟨rfl, hB5⟩))
    have hfin : Below w1.heap.size w1 w5 := by assumption
    have HF := Lib.hid (below_step HB.out hfin)
    have hp := KP.out _ hfin
    have hq := KQ.out _ hfin
    have HP5 := Lib.hid hp
    have HQ5 := Lib.hid hq
    clear p0 p1 p2 p3 q0 q1 q2 q3 hv3 hv4 hB3 hB4 hB5
    have p0 := blk_cell hp 0
    have p1 := blk_cell hp 1
    have p2 := blk_cell hp 2
    have p3 := blk_cell hp 3
    have q0 := blk_cell hq 0
    have q1 := blk_cell hq 1
    have q2 := blk_cell hq 2
    have q3 := blk_cell hq 3
    clear hp hq hfin hS
    have tk := trivial
    go_wp2_with (first
      | (go_at_call 49; go_loud (have _t := tk; refine (reply_Same.calls 200000 e0 h0 g0 A0 c0 l0 e0 h1 g1 A1 c1 l1 s _ (Kd.C_below HC0.out HF.out) hc0 (Kd.C_below HC1.out HF.out) hc1 (by rw [HS1.out, HS.out])).mono ?_; rintro e w6 ⟨rfl, hB6⟩; have hp6 := blk_below HP5.out hB6; have r0 := blk_cell hp6 0; have r1 := blk_cell hp6 1; have r2 := blk_cell hp6 2; have r3 := blk_cell hp6 3; have HF6 := Lib.hid (below_step HF.out hB6); clear hp6 hB6 tk))
      | (go_at_call 49; go_loud (refine (reply_Same.calls 200000 e0 h0 g0 A0 c0 l0 e0 h0 g0 A0 c0 l0 true _ (Kd.C_below HC0.out HF6.out) hc0 (Kd.C_below HC0.out HF6.out) hc0 (by rw [HS2.out, sameR_self])).mono ?_; rintro e w7 ⟨rfl, hB7⟩; have HF7 := Lib.hid (below_step HF6.out hB7); clear hB7)))
    go_ret
    exact ⟨rfl, HF7.out⟩
  · have b1 : (e0 == e1) = false := by simpa using he
    have hsf : s = false := by rw [← HS.out]; simp [sameR, he]
    subst hsf
    clear he
    go_enter Try.func11, Try.ntmps11
    go_wp2_with (go_at_call 46; go_loud (refine (lives_calls _).mono ?_; rintro e w1 ⟨rfl, hB1⟩; have HB := Lib.hid (below_step (below_alloc (below_alloc (Below.refl w.heap.size w) _) _) hB1); have hp := blk_below (blk_alloc (blk_new w _) _) hB1; have hq := blk_below (blk_new1 w _ _) hB1; have p3 := blk_cell hp 3; have q3 := blk_cell hq 3; have p0 := blk_cell hp 0; have q0 := blk_cell hq 0; have p1 := blk_cell hp 1; have q1 := blk_cell hq 1; have p2 := blk_cell hp 2; have q2 := blk_cell hq 2; have HP := Lib.hid hp; have HQ := Lib.hid hq; clear hB1 hp hq))
    go_quiet (fail)
    have tk := trivial
    have HF := Lib.hid (pw_below_drewN HB.out nq)
    go_wp2_with (first
      | (go_at_call 49; go_loud (have _t := tk; refine (reply_Same.calls 200000 e0 h0 g0 A0 c0 l0 e1 h1 g1 A1 c1 l1 false _ (Kd.C_below HC0.out HF.out) hc0 (Kd.C_below HC1.out HF.out) hc1 (by rw [HS1.out, HS.out])).mono ?_; rintro e w6 ⟨rfl, hB6⟩; have hp6 := blk_below (blk_drewN HP.out nq) hB6; have r0 := blk_cell hp6 0; have r1 := blk_cell hp6 1; have r2 := blk_cell hp6 2; have r3 := blk_cell hp6 3; have HF6 := Lib.hid (below_step HF.out hB6); clear hp6 hB6 tk))
      | (go_at_call 49; go_loud (refine (reply_Same.calls 200000 e0 h0 g0 A0 c0 l0 e0 h0 g0 A0 c0 l0 true _ (Kd.C_below HC0.out HF6.out) hc0 (Kd.C_below HC0.out HF6.out) hc0 (by rw [HS2.out, sameR_self])).mono ?_; rintro e w7 ⟨rfl, hB7⟩; have HF7 := Lib.hid (below_step HF6.out hB7); clear hB7)))
    go_ret
    exact ⟨rfl, HF7.out⟩
def mk (x : Int × Int × ByteArray) : S54 := ⟨x.1, x.2.1, x.2.2⟩
theorem bytes54 : Try.prog.bytesOf 54 = 32 := by kernel_rfl
theorem walk (x0_0 : Int) (x0_1_0 : Int) (x0_1_1 : Int) (A0_2 : Option Addr) (c0_2 : Nat) (x0_2 : List ((Int) × (Int) × (ByteArray))) (x1_0 : Int) (x1_1_0 : Int) (x1_1_1 : Int) (A1_2 : Option Addr) (c1_2 : Nat) (x1_2 : List ((Int) × (Int) × (ByteArray))) (W : World) (p0_0 : (IntKind.i64.min ≤ x0_0 ∧ x0_0 ≤ IntKind.i64.max)) (p0_1_0 : (IntKind.u64.min ≤ x0_1_0 ∧ x0_1_0 ≤ IntKind.u64.max)) (p0_1_1 : (IntKind.u64.min ≤ x0_1_1 ∧ x0_1_1 ≤ IntKind.u64.max)) (l0_2 : x0_2.length ≤ c0_2) (C0_2 : Kd.C (Kd.pair (Kd.int .u8) (Kd.pair (Kd.int .i64) Kd.string)) W A0_2 x0_2.length x0_2) (p0_2 : (x0_2.length ≤ maxLen ∧ x0_2.length * Try.prog.bytesOf 54 ≤ 140737488351232 ∧ ∀ x : Int × Int × ByteArray, x ∈ x0_2 → ((IntKind.u8.min ≤ x.1 ∧ x.1 ≤ IntKind.u8.max) ∧ ((IntKind.i64.min ≤ x.2.1 ∧ x.2.1 ≤ IntKind.i64.max) ∧ (x.2.2.size ≤ 140737488351232))))) (p1_0 : (IntKind.i64.min ≤ x1_0 ∧ x1_0 ≤ IntKind.i64.max)) (p1_1_0 : (IntKind.u64.min ≤ x1_1_0 ∧ x1_1_0 ≤ IntKind.u64.max)) (p1_1_1 : (IntKind.u64.min ≤ x1_1_1 ∧ x1_1_1 ≤ IntKind.u64.max)) (l1_2 : x1_2.length ≤ c1_2) (C1_2 : Kd.C (Kd.pair (Kd.int .u8) (Kd.pair (Kd.int .i64) Kd.string)) W A1_2 x1_2.length x1_2) (p1_2 : (x1_2.length ≤ maxLen ∧ x1_2.length * Try.prog.bytesOf 54 ≤ 140737488351232 ∧ ∀ x : Int × Int × ByteArray, x ∈ x1_2 → ((IntKind.u8.min ≤ x.1 ∧ x.1 ≤ IntKind.u8.max) ∧ ((IntKind.i64.min ≤ x.2.1 ∧ x.2.1 ≤ IntKind.i64.max) ∧ (x.2.2.size ≤ 140737488351232))))) :
    Calls Try.prog 11 #[.agg #[.int .i64 x0_0, .int .u64 x0_1_0, .int .u64 x0_1_1, .slice A0_2 x0_2.length c0_2], .agg #[.int .i64 x1_0, .int .u64 x1_1_0, .int .u64 x1_1_1, .slice A1_2 x1_2.length c1_2]] W fun e W' => e = .returned (.bool true) ∧ Below W.heap.size W W' := by
  have hb0 := p0_2.2.1
  have hb1 := p1_2.2.1
  rw [bytes54] at hb0 hb1
  by_cases hl : 100 < x0_2.length + x1_2.length
  · exact long_ x0_0 x0_1_0 x0_1_1 A0_2 x0_2.length c0_2 x1_0 x1_1_0 x1_1_1 A1_2 x1_2.length c1_2 W (by omega) (by omega) hl
  · have h0 : (x0_2.map mk).length = x0_2.length := List.length_map _
    have h1 : (x1_2.map mk).length = x1_2.length := List.length_map _
    have k0 : Kd.C k54 W A0_2 (x0_2.map mk).length (x0_2.map mk) := by rw [h0]; exact Open.C_iso (fun x : S54 => (x.f0, x.f1, x.f2)) mk (fun _ => rfl) C0_2
    have k1 : Kd.C k54 W A1_2 (x1_2.map mk).length (x1_2.map mk) := by rw [h1]; exact Open.C_iso (fun x : S54 => (x.f0, x.f1, x.f2)) mk (fun _ => rfl) C1_2
    have := main x0_0 x0_1_0 x0_1_1 A0_2 c0_2 (x0_2.map mk) x1_0 x1_1_0 x1_1_1 A1_2 c1_2 (x1_2.map mk) W k0 (by omega) k1 (by omega) (by omega)
    rw [h0, h1] at this
    exact this
end Go.Proofs.Ytaoacibahdbdkaa.RepW
