-- Written by a program of this session (wip/tools/pp.py), which drives the kit's print with contracts of the session's own: not the kit's printed text.
import Derived.Test.YtcpcnnpdbognlaaQRightsGivenx0
namespace Go.Proofs.Ytcpcnnpdbognlaa.QRightsGiven
open Go.RowKit Go.Proofs.YtcpcnnpdbognlaaW.PrintWords Go.Proofs.YtcpcnnpdbognlaaW.PrintLast Go.Proofs.YtcpcnnpdbognlaaW.PrintMore
attribute [local go_sem] max2_int min2_int max_two min_two max_three min_three max_four min_four   -- for this text's walks alone
set_option linter.unusedVariables false
set_option linter.unusedSimpArgs false

/-! ### easementlaw16_lives: function 52 -/
def easementlaw16_lives.f : Option Bool := some true
theorem easementlaw16_lives.calls (r : Bool) (w : World) (h : easementlaw16_lives.f = some r) : Calls Try.prog 52 #[] w fun e w' => e = .returned (.bool r) ∧ Below w.heap.size w w' := by
  obtain rfl := Option.some.inj h
  exact Rg.lives_calls w

/-! ### rights_Set_Has: function 54 -/
def rights_Set_Has.f (a0 : Int) (a1 : Int) : Option (Bool) := some ((Go.bits .and .u8 a0 a1) == a1)
set_option maxHeartbeats 8000000 in
set_option maxRecDepth 100000 in
theorem rights_Set_Has.calls (a0 : Int) (a1 : Int) (r : Bool) (w : World) (h : rights_Set_Has.f a0 a1 = some r) :
    Calls Try.prog 54 #[.int .u8 a0, .int .u8 a1] w fun e w' => e = .returned (.bool r) ∧ Drawn0 w w' := by
  have H : (some ((Go.bits .and .u8 a0 a1) == a1)) = some r := h
  clear h
  obtain rfl := Option.some.inj H
  go_enter Try.func54, Try.ntmps54
  go_wp2
  go_ret
  exact ⟨by first | rfl | (simp; done) | (simp [*]; done), by repeat (first | exact Drawn0.refl _ | apply Drawn0.step)⟩

/-! ### rights_Set_Right: function 55 -/
def rights_Set_Right.f (a0 : Int) : Option (Bool) := some ((Go.bits .andNot .u8 a0 31) == 0)
set_option maxHeartbeats 8000000 in
set_option maxRecDepth 100000 in
theorem rights_Set_Right.calls (a0 : Int) (r : Bool) (w : World) (h : rights_Set_Right.f a0 = some r) :
    Calls Try.prog 55 #[.int .u8 a0] w fun e w' => e = .returned (.bool r) ∧ Drawn0 w w' := by
  have H : (some ((Go.bits .andNot .u8 a0 31) == 0)) = some r := h
  clear h
  obtain rfl := Option.some.inj H
  go_enter Try.func55, Try.ntmps55
  go_wp2
  go_ret
  exact ⟨by first | rfl | (simp; done) | (simp [*]; done), by repeat (first | exact Drawn0.refl _ | apply Drawn0.step)⟩

/-! ### rights_Attenuate: function 53 -/
def rights_Attenuate.j0 : Nat → Int → Int → Bool → Option (Int × Int)
  | 0, _, _, _ => none
  | k + 1, x0, x1, x6 => if x6 = true then (some (0, 1)) else ((rights_Set_Has.f x0 8).bind fun t103 => (if t103 = true then ((rights_Set_Has.f x0 x1).bind fun t104 => (if t104 = true then (some (x1, 0)) else (some (0, 6)))) else (some (0, 6))))
def rights_Attenuate.f (k : Nat) (a0 : Int) (a1 : Int) : Option (Int × Int) := (rights_Set_Right.f a0).bind fun t101 => (if t101 = true then ((rights_Set_Right.f a1).bind fun t102 => (rights_Attenuate.j0 k a0 a1 (!t102))) else (rights_Attenuate.j0 k a0 a1 true))
theorem rights_Attenuate.mono_l : ∀ k, (∀ y0 y1 y2, LeO (rights_Attenuate.j0 k y0 y1 y2) (rights_Attenuate.j0 (k + 1) y0 y1 y2))
  | 0 => fun _ _ _ r h => by simp [rights_Attenuate.j0] at h
  | k + 1 => by
    have ih0 := rights_Attenuate.mono_l k
    · intro y0 y1 y2
      unfold rights_Attenuate.j0
      repeat' first
      | (with_reducible exact ih0 _ _ _)
      | (with_reducible exact LeO.refl _)
      | (with_reducible exact LeO.none _)
      | (with_reducible refine LeO.ite ?_ ?_)
      | (with_reducible refine LeO.bind ?_ (fun _ => ?_))
      | exact ih0 _ _ _
      | exact LeO.none _
      | refine LeO.ite ?_ ?_
      | refine LeO.bind ?_ (fun _ => ?_)
theorem rights_Attenuate.mono : ∀ a0 a1 k, LeO (rights_Attenuate.f k a0 a1) (rights_Attenuate.f (k + 1) a0 a1) := by
  intro a0 a1 k
  have ih0 := rights_Attenuate.mono_l k
  unfold rights_Attenuate.f
  repeat' first
      | (with_reducible exact ih0 _ _ _)
      | (with_reducible exact LeO.refl _)
      | (with_reducible exact LeO.none _)
      | (with_reducible refine LeO.ite ?_ ?_)
      | (with_reducible refine LeO.bind ?_ (fun _ => ?_))
      | exact ih0 _ _ _
      | exact LeO.none _
      | refine LeO.ite ?_ ?_
      | refine LeO.bind ?_ (fun _ => ?_)
set_option maxHeartbeats 8000000 in
set_option maxRecDepth 100000 in
theorem rights_Attenuate.calls (k : Nat) (a0 : Int) (a1 : Int) (r1 : Int) (r2 : Int) (w : World) (h : rights_Attenuate.f k a0 a1 = some (r1, r2)) :
    Calls Try.prog 53 #[.int .u8 a0, .int .u8 a1] w fun e w' => e = .returned (.tuple #[.int .u8 r1, .int .i64 r2]) ∧ Drawn0 w w' := by
  have H : ((rights_Set_Right.f a0).bind fun t101 => (if t101 = true then ((rights_Set_Right.f a1).bind fun t102 => (rights_Attenuate.j0 k a0 a1 (!t102))) else (rights_Attenuate.j0 k a0 a1 true))) = some (r1, r2) := h
  clear h
  have HC3 := Aside0.mk H
  clear H
  go_enter Try.func53, Try.ntmps53
  go_upto_region 1 with (fail)
  go_cut [6] (fun v6 wc => ∃ (kq : Nat) (x6_2 : Bool), v6 = .bool x6_2 ∧ Aside0 (rights_Attenuate.j0 kq a0 a1 x6_2 = some (r1, r2)) ∧ Aside0 (kq ≤ k) ∧ Drawn0 w wc)
  case first =>
    have H := HC3.out
    clear HC3
    replace H := Option.bind_eq_some_iff.mp H
    obtain ⟨t101, A40, H⟩ := H
    replace H : (if t101 = true then ((rights_Set_Right.f a1).bind fun t102 => (rights_Attenuate.j0 k a0 a1 (!t102))) else (rights_Attenuate.j0 k a0 a1 true)) = some (r1, r2) := H
    have A4 := Aside0.mk A40
    clear A40
    by_cases c5 : t101 = true
    · subst c5
      have H1 : ((rights_Set_Right.f a1).bind fun t102 => (rights_Attenuate.j0 k a0 a1 (!t102))) = some (r1, r2) := by rw [if_pos rfl] at H; exact H
      clear H
      have H := H1
      clear H1
      replace H := Option.bind_eq_some_iff.mp H
      obtain ⟨t102, A60, H⟩ := H
      replace H : (rights_Attenuate.j0 k a0 a1 (!t102)) = some (r1, r2) := H
      have A6 := Aside0.mk A60
      clear A60
      have H' := Aside0.mk H
      clear H
      go_wp2_with (first | ((with_reducible refine gate_callee (f := 55) rfl ?_); refine goesL_ (some 8) rfl rfl Try.func55 (by kernel_rfl) rfl #[.int .u8 a0] rfl (by (try simp only [List.map_toArray, List.map_cons, List.map_nil]); first | done | rfl | (simp only [List.length_drop, List.length_take]; rfl)) ?_; (with_reducible refine (rights_Set_Right.calls a0 true _ A4.out).mono ?_); rintro e w' ⟨rfl, ⟨nd, rfl⟩⟩; refine ⟨_, rfl, ?_⟩) | (go_at_call 55; (with_reducible refine (rights_Set_Right.calls a1 t102 _ A6.out).mono ?_); rintro e w' ⟨rfl, ⟨nd, rfl⟩⟩))
      go_meet
      case rel => exact ⟨_, (!t102), (by first | rfl | (simp; done) | (simp [*]; done)), H', ⟨by first | omega | exact Nat.le_refl _⟩, by repeat (first | exact Drawn0.refl _ | apply Drawn0.step)⟩
    · replace c5 := Bool.eq_false_iff.mpr c5
      subst c5
      have H1 : (rights_Attenuate.j0 k a0 a1 true) = some (r1, r2) := by rw [if_neg (show ¬ (false = true) by decide)] at H; exact H
      clear H
      have H := H1
      clear H1
      have H' := Aside0.mk H
      clear H
      go_wp2_with (first | ((with_reducible refine gate_callee (f := 55) rfl ?_); refine goesL_ (some 8) rfl rfl Try.func55 (by kernel_rfl) rfl #[.int .u8 a0] rfl (by (try simp only [List.map_toArray, List.map_cons, List.map_nil]); first | done | rfl | (simp only [List.length_drop, List.length_take]; rfl)) ?_; (with_reducible refine (rights_Set_Right.calls a0 false _ A4.out).mono ?_); rintro e w' ⟨rfl, ⟨nd, rfl⟩⟩; refine ⟨_, rfl, ?_⟩))
      go_meet
      case rel => exact ⟨_, (true), (by first | rfl | (simp; done) | (simp [*]; done)), H', ⟨by first | omega | exact Nat.le_refl _⟩, by repeat (first | exact Drawn0.refl _ | apply Drawn0.step)⟩
  case rest =>
    clear HC3
    try clear p2
    try clear c5
    obtain ⟨kq, x6_2, rfl, HA, HJ2, ⟨mc2, rfl⟩⟩ := hcut
    cases kq with
    | zero => exact absurd HA.out (by simp [rights_Attenuate.j0])
    | succ kj2 =>
      have H := HA.out
      clear HA
      simp only [rights_Attenuate.j0] at H
      by_cases c7 : x6_2 = true
      · subst c7
        have H1 : (some (0, 1)) = some (r1, r2) := by rw [if_pos rfl] at H; exact H
        clear H
        have H := H1
        clear H1
        simp only [Option.some.injEq, Prod.mk.injEq] at H
        obtain ⟨rfl, rfl⟩ := H
        go_wp2
        go_ret2
        exact ⟨by first | rfl | (simp; done) | (simp [*]; done), by repeat (first | exact Drawn0.refl _ | apply Drawn0.step)⟩
      · replace c7 := Bool.eq_false_iff.mpr c7
        subst c7
        have H1 : ((rights_Set_Has.f a0 8).bind fun t103 => (if t103 = true then ((rights_Set_Has.f a0 a1).bind fun t104 => (if t104 = true then (some (a1, 0)) else (some (0, 6)))) else (some (0, 6)))) = some (r1, r2) := by rw [if_neg (show ¬ (false = true) by decide)] at H; exact H
        clear H
        have H := H1
        clear H1
        replace H := Option.bind_eq_some_iff.mp H
        obtain ⟨t103, A80, H⟩ := H
        replace H : (if t103 = true then ((rights_Set_Has.f a0 a1).bind fun t104 => (if t104 = true then (some (a1, 0)) else (some (0, 6)))) else (some (0, 6))) = some (r1, r2) := H
        have A8 := Aside0.mk A80
        clear A80
        by_cases c9 : t103 = true
        · subst c9
          have H1 : ((rights_Set_Has.f a0 a1).bind fun t104 => (if t104 = true then (some (a1, 0)) else (some (0, 6)))) = some (r1, r2) := by rw [if_pos rfl] at H; exact H
          clear H
          have H := H1
          clear H1
          replace H := Option.bind_eq_some_iff.mp H
          obtain ⟨t104, A100, H⟩ := H
          replace H : (if t104 = true then (some (a1, 0)) else (some (0, 6))) = some (r1, r2) := H
          have A10 := Aside0.mk A100
          clear A100
          by_cases c11 : t104 = true
          · subst c11
            have H1 : (some (a1, 0)) = some (r1, r2) := by rw [if_pos rfl] at H; exact H
            clear H
            have H := H1
            clear H1
            simp only [Option.some.injEq, Prod.mk.injEq] at H
            obtain ⟨rfl, rfl⟩ := H
            go_wp2_with (first | ((with_reducible refine gate_callee (f := 54) rfl ?_); refine goesL_ (some 17) rfl rfl Try.func54 (by kernel_rfl) rfl #[.int .u8 a0, .int .u8 8] rfl (by (try simp only [List.map_toArray, List.map_cons, List.map_nil]); first | done | rfl | (simp only [List.length_drop, List.length_take]; rfl)) ?_; (with_reducible refine (rights_Set_Has.calls a0 8 true _ A8.out).mono ?_); rintro e w' ⟨rfl, ⟨nd, rfl⟩⟩; refine ⟨_, rfl, ?_⟩) | (go_at_call 54; (with_reducible refine (rights_Set_Has.calls a0 a1 true _ A10.out).mono ?_); rintro e w' ⟨rfl, ⟨nd, rfl⟩⟩))
            go_ret2
            exact ⟨by first | rfl | (simp; done) | (simp [*]; done), by repeat (first | exact Drawn0.refl _ | apply Drawn0.step)⟩
          · replace c11 := Bool.eq_false_iff.mpr c11
            subst c11
            have H1 : (some (0, 6)) = some (r1, r2) := by rw [if_neg (show ¬ (false = true) by decide)] at H; exact H
            clear H
            have H := H1
            clear H1
            simp only [Option.some.injEq, Prod.mk.injEq] at H
            obtain ⟨rfl, rfl⟩ := H
            go_wp2_with (first | ((with_reducible refine gate_callee (f := 54) rfl ?_); refine goesL_ (some 17) rfl rfl Try.func54 (by kernel_rfl) rfl #[.int .u8 a0, .int .u8 8] rfl (by (try simp only [List.map_toArray, List.map_cons, List.map_nil]); first | done | rfl | (simp only [List.length_drop, List.length_take]; rfl)) ?_; (with_reducible refine (rights_Set_Has.calls a0 8 true _ A8.out).mono ?_); rintro e w' ⟨rfl, ⟨nd, rfl⟩⟩; refine ⟨_, rfl, ?_⟩) | (go_at_call 54; (with_reducible refine (rights_Set_Has.calls a0 a1 false _ A10.out).mono ?_); rintro e w' ⟨rfl, ⟨nd, rfl⟩⟩))
            go_ret2
            exact ⟨by first | rfl | (simp; done) | (simp [*]; done), by repeat (first | exact Drawn0.refl _ | apply Drawn0.step)⟩
        · replace c9 := Bool.eq_false_iff.mpr c9
          subst c9
          have H1 : (some (0, 6)) = some (r1, r2) := by rw [if_neg (show ¬ (false = true) by decide)] at H; exact H
          clear H
          have H := H1
          clear H1
          simp only [Option.some.injEq, Prod.mk.injEq] at H
          obtain ⟨rfl, rfl⟩ := H
          go_wp2_with (first | ((with_reducible refine gate_callee (f := 54) rfl ?_); refine goesL_ (some 17) rfl rfl Try.func54 (by kernel_rfl) rfl #[.int .u8 a0, .int .u8 8] rfl (by (try simp only [List.map_toArray, List.map_cons, List.map_nil]); first | done | rfl | (simp only [List.length_drop, List.length_take]; rfl)) ?_; (with_reducible refine (rights_Set_Has.calls a0 8 false _ A8.out).mono ?_); rintro e w' ⟨rfl, ⟨nd, rfl⟩⟩; refine ⟨_, rfl, ?_⟩))
          go_ret2
          exact ⟨by first | rfl | (simp; done) | (simp [*]; done), by repeat (first | exact Drawn0.refl _ | apply Drawn0.step)⟩

/-! ### easementlaw16_RightsGiven: function 13 -/
mutual
def easementlaw16_RightsGiven.l0 : Nat → Int → Int → Int → Int → Bool → Int → Option (Bool)
  | 0, _, _, _, _, _, _ => none
  | k + 1, x0, x1, x5, x6, x7, x17 => if x17 < 8 then (if x7 = true then (if 0 ≤ x17 then (if (Int.tmod (shr .u8 x1 x17) 2) = 0 then (easementlaw16_RightsGiven.l0 k x0 x1 x5 x6 true (wrap64 (x17 + 1))) else (easementlaw16_RightsGiven.l0 k x0 x1 x5 x6 ((Int.tmod (shr .u8 x0 x17) 2) == 1) (wrap64 (x17 + 1)))) else (none)) else (easementlaw16_RightsGiven.l0 k x0 x1 x5 x6 false (wrap64 (x17 + 1)))) else ((rights_Set_Has.f x0 x1).bind fun t108 => (if (t108 != x7) = true then (easementlaw16_RightsGiven.j1 k x0 x1 x5 x6 x7 true) else ((rights_Set_Right.f x0).bind fun t109 => (easementlaw16_RightsGiven.j1 k x0 x1 x5 x6 x7 (t109 != (decide (x0 < 32)))))))
def easementlaw16_RightsGiven.j1 : Nat → Int → Int → Int → Int → Bool → Bool → Option (Bool)
  | 0, _, _, _, _, _, _ => none
  | k + 1, x0, x1, x5, x6, x7, x47 => if x47 = true then (some false) else (if x0 > 31 then (easementlaw16_RightsGiven.j2 k x0 x1 x5 x6 x7 true) else (easementlaw16_RightsGiven.j2 k x0 x1 x5 x6 x7 (decide (x1 > 31))))
def easementlaw16_RightsGiven.j2 : Nat → Int → Int → Int → Int → Bool → Bool → Option (Bool)
  | 0, _, _, _, _, _, _ => none
  | k + 1, x0, x1, x5, x6, x7, x48 => if x48 = true then (if x6 = 1 then (some (x5 == 0)) else (some false)) else (if (((Int.tdiv x0 8) % 256) % 2) = 0 then (if x6 = 6 then (some (x5 == 0)) else (some false)) else (if x7 = true then (if x6 = 0 then (some (x5 == x1)) else (some false)) else (if x6 = 6 then (some (x5 == 0)) else (some false))))
end
def easementlaw16_RightsGiven.f (k : Nat) (a0 : Int) (a1 : Int) : Option (Bool) := (easementlaw16_lives.f).bind fun t105 => (if t105 = true then ((rights_Attenuate.f k a0 a1).bind fun bt106 => (easementlaw16_RightsGiven.l0 k a0 a1 bt106.1 bt106.2 true 0)) else (some false))
theorem easementlaw16_RightsGiven.mono_l : ∀ k, (∀ y0 y1 y2 y3 y4 y5, LeO (easementlaw16_RightsGiven.l0 k y0 y1 y2 y3 y4 y5) (easementlaw16_RightsGiven.l0 (k + 1) y0 y1 y2 y3 y4 y5)) ∧ (∀ y0 y1 y2 y3 y4 y5, LeO (easementlaw16_RightsGiven.j1 k y0 y1 y2 y3 y4 y5) (easementlaw16_RightsGiven.j1 (k + 1) y0 y1 y2 y3 y4 y5)) ∧ (∀ y0 y1 y2 y3 y4 y5, LeO (easementlaw16_RightsGiven.j2 k y0 y1 y2 y3 y4 y5) (easementlaw16_RightsGiven.j2 (k + 1) y0 y1 y2 y3 y4 y5))
  | 0 => ⟨fun _ _ _ _ _ _ r h => by simp [easementlaw16_RightsGiven.l0] at h, fun _ _ _ _ _ _ r h => by simp [easementlaw16_RightsGiven.j1] at h, fun _ _ _ _ _ _ r h => by simp [easementlaw16_RightsGiven.j2] at h⟩
  | k + 1 => by
    obtain ⟨ih0, ih1, ih2⟩ := easementlaw16_RightsGiven.mono_l k
    refine ⟨?_, ?_, ?_⟩
    · intro y0 y1 y2 y3 y4 y5
      unfold easementlaw16_RightsGiven.l0
      repeat' first
      | (with_reducible exact ih0 _ _ _ _ _ _)
      | (with_reducible exact ih1 _ _ _ _ _ _)
      | (with_reducible exact ih2 _ _ _ _ _ _)
      | (with_reducible exact rights_Attenuate.mono _ _ _)
      | (with_reducible exact LeO.refl _)
      | (with_reducible exact LeO.none _)
      | (with_reducible refine LeO.ite ?_ ?_)
      | (with_reducible refine LeO.bind ?_ (fun _ => ?_))
      | exact ih0 _ _ _ _ _ _
      | exact ih1 _ _ _ _ _ _
      | exact ih2 _ _ _ _ _ _
      | exact rights_Attenuate.mono _ _ _
      | exact LeO.none _
      | refine LeO.ite ?_ ?_
      | refine LeO.bind ?_ (fun _ => ?_)
    · intro y0 y1 y2 y3 y4 y5
      unfold easementlaw16_RightsGiven.j1
      repeat' first
      | (with_reducible exact ih0 _ _ _ _ _ _)
      | (with_reducible exact ih1 _ _ _ _ _ _)
      | (with_reducible exact ih2 _ _ _ _ _ _)
      | (with_reducible exact rights_Attenuate.mono _ _ _)
      | (with_reducible exact LeO.refl _)
      | (with_reducible exact LeO.none _)
      | (with_reducible refine LeO.ite ?_ ?_)
      | (with_reducible refine LeO.bind ?_ (fun _ => ?_))
      | exact ih0 _ _ _ _ _ _
      | exact ih1 _ _ _ _ _ _
      | exact ih2 _ _ _ _ _ _
      | exact rights_Attenuate.mono _ _ _
      | exact LeO.none _
      | refine LeO.ite ?_ ?_
      | refine LeO.bind ?_ (fun _ => ?_)
    · intro y0 y1 y2 y3 y4 y5
      unfold easementlaw16_RightsGiven.j2
      repeat' first
      | (with_reducible exact ih0 _ _ _ _ _ _)
      | (with_reducible exact ih1 _ _ _ _ _ _)
      | (with_reducible exact ih2 _ _ _ _ _ _)
      | (with_reducible exact rights_Attenuate.mono _ _ _)
      | (with_reducible exact LeO.refl _)
      | (with_reducible exact LeO.none _)
      | (with_reducible refine LeO.ite ?_ ?_)
      | (with_reducible refine LeO.bind ?_ (fun _ => ?_))
      | exact ih0 _ _ _ _ _ _
      | exact ih1 _ _ _ _ _ _
      | exact ih2 _ _ _ _ _ _
      | exact rights_Attenuate.mono _ _ _
      | exact LeO.none _
      | refine LeO.ite ?_ ?_
      | refine LeO.bind ?_ (fun _ => ?_)
theorem easementlaw16_RightsGiven.mono : ∀ a0 a1 k, LeO (easementlaw16_RightsGiven.f k a0 a1) (easementlaw16_RightsGiven.f (k + 1) a0 a1) := by
  intro a0 a1 k
  obtain ⟨ih0, ih1, ih2⟩ := easementlaw16_RightsGiven.mono_l k
  unfold easementlaw16_RightsGiven.f
  repeat' first
      | (with_reducible exact ih0 _ _ _ _ _ _)
      | (with_reducible exact ih1 _ _ _ _ _ _)
      | (with_reducible exact ih2 _ _ _ _ _ _)
      | (with_reducible exact rights_Attenuate.mono _ _ _)
      | (with_reducible exact LeO.refl _)
      | (with_reducible exact LeO.none _)
      | (with_reducible refine LeO.ite ?_ ?_)
      | (with_reducible refine LeO.bind ?_ (fun _ => ?_))
      | exact ih0 _ _ _ _ _ _
      | exact ih1 _ _ _ _ _ _
      | exact ih2 _ _ _ _ _ _
      | exact rights_Attenuate.mono _ _ _
      | exact LeO.none _
      | refine LeO.ite ?_ ?_
      | refine LeO.bind ?_ (fun _ => ?_)
set_option maxHeartbeats 8000000 in
set_option maxRecDepth 100000 in
theorem easementlaw16_RightsGiven.calls (k : Nat) (a0 : Int) (a1 : Int) (r : Bool) (w : World) (h : easementlaw16_RightsGiven.f k a0 a1 = some r) :
    Calls Try.prog 13 #[.int .u8 a0, .int .u8 a1] w fun e w' => e = .returned (.bool r) ∧ Below w.heap.size w w' := by
  have HB := Aside0.mk (Below.refl w.heap.size w)
  have H : ((easementlaw16_lives.f).bind fun t105 => (if t105 = true then ((rights_Attenuate.f k a0 a1).bind fun bt106 => (easementlaw16_RightsGiven.l0 k a0 a1 bt106.1 bt106.2 true 0)) else (some false))) = some r := h
  clear h
  replace H := Option.bind_eq_some_iff.mp H
  obtain ⟨t105, A30, H⟩ := H
  replace H : (if t105 = true then ((rights_Attenuate.f k a0 a1).bind fun bt106 => (easementlaw16_RightsGiven.l0 k a0 a1 bt106.1 bt106.2 true 0)) else (some false)) = some r := H
  have A3 := Aside0.mk A30
  clear A30
  by_cases c4 : t105 = true
  · subst c4
    have H1 : ((rights_Attenuate.f k a0 a1).bind fun bt106 => (easementlaw16_RightsGiven.l0 k a0 a1 bt106.1 bt106.2 true 0)) = some r := by rw [if_pos rfl] at H; exact H
    clear H
    have H := H1
    clear H1
    replace H := Option.bind_eq_some_iff.mp H
    obtain ⟨⟨t106, t107⟩, A50, H⟩ := H
    replace H : (easementlaw16_RightsGiven.l0 k a0 a1 t106 t107 true 0) = some r := H
    have A5 := Aside0.mk A50
    clear A50
    have H' := Aside0.mk H
    clear H
    go_enter Try.func13, Try.ntmps13
    go_wp2_with (first | ((with_reducible refine gate_callee (f := 52) rfl ?_); refine goesL_ (some 9) rfl rfl Try.func52 (by kernel_rfl) rfl #[] rfl (by (try simp only [List.map_toArray, List.map_cons, List.map_nil]); first | done | rfl | (simp only [List.length_drop, List.length_take]; rfl)) ?_; (with_reducible refine (easementlaw16_lives.calls  true _ A3.out).mono ?_); rintro e w6 ⟨rfl, hb⟩; refine ⟨_, rfl, ?_⟩; have n0_ := Aside0.mk (below_step (by repeat (first | (with_reducible first | exact HB.out | apply below_alloc | apply pw_below_drewN | apply below_drew1) | exact HB.out)) hb); clear HB; have HB := n0_; clear n0_; (try clear hb); (try clear hb2); (try clear hk); (try clear hi)) | ((with_reducible refine gate_callee (f := 53) rfl ?_); refine goesL_ (some 14) rfl rfl Try.func53 (by kernel_rfl) rfl #[.int .u8 a0, .int .u8 a1] rfl (by (try simp only [List.map_toArray, List.map_cons, List.map_nil]); first | done | rfl | (simp only [List.length_drop, List.length_take]; rfl)) ?_; (with_reducible refine (rights_Attenuate.calls k a0 a1 t106 t107 _ A5.out).mono ?_); rintro e w' ⟨rfl, ⟨nd, rfl⟩⟩; refine ⟨_, rfl, ?_⟩))
    go_loopg [7, 17] k (fun kq v7 v17 w' => ∃ (x7_1 : Bool) (x17_1 : Int), v7 = .bool x7_1 ∧ v17 = .int .i64 x17_1 ∧ Aside0 (easementlaw16_RightsGiven.l0 kq a0 a1 t106 t107 x7_1 x17_1 = some r) ∧ Aside0 (kq ≤ k) ∧ Aside0 (Below w.heap.size w w'))
    case atStart => exact ⟨(true), (0), (by first | rfl | (simp; done) | (simp [*]; done)), (by first | rfl | (simp; done) | (simp [*]; done)), H', ⟨Nat.le_refl _⟩, ⟨by repeat (first | (with_reducible first | exact HB.out | apply below_alloc | apply pw_below_drewN | apply below_drew1) | exact HB.out)⟩⟩
    case round =>
      clear H'
      try clear c1
      try clear p2
      try clear c4
      try clear c5
      obtain ⟨x7_1, x17_1, rfl, rfl, HA, HK1, HB⟩ := hrel
      cases gk with
      | zero => exact absurd HA.out (by simp [easementlaw16_RightsGiven.l0])
      | succ k1 =>
        have H := HA.out
        clear HA
        simp only [easementlaw16_RightsGiven.l0] at H
        by_cases c7 : x17_1 < 8
        · rw [if_pos c7] at H
          have c7b0 : decide (x17_1 < 8) = true := decide_eq_true c7
          clear c7
          by_cases c8 : x7_1 = true
          · subst c8
            have H1 : (if 0 ≤ x17_1 then (if (Int.tmod (shr .u8 a1 x17_1) 2) = 0 then (easementlaw16_RightsGiven.l0 k1 a0 a1 t106 t107 true (wrap64 (x17_1 + 1))) else (easementlaw16_RightsGiven.l0 k1 a0 a1 t106 t107 ((Int.tmod (shr .u8 a0 x17_1) 2) == 1) (wrap64 (x17_1 + 1)))) else (none)) = some r := by rw [if_pos rfl] at H; exact H
            clear H
            have H := H1
            clear H1
            by_cases c9 : 0 ≤ x17_1
            · rw [if_pos c9] at H
              have c9b0 := eq_true c9
              have c9b1 : decide (0 ≤ x17_1) = true := decide_eq_true c9
              clear c9
              obtain ⟨ji10, hji10⟩ : ∃ j_ : Int, (shr .u8 a1 x17_1) = j_ := ⟨_, rfl⟩
              replace H : (if (Int.tmod (ji10) 2) = 0 then (easementlaw16_RightsGiven.l0 k1 a0 a1 t106 t107 true (wrap64 (x17_1 + 1))) else (easementlaw16_RightsGiven.l0 k1 a0 a1 t106 t107 ((Int.tmod (shr .u8 a0 x17_1) 2) == 1) (wrap64 (x17_1 + 1)))) = some r := by first | (rw [hji10] at H; exact H) | (simp only [hji10] at H ⊢; exact H)
              have hji10_ : (a1 / 2 ^ min x17_1.toNat 8) = ji10 := hji10
              have hji10z : x17_1 ≤ 8 → (a1 / 2 ^ x17_1.toNat) = ji10 := shr_small hji10
              by_cases c11 : (Int.tmod (ji10) 2) = 0
              · rw [if_pos c11] at H
                have c11b0 : ((Int.tmod (ji10) 2) == 0) = true := beq_iff_eq.mpr c11
                have c11b1 : ((Int.tmod (ji10) 2) != 0) = false := bne_eq_false_iff_eq.mpr c11
                clear c11
                have H' := Aside0.mk H
                clear H
                go_wp2
                go_roundg k1
                case measure => have := HK1.out; omega
                case rel => exact ⟨(true), (wrap64 (x17_1 + 1)), (by first | rfl | (simp; done) | (simp [*]; done)), (by first | rfl | (simp; done) | (simp [*]; done)), H', ⟨by have := HK1.out; omega⟩, ⟨by repeat (first | (with_reducible first | exact HB.out | apply below_alloc | apply pw_below_drewN | apply below_drew1) | exact HB.out)⟩⟩
              · rw [if_neg c11] at H
                have c11b0 : ((Int.tmod (ji10) 2) == 0) = false := beq_eq_false_iff_ne.mpr c11
                have c11b1 : ((Int.tmod (ji10) 2) != 0) = true := bne_iff_ne.mpr c11
                have c12b0 := eq_true (of_decide_eq_true (by first | (with_reducible assumption) | assumption) : 0 ≤ x17_1)
                obtain ⟨ji13, hji13⟩ : ∃ j_ : Int, (shr .u8 a0 x17_1) = j_ := ⟨_, rfl⟩
                replace H : (easementlaw16_RightsGiven.l0 k1 a0 a1 t106 t107 ((Int.tmod (ji13) 2) == 1) (wrap64 (x17_1 + 1))) = some r := by first | (rw [hji13] at H; exact H) | (simp only [hji13] at H ⊢; exact H)
                have hji13_ : (a0 / 2 ^ min x17_1.toNat 8) = ji13 := hji13
                have hji13z : x17_1 ≤ 8 → (a0 / 2 ^ x17_1.toNat) = ji13 := shr_small hji13
                have H' := Aside0.mk H
                clear H
                go_wp2
                go_roundg k1
                case measure => have := HK1.out; omega
                case rel => exact ⟨(((Int.tmod (ji13) 2) == 1)), (wrap64 (x17_1 + 1)), (by first | rfl | (simp; done) | (simp only [← hji13] <;> (first | rfl | simp)) | (simp [*]; done)), (by first | rfl | (simp; done) | (simp [*]; done)), H', ⟨by have := HK1.out; omega⟩, ⟨by repeat (first | (with_reducible first | exact HB.out | apply below_alloc | apply pw_below_drewN | apply below_drew1) | exact HB.out)⟩⟩
            · rw [if_neg c9] at H
              exact absurd H (by simp)
          · replace c8 := Bool.eq_false_iff.mpr c8
            subst c8
            have H1 : (easementlaw16_RightsGiven.l0 k1 a0 a1 t106 t107 false (wrap64 (x17_1 + 1))) = some r := by rw [if_neg (show ¬ (false = true) by decide)] at H; exact H
            clear H
            have H := H1
            clear H1
            have H' := Aside0.mk H
            clear H
            go_wp2
            go_roundg k1
            case measure => have := HK1.out; omega
            case rel => exact ⟨(false), (wrap64 (x17_1 + 1)), (by first | rfl | (simp; done) | (simp [*]; done)), (by first | rfl | (simp; done) | (simp [*]; done)), H', ⟨by have := HK1.out; omega⟩, ⟨by repeat (first | (with_reducible first | exact HB.out | apply below_alloc | apply pw_below_drewN | apply below_drew1) | exact HB.out)⟩⟩
        · rw [if_neg c7] at H
          have c7b0 : decide (x17_1 < 8) = false := decide_eq_false c7
          clear c7
          have HC14 := Aside0.mk H
          clear H
          go_upto_region 10 with (fail)
          go_cut [47] (fun v47 wc => ∃ (kq : Nat) (x47_13 : Bool), v47 = .bool x47_13 ∧ Aside0 (easementlaw16_RightsGiven.j1 kq a0 a1 t106 t107 x7_1 x47_13 = some r) ∧ Aside0 (kq ≤ k1) ∧ Aside0 (Below w.heap.size w wc))
          case first =>
            have H := HC14.out
            clear HC14
            replace H := Option.bind_eq_some_iff.mp H
            obtain ⟨t108, A150, H⟩ := H
            replace H : (if (t108 != x7_1) = true then (easementlaw16_RightsGiven.j1 k1 a0 a1 t106 t107 x7_1 true) else ((rights_Set_Right.f a0).bind fun t109 => (easementlaw16_RightsGiven.j1 k1 a0 a1 t106 t107 x7_1 (t109 != (decide (a0 < 32)))))) = some r := H
            have A15 := Aside0.mk A150
            clear A150
            by_cases c16 : (t108 != x7_1) = true
            · rw [if_pos c16] at H
              have c16b0 : (t108 != x7_1) = true := c16
              (try (have c16b1 : decide (t108 = x7_1) = false := by simpa using c16))
              (try (have c16b2 : (t108 == x7_1) = false := by simpa using c16))
              (try (have c16b3 : ¬ (t108 = x7_1) := by simpa using c16))
              clear c16
              (first | rw [c16b0] | (simp only [i64_w, i32_w]; rw [c16b0]) | skip)
              have H' := Aside0.mk H
              clear H
              go_wp2_with (first | ((with_reducible refine gate_callee (f := 54) rfl ?_); refine goesL_ (some 38) rfl rfl Try.func54 (by kernel_rfl) rfl #[.int .u8 a0, .int .u8 a1] rfl (by (try simp only [List.map_toArray, List.map_cons, List.map_nil]); first | done | rfl | (simp only [List.length_drop, List.length_take]; rfl)) ?_; (with_reducible refine (rights_Set_Has.calls a0 a1 t108 _ A15.out).mono ?_); rintro e w' ⟨rfl, ⟨nd, rfl⟩⟩; refine ⟨_, rfl, ?_⟩))
              go_meet
              case rel => exact ⟨_, (true), (by first | rfl | (simp; done) | (simp [*]; done)), H', ⟨by have := HK1.out; first | omega | exact Nat.le_refl _⟩, ⟨by repeat (first | (with_reducible first | exact HB.out | apply below_alloc | apply pw_below_drewN | apply below_drew1) | exact HB.out)⟩⟩
            · rw [if_neg c16] at H
              have c16b0 : (t108 != x7_1) = false := by simpa using c16
              (try (have c16b1 : decide (t108 = x7_1) = true := by simpa using c16))
              (try (have c16b2 : (t108 == x7_1) = true := by simpa using c16))
              clear c16
              (first | rw [c16b0] | (simp only [i64_w, i32_w]; rw [c16b0]) | skip)
              replace H := Option.bind_eq_some_iff.mp H
              obtain ⟨t109, A170, H⟩ := H
              replace H : (easementlaw16_RightsGiven.j1 k1 a0 a1 t106 t107 x7_1 (t109 != (decide (a0 < 32)))) = some r := H
              have A17 := Aside0.mk A170
              clear A170
              have H' := Aside0.mk H
              clear H
              go_wp2_with (first | ((with_reducible refine gate_callee (f := 54) rfl ?_); refine goesL_ (some 38) rfl rfl Try.func54 (by kernel_rfl) rfl #[.int .u8 a0, .int .u8 a1] rfl (by (try simp only [List.map_toArray, List.map_cons, List.map_nil]); first | done | rfl | (simp only [List.length_drop, List.length_take]; rfl)) ?_; (with_reducible refine (rights_Set_Has.calls a0 a1 t108 _ A15.out).mono ?_); rintro e w' ⟨rfl, ⟨nd, rfl⟩⟩; refine ⟨_, rfl, ?_⟩) | (go_at_call 55; (with_reducible refine (rights_Set_Right.calls a0 t109 _ A17.out).mono ?_); rintro e w' ⟨rfl, ⟨nd, rfl⟩⟩))
              go_meet
              case rel => exact ⟨_, ((t109 != (decide (a0 < 32)))), (by first | rfl | (simp; done) | (simp [*]; done)), H', ⟨by have := HK1.out; first | omega | exact Nat.le_refl _⟩, ⟨by repeat (first | (with_reducible first | exact HB.out | apply below_alloc | apply pw_below_drewN | apply below_drew1) | exact HB.out)⟩⟩
          case rest =>
            clear HC14
            try clear c1
            try clear p2
            try clear c4
            try clear c5
            try clear p6
            try clear c7
            try clear c7b0
            try clear c8
            try clear c9
            try clear c9b0
            try clear c9b1
            try clear c11
            try clear c11b0
            try clear c11b1
            try clear c12
            try clear c12b0
            try clear c13
            try clear c16
            try clear c16b0
            try clear c16b1
            try clear c16b2
            try clear p2
            obtain ⟨kq, x47_13, rfl, HA, HJ13, HB⟩ := hcut
            cases kq with
            | zero => exact absurd HA.out (by simp [easementlaw16_RightsGiven.j1])
            | succ kj13 =>
              have H := HA.out
              clear HA
              simp only [easementlaw16_RightsGiven.j1] at H
              by_cases c18 : x47_13 = true
              · subst c18
                have H1 : (some false) = some r := by rw [if_pos rfl] at H; exact H
                clear H
                have H := H1
                clear H1
                obtain rfl := Option.some.inj H
                go_wp2
                go_ret
                exact ⟨by first | rfl | (simp [errW_none, errW_some] <;> rfl) | (simp [*, errW_none, errW_some] <;> rfl), by repeat (first | (with_reducible first | exact HB.out | apply below_alloc | apply pw_below_drewN | apply below_drew1) | exact HB.out)⟩
              · replace c18 := Bool.eq_false_iff.mpr c18
                subst c18
                have H1 : (if a0 > 31 then (easementlaw16_RightsGiven.j2 kj13 a0 a1 t106 t107 x7_1 true) else (easementlaw16_RightsGiven.j2 kj13 a0 a1 t106 t107 x7_1 (decide (a1 > 31)))) = some r := by rw [if_neg (show ¬ (false = true) by decide)] at H; exact H
                clear H
                have H := H1
                clear H1
                have HC19 := Aside0.mk H
                clear H
                go_upto_region 12 with (fail)
                go_cut [48] (fun v48 wc => ∃ (kq : Nat) (x48_18 : Bool), v48 = .bool x48_18 ∧ Aside0 (easementlaw16_RightsGiven.j2 kq a0 a1 t106 t107 x7_1 x48_18 = some r) ∧ Aside0 (kq ≤ kj13) ∧ Aside0 (Below w.heap.size w wc))
                case first =>
                  have H := HC19.out
                  clear HC19
                  by_cases c20 : a0 > 31
                  · rw [if_pos c20] at H
                    have c20b0 : decide (31 < a0) = true := decide_eq_true c20
                    clear c20
                    (first | rw [c20b0] | (simp only [i64_w, i32_w]; rw [c20b0]) | skip)
                    have H' := Aside0.mk H
                    clear H
                    go_wp2
                    go_meet
                    case rel => exact ⟨_, (true), (by first | rfl | (simp; done) | (simp [*]; done)), H', ⟨by have := HK1.out; have := HJ13.out; first | omega | exact Nat.le_refl _⟩, ⟨by repeat (first | (with_reducible first | exact HB.out | apply below_alloc | apply pw_below_drewN | apply below_drew1) | exact HB.out)⟩⟩
                  · rw [if_neg c20] at H
                    have c20b0 : decide (31 < a0) = false := decide_eq_false c20
                    clear c20
                    (first | rw [c20b0] | (simp only [i64_w, i32_w]; rw [c20b0]) | skip)
                    have H' := Aside0.mk H
                    clear H
                    go_wp2
                    go_meet
                    case rel => exact ⟨_, (decide (a1 > 31)), (by first | rfl | (simp; done) | (simp [*]; done)), H', ⟨by have := HK1.out; have := HJ13.out; first | omega | exact Nat.le_refl _⟩, ⟨by repeat (first | (with_reducible first | exact HB.out | apply below_alloc | apply pw_below_drewN | apply below_drew1) | exact HB.out)⟩⟩
                case rest =>
                  clear HC19
                  try clear c1
                  try clear c2
                  try clear p2
                  try clear c4
                  try clear c5
                  try clear p6
                  try clear c7
                  try clear c7b0
                  try clear c8
                  try clear c9
                  try clear c9b0
                  try clear c9b1
                  try clear c11
                  try clear c11b0
                  try clear c11b1
                  try clear c12
                  try clear c12b0
                  try clear c13
                  try clear c16
                  try clear c16b0
                  try clear c16b1
                  try clear c16b2
                  try clear c18
                  try clear c20
                  try clear c20b0
                  try clear p2
                  try clear p6
                  obtain ⟨kq, x48_18, rfl, HA, HJ18, HB⟩ := hcut
                  cases kq with
                  | zero => exact absurd HA.out (by simp [easementlaw16_RightsGiven.j2])
                  | succ kj18 =>
                    have H := HA.out
                    clear HA
                    simp only [easementlaw16_RightsGiven.j2] at H
                    by_cases c21 : x48_18 = true
                    · subst c21
                      have H1 : (if t107 = 1 then (some (t106 == 0)) else (some false)) = some r := by rw [if_pos rfl] at H; exact H
                      clear H
                      have H := H1
                      clear H1
                      by_cases c22 : t107 = 1
                      · rw [if_pos c22] at H
                        have c22b0 : (t107 == 1) = true := beq_iff_eq.mpr c22
                        have c22b1 : (t107 != 1) = false := bne_eq_false_iff_eq.mpr c22
                        clear c22
                        obtain rfl := Option.some.inj H
                        go_wp2
                        go_ret
                        exact ⟨by first | rfl | (simp [errW_none, errW_some] <;> rfl) | (simp [*, errW_none, errW_some] <;> rfl), by repeat (first | (with_reducible first | exact HB.out | apply below_alloc | apply pw_below_drewN | apply below_drew1) | exact HB.out)⟩
                      · rw [if_neg c22] at H
                        have c22b0 : (t107 == 1) = false := beq_eq_false_iff_ne.mpr c22
                        have c22b1 : (t107 != 1) = true := bne_iff_ne.mpr c22
                        obtain rfl := Option.some.inj H
                        go_wp2
                        go_ret
                        exact ⟨by first | rfl | (simp [errW_none, errW_some] <;> rfl) | (simp [*, errW_none, errW_some] <;> rfl), by repeat (first | (with_reducible first | exact HB.out | apply below_alloc | apply pw_below_drewN | apply below_drew1) | exact HB.out)⟩
                    · replace c21 := Bool.eq_false_iff.mpr c21
                      subst c21
                      have H1 : (if (((Int.tdiv a0 8) % 256) % 2) = 0 then (if t107 = 6 then (some (t106 == 0)) else (some false)) else (if x7_1 = true then (if t107 = 0 then (some (t106 == a1)) else (some false)) else (if t107 = 6 then (some (t106 == 0)) else (some false)))) = some r := by rw [if_neg (show ¬ (false = true) by decide)] at H; exact H
                      clear H
                      have H := H1
                      clear H1
                      by_cases c23 : (((Int.tdiv a0 8) % 256) % 2) = 0
                      · rw [if_pos c23] at H
                        have c23b0 : ((((Int.tdiv a0 8) % 256) % 2) == 0) = true := beq_iff_eq.mpr c23
                        have c23b1 : ((((Int.tdiv a0 8) % 256) % 2) != 0) = false := bne_eq_false_iff_eq.mpr c23
                        have c23b2 : ((Int.tdiv a0 8) % 2 == 0) = true := by rw [beq_iff_eq]; omega
                        clear c23
                        by_cases c24 : t107 = 6
                        · rw [if_pos c24] at H
                          have c24b0 : (t107 == 6) = true := beq_iff_eq.mpr c24
                          have c24b1 : (t107 != 6) = false := bne_eq_false_iff_eq.mpr c24
                          clear c24
                          obtain rfl := Option.some.inj H
                          go_wp2
                          go_ret
                          exact ⟨by first | rfl | (simp [errW_none, errW_some] <;> rfl) | (simp [*, errW_none, errW_some] <;> rfl), by repeat (first | (with_reducible first | exact HB.out | apply below_alloc | apply pw_below_drewN | apply below_drew1) | exact HB.out)⟩
                        · rw [if_neg c24] at H
                          have c24b0 : (t107 == 6) = false := beq_eq_false_iff_ne.mpr c24
                          have c24b1 : (t107 != 6) = true := bne_iff_ne.mpr c24
                          obtain rfl := Option.some.inj H
                          go_wp2
                          go_ret
                          exact ⟨by first | rfl | (simp [errW_none, errW_some] <;> rfl) | (simp [*, errW_none, errW_some] <;> rfl), by repeat (first | (with_reducible first | exact HB.out | apply below_alloc | apply pw_below_drewN | apply below_drew1) | exact HB.out)⟩
                      · rw [if_neg c23] at H
                        have c23b0 : ((((Int.tdiv a0 8) % 256) % 2) == 0) = false := beq_eq_false_iff_ne.mpr c23
                        have c23b1 : ((((Int.tdiv a0 8) % 256) % 2) != 0) = true := bne_iff_ne.mpr c23
                        have c23b2 : ((Int.tdiv a0 8) % 2 == 0) = false := by rw [beq_eq_false_iff_ne]; omega
                        by_cases c25 : x7_1 = true
                        · subst c25
                          have H1 : (if t107 = 0 then (some (t106 == a1)) else (some false)) = some r := by rw [if_pos rfl] at H; exact H
                          clear H
                          have H := H1
                          clear H1
                          by_cases c26 : t107 = 0
                          · rw [if_pos c26] at H
                            have c26b0 : (t107 == 0) = true := beq_iff_eq.mpr c26
                            have c26b1 : (t107 != 0) = false := bne_eq_false_iff_eq.mpr c26
                            clear c26
                            obtain rfl := Option.some.inj H
                            go_wp2
                            go_ret
                            exact ⟨by first | rfl | (simp [errW_none, errW_some] <;> rfl) | (simp [*, errW_none, errW_some] <;> rfl), by repeat (first | (with_reducible first | exact HB.out | apply below_alloc | apply pw_below_drewN | apply below_drew1) | exact HB.out)⟩
                          · rw [if_neg c26] at H
                            have c26b0 : (t107 == 0) = false := beq_eq_false_iff_ne.mpr c26
                            have c26b1 : (t107 != 0) = true := bne_iff_ne.mpr c26
                            obtain rfl := Option.some.inj H
                            go_wp2
                            go_ret
                            exact ⟨by first | rfl | (simp [errW_none, errW_some] <;> rfl) | (simp [*, errW_none, errW_some] <;> rfl), by repeat (first | (with_reducible first | exact HB.out | apply below_alloc | apply pw_below_drewN | apply below_drew1) | exact HB.out)⟩
                        · replace c25 := Bool.eq_false_iff.mpr c25
                          subst c25
                          have H1 : (if t107 = 6 then (some (t106 == 0)) else (some false)) = some r := by rw [if_neg (show ¬ (false = true) by decide)] at H; exact H
                          clear H
                          have H := H1
                          clear H1
                          by_cases c27 : t107 = 6
                          · rw [if_pos c27] at H
                            have c27b0 : (t107 == 6) = true := beq_iff_eq.mpr c27
                            have c27b1 : (t107 != 6) = false := bne_eq_false_iff_eq.mpr c27
                            clear c27
                            obtain rfl := Option.some.inj H
                            go_wp2
                            go_ret
                            exact ⟨by first | rfl | (simp [errW_none, errW_some] <;> rfl) | (simp [*, errW_none, errW_some] <;> rfl), by repeat (first | (with_reducible first | exact HB.out | apply below_alloc | apply pw_below_drewN | apply below_drew1) | exact HB.out)⟩
                          · rw [if_neg c27] at H
                            have c27b0 : (t107 == 6) = false := beq_eq_false_iff_ne.mpr c27
                            have c27b1 : (t107 != 6) = true := bne_iff_ne.mpr c27
                            obtain rfl := Option.some.inj H
                            go_wp2
                            go_ret
                            exact ⟨by first | rfl | (simp [errW_none, errW_some] <;> rfl) | (simp [*, errW_none, errW_some] <;> rfl), by repeat (first | (with_reducible first | exact HB.out | apply below_alloc | apply pw_below_drewN | apply below_drew1) | exact HB.out)⟩
  · replace c4 := Bool.eq_false_iff.mpr c4
    subst c4
    have H1 : (some false) = some r := by rw [if_neg (show ¬ (false = true) by decide)] at H; exact H
    clear H
    have H := H1
    clear H1
    obtain rfl := Option.some.inj H
    go_enter Try.func13, Try.ntmps13
    go_wp2_with (first | ((with_reducible refine gate_callee (f := 52) rfl ?_); refine goesL_ (some 9) rfl rfl Try.func52 (by kernel_rfl) rfl #[] rfl (by (try simp only [List.map_toArray, List.map_cons, List.map_nil]); first | done | rfl | (simp only [List.length_drop, List.length_take]; rfl)) ?_; (with_reducible refine (easementlaw16_lives.calls  false _ A3.out).mono ?_); rintro e w28 ⟨rfl, hb⟩; refine ⟨_, rfl, ?_⟩; have n0_ := Aside0.mk (below_step (by repeat (first | (with_reducible first | exact HB.out | apply below_alloc | apply pw_below_drewN | apply below_drew1) | exact HB.out)) hb); clear HB; have HB := n0_; clear n0_; (try clear hb); (try clear hb2); (try clear hk); (try clear hi)))
    go_ret
    exact ⟨by first | rfl | (simp [errW_none, errW_some] <;> rfl) | (simp [*, errW_none, errW_some] <;> rfl), by repeat (first | (with_reducible first | exact HB.out | apply below_alloc | apply pw_below_drewN | apply below_drew1) | exact HB.out)⟩

/-- THE ONE PURE STATEMENT of easementlaw16_RightsGiven: yours. -/
def easementlaw16_RightsGiven.Pure : Prop := ∀ (a0 : Int) (a1 : Int), (Lit.int .u8 a0).wf = true → (Lit.int .u8 a1).wf = true → ∃ k, easementlaw16_RightsGiven.f k a0 a1 = some true
theorem easementlaw16_RightsGiven.walk (P : easementlaw16_RightsGiven.Pure) (a0 : Int) (a1 : Int) (w : World) (w0 : (Lit.int .u8 a0).wf = true) (w1 : (Lit.int .u8 a1).wf = true) :
    Calls Try.prog 13 #[.int .u8 a0, .int .u8 a1] w fun e w' => e = .returned (.bool true) ∧ Below w.heap.size w w' := by
  obtain ⟨k, h⟩ := P a0 a1 w0 w1
  refine (easementlaw16_RightsGiven.calls k a0 a1 true w h).mono ?_
  rintro e w' ⟨rfl, hd⟩
  exact ⟨rfl, hd⟩

end Go.Proofs.Ytcpcnnpdbognlaa.QRightsGiven
