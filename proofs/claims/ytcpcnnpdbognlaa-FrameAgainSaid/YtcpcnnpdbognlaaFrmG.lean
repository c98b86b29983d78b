/- frame: the law FrameAgain, walked. -/
import Derived.Test.YtcpcnnpdbognlaaFrmD
namespace Go.Proofs.Ytcpcnnpdbognlaa.Frm
open Go.RowKit Go Go.Proofs.YtcpcnnpdbognlaaW.PrintWords Go.Proofs.YtcpcnnpdbognlaaW.PrintMore Go.Proofs.YtcpcnnpdbognlaaW.PrintLast Go.Proofs.Ytcpcnnpdbognlaa.Bts Go.Proofs.Ytcpcnnpdbognlaa.Fra Go.Proofs.Ytcpcnnpdbognlaa.Pk
theorem enc_long (A : Option Addr) (c : Nat) (l : List (List Int)) (w : World) (hC : kF.C w A l.length l) (hl : l.length ≤ 30) (hx : ∀ x ∈ l, x.length ≤ 20000) (h9 : ∃ x ∈ l, 9000 < x.length) :
    Calls Try.prog 43 #[.slice A l.length c] w fun e w' => e = .returned (.tuple #[.slice none 0 0, .int .i64 12]) ∧ Below w.heap.size w w' := by
  refine (enc_calls A c l w hC hl hx).mono ?_
  rintro e w' (⟨_, h1, h2⟩ | ⟨h, _⟩)
  · exact ⟨h1, h2⟩
  · obtain ⟨x, hxm, h9⟩ := h9
    have := h x hxm
    omega
theorem enc_ok (A : Option Addr) (c : Nat) (l : List (List Int)) (w : World) (hC : kF.C w A l.length l) (hl : l.length ≤ 30) (h9 : ∀ x ∈ l, x.length ≤ 9000) :
    Calls Try.prog 43 #[.slice A l.length c] w fun e w' => ∃ v, e = .returned (.tuple #[v, .int .i64 0]) ∧ Made w w' v (encB l) := by
  refine (enc_calls A c l w hC hl (fun x hx => by have := h9 x hx; omega)).mono ?_
  rintro e w' (⟨⟨x, hxm, h⟩, _⟩ | ⟨_, h⟩)
  · have := h9 x hxm
    omega
  · exact h
theorem fr_pre {Z : List Int} {l : List (List Int)} (h : fr Z = (l, [], false)) (p : Nat) : (fr (Z.take p)).2.2 = false := by
  have ha := fr_app _ (Z.take p) (Z.drop p) (Nat.le_refl _)
  rw [List.take_append_drop, h] at ha
  cases hb : (fr (Z.take p)).2.2
  · rfl
  · rw [hb] at ha
    have ha : (l, [], false) = fr (Z.take p) := ha
    rw [← ha] at hb; cases hb
theorem made_C {w w' : World} {v : Value} {Z : List Int} (h : Made w w' v Z) (hl : Z.length ≤ 9223372036854775807) : ∃ A c, v = .slice A Z.length c ∧ Z.length ≤ c ∧ (Kd.int .u8).C w' A Z.length Z := by
  obtain ⟨A, c, e, hc, _, hC⟩ := (SlR.of_own h.1).C hl
  exact ⟨A, c, e, hc, hC⟩
theorem made_conv {w w' : World} {v : Value} {Z : List Int} (h : Made w w' v Z) (hl : Z.length ≤ 9223372036854775807) : (convert 36 9 v).run Try.prog w' = .ok (.string (strOfNums Z)) w' := by
  obtain ⟨A, c, rfl, _, hC⟩ := made_C h hl
  exact conv_C hC
theorem sl_top (w : World) (a : Option Addr) (m c n : Nat) (h : (n : Int) ≤ (c : Int)) :
    (Instr.slice 36 (.slice a m c) none (some (.int .i64 (n : Int))) none).run Try.prog w = .ok (.slice (subA a 0 c) n c) w := by
  rw [run_slice_h w 36 a m c unByte .i64 (n : Int) (by omega) h, szByte]
  have e : (n : Int).toNat = n := by omega
  simp only [Result.andThen, sliced, subA, e, Nat.mul_one, Nat.sub_zero]
theorem sl_from (w : World) (a : Option Addr) (m c n : Nat) (h : (n : Int) ≤ (m : Int)) :
    (Instr.slice 36 (.slice a m c) (some (.int .i64 (n : Int))) none none).run Try.prog w = .ok (.slice (subA a n c) (m - n) (c - n)) w := by
  rw [run_slice_l w 36 a m c unByte .i64 (n : Int) (by omega) h, szByte]
  have e : (n : Int).toNat = n := by omega
  simp only [Result.andThen, sliced, subA, e, Nat.mul_one]
attribute [local go_sem high] sl_top sl_from minE
theorem bs_enc : ∀ (l : List (List Int)), (∀ x ∈ l, Bs x) → Bs (encB l)
  | [], _ => fun x h => by cases h
  | x :: l, h => by
    intro y hy
    have e : encB (x :: l) = leB x.length 2 ++ x ++ encB l := rfl
    rw [e] at hy
    rcases List.mem_append.1 hy with hy | hy
    · rcases List.mem_append.1 hy with hy | hy
      · rw [leB2] at hy
        simp at hy
        omega
      · exact h x List.mem_cons_self y hy
    · exact bs_enc l (fun z hz => h z (List.mem_cons_of_mem _ hz)) y hy
/-- A Feed of a reader that has not failed. -/
theorem feed_pre {F : Nat → Prop} {g : Nat} {X ys : List Int} {ps : List Int} {W w1 : World} {v' v6 pv : Value} (h : Held F g (fr X).1 (fr X).2.1 0 ps W w1 v' v6 pv) (hlg : (fr X).2.2 = false) (hX : X.length ≤ 1000000) (A2 : Option Addr) (n2 c2 : Nat) (hy : ys.length = n2) (hC : (Kd.int .u8).C w1 A2 n2 ys) (hc2 : n2 ≤ c2) (hl : n2 ≤ 1000000) (hbX : Bs X) (hby : Bs ys) :
    Calls Try.prog 27 #[.pointer (some ⟨g, 0, none⟩), .slice A2 n2 c2] w1 fun e w2 => ∃ v'' vo fs f', e = .returned (.tuple #[vo, .int .i64 f']) ∧ f' = (if (fr (X ++ ys)).2.2 then 12 else 0) ∧
      Held (fun k => F k ∨ w1.heap.size ≤ k) g (fr X).1 (fr (X ++ ys)).2.1 f' ps W w2 v'' v6 pv ∧ kF.R 36 w2 W.heap.size (fun k => w1.heap.size ≤ k ∧ k < w2.heap.size ∧ some k ≠ v''.ownBlock) vo fs ∧ (fr X).1 ++ fs = (fr (X ++ ys)).1 ∧ fs.length ≤ 2000000 ∧ Fr F w1 w2 := by
  subst hy
  have ha := fr_app X.length X ys (Nat.le_refl _)
  have hfb := fr_bound _ X (Nat.le_refl _)
  have hrest : (fr X).2.1.length ≤ X.length ∧ Bs (fr X).2.1 := ⟨hfb.2.1, fun x hx => hbX x (hfb.2.2 x hx)⟩
  rw [hlg] at ha
  refine (feed_calls g v' (fr X).2.1 ys A2 c2 w1 h.fd hC hc2 (by omega) ?_ ((fr X).2.1 ++ ys) rfl).mono ?_
  · intro x hx
    exact (List.mem_append.1 hx).elim (hrest.2 x) (hby x)
  · intro e w2 hp
    obtain ⟨v'', vo, f', he, hf, hH, hR, hFr⟩ := h.feed hp
    refine ⟨v'', vo, _, f', he, by rw [ha]; exact hf, by rw [ha]; exact hH, hR, by rw [ha]; rfl, ?_, hFr⟩
    have h3 := (fr_bound _ ((fr X).2.1 ++ ys) (Nat.le_refl _)).1
    rw [List.length_append] at h3
    omega
def lng (l : List (List Int)) : Bool := l.any fun x => decide (9000 < x.length)
theorem lng_take (l : List (List Int)) (j : Nat) (h : j < l.length) (x : List Int) (hx : l.getD j [] = x) : lng (l.take (j + 1)) = (lng (l.take j) || decide (9000 < x.length)) := by
  have e : l.getD j [] = l[j] := by simp [List.getD, h]
  rw [← List.take_append_getElem h, ← e, hx]
  simp [lng]
set_option maxHeartbeats 1000000 in
set_option maxRecDepth 100000 in
theorem again_main (A0 : Option Addr) (c0 : Nat) (l : List (List Int)) (pc : Int) (W : World) (C0 : kF.C W A0 l.length l) (hl : l.length ≤ 30) (hb : ∀ x ∈ l, Bs x) (hp0 : 0 ≤ pc) (hp1 : pc ≤ 255) :
    Calls Try.prog 10 #[.slice A0 l.length c0, .int .u8 pc] W fun e W' => e = .returned (.bool true) ∧ Below W.heap.size W W' := by
  have HC := Lib.hid C0
  have HBS := Lib.hid hb
  have t0 : ¬ (30 : Int) < (l.length : Int) := by omega
  clear C0 hb
  go_enter Try.func10, Try.ntmps10
  go_wp2_with (go_at_call 26; go_loud (refine (lives_calls _).mono ?_; rintro e w1 ⟨rfl, hB1⟩; have HBL := Lib.hid hB1; clear hB1))
  go_loopw [5, 25] (fun b i wr => ∃ j : Nat, j ≤ l.length ∧ i = .int .i64 j ∧ b = .bool (lng (l.take j)) ∧ (∀ x ∈ l.take j, x.length ≤ 20000) ∧ Below W.heap.size W wr) (fun _ i _ => l.length - (intOf i).toNat)
  case atStart => exact ⟨0, by omega, rfl, rfl, fun x h => by simp at h, HBL.out⟩
  case round =>
    clear HBL
    obtain ⟨j, hj, rfl, rfl, h2, hW⟩ := hrel
    have H2 := Lib.hid h2
    have HW := Lib.hid hW
    clear h2 hW
    by_cases hlt : j < l.length
    · obtain ⟨x, hx⟩ : ∃ x, l.getD j [] = x := ⟨_, rfl⟩
      obtain ⟨ad, A2, c2, rfl, a0, _, _⟩ := at_row (Kd.C_below HC.out HW.out) j hlt x hx
      have HLT := Lib.hid (lng_take l j hlt x hx)
      have HTS := Lib.hid (show l.take (j + 1) = l.take j ++ [x] by
        have e : l.getD j [] = l[j] := by simp [List.getD, hlt]
        rw [← List.take_append_getElem hlt, ← e, hx])
      clear hx
      obtain ⟨b, hbj⟩ : ∃ b, lng (l.take j) = b := ⟨_, rfl⟩
      rw [hbj] at HLT ⊢
      clear hbj
      by_cases h20 : 20000 < x.length
      · have h20i : (20000 : Int) < (x.length : Int) := by omega
        go_wp2
        go_ret
        exact ⟨rfl, HW.out⟩
      · have h20i : ¬ (20000 : Int) < (x.length : Int) := by omega
        have H2' : Hid (∀ y ∈ l.take (j + 1), y.length ≤ 20000) := Lib.hid (by
          rw [HTS.out]
          intro y hy
          rcases List.mem_append.1 hy with h | h
          · exact H2.out y h
          · rw [List.mem_singleton.1 h]; omega)
        by_cases h9 : 9000 < x.length
        · have h9i : (9000 : Int) < (x.length : Int) := by omega
          cases b
          all_goals (
            go_wp2
            go_roundw
            case rel => exact ⟨j + 1, by omega, by simp, by rw [HLT.out, decide_eq_true h9]; rfl, H2'.out, HW.out⟩
            case measure => simp [intOf]; omega)
        · have h9i : ¬ (9000 : Int) < (x.length : Int) := by omega
          cases b
          all_goals (
            go_wp2
            go_roundw
            case rel => exact ⟨j + 1, by omega, by simp, by rw [HLT.out, decide_eq_false h9]; rfl, H2'.out, HW.out⟩
            case measure => simp [intOf]; omega)
    · obtain rfl : j = l.length := by omega
      have h2 := H2.out
      rw [List.take_length] at h2 ⊢
      have HX := Lib.hid h2
      have HCr := Lib.hid (Kd.C_below HC.out HW.out)
      clear h2 H2
      cases hlg : lng l
      · have h9 : ∀ x ∈ l, x.length ≤ 9000 := fun x hx => by
          have h := List.any_eq_false.1 hlg x hx
          simp at h
          exact h
        have H9 := Lib.hid h9
        obtain ⟨Z, hZ⟩ : ∃ Z, encB l = Z := ⟨_, rfl⟩
        have hzl : Z.length ≤ 600060 := by
          have h := encB_len l HX.out
          have : l.length * 20002 ≤ 30 * 20002 := Nat.mul_le_mul_right _ hl
          rw [hZ] at h; omega
        have HZ := Lib.hid hZ
        clear h9 hlg hZ
        go_wp2_with (go_at_call 43; go_loud (refine (enc_ok A0 c0 l _ HCr.out hl H9.out).mono ?_; rintro e w2 ⟨v2, rfl, hM2⟩; rw [HZ.out] at hM2; have HM2 := Lib.hid hM2; obtain ⟨A8, c8, rfl, hz8, hC8⟩ := made_C hM2 (by omega); have HC8 := Lib.hid hC8; clear hM2 hC8))
        have hcB := fun (W' : World) (hB : Below w2.heap.size w2 W') => conv_C (c := c8) (Kd.C_below HC8.out hB)
        have HC2 := Lib.hid (Kd.C_below HCr.out HM2.out.2)
        clear HCr
        refine start_ (n := 10) (S := fun w' => Below w2.heap.size w2 w' ∧ (convert 36 9 (.slice A8 Z.length c8)).run Try.prog w' = .ok (.string (strOfNums Z)) w') (ds := []) #[false, false, false, false, false, false, false, false, false, false] (by kernel_rfl) rfl rfl ⟨(below_drew1 (Below.refl _ _)), (hcB _ (below_drew1 (Below.refl _ _)))⟩ (fun hHeld => ?_)
        refine pure_ (i := 0) (N := some 52) (v := ?_) (a' := ?_) #[true, false, false, false, false, false, false, false, false, false] rfl rfl (by kernel_rfl) (fun _ _ _ h => h) (Or.inl ⟨by rfl, ?_⟩) ?_ ?_
        rotate_left
        · intro w'
          go_simp
          with_reducible rfl
        rotate_left
        · simp only [Act.put, List.setIfInBounds_toArray, List.set_cons_zero, List.set_cons_succ, i64_w, i32_w]
          rfl
        refine pure_ (i := 1) (N := some 53) (v := ?_) (a' := ?_) #[true, true, false, false, false, false, false, false, false, false] rfl rfl (by kernel_rfl) (fun _ _ _ h => h) (Or.inl ⟨by rfl, ?_⟩) ?_ ?_
        rotate_left
        · intro w'
          go_simp
          with_reducible rfl
        rotate_left
        · simp only [Act.put, List.setIfInBounds_toArray, List.set_cons_zero, List.set_cons_succ, i64_w, i32_w]
          rfl
        refine pure_ (i := 2) (N := some 54) (v := ?_) (a' := ?_) #[true, true, true, false, false, false, false, false, false, false] rfl rfl (by kernel_rfl) (fun _ _ _ h => h) (Or.inl ⟨by rfl, ?_⟩) ?_ ?_
        rotate_left
        · intro w'
          go_simp
          with_reducible rfl
        rotate_left
        · simp only [Act.put, List.setIfInBounds_toArray, List.set_cons_zero, List.set_cons_succ, i64_w, i32_w]
          rfl
        refine pure_ (i := 3) (N := some 55) (v := ?_) (a' := ?_) #[true, true, true, true, false, false, false, false, false, false] rfl rfl (by kernel_rfl) (fun _ _ _ h => h) (Or.inl ⟨by rfl, ?_⟩) ?_ ?_
        rotate_left
        · intro w'
          go_simp
          with_reducible rfl
        rotate_left
        · simp only [Act.put, List.setIfInBounds_toArray, List.set_cons_zero, List.set_cons_succ, i64_w, i32_w]
          rfl
        refine pure_ (i := 5) (N := some 57) (v := ?_) (a' := ?_) #[true, true, true, true, false, true, false, false, false, false] rfl rfl (by kernel_rfl) (fun _ _ _ h => h) (Or.inl ⟨by rfl, ?_⟩) ?_ ?_
        rotate_left
        · intro w'
          go_simp
          with_reducible rfl
        rotate_left
        · simp only [Act.put, List.setIfInBounds_toArray, List.set_cons_zero, List.set_cons_succ, i64_w, i32_w]
          rfl
        refine take_ (i := 4) (N := some 56) (v := ?_) (a' := ?_) #[true, true, true, true, true, true, false, false, false, false] rfl rfl (by kernel_rfl) (fun _ _ _ h => h) (Or.inl ⟨by rfl, ?_⟩) hHeld ?_ ?_
        rotate_left
        · rintro w' ⟨s0, s1⟩
          go_simp
          with_reducible rfl
        rotate_left
        · simp only [Act.put, List.setIfInBounds_toArray, List.set_cons_zero, List.set_cons_succ, i64_w, i32_w]
          rfl
        refine one_ (i := 6) (N := some 58) #[true, true, true, true, true, true, true, false, false, false] rfl rfl (by kernel_rfl) (by decide) (fun K hK => ?_)
        refine goes_ Try.func44 (by kernel_rfl) rfl #[.slice A0 l.length c0] (by rfl) rfl rfl (by simp only [List.map_toArray, List.map_cons, List.map_nil]; rfl) ?_
        with_reducible refine (refEnc_calls A0 c0 l w2.drew (Kd.C_below HC2.out (below_drew1 (Below.refl _ _))) hl HX.out).mono ?_
        rintro e w3 ⟨v3, rfl, hM3⟩
        refine ⟨_, rfl, ?_⟩
        rw [HZ.out] at hM3
        have hC3 : Below w2.heap.size w2 w3 := below_step (below_drew1 (Below.refl _ _)) hM3.2
        have hcv3 := made_conv hM3 (by omega)
        refine hK.out _ _ ⟨(hC3), (hcB _ hC3)⟩ (fun hHeld => ?_)
        clear hK K
        refine norm_ (a' := ?_) ?_ ?_
        rotate_left
        · show Act.put _ (some 58) _ = _
          simp only [Act.put, List.setIfInBounds_toArray, List.set_cons_zero, List.set_cons_succ, i64_w, i32_w]
          rfl
        refine one_ (i := 7) (N := some 59) #[true, true, true, true, true, true, true, true, false, false] rfl rfl (by kernel_rfl) (by decide) (fun K hK => ?_)
        refine value_ (w1 := ?_) (v := ?_) (by rfl) rfl ?_ ?_
        rotate_left 2
        · go_simp
          constructor
          · rfl
          · rfl
        refine hK.out _ _ ⟨(hC3), (hcB _ hC3)⟩ (fun hHeld => ?_)
        clear hK K
        refine norm_ (a' := ?_) ?_ ?_
        rotate_left
        · show Act.put _ (some 59) _ = _
          simp only [Act.put, List.setIfInBounds_toArray, List.set_cons_zero, List.set_cons_succ, i64_w, i32_w]
          rfl
        refine pure_ (i := 8) (N := some 60) (v := ?_) (a' := ?_) #[true, true, true, true, true, true, true, true, true, false] rfl rfl (by kernel_rfl) (fun _ _ _ h => h) (Or.inl ⟨by rfl, ?_⟩) ?_ ?_
        rotate_left
        · intro w'
          go_simp
          with_reducible rfl
        rotate_left
        · simp only [Act.put, List.setIfInBounds_toArray, List.set_cons_zero, List.set_cons_succ, i64_w, i32_w]
          rfl
        refine pure_ (i := 9) (N := some 61) (v := ?_) (a' := ?_) #[true, true, true, true, true, true, true, true, true, true] rfl rfl (by kernel_rfl) (fun _ _ _ h => h) (Or.inl ⟨by rfl, ?_⟩) ?_ ?_
        rotate_left
        · intro w'
          go_simp
          with_reducible rfl
        rotate_left
        · simp only [Act.put, List.setIfInBounds_toArray, List.set_cons_zero, List.set_cons_succ, i64_w, i32_w]
          rfl
        refine done_ (by kernel_rfl) ?_

        have HSZ := Lib.hid ((SlR.of_own HM2.out.1).below hC3)
        have HFE := Lib.hid (show fr Z = (l, [], false) by rw [← HZ.out]; exact fr_enc l H9.out)
        have HBZ := Lib.hid (show Bs Z by rw [← HZ.out]; exact bs_enc l HBS.out)
        have HB3 := Lib.hid (below_step (below_step HW.out HM2.out.2) hC3)
        have HCl := Lib.hid (Kd.C_below HC2.out hC3)
        have hw3 := HB3.out.size
        clear hcB hcv3 hM3 hC3 hHeld HBS H9 HZ HX HC2
        go_wp2
        go_loopg [8, 11] Z.length (fun q v8 v11 wr => ∃ p Ac cc v', p ≤ Z.length ∧ Z.length - p = q ∧ v8 = .slice Ac q cc ∧ SlR w3 1 (.slice Ac q cc) q (nums .u8 (Z.drop p)) ∧ Held (fun k => w3.heap.size ≤ k) w3.heap.size (fr (Z.take p)).1 (fr (Z.take p)).2.1 0 [] w3 wr v' v11 (.slice none 0 0))
        case atStart => exact ⟨0, A8, c8, .slice none 0 0, by omega, by omega, rfl, HSZ.out, ⟨Fd.new w3, Nat.le_refl _, (fun k hk => by cases hk), Kd.R_nil _ _ _ _ _, Kd.R_nil _ _ _ _ _, below_alloc (Below.refl _ _) _, fun _ h => h⟩⟩
        case round =>
          obtain ⟨p, Ac, cc, v', hp, hq, rfl, hS, hH⟩ := hrel
          obtain ⟨m, hm⟩ : ∃ m, Z.length - p = m := ⟨_, rfl⟩
          rw [hm] at hq
          subst hq
          have hmc : m ≤ cc := by obtain ⟨_, _, _, e, h, _⟩ := hS; cases e; exact h
          have HS := Lib.hid hS
          have HH := Lib.hid hH
          have HM := Lib.hid hm
          clear hS hH hm
          by_cases hm0 : 0 < m
          · have hmi : (0 : Int) < (m : Int) := by omega
            obtain ⟨k, hk, hka, hk1⟩ : ∃ k : Nat, minI (1 + pc) (m : Int) = (k : Int) ∧ k ≤ m ∧ 1 ≤ k := by
              unfold minI
              split
              · exact ⟨m, rfl, by omega, by omega⟩
              · exact ⟨(1 + pc).toNat, by omega, by omega, by omega⟩
            have hmz : m ≤ 600060 := by have := HM.out; omega
            have HT := Lib.hid HH.out.tight
            have hyl : ((Z.drop p).take k).length = k := by have := HM.out; simp only [List.length_drop, List.length_take]; omega
            have hcy : (Kd.int .u8).C wr (subA Ac 0 cc) k ((Z.drop p).take k) := by
              obtain ⟨A', c', e, _, _, hC⟩ := SlR.C (xs := Z.drop p) (v := .slice Ac m cc) (by rw [List.length_drop, HM.out]; exact HS.out.below HH.out.below) (by rw [List.length_drop]; omega)
              rw [List.length_drop, HM.out] at e hC
              cases e
              exact C_cut (p := 0) hC (by rw [List.length_drop]; exact HM.out) (by omega) hmc (by omega)
            have HCY := Lib.hid hcy
            have HYL := Lib.hid hyl
            have hXl : (Z.take p).length ≤ 1000000 := by rw [List.length_take]; omega
            have HBX := Lib.hid (show Bs (Z.take p) from fun y hy => HBZ.out y (List.mem_of_mem_take hy))
            have HBY := Lib.hid (show Bs ((Z.drop p).take k) from fun y hy => HBZ.out y (List.mem_of_mem_drop (List.mem_of_mem_take hy)))
            have HE := Lib.hid (show Z.take p ++ (Z.drop p).take k = Z.take (p + k) by rw [List.take_add])
            have HP1 := Lib.hid (fr_pre HFE.out p)
            have HP2 := Lib.hid (fr_pre HFE.out (p + k))
            have hkc : (k : Int) ≤ (cc : Int) := by omega
            have hkm : (k : Int) ≤ (m : Int) := by omega
            have hkc' : k ≤ cc := by omega
            have hk6 : k ≤ 1000000 := by have := HM.out; omega
            have hdl : (fr (Z.take p)).1.length ≤ 1000000 := Nat.le_trans (fr_bound _ (Z.take p) (Nat.le_refl _)).1 hXl
            obtain ⟨L, hL⟩ : ∃ L, fr (Z.take (p + k)) = L := ⟨_, rfl⟩
            have HL := Lib.hid hL
            clear hcy hyl hL
            obtain ⟨wo, rfl⟩ : ∃ wo : World, wo = wr := ⟨_, rfl⟩
            go_wp2_with (go_at_call 27; go_loud (refine (feed_pre (X := Z.take p) (ys := (Z.drop p).take k) HT.out HP1.out hXl (subA Ac 0 cc) k cc HYL.out HCY.out hkc' hk6 HBX.out HBY.out).mono ?_; rintro e w4 ⟨v'', vo, fs, f', rfl, hf', hH2, hR2, hfs, hfl, hF2⟩; rw [HE.out, HP2.out] at hf'; rw [HE.out] at hH2 hfs; obtain rfl : f' = 0 := hf'; obtain ⟨A6, c6, rfl, hc6, _⟩ := Kd.R_reads hR2; have HH2 := Lib.hid hH2; have HR2 := Lib.hid hR2; have HFS := Lib.hid hfs; have HF2 := Lib.hid hF2; clear hH2 hR2 hfs hF2))
            have HHd := Lib.hid (HH2.out.grow (below_drew1 (Below.refl w4.heap.size w4)))
            have HRd := Lib.hid (Kd.R_below HR2.out (below_drew1 (Below.refl w4.heap.size w4)))
            obtain ⟨_, _, e6, _, hRR⟩ := OwnRow.reads HRd.out.2
            cases e6
            have HRR := Lib.hid hRR
            clear hRR
            have hgl2 : w3.heap.size < wo.heap.size := HT.out.fg.2
            have hs3 : wo.heap.size ≤ w4.heap.size := HF2.out.size
            refine start_ (n := 8) (S := fun w' => True) (ds := []) #[false, false, false, false, false, false, false, false] (by kernel_rfl) rfl rfl trivial (fun hHeld => ?_)
            refine pure_ (i := 0) (N := some 80) (v := ?_) (a' := ?_) #[true, false, false, false, false, false, false, false] rfl rfl (by kernel_rfl) (fun _ _ _ h => h) (Or.inl ⟨by rfl, ?_⟩) ?_ ?_
            rotate_left
            · intro w'
              go_simp
              with_reducible rfl
            rotate_left
            · simp only [Act.put, List.setIfInBounds_toArray, List.set_cons_zero, List.set_cons_succ, i64_w, i32_w]
              rfl
            refine pure_ (i := 1) (N := some 81) (v := ?_) (a' := ?_) #[true, true, false, false, false, false, false, false] rfl rfl (by kernel_rfl) (fun _ _ _ h => h) (Or.inl ⟨by rfl, ?_⟩) ?_ ?_
            rotate_left
            · intro w'
              go_simp
              with_reducible rfl
            rotate_left
            · simp only [Act.put, List.setIfInBounds_toArray, List.set_cons_zero, List.set_cons_succ, i64_w, i32_w]
              rfl
            refine pure_ (i := 3) (N := some 83) (v := ?_) (a' := ?_) #[true, true, false, true, false, false, false, false] rfl rfl (by kernel_rfl) (fun _ _ _ h => h) (Or.inl ⟨by rfl, ?_⟩) ?_ ?_
            rotate_left
            · intro w'
              go_simp
              with_reducible rfl
            rotate_left
            · simp only [Act.put, List.setIfInBounds_toArray, List.set_cons_zero, List.set_cons_succ, i64_w, i32_w]
              rfl
            refine pure_ (i := 4) (N := some 84) (v := ?_) (a' := ?_) #[true, true, false, true, true, false, false, false] rfl rfl (by kernel_rfl) (fun _ _ _ h => h) (Or.inl ⟨by rfl, ?_⟩) ?_ ?_
            rotate_left
            · intro w'
              go_simp
              with_reducible rfl
            rotate_left
            · simp only [Act.put, List.setIfInBounds_toArray, List.set_cons_zero, List.set_cons_succ, i64_w, i32_w]
              rfl
            refine pure_ (i := 5) (N := some 85) (v := ?_) (a' := ?_) #[true, true, false, true, true, true, false, false] rfl rfl (by kernel_rfl) (fun _ _ _ h => h) (Or.inl ⟨by rfl, ?_⟩) ?_ ?_
            rotate_left
            · intro w'
              go_simp
              with_reducible rfl
            rotate_left
            · simp only [Act.put, List.setIfInBounds_toArray, List.set_cons_zero, List.set_cons_succ, i64_w, i32_w]
              rfl
            refine one_ (i := 2) (N := some 82) #[true, true, true, true, true, true, false, false] rfl rfl (by kernel_rfl) (by decide) (fun K hK => ?_)
            refine Kd.R_append_rows_step kF (w0 := w3) w3.heap.size (by rfl) (.tmp 80) (.tmp 81) 41 36 (.slice none 0 0) 24 rfl Try.underlying41 infoRow rfl Nat.zero_lt_one (by decide) _ (fr (Z.take p)).1 fs A6 fs.length c6 (fun q => (((w3.heap.size ≤ q ∧ q < wo.heap.size) ∨ wo.heap.size ≤ q) ∨ w4.drew.heap.size ≤ q) ∧ q ≠ w3.heap.size ∧ some q ≠ v''.ownBlock ∧ some q ≠ (Value.slice none 0 0).ownBlock) (fun q => wo.heap.size ≤ q ∧ q < w4.heap.size ∧ some q ≠ v''.ownBlock) rfl rfl (Kd.R_mono HHd.out.got (fun q hq => ⟨.inl hq.1, hq.2⟩)) HRR.out (fun _ _ hq => kF.M_mono (fun q hq => hq.1) hq) (fun q hq => ⟨⟨.inl (.inr hq.1), by have := hq.1; omega, hq.2.2, fun e => by cases e⟩, fun e => by have h := (HT.out.got.1 q e.symm).1.2; have := hq.1; omega⟩) (fun q hq => ⟨.inr hq, by have h : w4.heap.size ≤ q := hq; omega, fun e => by have h := own_lt HH2.out.fd.2.1 q e.symm; have h2 : w4.heap.size ≤ q := hq; omega, fun e => by cases e⟩) HHd.out.below HHd.out.below.size (by omega) ?_
            intro v5 w5 hR5 hB5 hg5 _
            have hH5 := HHd.out.more hR5 hB5 hg5
            rw [HFS.out] at hH5
            refine hK.out _ _ trivial (fun hHeld => ?_)
            clear hK K
            refine norm_ (a' := ?_) ?_ ?_
            rotate_left
            · show Act.put _ (some 82) _ = _
              simp only [Act.put, List.setIfInBounds_toArray, List.set_cons_zero, List.set_cons_succ, i64_w, i32_w]
              rfl
            refine pure_ (i := 6) (N := some 11) (v := ?_) (a' := ?_) #[true, true, true, true, true, true, true, false] rfl rfl (by kernel_rfl) (fun _ _ _ h => h) (Or.inl ⟨by rfl, ?_⟩) ?_ ?_
            rotate_left
            · intro w'
              go_simp
              with_reducible rfl
            rotate_left
            · simp only [Act.put, List.setIfInBounds_toArray, List.set_cons_zero, List.set_cons_succ, i64_w, i32_w]
              rfl
            refine pure_ (i := 7) (N := some 8) (v := ?_) (a' := ?_) #[true, true, true, true, true, true, true, true] rfl rfl (by kernel_rfl) (fun _ _ _ h => h) (Or.inl ⟨by rfl, ?_⟩) ?_ ?_
            rotate_left
            · intro w'
              go_simp
              with_reducible rfl
            rotate_left
            · simp only [Act.put, List.setIfInBounds_toArray, List.set_cons_zero, List.set_cons_succ, i64_w, i32_w]
              rfl
            refine done_ (by kernel_rfl) ?_

            have HH5 := Lib.hid hH5
            clear hH5
            go_wp2
            go_roundg (m - k)
            case rel =>
              refine ⟨p + k, _, _, v'', by have := HM.out; omega, by have := HM.out; omega, rfl, ?_, ?_⟩
              · have h := sl_sub HS.out hka
                rw [List.drop_drop] at h
                exact h
              · exact HH5.out.mono (fun q hq _ => HH5.out.hF q hq) (fun _ h => h)
            case measure => omega
          · obtain rfl : m = 0 := by omega
            have hpe : p = Z.length := by have := HM.out; omega
            subst hpe
            have hH := HH.out
            rw [List.take_length, HFE.out] at hH
            have HH' := Lib.hid hH
            obtain ⟨A8', c8', e8, _, hC8'⟩ := Kd.R_reads hH.got
            subst e8
            have HC8' := Lib.hid hC8'
            have HClr := Lib.hid (Kd.C_below HCl.out hH.below)
            clear hH hC8'
            go_wp2_with (first
              | (go_at_call 30; go_loud (refine (left_calls _ _ _ _ _ (HH'.out.grow HB6.out).fd).mono ?_; rintro e w7 ⟨rfl, rfl⟩))
              | (go_at_call 29; go_loud (refine (same_calls A8' A0 c8' c0 l _ HC8'.out HClr.out (by omega)).mono ?_; rintro e w6 ⟨rfl, hB6⟩; have HB6 := Lib.hid hB6; clear hB6)))
            go_ret
            exact ⟨rfl, below_step (HB3.out.trans (HH'.out.below.mono hw3)) HB6.out⟩
      · have h9 : ∃ x ∈ l, 9000 < x.length := by
          obtain ⟨x, hx, h⟩ := List.any_eq_true.1 hlg
          exact ⟨x, hx, of_decide_eq_true h⟩
        have H9 := Lib.hid h9
        clear h9 hlg
        go_wp2_with (go_at_call 43; go_loud (refine (enc_long A0 c0 l _ HCr.out hl HX.out H9.out).mono ?_; rintro e w2 ⟨rfl, hB2⟩; have HB2 := Lib.hid hB2; clear hB2))
        go_ret
        exact ⟨rfl, below_step HW.out HB2.out⟩
set_option maxHeartbeats 1000000 in
theorem again_walk (A0 : Option Addr) (c0 : Nat) (x0 : List (List (Int))) (x1 : Int) (W : World) (l0 : x0.length ≤ c0) (C0 : Kd.C (Kd.slice 5 (Kd.int .u8)) W A0 x0.length x0) (p0 : (x0.length ≤ maxLen ∧ x0.length * Try.prog.bytesOf 36 ≤ 140737488351232 ∧ ∀ x : List Int, x ∈ x0 → (x.length ≤ maxLen ∧ x.length * Try.prog.bytesOf 5 ≤ 140737488351232 ∧ ∀ y : Int, y ∈ x → (IntKind.u8.min ≤ y ∧ y ≤ IntKind.u8.max)))) (p1 : (IntKind.u8.min ≤ x1 ∧ x1 ≤ IntKind.u8.max)) :
    Calls Try.prog 10 #[.slice A0 x0.length c0, .int .u8 x1] W fun e W' => e = .returned (.bool true) ∧ Below W.heap.size W W' := by
  by_cases h0 : x0.length ≤ 30
  · exact again_main A0 c0 x0 x1 W C0 h0 (fun x hx => (p0.2.2 x hx).2.2) p1.1 p1.2
  · clear C0 p0 p1
    have t0 : (30 : Int) < (x0.length : Int) := by omega
    go_enter Try.func10, Try.ntmps10
    go_wp2_with (first
      | (go_at_call 26; refine (lives_calls _).mono ?_; rintro e w2 ⟨rfl, hB2⟩; have HB2 := Lib.hid (below_step hB1 hB2))
      | (go_at_call 26; refine (lives_calls _).mono ?_; rintro e w1 ⟨rfl, hB1⟩))
    go_ret
    exact ⟨rfl, HB2.out⟩
end Go.Proofs.Ytcpcnnpdbognlaa.Frm
