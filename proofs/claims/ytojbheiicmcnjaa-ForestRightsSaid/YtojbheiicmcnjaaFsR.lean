/- ForestRights. -/
import Derived.Test.YtojbheiicmcnjaaFsQ
namespace Go.Proofs.Ytojbheiicmcnjaa.Fst
open Go.RowKit Go Go.Proofs.YtojbheiicmcnjaaW.PrintWords Go.Proofs.YtojbheiicmcnjaaW.PrintMore Go.Proofs.YtojbheiicmcnjaaW.PrintLast Go.Proofs.Ytojbheiicmcnjaa.Bts Go.Proofs.Ytojbheiicmcnjaa.Fra Go.Maps
theorem w64_id {n : Int} (h0 : 0 ≤ n) (h1 : n ≤ 1000000) : wrap64 n = n := by unfold wrap64; omega
theorem handle_w (n : Int) (w : World) (h0 : 0 ≤ n) (h1 : n ≤ 1000000) : Calls Try.prog 9 #[.int .i64 (wrap64 n)] w fun e w' => e = .returned (H2 0 n) ∧ Below w.heap.size w w' := by
  rw [w64_id h0 h1]
  exact handle_is n w h0 h1
theorem filter_one {α : Type} {q : α → Bool} {p : α} : ∀ {L : List α}, L.Nodup → p ∈ L → q p = true → (∀ x ∈ L, q x = true → x = p) → L.filter q = [p]
  | [], _, h, _, _ => by simp at h
  | x :: L, hn, hm, hq, hu => by
    rw [List.nodup_cons] at hn
    by_cases hx : q x = true
    · have e1 := hu x (List.mem_cons_self ..) hx
      subst e1
      rw [List.filter_cons_of_pos hx]
      have e2 : L.filter q = [] := by
        rw [List.filter_eq_nil_iff]
        intro y hy hqy
        have := hu y (List.mem_cons_of_mem _ hy) hqy
        subst this
        exact hn.1 hy
      rw [e2]
    · rw [List.filter_cons_of_neg hx]
      rcases List.mem_cons.1 hm with rfl | hm
      · exact absurd hq hx
      · exact filter_one hn.2 hm hq (fun y hy => hu y (List.mem_cons_of_mem _ hy))
theorem par_one {f0 next : Int} {L : List E} {i g b n : Nat} {w : World} (h : FS w g b n L next) (hI : Inv f0 L i next) {e : E} (he : e ∈ L) (ho : 0 < e.ord) : ∃ p ∈ L, (L.filter fun x => x.hi == e.ph && x.lo == e.pl) = [p] ∧ hasU p.rt e.rt = true ∧ p.ord < e.ord := by
  obtain ⟨p, hp, h1, h2, h3, h4⟩ := hI.par e he ho
  refine ⟨p, hp, filter_one h.nodup hp (by simp [h1, h2]) (fun x hx hq => ?_), h3, h4⟩
  simp at hq
  exact h.keys hx hp (by rw [hq.1, h1]) (by rw [hq.2, h2])
theorem all_three {f0 next : Int} {L : List E} {i : Nat} (hI : Inv f0 L i next) : (L.filter fun e => e.obj == 3).length = L.length := by
  rw [List.filter_eq_self.2 (fun e he => by simp [hI.obj e he])]
theorem ord_next {next : Int} {L : List E} {g b n : Nat} {w : World} (h : FS w g b n L next) : ∀ e ∈ L, e.ord < next := by
  obtain ⟨D, hm, hR⟩ := h.map
  exact fun e he => (hR.lt e he).2
theorem root_in {f0 next : Int} {L : List E} {i : Nat} (hI : Inv f0 L i next) (h0 : ∀ e ∈ L, 0 ≤ e.ord) : ∀ (n : Nat) (e : E), e ∈ L → e.ord ≤ n → ∃ r ∈ L, r.ord = 0
  | 0, e, he, hn => ⟨e, he, by have := h0 e he; omega⟩
  | n + 1, e, he, hn => by
    by_cases ho : 0 < e.ord
    · obtain ⟨p, hp, _, _, _, hlt⟩ := hI.par e he ho
      exact root_in hI h0 n p hp (by omega)
    · exact ⟨e, he, by have := h0 e he; omega⟩
theorem all_under {f0 next : Int} {L : List E} {i g b n : Nat} {w : World} (h : FS w g b n L next) (hI : Inv f0 L i next) : (L.filter fun e => underU L 0 1 e.hi e.lo) = L ∧ (L.filter fun e => !underU L 0 1 e.hi e.lo) = [] ∧ (find L 0 1).isSome = true := by
  obtain ⟨D, hm, hR⟩ := h.map
  have hu := hI.under hR.ord (fun e he => (hR.lt e he).1)
  refine ⟨List.filter_eq_self.2 hu, List.filter_eq_nil_iff.2 (fun e he => by simp [hu e he]), ?_⟩
  obtain ⟨e, he⟩ : ∃ e, e ∈ L := List.exists_mem_of_length_pos hI.len1
  obtain ⟨r, hr, h0⟩ := root_in hI (fun e he => (hR.lt e he).1) e.ord.toNat e he (by omega)
  have h1 := find_self h hr
  rw [hI.hi r hr, hI.root r hr h0] at h1
  rw [h1]
  rfl
section
variable {L : List E} {next : Int} {g b n : Nat}
theorem count_is (x : Int) (m : Nat) (w : World) (h : FS w g b n L next) (hL : L.length ≤ 100000) (hnx : next ≤ 1000000) (hm : (L.filter fun e => e.obj == x).length = m) :
    Calls Try.prog 16 #[.pointer (some ⟨g, 0, none⟩), .int .i64 x] w fun e w' => e = .returned (.int .i64 (m : Int)) ∧ Below w.heap.size w w' := by
  have h1 := count_calls x w h hL hnx
  rwa [hm] at h1
theorem rev_all (w : World) (h : FS w g b n L next) (hL : L.length ≤ 100000) (hnx : next ≤ 1000000) (hu : (L.filter fun e => underU L 0 1 e.hi e.lo) = L) (hn : (L.filter fun e => !underU L 0 1 e.hi e.lo) = []) (hf : (find L 0 1).isSome = true) :
    Calls Try.prog 17 #[.pointer (some ⟨g, 0, none⟩), H2 0 1] w fun e w' => ∃ A c, e = .returned (.slice A L.length c) ∧ FS w' g b n [] next ∧ Fl g b w w' := by
  refine (revoke_ok 1 w h U1 hf hL hnx).mono ?_
  rintro e w' ⟨v, rfl, hE, hF, hf⟩
  rw [hu] at hE
  rw [hn] at hF
  obtain ⟨A, c, rfl, _⟩ := hE.slice
  exact ⟨A, c, rfl, hF, hf⟩
end
set_option maxHeartbeats 1000000 in
theorem rights_long (x0 : Int) (A1 : Option Addr) (c1 : Nat) (x1 : List A7) (W : World) (hm : (100 : Int) < (x1.length : Int)) :
    Calls Try.prog 3 #[.int .u8 x0, .slice A1 x1.length c1] W fun e W' => e = .returned (.bool true) ∧ Below W.heap.size W W' := by
  go_enter Try.func3, Try.ntmps3
  go_wp2_with (first
    | (go_at_call 6; have hx := HB1; clear hx; go_loud (refine (lives_calls _).mono ?_; rintro e w2 ⟨rfl, hb⟩; have HB2 := Lib.hid (HB1.out.trans (hb.mono HB1.out.size)); clear hb))
    | (go_at_call 6; go_loud (refine (lives_calls _).mono ?_; rintro e w1 ⟨rfl, hb⟩; have HB1 := Lib.hid hb; clear hb)))
  go_ret
  exact ⟨rfl, HB2.out⟩
set_option maxHeartbeats 8000000 in
set_option maxRecDepth 100000 in
theorem rights_main (x0 : Int) (A1 : Option Addr) (c1 : Nat) (x1 : List A7) (W : World) (hc : kA.C W A1 x1.length x1) (hu : ∀ x ∈ x1, U8 x.2.2.2.2.2.1) (hm : ¬ (100 : Int) < (x1.length : Int)) (f0 : Int) (hf : x0 % 32 = f0) (hf2 : x0.tmod 32 = f0) (h8 : U8 f0) (hr : rightU f0 = true) :
    Calls Try.prog 3 #[.int .u8 x0, .slice A1 x1.length c1] W fun e W' => e = .returned (.bool true) ∧ Below W.heap.size W W' := by
  have HC := Lib.hid hc
  have HUU := Lib.hid hu
  have HR := Lib.hid hr
  have H8 := Lib.hid h8
  have hm' : (x1.length : Int) ≤ 100 := by omega
  clear hc hr h8 hu
  go_enter Try.func3, Try.ntmps3
  go_wp2_with (first
    | (go_at_call 8; go_loud (refine (root_ok 1 3 f0 1 0 0 0 _ HF3.out U1 (by decide) rfl HR.out (by decide) (by decide)).mono ?_; rintro e w4 ⟨rfl, hF, hf4⟩; have HF4 := Lib.hid hF; have HB4 := Lib.hid (HB3.out.trans (fl_below hf4 HGB.out.1 HGB.out.2 HB3.out.size)); clear hF hf4))
    | (go_at_call 9; go_loud (refine (handle_is 1 _ (by decide) (by decide)).mono ?_; rintro e w3 ⟨rfl, hb⟩; have HF3 := Lib.hid (HF2.out.below hb); have HB3 := Lib.hid (HB2.out.trans (hb.mono HB2.out.size)); clear hb))
    | (go_at_call 7; go_loud (refine (new_calls _).mono ?_; rintro e w2 ⟨g, b, rfl, hF, hg, hbb, hB⟩; have HF2 := Lib.hid hF; have HGB := Lib.hid (show W.heap.size ≤ g ∧ W.heap.size ≤ b from by have h1 := HB1.out.size; omega); have HB2 := Lib.hid (HB1.out.trans (hB.mono HB1.out.size)); clear hF hg hbb hB))
    | (go_at_call 6; go_loud (refine (lives_calls _).mono ?_; rintro e w1 ⟨rfl, hb⟩; have HB1 := Lib.hid hb; clear hb)))
  go_loopg [32] x1.length (fun q i wr => ∃ (j : Nat) (L : List E) (next : Int), q + j = x1.length ∧ i = .int .i64 (j : Int) ∧ Hid (FS wr g b (1 + 2 * j) L next) ∧ Hid (Inv f0 L j next) ∧ Hid (Below W.heap.size W wr))
  case atStart => exact ⟨0, _, _, by omega, rfl, HF4, Lib.hid (Inv.start H8.out), HB4⟩
  case round =>
    obtain ⟨j, L, next, hq, rfl, HF, HI, HB⟩ := hrel
    have hL100 : L.length ≤ 100000 := by have := HI.out.len2; omega
    have hnx : next ≤ 1000000 := by have := HI.out.nx; omega
    have HLN := Lib.hid (And.intro hL100 hnx)
    have hlp := HI.out.len1
    have HWF := Lib.hid HF.out.wfE
    clear hL100 hnx
    by_cases hj : j < x1.length
    · have hj' : (j : Int) < (x1.length : Int) := by omega
      obtain ⟨⟨ak, ah, an, aw, at_, ar, ao⟩, he⟩ : ∃ e, x1[j]? = some e := ⟨x1[j], List.getElem?_eq_getElem hj⟩
      obtain ⟨ad, e1, y0, y1, y2, y3, y4, y5, y6⟩ := rowA_at (Kd.C_below HC.out HB.out) j he
      obtain rfl : A1 = some ad := e1
      have har : U8 ar := HUU.out _ (List.mem_of_getElem? he)
      have HAR := Lib.hid har
      have hlu : IntKind.u64.wrap (L.length : Int) = (L.length : Int) := by rw [IntKind.wrap_u64]; have := HLN.out.1; omega
      have hlne : ((L.length : Int) == 0) = false := by rw [beq_eq_false_iff_ne]; omega
      obtain ⟨k, hk1, hk2, hk3⟩ := mod_len ah L.length (by omega) HLN.out.1
      obtain ⟨p, hp⟩ : ∃ p, L[k]? = some p := ⟨L[k], List.getElem?_eq_getElem hk2⟩
      have hk2' : (k : Int) < (L.length : Int) := Int.ofNat_lt.mpr hk2
      obtain ⟨hi, lo, ob, rt, ow, ph, pl, od⟩ := p
      have hpm := List.mem_of_getElem? hp
      obtain rfl : hi = 0 := HI.out.hi _ hpm
      have HP := Lib.hid hp
      have HPM := Lib.hid hpm
      clear he har hp hpm
      have ACB := below_alloc (Below.refl wr.heap.size wr) (.cells #[.int .u8 ak, .int .i64 ah, .int .i64 an, .int .u32 aw, .int .u32 at_, .int .u8 ar, .int .i64 ao] 37)
      have HFA := Lib.hid (HF.out.below ACB)
      have HBA := Lib.hid (HB.out.trans (ACB.mono HB.out.size))
      have HKA := Lib.hid (blk_new wr (.cells #[.int .u8 ak, .int .i64 ah, .int .i64 an, .int .u32 aw, .int .u32 at_, .int .u8 ar, .int .i64 ao] 37))
      clear ACB
      go_wp2_with (go_at_call 10; go_loud (refine (list_all _ _ (enters_of Try.func11 (by kernel_rfl) rfl) yes_R1 HFA.out HLN.out.1 HLN.out.2).mono ?_; rintro e w5 ⟨v5, rfl, hE5, hb5⟩; obtain ⟨A5, c5, e5, hc5⟩ := hE5.slice; subst e5; have HE5 := Lib.hid hE5; have HF5 := Lib.hid (HFA.out.below hb5); have HB5 := Lib.hid (HBA.out.trans (hb5.mono HBA.out.size)); have hka := blk_below HKA.out hb5; have HK5 := Lib.hid hka; have z1 := blk_cell hka 1; obtain ⟨ad5, e6, x0_, x1_, x2_, x3_, x4_, x5_, x6_, x7_⟩ := rowE_at hE5.C k HP.out; subst e6; dsimp only at x0_ x1_ x2_ x3_ x4_ x5_ x6_ x7_; clear hE5 hb5 hka))
      clear z1 x0_ x1_ x2_ x3_ x4_ x5_ x6_ x7_ y0 y1 y2 y3 y4 y5 y6 hlu hlne hk1 hk3
      have ACX := below_alloc (Below.refl w5.heap.size w5) (.cells #[.int .u64 0, .int .u64 lo, .int .i64 ob, .int .u8 rt, .int .u32 ow, .int .u64 ph, .int .u64 pl, .int .i64 od] 35)
      obtain ⟨X, hX⟩ : ∃ X, (w5.alloc (.cells #[.int .u64 0, .int .u64 lo, .int .i64 ob, .int .u8 rt, .int .u32 ow, .int .u64 ph, .int .u64 pl, .int .i64 od] 35)).drew = X := ⟨_, rfl⟩
      have hbx : Below w5.heap.size w5 X := by rw [← hX]; exact below_drew1 ACX
      have hkx := blk_drew (blk_new w5 (.cells #[.int .u64 0, .int .u64 lo, .int .i64 ob, .int .u8 rt, .int .u32 ow, .int .u64 ph, .int .u64 pl, .int .i64 od] 35))
      rw [hX] at hkx
      have HKX := Lib.hid hkx
      have HAX := Lib.hid (blk_below HK5.out hbx)
      have HFX := Lib.hid (HF5.out.below hbx)
      have HBX := Lib.hid (HB5.out.trans (hbx.mono HB5.out.size))
      have hfn : find L 0 (2 + (j : Int)) = none := by
        cases hf : find L 0 (2 + (j : Int)) with
        | none => rfl
        | some e =>
          obtain ⟨h1, h2, h3⟩ := find_some hf
          have := HI.out.lo e h1
          omega
      have HFN := Lib.hid hfn
      have hwfp := HWF.out _ HPM.out
      have HLO := Lib.hid (show U64 lo from ⟨hwfp.lo0, hwfp.lo1⟩)
      clear ACX hbx hkx hfn hwfp
      refine start_ (n := 13) (S := fun w' => w'.cell? ⟨w5.heap.size, 0, none⟩ = some (.int .u64 0) ∧ w'.cell? ⟨w5.heap.size, 1, none⟩ = some (.int .u64 lo) ∧ w'.cell? ⟨w5.heap.size, 4, none⟩ = some (.int .u32 ow) ∧ w'.cell? ⟨wr.heap.size, 4, none⟩ = some (.int .u32 at_) ∧ w'.cell? ⟨wr.heap.size, 5, none⟩ = some (.int .u8 ar)) (ds := [12]) #[false, false, false, false, false, false, false, false, false, false, false, false, false] (by kernel_rfl) rfl rfl ⟨(by rw [hX]; exact blk_cell HKX.out 0), (by rw [hX]; exact blk_cell HKX.out 1), (by rw [hX]; exact blk_cell HKX.out 4), (by rw [hX]; exact blk_cell HAX.out 4), (by rw [hX]; exact blk_cell HAX.out 5)⟩ (fun hHeld => ?_)
      refine pure_ (i := 0) (N := some 50) (v := ?_) (a' := ?_) #[true, false, false, false, false, false, false, false, false, false, false, false, false] rfl rfl (by kernel_rfl) (fun _ _ _ h => h) (Or.inl ⟨by rfl, ?_⟩) ?_ ?_
      rotate_left
      · intro w'
        go_simp
        with_reducible rfl
      rotate_left
      · simp only [Act.put, List.setIfInBounds_toArray, List.set_cons_zero, List.set_cons_succ, i64_w, i32_w]
        rfl
      refine pure_ (i := 1) (N := some 51) (v := ?_) (a' := ?_) #[true, true, false, false, false, false, false, false, false, false, false, false, false] rfl rfl (by kernel_rfl) (fun _ _ _ h => h) (Or.inl ⟨by rfl, ?_⟩) ?_ ?_
      rotate_left
      · intro w'
        go_simp
        with_reducible rfl
      rotate_left
      · simp only [Act.put, List.setIfInBounds_toArray, List.set_cons_zero, List.set_cons_succ, i64_w, i32_w]
        rfl
      refine pure_ (i := 3) (N := some 53) (v := ?_) (a' := ?_) #[true, true, false, true, false, false, false, false, false, false, false, false, false] rfl rfl (by kernel_rfl) (fun _ _ _ h => h) (Or.inl ⟨by rfl, ?_⟩) ?_ ?_
      rotate_left
      · intro w'
        go_simp
        with_reducible rfl
      rotate_left
      · simp only [Act.put, List.setIfInBounds_toArray, List.set_cons_zero, List.set_cons_succ, i64_w, i32_w]
        rfl
      refine pure_ (i := 5) (N := some 55) (v := ?_) (a' := ?_) #[true, true, false, true, false, true, false, false, false, false, false, false, false] rfl rfl (by kernel_rfl) (fun _ _ _ h => h) (Or.inl ⟨by rfl, ?_⟩) ?_ ?_
      rotate_left
      · intro w'
        go_simp
        with_reducible rfl
      rotate_left
      · simp only [Act.put, List.setIfInBounds_toArray, List.set_cons_zero, List.set_cons_succ, i64_w, i32_w]
        rfl
      refine pure_ (i := 6) (N := some 56) (v := ?_) (a' := ?_) #[true, true, false, true, false, true, true, false, false, false, false, false, false] rfl rfl (by kernel_rfl) (fun _ _ _ h => h) (Or.inl ⟨by rfl, ?_⟩) ?_ ?_
      rotate_left
      · intro w'
        go_simp
        with_reducible rfl
      rotate_left
      · simp only [Act.put, List.setIfInBounds_toArray, List.set_cons_zero, List.set_cons_succ, i64_w, i32_w]
        rfl
      refine pure_ (i := 8) (N := some 58) (v := ?_) (a' := ?_) #[true, true, false, true, false, true, true, false, true, false, false, false, false] rfl rfl (by kernel_rfl) (fun _ _ _ h => h) (Or.inl ⟨by rfl, ?_⟩) ?_ ?_
      rotate_left
      · intro w'
        go_simp
        with_reducible rfl
      rotate_left
      · simp only [Act.put, List.setIfInBounds_toArray, List.set_cons_zero, List.set_cons_succ, i64_w, i32_w]
        rfl
      refine pure_ (i := 10) (N := some 60) (v := ?_) (a' := ?_) #[true, true, false, true, false, true, true, false, true, false, true, false, false] rfl rfl (by kernel_rfl) (fun _ _ _ h => h) (Or.inl ⟨by rfl, ?_⟩) ?_ ?_
      rotate_left
      · intro w'
        go_simp
        with_reducible rfl
      rotate_left
      · simp only [Act.put, List.setIfInBounds_toArray, List.set_cons_zero, List.set_cons_succ, i64_w, i32_w]
        rfl
      refine take_ (i := 2) (N := some 52) (v := ?_) (a' := ?_) #[true, true, true, true, false, true, true, false, true, false, true, false, false] rfl rfl (by kernel_rfl) (fun _ _ _ h => h) (Or.inl ⟨by rfl, ?_⟩) hHeld ?_ ?_
      rotate_left
      · rintro w' ⟨s0, s1, s2, s3, s4⟩
        go_simp
        with_reducible rfl
      rotate_left
      · simp only [Act.put, List.setIfInBounds_toArray, List.set_cons_zero, List.set_cons_succ, i64_w, i32_w]
        rfl
      refine take_ (i := 4) (N := some 54) (v := ?_) (a' := ?_) #[true, true, true, true, true, true, true, false, true, false, true, false, false] rfl rfl (by kernel_rfl) (fun _ _ _ h => h) (Or.inl ⟨by rfl, ?_⟩) hHeld ?_ ?_
      rotate_left
      · rintro w' ⟨s0, s1, s2, s3, s4⟩
        go_simp
        with_reducible rfl
      rotate_left
      · simp only [Act.put, List.setIfInBounds_toArray, List.set_cons_zero, List.set_cons_succ, i64_w, i32_w]
        rfl
      refine take_ (i := 9) (N := some 59) (v := ?_) (a' := ?_) #[true, true, true, true, true, true, true, false, true, true, true, false, false] rfl rfl (by kernel_rfl) (fun _ _ _ h => h) (Or.inl ⟨by rfl, ?_⟩) hHeld ?_ ?_
      rotate_left
      · rintro w' ⟨s0, s1, s2, s3, s4⟩
        go_simp
        with_reducible rfl
      rotate_left
      · simp only [Act.put, List.setIfInBounds_toArray, List.set_cons_zero, List.set_cons_succ, i64_w, i32_w]
        rfl
      refine take_ (i := 11) (N := some 61) (v := ?_) (a' := ?_) #[true, true, true, true, true, true, true, false, true, true, true, true, false] rfl rfl (by kernel_rfl) (fun _ _ _ h => h) (Or.inl ⟨by rfl, ?_⟩) hHeld ?_ ?_
      rotate_left
      · rintro w' ⟨s0, s1, s2, s3, s4⟩
        go_simp
        with_reducible rfl
      rotate_left
      · simp only [Act.put, List.setIfInBounds_toArray, List.set_cons_zero, List.set_cons_succ, i64_w, i32_w]
        rfl
      refine one_ (i := 7) (N := some 57) #[true, true, true, true, true, true, true, true, true, true, true, true, false] rfl rfl (by kernel_rfl) (by decide) (fun K hK => ?_)
      refine goes_ Try.func9 (by kernel_rfl) rfl #[.int .i64 (wrap64 (2 + (j : Int)))] (by rfl) rfl rfl (by simp only [List.map_toArray, List.map_cons, List.map_nil]; rfl) ?_
      with_reducible refine (handle_w (2 + (j : Int)) _ (by omega) (by omega)).mono ?_
      rintro e w7 ⟨rfl, hB7⟩
      refine ⟨_, rfl, ?_⟩
      rw [hX] at hB7
      have HB7 := Lib.hid hB7
      clear hB7
      refine hK.out _ _ ⟨(by exact blk_cell (blk_below HKX.out HB7.out) 0), (by exact blk_cell (blk_below HKX.out HB7.out) 1), (by exact blk_cell (blk_below HKX.out HB7.out) 4), (by exact blk_cell (blk_below HAX.out HB7.out) 4), (by exact blk_cell (blk_below HAX.out HB7.out) 5)⟩ (fun hHeld => ?_)
      clear hK K
      refine norm_ (a' := ?_) ?_ ?_
      rotate_left
      · show Act.put _ (some 57) _ = _
        simp only [Act.put, List.setIfInBounds_toArray, List.set_cons_zero, List.set_cons_succ, i64_w, i32_w]
        rfl
      refine last_ (i := 12) (N := some 62) #[true, true, true, true, true, true, true, true, true, true, true, true, true] rfl rfl (by kernel_rfl) (by decide) (fun K hK => ?_)
      refine goes_ Try.func12 (by kernel_rfl) rfl #[.pointer (some ⟨g, 0, none⟩), H2 0 lo, .int .u32 ow, H2 0 (2 + (j : Int)), .int .u32 at_, .int .u8 ar] (by rfl) rfl rfl (by simp only [List.map_toArray, List.map_cons, List.map_nil]; rfl) ?_
      with_reducible refine (del_any lo ow (2 + (j : Int)) at_ ar _ (HFX.out.below HB7.out) HLO.out ⟨by omega, by omega⟩ _ (fnd_self HFX.out HPM.out) (by omega) HFN.out HLN.out.2 (by omega)).mono ?_
      rintro e w8 ⟨cc, L', next', rfl, hF8, hf8, hor⟩
      refine ⟨_, rfl, ?_⟩
      have HF8 := Lib.hid hF8
      have Hf8 := Lib.hid hf8
      have HOR := Lib.hid hor
      clear hF8 hf8 hor
      refine hK.out _ _ ?_
      clear hK K
      refine norm_ (a' := ?_) ?_ ?_
      rotate_left
      · show Act.put _ (some 62) _ = _
        simp only [Act.put, List.setIfInBounds_toArray, List.set_cons_zero, List.set_cons_succ, i64_w, i32_w]
        rfl
      refine done_ (by kernel_rfl) ?_

      go_wp2
      go_roundg (gk - 1)
      case measure => omega
      case rel =>
        have hbn : Below W.heap.size W w8 := (HBX.out.trans (HB7.out.mono HBX.out.size)).trans (fl_below Hf8.out HGB.out.1 HGB.out.2 (Nat.le_trans HBX.out.size HB7.out.size))
        have hF8 := HF8.out
        have e0 : 1 + 2 * j + 1 + 1 = 1 + 2 * (j + 1) := by omega
        rw [e0] at hF8
        rcases HOR.out with ⟨e1, e2⟩ | ⟨e1, e2, ha⟩
        · rw [e1, e2] at hF8
          exact ⟨j + 1, _, _, by omega, rfl, Lib.hid hF8, Lib.hid HI.out.more, Lib.hid hbn⟩
        · have e3 : (2 + (j : Int)) = (j : Int) + 2 := by omega
          rw [e1, e2, e3] at hF8
          exact ⟨j + 1, _, _, by omega, rfl, Lib.hid hF8, Lib.hid (HI.out.add H8.out HAR.out HPM.out ha (ord_next HF.out)), Lib.hid hbn⟩
    · have hjn : j = x1.length := by omega
      subst hjn
      have hj' : ¬ (x1.length : Int) < (x1.length : Int) := by omega
      go_wp2_with (go_at_call 10; go_loud (refine (list_all _ _ (enters_of Try.func13 (by kernel_rfl) rfl) yes_R2 HF.out HLN.out.1 HLN.out.2).mono ?_; rintro e w5 ⟨v5, rfl, hE5, hb5⟩; obtain ⟨A5, c5, e5, hc5⟩ := hE5.slice; subst e5; have HE5 := Lib.hid hE5; have HF5 := Lib.hid (HF.out.below hb5); have HB5 := Lib.hid (HB.out.trans (hb5.mono HB.out.size)); clear hE5 hb5))
      go_loopg [67] L.length (fun q i wr => ∃ (k : Nat), q + k = L.length ∧ i = .int .i64 (k : Int) ∧ Hid (Below w5.heap.size w5 wr))
      case atStart => exact ⟨0, by omega, rfl, Lib.hid (Below.refl _ _)⟩
      case round =>
        obtain ⟨k, hkq, rfl, HBZ⟩ := hrel
        have hLb : (L.length : Int) ≤ 100000 := Int.ofNat_le.mpr HLN.out.1
        by_cases hk : k < L.length
        · have hk' : (k : Int) < (L.length : Int) := Int.ofNat_lt.mpr hk
          obtain ⟨⟨hi, lo, ob, rt, ow, ph, pl, od⟩, he⟩ : ∃ e, L[k]? = some e := ⟨L[k], List.getElem?_eq_getElem hk⟩
          have hem := List.mem_of_getElem? he
          obtain rfl : hi = 0 := HI.out.hi _ hem
          obtain rfl : ph = 0 := HI.out.ph _ hem
          obtain rfl : ob = 3 := HI.out.obj _ hem
          obtain ⟨ad5, e6, x0_, x1_, x2_, x3_, x4_, x5_, x6_, x7_⟩ := rowE_at (HE5.out.fr (S := fun _ => False) (Fr.of_new HBZ.out) (fun _ _ h => h)).C k he
          obtain rfl : A5 = some ad5 := e6
          dsimp only at x0_ x1_ x2_ x3_ x4_ x5_ x6_ x7_
          have hhas := HI.out.has_ _ hem
          dsimp only at hhas
          have HHAS := Lib.hid hhas
          have HEM := Lib.hid hem
          have ACB := below_alloc (Below.refl wr.heap.size wr) (.cells #[.int .u64 0, .int .u64 lo, .int .i64 3, .int .u8 rt, .int .u32 ow, .int .u64 0, .int .u64 pl, .int .i64 od] 35)
          have hkn := blk_new wr (.cells #[.int .u64 0, .int .u64 lo, .int .i64 3, .int .u8 rt, .int .u32 ow, .int .u64 0, .int .u64 pl, .int .i64 od] 35)
          clear he hem hhas
          by_cases ho : 0 < od
          · obtain ⟨⟨phi, plo, pob, prt, pow, pph, ppl, pod⟩, hp, hflt, hph, hpo⟩ := par_one HF.out HI.out HEM.out ho
            dsimp only at hflt hph hpo
            have HFLT := Lib.hid hflt
            have HPH := Lib.hid hph
            have hpo' : ¬ od ≤ pod := by omega
            have HPO := Lib.hid hpo
            have HKN := Lib.hid hkn
            have HZZ := Lib.hid (HBZ.out.trans (ACB.mono HBZ.out.size))
            have HFZ := Lib.hid (HF5.out.below HZZ.out)
            clear hflt hph hp hpo hkn ACB
            go_wp2_with (first
              | (go_at_call 10; go_loud (refine (list_gen 15 #[.pointer (some ⟨wr.heap.size, 0, none⟩)] (fun x => x.hi == (0 : Int) && x.lo == pl) _ (enters_of Try.func15 (by kernel_rfl) rfl) (fun e W he hW => par_in e ⟨0, lo, 3, rt, ow, 0, pl, od⟩ wr.heap.size _ W (blk_below HKN.out hW) rfl) HFZ.out HLN.out.1 HLN.out.2).mono ?_; rintro e w6 ⟨v6, rfl, hE6, hb6⟩; rw [HFLT.out] at hE6; obtain ⟨A6, c6, e6, hc6⟩ := hE6.slice; subst e6; have HE6 := Lib.hid hE6; have HB6 := Lib.hid hb6; clear hE6 hb6))
              | (go_at_call 14; go_loud (refine (has_is f0 rt true HHAS.out _).mono ?_; rintro e w ⟨rfl, rfl⟩)))
            have hE6 := HE6.out.C
            obtain ⟨ad6, e8, z0_, z1_, z2_, z3_, z4_, z5_, z6_, z7_⟩ := rowE_at hE6 0 (e := ⟨phi, plo, pob, prt, pow, pph, ppl, pod⟩) rfl
            obtain rfl : A6 = some ad6 := e8
            obtain ⟨X, hX⟩ : ∃ X, w6.drew = X := ⟨_, rfl⟩
            have hbx : Below w6.heap.size w6 X := by rw [← hX]; exact below_drew1 (Below.refl _ _)
            have hkx := blk_below (blk_below HKN.out HB6.out) hbx
            have hc3 : X.cell? ⟨ad6.block, ad6.off + 3, none⟩ = some (.int .u8 prt) := by rw [← hX]; exact z3_
            have hc7 : X.cell? ⟨ad6.block, ad6.off + 7, none⟩ = some (.int .i64 pod) := by rw [← hX]; exact z7_
            have HKX := Lib.hid hkx
            have HC3 := Lib.hid hc3
            have HC7 := Lib.hid hc7
            clear hE6 z0_ z1_ z2_ z3_ z4_ z5_ z6_ z7_ x0_ x1_ x2_ x3_ x4_ x5_ x6_ x7_ hkx hc3 hc7
            refine start_ (n := 22) (S := fun w' => w'.cell? ⟨ad6.block, ad6.off + 3, none⟩ = some (.int .u8 prt) ∧ w'.cell? ⟨ad6.block, ad6.off + 7, none⟩ = some (.int .i64 pod) ∧ w'.cell? ⟨wr.heap.size, 3, none⟩ = some (.int .u8 rt) ∧ w'.cell? ⟨wr.heap.size, 7, none⟩ = some (.int .i64 od)) (ds := []) #[false, false, false, false, false, false, false, false, false, false, false, false, false, false, false, false, false, false, false, false, false, false] (by kernel_rfl) rfl rfl ⟨(by rw [hX]; exact HC3.out), (by rw [hX]; exact HC7.out), (by rw [hX]; exact blk_cell HKX.out 3), (by rw [hX]; exact blk_cell HKX.out 7)⟩ (fun hHeld => ?_)
            refine pure_ (i := 0) (N := some 88) (v := ?_) (a' := ?_) #[true, false, false, false, false, false, false, false, false, false, false, false, false, false, false, false, false, false, false, false, false, false] rfl rfl (by kernel_rfl) (fun _ _ _ h => h) (Or.inl ⟨by rfl, ?_⟩) ?_ ?_
            rotate_left
            · intro w'
              go_simp
              with_reducible rfl
            rotate_left
            · simp only [Act.put, List.setIfInBounds_toArray, List.set_cons_zero, List.set_cons_succ, i64_w, i32_w]
              rfl
            refine pure_ (i := 1) (N := some 89) (v := ?_) (a' := ?_) #[true, true, false, false, false, false, false, false, false, false, false, false, false, false, false, false, false, false, false, false, false, false] rfl rfl (by kernel_rfl) (fun _ _ _ h => h) (Or.inl ⟨by rfl, ?_⟩) ?_ ?_
            rotate_left
            · intro w'
              go_simp
              with_reducible rfl
            rotate_left
            · simp only [Act.put, List.setIfInBounds_toArray, List.set_cons_zero, List.set_cons_succ, i64_w, i32_w]
              rfl
            refine pure_ (i := 2) (N := some 90) (v := ?_) (a' := ?_) #[true, true, true, false, false, false, false, false, false, false, false, false, false, false, false, false, false, false, false, false, false, false] rfl rfl (by kernel_rfl) (fun _ _ _ h => h) (Or.inl ⟨by rfl, ?_⟩) ?_ ?_
            rotate_left
            · intro w'
              go_simp
              with_reducible rfl
            rotate_left
            · simp only [Act.put, List.setIfInBounds_toArray, List.set_cons_zero, List.set_cons_succ, i64_w, i32_w]
              rfl
            refine pure_ (i := 3) (N := some 91) (v := ?_) (a' := ?_) #[true, true, true, true, false, false, false, false, false, false, false, false, false, false, false, false, false, false, false, false, false, false] rfl rfl (by kernel_rfl) (fun _ _ _ h => h) (Or.inl ⟨by rfl, ?_⟩) ?_ ?_
            rotate_left
            · intro w'
              go_simp
              with_reducible rfl
            rotate_left
            · simp only [Act.put, List.setIfInBounds_toArray, List.set_cons_zero, List.set_cons_succ, i64_w, i32_w]
              rfl
            refine pure_ (i := 4) (N := some 92) (v := ?_) (a' := ?_) #[true, true, true, true, true, false, false, false, false, false, false, false, false, false, false, false, false, false, false, false, false, false] rfl rfl (by kernel_rfl) (fun _ _ _ h => h) (Or.inl ⟨by rfl, ?_⟩) ?_ ?_
            rotate_left
            · intro w'
              go_simp
              with_reducible rfl
            rotate_left
            · simp only [Act.put, List.setIfInBounds_toArray, List.set_cons_zero, List.set_cons_succ, i64_w, i32_w]
              rfl
            refine pure_ (i := 5) (N := some 93) (v := ?_) (a' := ?_) #[true, true, true, true, true, true, false, false, false, false, false, false, false, false, false, false, false, false, false, false, false, false] rfl rfl (by kernel_rfl) (fun _ _ _ h => h) (Or.inl ⟨by rfl, ?_⟩) ?_ ?_
            rotate_left
            · intro w'
              go_simp
              with_reducible rfl
            rotate_left
            · simp only [Act.put, List.setIfInBounds_toArray, List.set_cons_zero, List.set_cons_succ, i64_w, i32_w]
              rfl
            refine pure_ (i := 6) (N := some 94) (v := ?_) (a' := ?_) #[true, true, true, true, true, true, true, false, false, false, false, false, false, false, false, false, false, false, false, false, false, false] rfl rfl (by kernel_rfl) (fun _ _ _ h => h) (Or.inl ⟨by rfl, ?_⟩) ?_ ?_
            rotate_left
            · intro w'
              go_simp
              with_reducible rfl
            rotate_left
            · simp only [Act.put, List.setIfInBounds_toArray, List.set_cons_zero, List.set_cons_succ, i64_w, i32_w]
              rfl
            refine pure_ (i := 8) (N := some 96) (v := ?_) (a' := ?_) #[true, true, true, true, true, true, true, false, true, false, false, false, false, false, false, false, false, false, false, false, false, false] rfl rfl (by kernel_rfl) (fun _ _ _ h => h) (Or.inl ⟨by rfl, ?_⟩) ?_ ?_
            rotate_left
            · intro w'
              go_simp
              with_reducible rfl
            rotate_left
            · simp only [Act.put, List.setIfInBounds_toArray, List.set_cons_zero, List.set_cons_succ, i64_w, i32_w]
              rfl
            refine take_ (i := 7) (N := some 95) (v := ?_) (a' := ?_) #[true, true, true, true, true, true, true, true, true, false, false, false, false, false, false, false, false, false, false, false, false, false] rfl rfl (by kernel_rfl) (fun _ _ _ h => h) (Or.inl ⟨by rfl, ?_⟩) hHeld ?_ ?_
            rotate_left
            · rintro w' ⟨s0, s1, s2, s3⟩
              go_simp
              with_reducible rfl
            rotate_left
            · simp only [Act.put, List.setIfInBounds_toArray, List.set_cons_zero, List.set_cons_succ, i64_w, i32_w]
              rfl
            refine take_ (i := 9) (N := some 97) (v := ?_) (a' := ?_) #[true, true, true, true, true, true, true, true, true, true, false, false, false, false, false, false, false, false, false, false, false, false] rfl rfl (by kernel_rfl) (fun _ _ _ h => h) (Or.inl ⟨by rfl, ?_⟩) hHeld ?_ ?_
            rotate_left
            · rintro w' ⟨s0, s1, s2, s3⟩
              go_simp
              with_reducible rfl
            rotate_left
            · simp only [Act.put, List.setIfInBounds_toArray, List.set_cons_zero, List.set_cons_succ, i64_w, i32_w]
              rfl
            refine one_ (i := 10) (N := some 98) #[true, true, true, true, true, true, true, true, true, true, true, false, false, false, false, false, false, false, false, false, false, false] rfl rfl (by kernel_rfl) (by decide) (fun K hK => ?_)
            refine goes_ Try.func14 (by kernel_rfl) rfl #[.int .u8 prt, .int .u8 rt] (by rfl) rfl rfl (by simp only [List.map_toArray, List.map_cons, List.map_nil]; rfl) ?_
            with_reducible refine (has_is prt rt true HPH.out _).mono ?_
            rintro e w7 ⟨rfl, rfl⟩
            refine ⟨_, rfl, ?_⟩
            refine hK.out _ _ ⟨(by rw [hX]; exact HC3.out), (by rw [hX]; exact HC7.out), (by rw [hX]; exact blk_cell HKX.out 3), (by rw [hX]; exact blk_cell HKX.out 7)⟩ (fun hHeld => ?_)
            clear hK K
            refine norm_ (a' := ?_) ?_ ?_
            rotate_left
            · show Act.put _ (some 98) _ = _
              simp only [Act.put, List.setIfInBounds_toArray, List.set_cons_zero, List.set_cons_succ, i64_w, i32_w]
              rfl
            refine pure_ (i := 11) (N := some 99) (v := ?_) (a' := ?_) #[true, true, true, true, true, true, true, true, true, true, true, true, false, false, false, false, false, false, false, false, false, false] rfl rfl (by kernel_rfl) (fun _ _ _ h => h) (Or.inl ⟨by rfl, ?_⟩) ?_ ?_
            rotate_left
            · intro w'
              go_simp
              with_reducible rfl
            rotate_left
            · simp only [Act.put, List.setIfInBounds_toArray, List.set_cons_zero, List.set_cons_succ, i64_w, i32_w]
              rfl
            refine pure_ (i := 12) (N := some 100) (v := ?_) (a' := ?_) #[true, true, true, true, true, true, true, true, true, true, true, true, true, false, false, false, false, false, false, false, false, false] rfl rfl (by kernel_rfl) (fun _ _ _ h => h) (Or.inl ⟨by rfl, ?_⟩) ?_ ?_
            rotate_left
            · intro w'
              go_simp
              with_reducible rfl
            rotate_left
            · simp only [Act.put, List.setIfInBounds_toArray, List.set_cons_zero, List.set_cons_succ, i64_w, i32_w]
              rfl
            refine pure_ (i := 13) (N := some 101) (v := ?_) (a' := ?_) #[true, true, true, true, true, true, true, true, true, true, true, true, true, true, false, false, false, false, false, false, false, false] rfl rfl (by kernel_rfl) (fun _ _ _ h => h) (Or.inl ⟨by rfl, ?_⟩) ?_ ?_
            rotate_left
            · intro w'
              go_simp
              with_reducible rfl
            rotate_left
            · simp only [Act.put, List.setIfInBounds_toArray, List.set_cons_zero, List.set_cons_succ, i64_w, i32_w]
              rfl
            refine pure_ (i := 14) (N := some 102) (v := ?_) (a' := ?_) #[true, true, true, true, true, true, true, true, true, true, true, true, true, true, true, false, false, false, false, false, false, false] rfl rfl (by kernel_rfl) (fun _ _ _ h => h) (Or.inl ⟨by rfl, ?_⟩) ?_ ?_
            rotate_left
            · intro w'
              go_simp
              with_reducible rfl
            rotate_left
            · simp only [Act.put, List.setIfInBounds_toArray, List.set_cons_zero, List.set_cons_succ, i64_w, i32_w]
              rfl
            refine pure_ (i := 15) (N := some 103) (v := ?_) (a' := ?_) #[true, true, true, true, true, true, true, true, true, true, true, true, true, true, true, true, false, false, false, false, false, false] rfl rfl (by kernel_rfl) (fun _ _ _ h => h) (Or.inl ⟨by rfl, ?_⟩) ?_ ?_
            rotate_left
            · intro w'
              go_simp
              with_reducible rfl
            rotate_left
            · simp only [Act.put, List.setIfInBounds_toArray, List.set_cons_zero, List.set_cons_succ, i64_w, i32_w]
              rfl
            refine pure_ (i := 16) (N := some 104) (v := ?_) (a' := ?_) #[true, true, true, true, true, true, true, true, true, true, true, true, true, true, true, true, true, false, false, false, false, false] rfl rfl (by kernel_rfl) (fun _ _ _ h => h) (Or.inl ⟨by rfl, ?_⟩) ?_ ?_
            rotate_left
            · intro w'
              go_simp
              with_reducible rfl
            rotate_left
            · simp only [Act.put, List.setIfInBounds_toArray, List.set_cons_zero, List.set_cons_succ, i64_w, i32_w]
              rfl
            refine pure_ (i := 18) (N := some 106) (v := ?_) (a' := ?_) #[true, true, true, true, true, true, true, true, true, true, true, true, true, true, true, true, true, false, true, false, false, false] rfl rfl (by kernel_rfl) (fun _ _ _ h => h) (Or.inl ⟨by rfl, ?_⟩) ?_ ?_
            rotate_left
            · intro w'
              go_simp
              with_reducible rfl
            rotate_left
            · simp only [Act.put, List.setIfInBounds_toArray, List.set_cons_zero, List.set_cons_succ, i64_w, i32_w]
              rfl
            refine take_ (i := 17) (N := some 105) (v := ?_) (a' := ?_) #[true, true, true, true, true, true, true, true, true, true, true, true, true, true, true, true, true, true, true, false, false, false] rfl rfl (by kernel_rfl) (fun _ _ _ h => h) (Or.inl ⟨by rfl, ?_⟩) hHeld ?_ ?_
            rotate_left
            · rintro w' ⟨s0, s1, s2, s3⟩
              go_simp
              with_reducible rfl
            rotate_left
            · simp only [Act.put, List.setIfInBounds_toArray, List.set_cons_zero, List.set_cons_succ, i64_w, i32_w]
              rfl
            refine take_ (i := 19) (N := some 107) (v := ?_) (a' := ?_) #[true, true, true, true, true, true, true, true, true, true, true, true, true, true, true, true, true, true, true, true, false, false] rfl rfl (by kernel_rfl) (fun _ _ _ h => h) (Or.inl ⟨by rfl, ?_⟩) hHeld ?_ ?_
            rotate_left
            · rintro w' ⟨s0, s1, s2, s3⟩
              go_simp
              with_reducible rfl
            rotate_left
            · simp only [Act.put, List.setIfInBounds_toArray, List.set_cons_zero, List.set_cons_succ, i64_w, i32_w]
              rfl
            refine pure_ (i := 20) (N := some 108) (v := ?_) (a' := ?_) #[true, true, true, true, true, true, true, true, true, true, true, true, true, true, true, true, true, true, true, true, true, false] rfl rfl (by kernel_rfl) (fun _ _ _ h => h) (Or.inl ⟨by rfl, ?_⟩) ?_ ?_
            rotate_left
            · intro w'
              go_simp
              with_reducible rfl
            rotate_left
            · simp only [Act.put, List.setIfInBounds_toArray, List.set_cons_zero, List.set_cons_succ, i64_w, i32_w]
              rfl
            refine pure_ (i := 21) (N := some 109) (v := ?_) (a' := ?_) #[true, true, true, true, true, true, true, true, true, true, true, true, true, true, true, true, true, true, true, true, true, true] rfl rfl (by kernel_rfl) (fun _ _ _ h => h) (Or.inl ⟨by rfl, ?_⟩) ?_ ?_
            rotate_left
            · intro w'
              go_simp
              with_reducible rfl
            rotate_left
            · simp only [Act.put, List.setIfInBounds_toArray, List.set_cons_zero, List.set_cons_succ, i64_w, i32_w]
              rfl
            refine done_ (by kernel_rfl) ?_

            go_wp2
            go_roundg (gk - 1)
            case measure => omega
            case rel => exact ⟨k + 1, by omega, rfl, Lib.hid (by rw [← hX]; exact below_drew1 (HZZ.out.trans (HB6.out.mono HZZ.out.size)))⟩
          · go_wp2_with (go_at_call 14; go_loud (refine (has_is f0 rt true HHAS.out _).mono ?_; rintro e w ⟨rfl, rfl⟩))
            go_roundg (gk - 1)
            case measure => omega
            case rel => exact ⟨k + 1, by omega, rfl, Lib.hid (HBZ.out.trans (ACB.mono HBZ.out.size))⟩
        · have hkn : k = L.length := by omega
          subst hkn
          have hk' : ¬ (L.length : Int) < (L.length : Int) := by omega
          obtain ⟨hu, hn, hfi⟩ := all_under HF.out HI.out
          have h3 := Lib.hid (all_three HI.out)
          have HU := Lib.hid (And.intro hu (And.intro hn hfi))
          have HFW := Lib.hid (HF5.out.below HBZ.out)
          have HBW := Lib.hid (HB5.out.trans (HBZ.out.mono HB5.out.size))
          clear hu hn hfi
          go_wp2_with (first
            | (go_at_call 16; have hx := HFV; clear hx; go_loud (refine (count_is 3 0 _ HFV.out (by simp) HLN.out.2 rfl).mono ?_; rintro e w9 ⟨rfl, hb⟩; have HB9 := Lib.hid (HBV.out.trans (hb.mono HBV.out.size)); clear hb))
            | (go_at_call 17; go_loud (refine (rev_all _ HFT.out HLN.out.1 HLN.out.2 HU.out.1 HU.out.2.1 HU.out.2.2).mono ?_; rintro e w8 ⟨A8, c8, rfl, hF, hf⟩; have HFV := Lib.hid hF; have HBV := Lib.hid (HBT.out.trans (fl_below hf HGB.out.1 HGB.out.2 HBT.out.size)); clear hF hf))
            | (go_at_call 9; go_loud (refine (handle_is 1 _ (by decide) (by decide)).mono ?_; rintro e w7 ⟨rfl, hb⟩; have HFT := Lib.hid (HFS.out.below hb); have HBT := Lib.hid (HBS.out.trans (hb.mono HBS.out.size)); clear hb))
            | (go_at_call 16; go_loud (refine (count_is 3 L.length _ HFW.out HLN.out.1 HLN.out.2 h3.out).mono ?_; rintro e w6 ⟨rfl, hb⟩; have HFS := Lib.hid (HFW.out.below hb); have HBS := Lib.hid (HBW.out.trans (hb.mono HBW.out.size)); clear hb)))
          go_ret
          exact ⟨rfl, HB9.out⟩
theorem rights_walk (x0 : Int) (A1 : Option Addr) (c1 : Nat) (x1 : List A7) (W : World) (p0 : (IntKind.u8.min ≤ x0 ∧ x0 ≤ IntKind.u8.max)) (l1 : x1.length ≤ c1) (C1 : Kd.C (Kd.pair (Kd.int .u8) (Kd.pair (Kd.int .i64) (Kd.pair (Kd.int .i64) (Kd.pair (Kd.int .u32) (Kd.pair (Kd.int .u32) (Kd.pair (Kd.int .u8) (Kd.int .i64))))))) W A1 x1.length x1) (p1 : (x1.length ≤ maxLen ∧ x1.length * Try.prog.bytesOf 37 ≤ 140737488351232 ∧ ∀ x : A7, x ∈ x1 → ((IntKind.u8.min ≤ x.1 ∧ x.1 ≤ IntKind.u8.max) ∧ ((IntKind.i64.min ≤ x.2.1 ∧ x.2.1 ≤ IntKind.i64.max) ∧ ((IntKind.i64.min ≤ x.2.2.1 ∧ x.2.2.1 ≤ IntKind.i64.max) ∧ ((IntKind.u32.min ≤ x.2.2.2.1 ∧ x.2.2.2.1 ≤ IntKind.u32.max) ∧ ((IntKind.u32.min ≤ x.2.2.2.2.1 ∧ x.2.2.2.2.1 ≤ IntKind.u32.max) ∧ ((IntKind.u8.min ≤ x.2.2.2.2.2.1 ∧ x.2.2.2.2.2.1 ≤ IntKind.u8.max) ∧ (IntKind.i64.min ≤ x.2.2.2.2.2.2 ∧ x.2.2.2.2.2.2 ≤ IntKind.i64.max))))))))) :
    Calls Try.prog 3 #[.int .u8 x0, .slice A1 x1.length c1] W fun e W' => e = .returned (.bool true) ∧ Below W.heap.size W W' := by
  have h0 : 0 ≤ x0 ∧ x0 ≤ 255 := p0
  by_cases hm : (100 : Int) < (x1.length : Int)
  · exact rights_long x0 A1 c1 x1 W hm
  · refine rights_main x0 A1 c1 x1 W C1 (fun x hx => (p1.2.2 x hx).2.2.2.2.2.1) hm (x0 % 32) rfl ?_ ?_ ?_
    · rw [Int.tmod_eq_emod_of_nonneg h0.1]
    · have h1 : 0 ≤ x0 % 32 ∧ x0 % 32 ≤ 255 := by omega
      exact h1
    · obtain ⟨k, hk⟩ : ∃ k : Nat, x0 % 32 = (k : Int) := ⟨(x0 % 32).toNat, by omega⟩
      rw [hk]
      exact right_mod k (by omega)
end Go.Proofs.Ytojbheiicmcnjaa.Fst
