/- Texts of this claim, laid together: ReqL. -/
import Derived.Test.YtaoacibahdbdkaaNj
import Derived.Test.YtaoacibahdbdkaaNi
import Derived.Test.YtaoacibahdbdkaaOpen
/-! request: the law RequestParses, walked; no wrap words. Printed by wip/tools/gen_reqk.py. -/
namespace Go.Proofs.Ytaoacibahdbdkaa.ReqL
open Go.RowKit Go Go.Proofs.Ytaoacibahdbdkaa.QReplySame Go.Proofs.YtaoacibahdbdkaaW.PrintWords Go.Proofs.YtaoacibahdbdkaaW.PrintLast Go.Proofs.YtaoacibahdbdkaaW.PrintMore Go.Proofs.Ytaoacibahdbdkaa.Fra Go.Proofs.Ytaoacibahdbdkaa.Pk Go.Proofs.Ytaoacibahdbdkaa.Bts Go.Proofs.Ytaoacibahdbdkaa.Pr Go.Proofs.Ytaoacibahdbdkaa.Rep Go.Proofs.Ytaoacibahdbdkaa.Req
attribute [local go_sem] is_req_new is_ref_new World.setRow_alloc_new store_req run_loadAll ofRow_some rowOf_alloc rowOf_drew rowOf_new
attribute [local go_sem high] all_req
attribute [local go_sem ↓ high] all_load
theorem store_rq (w : World) (g : Nat) (a0 : Int) (a1 : Int) (a2 : Int) (a3 : Int) (a4 : Int) (a5 : Int) (a6 : Int) (a7 : ByteArray) (a8 : Int) (a9 : Int) (a10 : ByteArray) (a11 : Int) (a12 : Int) (a13 : Int) (a14 : Int) (a15 : Int) (a16 : Int) (hg : is_ref w g = true) : (storeAll_req ⟨g, 0, none⟩ #[.int .u8 a0, .int .u64 a1, .int .u64 a2, .int .u8 a3, .int .u8 a4, .int .u8 a5, .int .i64 a6, .string a7, .int .u8 a8, .int .i64 a9, .string a10, .int .i64 a11, .int .i64 a12, .int .u32 a13, .int .u8 a14, .int .u64 a15, .int .u64 a16]).run Try.prog w = .ok () (w.setRow g #[.int .u8 a0, .int .u64 a1, .int .u64 a2, .int .u8 a3, .int .u8 a4, .int .u8 a5, .int .i64 a6, .string a7, .int .u8 a8, .int .i64 a9, .string a10, .int .i64 a11, .int .i64 a12, .int .u32 a13, .int .u8 a14, .int .u64 a15, .int .u64 a16]) := store_ref w g a0 a1 a2 a3 a4 a5 a6 a7 a8 a9 a10 a11 a12 a13 a14 a15 a16 hg
attribute [local go_sem] store_rq
theorem eq_ref_y (a0 : Int) (a1 : Int) (a2 : Int) (a3 : Int) (a4 : Int) (a5 : Int) (a6 : Int) (a7 : ByteArray) (a8 : Int) (a9 : Int) (a10 : ByteArray) (a11 : Int) (a12 : Int) (a13 : Int) (a14 : Int) (a15 : Int) (a16 : Int) (b0 : Int) (b1 : Int) (b2 : Int) (b3 : Int) (b4 : Int) (b5 : Int) (b6 : Int) (b7 : ByteArray) (b8 : Int) (b9 : Int) (b10 : ByteArray) (b11 : Int) (b12 : Int) (b13 : Int) (b14 : Int) (b15 : Int) (b16 : Int) (w : World) : (Op.equalIn 10000 110 (.agg #[.int .u8 a0, .int .u64 a1, .int .u64 a2, .int .u8 a3, .int .u8 a4, .int .u8 a5, .int .i64 a6, .string a7, .int .u8 a8, .int .i64 a9, .string a10, .int .i64 a11, .int .i64 a12, .int .u32 a13, .int .u8 a14, .int .u64 a15, .int .u64 a16]) (.agg #[.int .u8 b0, .int .u64 b1, .int .u64 b2, .int .u8 b3, .int .u8 b4, .int .u8 b5, .int .i64 b6, .string b7, .int .u8 b8, .int .i64 b9, .string b10, .int .i64 b11, .int .i64 b12, .int .u32 b13, .int .u8 b14, .int .u64 b15, .int .u64 b16])).run Try.prog w = .ok (sameQ ⟨a0, a1, a2, a3, a4, a5, a6, a7, a8, a9, a10, a11, a12, a13, a14, a15, a16⟩ ⟨b0, b1, b2, b3, b4, b5, b6, b7, b8, b9, b10, b11, b12, b13, b14, b15, b16⟩) w := eq_ref ⟨a0, a1, a2, a3, a4, a5, a6, a7, a8, a9, a10, a11, a12, a13, a14, a15, a16⟩ ⟨b0, b1, b2, b3, b4, b5, b6, b7, b8, b9, b10, b11, b12, b13, b14, b15, b16⟩ w
attribute [local go_sem high] eq_ref_y
theorem infoByte : (Try.prog.info? 5).map (fun i => (i.zero, i.size, i.bytes)) = some (some (.int .u8 0), 1, 1) := by kernel_rfl
theorem reads_C {w : World} {k : IntKind} {A : Option Addr} {n : Nat} {xs : List Int} (h : (Kd.int k).C w A n xs) : ReadsInt w k A n xs := readsInt_of.2 (Kd.reads_of_C (enc := Value.int k) (d := (0 : Int)) (h1 := fun _ => rfl) h)
set_option maxHeartbeats 1000000 in
set_option maxRecDepth 100000 in
theorem long_ (A : Option Addr) (n c : Nat) (w : World) (hn : n ≤ 140737488351232) (hl : 10000 < n) :
    Calls Try.prog 13 #[.slice A n c] w fun e w' => e = .returned (.bool true) ∧ Below w.heap.size w w' := by
  have hl' : (10000 : Int) < (n : Int) := by omega
  go_enter Try.func13, Try.ntmps13
  go_wp2_with (first
    | (go_at_call 54; go_loud (have _t := HB.out; refine (Req.lives_calls _).mono ?_; rintro e w2 ⟨rfl, hB2⟩; have HB2 := Lib.hid (below_step HB.out hB2); clear hB2))
    | (go_at_call 54; go_loud (refine (Req.lives_calls _).mono ?_; rintro e w1 ⟨rfl, hB1⟩; have HB := Lib.hid hB1; clear hB1)))
  go_ret
  exact ⟨rfl, HB2.out⟩
set_option maxHeartbeats 8000000 in
set_option maxRecDepth 100000 in
theorem main (A0 : Option Addr) (c0 : Nat) (xs : List Int) (w : World) (hC : (Kd.int .u8).C w A0 xs.length xs) (hv : Byt w (.slice A0 xs.length c0) xs) (hlt : ∀ ad, A0 = some ad → 0 < xs.length → ad.block < w.heap.size) (hl : xs.length ≤ 10000) (hb : Bs xs) :
    Calls Try.prog 13 #[.slice A0 xs.length c0] w fun e w' => e = .returned (.bool true) ∧ Below w.heap.size w w' := by
  obtain ⟨⟨q, E⟩, hr⟩ : ∃ x, reqP xs = x := ⟨_, rfl⟩
  have hl' : (xs.length : Int) ≤ 10000 := by omega
  have HRC := Lib.hid (show ∀ (V : World), Below w.heap.size w V → Calls Try.prog 56 #[.slice A0 xs.length c0] V (RefP V xs) from fun V hV => ref_calls A0 c0 xs V (hv.below hV) (fun ad ha hp => Nat.lt_of_lt_of_le (hlt ad ha hp) hV.size) (by omega) hb)
  have HCA := Lib.hid (show ∀ V, Below w.heap.size w V → (convert 56 9 (.slice A0 xs.length c0)).run Try.prog V = .ok (.string (strOfNums xs)) V from fun V hV => byt_conv (hv.below hV) (by omega))
  have HC := Lib.hid hC
  have HR := Lib.hid hr
  have HBS := Lib.hid hb
  have HOK := Lib.hid (reqP_Ok hb hr)
  have HSAME := sameQ_self q
  have HSAME' : sameQ ⟨q.k, q.hh, q.hl, q.o, q.c, q.kk, q.kn, q.ks, q.vk, q.vn, q.vs, q.fr, q.n, q.tw, q.ri, q.oh, q.ol⟩ ⟨q.k, q.hh, q.hl, q.o, q.c, q.kk, q.kn, q.ks, q.vk, q.vn, q.vs, q.fr, q.n, q.tw, q.ri, q.oh, q.ol⟩ = true := HSAME
  have bE : (E != E) = false := by simp
  clear hr hC hv hlt hb
  go_enter Try.func13, Try.ntmps13
  go_upto_region 6 with (first
    | (go_at_call 54; go_loud (refine (Req.lives_calls _).mono ?_; rintro en w1 ⟨rfl, hB1⟩; have HB1 := Lib.hid hB1; clear hB1))
    | (at_builtin; go_loud (refine print_append_row (w0 := w1) w1.heap.size rfl (.tmp 18) (.tmp 19) 56 5 .u8 1 rfl Try.underlying56 infoByte (by decide) _ [] xs A0 xs.length c0 rfl rfl (own_lit w1 w1.heap.size 5 .u8 [] (Nat.le_refl _) (by simp)) (reads_C (Kd.C_below HC.out (below_alloc HB1.out _))) (below_alloc (Below.refl _ _) _) (by simp) (by simp; omega) ?_; intro v2 w2 hown2 hB2 hg2 _; rw [List.nil_append] at hown2; have HBY2 := Lib.hid (SlR.of_own hown2); have HB2 := Lib.hid (below_step HB1.out hB2); clear hown2 hg2 hB2))
    | (go_at_call 55; go_loud (refine (Req.parse_calls _ xs _ HBY2.out (by omega) HBS.out).mono ?_; rw [HR.out]; rintro en w3 ⟨rfl, hB3⟩; have HB3 := Lib.hid (below_alloc (below_step HB2.out hB3) (.cells #[.int .u8 q.k, .int .u64 q.hh, .int .u64 q.hl, .int .u8 q.o, .int .u8 q.c, .int .u8 q.kk, .int .i64 q.kn, .string q.ks, .int .u8 q.vk, .int .i64 q.vn, .string q.vs, .int .i64 q.fr, .int .i64 q.n, .int .u32 q.tw, .int .u8 q.ri, .int .u64 q.oh, .int .u64 q.ol] 104)); have HQ3 := Lib.hid (blk_new w3 (.cells #[.int .u8 q.k, .int .u64 q.hh, .int .u64 q.hl, .int .u8 q.o, .int .u8 q.c, .int .u8 q.kk, .int .i64 q.kn, .string q.ks, .int .u8 q.vk, .int .i64 q.vn, .string q.vs, .int .i64 q.fr, .int .i64 q.n, .int .u32 q.tw, .int .u8 q.ri, .int .u64 q.oh, .int .u64 q.ol] 104)); clear hB3))
    | (go_at_call 56; go_loud (refine (HRC.out _ HB3.out).mono ?_; unfold RefP; rw [HR.out]; rintro en w4 ⟨rfl, hB4⟩; have HB4 := Lib.hid (below_alloc (below_step HB3.out hB4) (.cells #[.int .u8 q.k, .int .u64 q.hh, .int .u64 q.hl, .int .u8 q.o, .int .u8 q.c, .int .u8 q.kk, .int .i64 q.kn, .string q.ks, .int .u8 q.vk, .int .i64 q.vn, .string q.vs, .int .i64 q.fr, .int .i64 q.n, .int .u32 q.tw, .int .u8 q.ri, .int .u64 q.oh, .int .u64 q.ol] 110)); have HQ4 := Lib.hid (blk_alloc (blk_below HQ3.out hB4) (.cells #[.int .u8 q.k, .int .u64 q.hh, .int .u64 q.hl, .int .u8 q.o, .int .u8 q.c, .int .u8 q.kk, .int .i64 q.kn, .string q.ks, .int .u8 q.vk, .int .i64 q.vn, .string q.vs, .int .i64 q.fr, .int .i64 q.n, .int .u32 q.tw, .int .u8 q.ri, .int .u64 q.oh, .int .u64 q.ol] 110)); have HF4 := Lib.hid (blk_new w4 (.cells #[.int .u8 q.k, .int .u64 q.hh, .int .u64 q.hl, .int .u8 q.o, .int .u8 q.c, .int .u8 q.kk, .int .i64 q.kn, .string q.ks, .int .u8 q.vk, .int .i64 q.vn, .string q.vs, .int .i64 q.fr, .int .i64 q.n, .int .u32 q.tw, .int .u8 q.ri, .int .u64 q.oh, .int .u64 q.ol] 110)); clear hB4)))
  have hq := blk_drew HQ4.out
  have hf := blk_drew HF4.out
  have HQ5 := Lib.hid hq
  have HF5 := Lib.hid hf
  have HB5 := Lib.hid (below_drew1 HB4.out)
  clear hq hf
  go_wp2
  refine start_ (n := 9) (S := fun w' => rowOf w' w3.heap.size = some #[.int .u8 q.k, .int .u64 q.hh, .int .u64 q.hl, .int .u8 q.o, .int .u8 q.c, .int .u8 q.kk, .int .i64 q.kn, .string q.ks, .int .u8 q.vk, .int .i64 q.vn, .string q.vs, .int .i64 q.fr, .int .i64 q.n, .int .u32 q.tw, .int .u8 q.ri, .int .u64 q.oh, .int .u64 q.ol] ∧ rowOf w' w4.heap.size = some #[.int .u8 q.k, .int .u64 q.hh, .int .u64 q.hl, .int .u8 q.o, .int .u8 q.c, .int .u8 q.kk, .int .i64 q.kn, .string q.ks, .int .u8 q.vk, .int .i64 q.vn, .string q.vs, .int .i64 q.fr, .int .i64 q.n, .int .u32 q.tw, .int .u8 q.ri, .int .u64 q.oh, .int .u64 q.ol]) (ds := []) #[false, false, false, false, false, false, false, false, false] (by kernel_rfl) rfl rfl ⟨(rowOf_of HQ5.out rfl), (rowOf_of HF5.out rfl)⟩ (fun hHeld => ?_)
  refine pure_ (i := 0) (N := some 31) (v := ?_) (a' := ?_) #[true, false, false, false, false, false, false, false, false] rfl rfl (by kernel_rfl) (fun _ _ _ h => h) (Or.inl ⟨by rfl, ?_⟩) ?_ ?_
  rotate_left
  · intro w'
    go_simp
    with_reducible rfl
  rotate_left
  · simp only [Act.put, List.setIfInBounds_toArray, List.set_cons_zero, List.set_cons_succ]
    rfl
  refine pure_ (i := 1) (N := some 32) (v := ?_) (a' := ?_) #[true, true, false, false, false, false, false, false, false] rfl rfl (by kernel_rfl) (fun _ _ _ h => h) (Or.inl ⟨by rfl, ?_⟩) ?_ ?_
  rotate_left
  · intro w'
    go_simp
    with_reducible rfl
  rotate_left
  · simp only [Act.put, List.setIfInBounds_toArray, List.set_cons_zero, List.set_cons_succ]
    rfl
  refine pure_ (i := 2) (N := some 33) (v := ?_) (a' := ?_) #[true, true, true, false, false, false, false, false, false] rfl rfl (by kernel_rfl) (fun _ _ _ h => h) (Or.inl ⟨by rfl, ?_⟩) ?_ ?_
  rotate_left
  · intro w'
    go_simp
    with_reducible rfl
  rotate_left
  · simp only [Act.put, List.setIfInBounds_toArray, List.set_cons_zero, List.set_cons_succ]
    rfl
  refine pure_ (i := 3) (N := some 34) (v := ?_) (a' := ?_) #[true, true, true, true, false, false, false, false, false] rfl rfl (by kernel_rfl) (fun _ _ _ h => h) (Or.inl ⟨by rfl, ?_⟩) ?_ ?_
  rotate_left
  · intro w'
    go_simp
    with_reducible rfl
  rotate_left
  · simp only [Act.put, List.setIfInBounds_toArray, List.set_cons_zero, List.set_cons_succ]
    rfl
  refine take_ (i := 4) (N := some 35) (v := ?_) (a' := ?_) #[true, true, true, true, true, false, false, false, false] rfl rfl (by kernel_rfl) (fun _ _ _ h => h) (Or.inl ⟨by rfl, ?_⟩) hHeld ?_ ?_
  rotate_left
  · rintro w' ⟨s0, s1⟩
    go_simp
    with_reducible rfl
  rotate_left
  · simp only [Act.put, List.setIfInBounds_toArray, List.set_cons_zero, List.set_cons_succ]
    rfl
  refine take_ (i := 6) (N := some 37) (v := ?_) (a' := ?_) #[true, true, true, true, true, false, true, false, false] rfl rfl (by kernel_rfl) (fun _ _ _ h => h) (Or.inl ⟨by rfl, ?_⟩) hHeld ?_ ?_
  rotate_left
  · rintro w' ⟨s0, s1⟩
    go_simp
    with_reducible rfl
  rotate_left
  · simp only [Act.put, List.setIfInBounds_toArray, List.set_cons_zero, List.set_cons_succ]
    rfl
  refine one_ (i := 5) (N := some 36) #[true, true, true, true, true, true, true, false, false] rfl rfl (by kernel_rfl) (by decide) (fun K hK => ?_)
  refine goes_ Try.func57 (by kernel_rfl) rfl #[.agg #[.int .u8 q.k, .int .u64 q.hh, .int .u64 q.hl, .int .u8 q.o, .int .u8 q.c, .int .u8 q.kk, .int .i64 q.kn, .string q.ks, .int .u8 q.vk, .int .i64 q.vn, .string q.vs, .int .i64 q.fr, .int .i64 q.n, .int .u32 q.tw, .int .u8 q.ri, .int .u64 q.oh, .int .u64 q.ol]] (by rfl) rfl rfl (by simp only [List.map_toArray, List.map_cons, List.map_nil]; rfl) ?_
  with_reducible refine (Req.plain_calls q _ HOK.out.kk0 HOK.out.kk1 HOK.out.vk0 HOK.out.vk1).mono ?_
  rintro e6 w6 ⟨rfl, hB6⟩
  refine ⟨_, rfl, ?_⟩
  have hq6 := blk_below HQ5.out hB6
  have hf6 := blk_below HF5.out hB6
  refine hK.out _ _ ⟨(rowOf_of hq6 rfl), (rowOf_of hf6 rfl)⟩ (fun hHeld => ?_)
  clear hK K
  refine norm_ (a' := ?_) ?_ ?_
  rotate_left
  · show Act.put _ (some 36) _ = _
    simp only [Act.put, List.setIfInBounds_toArray, List.set_cons_zero, List.set_cons_succ]
    rfl
  refine pure_ (i := 7) (N := some 38) (v := ?_) (a' := ?_) #[true, true, true, true, true, true, true, true, false] rfl rfl (by kernel_rfl) (fun _ _ _ h => h) (Or.inl ⟨by rfl, ?_⟩) ?_ ?_
  rotate_left
  · intro w'
    go_simp
    with_reducible rfl
  rotate_left
  · simp only [Act.put, List.setIfInBounds_toArray, List.set_cons_zero, List.set_cons_succ]
    rfl
  refine pure_ (i := 8) (N := some 39) (v := ?_) (a' := ?_) #[true, true, true, true, true, true, true, true, true] rfl rfl (by kernel_rfl) (fun _ _ _ h => h) (Or.inl ⟨by rfl, ?_⟩) ?_ ?_
  rotate_left
  · intro w'
    go_simp
    with_reducible rfl
  rotate_left
  · simp only [Act.put, List.setIfInBounds_toArray, List.set_cons_zero, List.set_cons_succ]
    rfl
  refine done_ (by kernel_rfl) ?_

  have HB6 := Lib.hid (below_step HB5.out hB6)
  have hrow6 : rowOf w6 w3.heap.size = some #[.int .u8 q.k, .int .u64 q.hh, .int .u64 q.hl, .int .u8 q.o, .int .u8 q.c, .int .u8 q.kk, .int .i64 q.kn, .string q.ks, .int .u8 q.vk, .int .i64 q.vn, .string q.vs, .int .i64 q.fr, .int .i64 q.n, .int .u32 q.tw, .int .u8 q.ri, .int .u64 q.oh, .int .u64 q.ol] := rowOf_of hq6 rfl
  have HQ6 := Lib.hid hq6
  clear hB6 hq6 hf6
  by_cases hE : E = 0
  · subst hE
    obtain ⟨hx, _⟩ := reqP_ok HBS.out HR.out
    have HX := Lib.hid hx
    have HYES := Lib.hid (okQ_of HBS.out HR.out)
    clear hx
    go_upto_region 11 with (go_at_call 58; go_loud (refine (Req.encode_calls q _ HOK.out).mono ?_; rintro en w7 (⟨_, v7, rfl, hM7⟩ | ⟨h, _⟩); rotate_left; (rw [HYES.out] at h; cases h); have HM7 := Lib.hid hM7; have HB7 := Lib.hid (below_step HB6.out hM7.2); clear hM7))
    have kc : ∀ n, (convert 56 9 v7).run Try.prog (w7.drewN n) = .ok (.string (strOfNums xs)) (w7.drewN n) := fun n => by
      have h := byt_conv (HM7.out.byt.below (pw_below_drewN (Below.refl w7.heap.size w7) n)) (by rw [← HX.out]; omega)
      rw [← HX.out] at h
      exact h
    have ka : ∀ n, (convert 56 9 (.slice A0 xs.length c0)).run Try.prog (w7.drewN n) = .ok (.string (strOfNums xs)) (w7.drewN n) := fun n => HCA.out _ (pw_below_drewN HB7.out n)
    have kc0 : (convert 56 9 v7).run Try.prog w7 = .ok (.string (strOfNums xs)) w7 := by
      have h := byt_conv HM7.out.byt (by rw [← HX.out]; omega)
      rw [← HX.out] at h
      exact h
    have ka0 : (convert 56 9 (.slice A0 xs.length c0)).run Try.prog w7 = .ok (.string (strOfNums xs)) w7 := HCA.out _ HB7.out
    go_wp2
    go_ret
    exact ⟨rfl, HB7.out⟩
  · have b1 : (E != 0) = true := by simpa using hE
    go_wp2
    go_ret
    exact ⟨rfl, HB6.out⟩
theorem walk (A0 : Option Addr) (c0 : Nat) (x0 : List (Int)) (W : World) (l0 : x0.length ≤ c0) (C0 : Kd.C (Kd.int .u8) W A0 x0.length x0) (p0 : (x0.length ≤ maxLen ∧ x0.length * Try.prog.bytesOf 5 ≤ 140737488351232 ∧ ∀ x ∈ x0, (IntKind.u8.min ≤ x ∧ x ≤ IntKind.u8.max))) (n0 : A0 = none → c0 = 0) :
    Calls Try.prog 13 #[.slice A0 x0.length c0] W fun e W' => e = .returned (.bool true) ∧ Below W.heap.size W W' := by
  have hb1 : Try.prog.bytesOf 5 = 1 := by kernel_rfl
  obtain ⟨p1, p2, p3⟩ := p0
  rw [hb1, Nat.mul_one] at p2
  by_cases hl : 10000 < x0.length
  · exact long_ A0 x0.length c0 W p2 hl
  · refine main A0 c0 x0 W C0 (SlR.of_C C0 l0 n0) ?_ (by omega) (fun x hx => ⟨(p3 x hx).1, (p3 x hx).2⟩)
    intro ad ha hp
    subst ha
    exact Kd.C_lt C0 hp (by decide)
end Go.Proofs.Ytaoacibahdbdkaa.ReqL
