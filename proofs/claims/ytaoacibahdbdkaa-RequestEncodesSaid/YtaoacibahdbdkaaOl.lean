/- Texts of this claim, laid together: ReqN. -/
import Derived.Test.YtaoacibahdbdkaaOj
import Derived.Test.YtaoacibahdbdkaaOi
import Derived.Test.YtaoacibahdbdkaaOk
import Derived.Test.YtaoacibahdbdkaaOpen
/-! request: the law RequestEncodes, walked; no wrap words; short masks. Printed by wip/tools/gen_reqn.py. -/
namespace Go.Proofs.Ytaoacibahdbdkaa.ReqN
open Go.RowKit Go Go.Proofs.Ytaoacibahdbdkaa.QRequestParses Go.Proofs.YtaoacibahdbdkaaW.PrintWords Go.Proofs.YtaoacibahdbdkaaW.PrintLast Go.Proofs.YtaoacibahdbdkaaW.PrintMore Go.Proofs.Ytaoacibahdbdkaa.Fra Go.Proofs.Ytaoacibahdbdkaa.Pk Go.Proofs.Ytaoacibahdbdkaa.Bts Go.Proofs.Ytaoacibahdbdkaa.Pr Go.Proofs.Ytaoacibahdbdkaa.Rep Go.Proofs.Ytaoacibahdbdkaa.Req
attribute [local go_sem] is_req_new is_ref_new World.setRow_alloc_new store_req run_loadAll ofRow_some rowOf_alloc rowOf_drew rowOf_new
attribute [local go_sem high] all_req
attribute [local go_sem ↓ high] all_load
theorem store_rq (w : World) (g : Nat) (a0 : Int) (a1 : Int) (a2 : Int) (a3 : Int) (a4 : Int) (a5 : Int) (a6 : Int) (a7 : ByteArray) (a8 : Int) (a9 : Int) (a10 : ByteArray) (a11 : Int) (a12 : Int) (a13 : Int) (a14 : Int) (a15 : Int) (a16 : Int) (hg : is_ref w g = true) : (storeAll_req ⟨g, 0, none⟩ #[.int .u8 a0, .int .u64 a1, .int .u64 a2, .int .u8 a3, .int .u8 a4, .int .u8 a5, .int .i64 a6, .string a7, .int .u8 a8, .int .i64 a9, .string a10, .int .i64 a11, .int .i64 a12, .int .u32 a13, .int .u8 a14, .int .u64 a15, .int .u64 a16]).run Try.prog w = .ok () (w.setRow g #[.int .u8 a0, .int .u64 a1, .int .u64 a2, .int .u8 a3, .int .u8 a4, .int .u8 a5, .int .i64 a6, .string a7, .int .u8 a8, .int .i64 a9, .string a10, .int .i64 a11, .int .i64 a12, .int .u32 a13, .int .u8 a14, .int .u64 a15, .int .u64 a16]) := store_ref w g a0 a1 a2 a3 a4 a5 a6 a7 a8 a9 a10 a11 a12 a13 a14 a15 a16 hg
attribute [local go_sem] store_rq
theorem eq_ref_y (a0 : Int) (a1 : Int) (a2 : Int) (a3 : Int) (a4 : Int) (a5 : Int) (a6 : Int) (a7 : ByteArray) (a8 : Int) (a9 : Int) (a10 : ByteArray) (a11 : Int) (a12 : Int) (a13 : Int) (a14 : Int) (a15 : Int) (a16 : Int) (b0 : Int) (b1 : Int) (b2 : Int) (b3 : Int) (b4 : Int) (b5 : Int) (b6 : Int) (b7 : ByteArray) (b8 : Int) (b9 : Int) (b10 : ByteArray) (b11 : Int) (b12 : Int) (b13 : Int) (b14 : Int) (b15 : Int) (b16 : Int) (w : World) : (Op.equalIn 10000 110 (.agg #[.int .u8 a0, .int .u64 a1, .int .u64 a2, .int .u8 a3, .int .u8 a4, .int .u8 a5, .int .i64 a6, .string a7, .int .u8 a8, .int .i64 a9, .string a10, .int .i64 a11, .int .i64 a12, .int .u32 a13, .int .u8 a14, .int .u64 a15, .int .u64 a16]) (.agg #[.int .u8 b0, .int .u64 b1, .int .u64 b2, .int .u8 b3, .int .u8 b4, .int .u8 b5, .int .i64 b6, .string b7, .int .u8 b8, .int .i64 b9, .string b10, .int .i64 b11, .int .i64 b12, .int .u32 b13, .int .u8 b14, .int .u64 b15, .int .u64 b16])).run Try.prog w = .ok (sameQ ⟨a0, a1, a2, a3, a4, a5, a6, a7, a8, a9, a10, a11, a12, a13, a14, a15, a16⟩ ⟨b0, b1, b2, b3, b4, b5, b6, b7, b8, b9, b10, b11, b12, b13, b14, b15, b16⟩) w := eq_ref ⟨a0, a1, a2, a3, a4, a5, a6, a7, a8, a9, a10, a11, a12, a13, a14, a15, a16⟩ ⟨b0, b1, b2, b3, b4, b5, b6, b7, b8, b9, b10, b11, b12, b13, b14, b15, b16⟩ w
attribute [local go_sem high] eq_ref_y
theorem eq_req_y (a0 : Int) (a1 : Int) (a2 : Int) (a3 : Int) (a4 : Int) (a5 : Int) (a6 : Int) (a7 : ByteArray) (a8 : Int) (a9 : Int) (a10 : ByteArray) (a11 : Int) (a12 : Int) (a13 : Int) (a14 : Int) (a15 : Int) (a16 : Int) (b0 : Int) (b1 : Int) (b2 : Int) (b3 : Int) (b4 : Int) (b5 : Int) (b6 : Int) (b7 : ByteArray) (b8 : Int) (b9 : Int) (b10 : ByteArray) (b11 : Int) (b12 : Int) (b13 : Int) (b14 : Int) (b15 : Int) (b16 : Int) (w : World) : (Op.equalIn 10000 104 (.agg #[.int .u8 a0, .int .u64 a1, .int .u64 a2, .int .u8 a3, .int .u8 a4, .int .u8 a5, .int .i64 a6, .string a7, .int .u8 a8, .int .i64 a9, .string a10, .int .i64 a11, .int .i64 a12, .int .u32 a13, .int .u8 a14, .int .u64 a15, .int .u64 a16]) (.agg #[.int .u8 b0, .int .u64 b1, .int .u64 b2, .int .u8 b3, .int .u8 b4, .int .u8 b5, .int .i64 b6, .string b7, .int .u8 b8, .int .i64 b9, .string b10, .int .i64 b11, .int .i64 b12, .int .u32 b13, .int .u8 b14, .int .u64 b15, .int .u64 b16])).run Try.prog w = .ok (sameQ ⟨a0, a1, a2, a3, a4, a5, a6, a7, a8, a9, a10, a11, a12, a13, a14, a15, a16⟩ ⟨b0, b1, b2, b3, b4, b5, b6, b7, b8, b9, b10, b11, b12, b13, b14, b15, b16⟩) w := eq_req ⟨a0, a1, a2, a3, a4, a5, a6, a7, a8, a9, a10, a11, a12, a13, a14, a15, a16⟩ ⟨b0, b1, b2, b3, b4, b5, b6, b7, b8, b9, b10, b11, b12, b13, b14, b15, b16⟩ w
attribute [local go_sem high] eq_req_y
set_option maxHeartbeats 1000000 in
set_option maxRecDepth 100000 in
theorem long_ (q : Q) (w : World) (hn1 : q.ks.size ≤ 140737488351232) (hn2 : q.vs.size ≤ 140737488351232) (hl : 9000 < q.ks.size + q.vs.size) :
    Calls Try.prog 14 #[.agg q.cells] w fun e w' => e = .returned (.bool true) ∧ Below w.heap.size w w' := by
  have hl' : (9000 : Int) < (q.ks.size : Int) + (q.vs.size : Int) := by omega
  go_enter Try.func14, Try.ntmps14
  go_wp2_with (first
    | (go_at_call 54; go_loud (have _t := HB.out; refine (Req.lives_calls _).mono ?_; rintro e w2 ⟨rfl, hB2⟩; have HB2 := Lib.hid (below_step HB.out hB2); clear hB2))
    | (go_at_call 54; go_loud (refine (Req.lives_calls _).mono ?_; rintro e w1 ⟨rfl, hB1⟩; have HP := blk_below (blk_new w (.cells #[.int .u8 q.k, .int .u64 q.hh, .int .u64 q.hl, .int .u8 q.o, .int .u8 q.c, .int .u8 q.kk, .int .i64 q.kn, .string q.ks, .int .u8 q.vk, .int .i64 q.vn, .string q.vs, .int .i64 q.fr, .int .i64 q.n, .int .u32 q.tw, .int .u8 q.ri, .int .u64 q.oh, .int .u64 q.ol] 104)) hB1; have p7 := blk_cell HP 7; have p10 := blk_cell HP 10; have HB := Lib.hid (below_step (below_alloc (Below.refl w.heap.size w) _) hB1); clear hB1 HP)))
  go_ret
  exact ⟨rfl, HB2.out⟩
theorem right_calls (k n : Int) (s : ByteArray) (r : Bool) (w : World) (h : rightS ⟨k, n, s⟩ = r) : Calls Try.prog 38 #[.agg #[.int .u8 k, .int .i64 n, .string s]] w fun e w' => e = .returned (.bool r) ∧ Below w.heap.size w w' :=
  QPackedPuts.easementref01_Right.calls k n s r w (by rw [← h]; exact refright ⟨k, n, s⟩)
theorem encR_bs (q : Q) (h : Ok q) : Bs (encR q) := by
  intro x hx
  unfold encR at hx
  rcases List.mem_append.1 hx with h1 | h1
  · have := h.k0
    have := h.k1
    simp at h1
    omega
  · exact encP_bs _ _ x h1
theorem encR_len (q : Q) (h : Ok q) : (encR q).length ≤ 40300 := by
  unfold encR
  rw [List.length_append, List.length_singleton]
  have h1 : (if okK q.k then partsOf q.k else [.handle]).length ≤ 2 := by
    split
    · exact parts_len _
    · simp
  have h2 := encP_len (if okK q.k then partsOf q.k else [.handle]) q h
  have h3 := Nat.mul_le_mul_right 20100 h1
  omega
theorem rpost {w w' : World} {q : Q} {e : Ending} (h : REncPost w q e w') : ∃ A c, e = .returned (.slice A (encR q).length c) ∧ Byt w' (.slice A (encR q).length c) (encR q) ∧ (∀ ad, A = some ad → 0 < (encR q).length → ad.block < w'.heap.size) ∧ Below w.heap.size w w' := by
  obtain ⟨v, rfl, hM⟩ := h
  have hb := hM.byt
  obtain ⟨_, A, c, rfl, h2, h3, h4⟩ := hb
  exact ⟨A, c, rfl, hM.byt, fun ad ha hp => Pr.own_lt hM.1 _ (by rw [ha]; rfl), hM.2⟩
set_option maxHeartbeats 8000000 in
set_option maxRecDepth 100000 in
theorem no1 (q : Q) (w : World) (ok : Ok q) (hl : q.ks.size + q.vs.size ≤ 9000) (hno : okQ q = false) (r : Q) (ef : Int) (hrr : reqP (encR q) = (r, ef)) (h1 : q.k < 1) :
    Calls Try.prog 14 #[.agg q.cells] w fun e w' => e = .returned (.bool true) ∧ Below w.heap.size w w' := by
  have hl' : (q.ks.size : Int) + (q.vs.size : Int) ≤ 9000 := by omega
  have HOK := Lib.hid ok
  have HNO := Lib.hid hno
  have HRR := Lib.hid hrr
  clear hno hrr
  clear ok
  go_enter Try.func14, Try.ntmps14
  go_upto_region 6 with (first
    | (go_at_call 54; go_loud (refine (Req.lives_calls _).mono ?_; rintro en w1 ⟨rfl, hB1⟩; have hq1 := blk_below (blk_new w (.cells #[.int .u8 q.k, .int .u64 q.hh, .int .u64 q.hl, .int .u8 q.o, .int .u8 q.c, .int .u8 q.kk, .int .i64 q.kn, .string q.ks, .int .u8 q.vk, .int .i64 q.vn, .string q.vs, .int .i64 q.fr, .int .i64 q.n, .int .u32 q.tw, .int .u8 q.ri, .int .u64 q.oh, .int .u64 q.ol] 104)) hB1; have HQ1 := Lib.hid hq1; have HB1 := Lib.hid (below_step (below_alloc (Below.refl w.heap.size w) _) hB1); have p7 := blk_cell hq1 7; have p10 := blk_cell hq1 10; have hz1 : w.heap.size < w1.heap.size := blk_lt hq1; have hrow1 : rowOf w1 w.heap.size = some #[.int .u8 q.k, .int .u64 q.hh, .int .u64 q.hl, .int .u8 q.o, .int .u8 q.c, .int .u8 q.kk, .int .i64 q.kn, .string q.ks, .int .u8 q.vk, .int .i64 q.vn, .string q.vs, .int .i64 q.fr, .int .i64 q.n, .int .u32 q.tw, .int .u8 q.ri, .int .u64 q.oh, .int .u64 q.ol] := rowOf_of hq1 rfl; clear hB1 hq1))
    | (go_at_call 58; go_loud (refine (Req.encode_calls q _ HOK.out).mono ?_; rintro en w2 (⟨h, _⟩ | ⟨_, rfl, hB2⟩); (rw [HNO.out] at h; cases h); have hq2 := blk_below HQ1.out hB2; have HB2 := Lib.hid (below_step HB1.out hB2); clear hB2; have HQ2 := Lib.hid hq2; have hrow2 : rowOf w2 w.heap.size = some #[.int .u8 q.k, .int .u64 q.hh, .int .u64 q.hl, .int .u8 q.o, .int .u8 q.c, .int .u8 q.kk, .int .i64 q.kn, .string q.ks, .int .u8 q.vk, .int .i64 q.vn, .string q.vs, .int .i64 q.fr, .int .i64 q.n, .int .u32 q.tw, .int .u8 q.ri, .int .u64 q.oh, .int .u64 q.ol] := rowOf_of hq2 rfl; clear hq2))
    | (go_at_call 57; go_loud (have _t := HQ2.out; refine (Req.plain_calls q _ HOK.out.kk0 HOK.out.kk1 HOK.out.vk0 HOK.out.vk1).mono ?_; rintro en w3 ⟨rfl, hB3⟩; have HQ3 := Lib.hid (blk_below HQ2.out hB3); have HB3 := Lib.hid (below_step HB2.out hB3); clear hB3))
    | (go_at_call 59; go_loud (refine (renc_calls q _ HOK.out).mono ?_; intro en w4 hp4; obtain ⟨A4, c4, rfl, hb4, hlt4, hB4⟩ := rpost hp4; have HQ4 := Lib.hid (blk_below HQ3.out hB4); have HBY4 := Lib.hid hb4; have HLT4 := Lib.hid hlt4; have HB4 := Lib.hid (below_step HB3.out hB4); clear hB4 hb4 hlt4 hp4))
    | (go_at_call 56; go_loud (refine (ref_calls A4 c4 (encR q) _ HBY4.out HLT4.out (by have := encR_len q HOK.out; omega) (encR_bs q HOK.out)).mono ?_; unfold RefP; rw [HRR.out]; rintro en w5 ⟨rfl, hB5⟩; have HQ5 := Lib.hid (blk_alloc (blk_below HQ4.out hB5) (.cells #[.int .u8 r.k, .int .u64 r.hh, .int .u64 r.hl, .int .u8 r.o, .int .u8 r.c, .int .u8 r.kk, .int .i64 r.kn, .string r.ks, .int .u8 r.vk, .int .i64 r.vn, .string r.vs, .int .i64 r.fr, .int .i64 r.n, .int .u32 r.tw, .int .u8 r.ri, .int .u64 r.oh, .int .u64 r.ol] 110)); have HF5 := Lib.hid ((blk_new w5 (.cells #[.int .u8 r.k, .int .u64 r.hh, .int .u64 r.hl, .int .u8 r.o, .int .u8 r.c, .int .u8 r.kk, .int .i64 r.kn, .string r.ks, .int .u8 r.vk, .int .i64 r.vn, .string r.vs, .int .i64 r.fr, .int .i64 r.n, .int .u32 r.tw, .int .u8 r.ri, .int .u64 r.oh, .int .u64 r.ol] 110))); have HB5 := Lib.hid (below_alloc (below_step HB4.out hB5) (.cells #[.int .u8 r.k, .int .u64 r.hh, .int .u64 r.hl, .int .u8 r.o, .int .u8 r.c, .int .u8 r.kk, .int .i64 r.kn, .string r.ks, .int .u8 r.vk, .int .i64 r.vn, .string r.vs, .int .i64 r.fr, .int .i64 r.n, .int .u32 r.tw, .int .u8 r.ri, .int .u64 r.oh, .int .u64 r.ol] 110)); clear hB5)))
  have q0 := blk_cell HQ5.out 0
  have q11 := blk_cell HQ5.out 11
  have q12 := blk_cell HQ5.out 12
  have d1 : decide (1 ≤ q.k) = false := by simp; omega
  go_wp2
  go_quiet (fail)
  go_wp2
  go_ret
  exact ⟨rfl, pw_below_drewN HB5.out _⟩
set_option maxHeartbeats 8000000 in
set_option maxRecDepth 100000 in
theorem no2 (q : Q) (w : World) (ok : Ok q) (hl : q.ks.size + q.vs.size ≤ 9000) (hno : okQ q = false) (r : Q) (ef : Int) (hrr : reqP (encR q) = (r, ef)) (h1 : 1 ≤ q.k) (h2 : 10 < q.k) :
    Calls Try.prog 14 #[.agg q.cells] w fun e w' => e = .returned (.bool true) ∧ Below w.heap.size w w' := by
  have hl' : (q.ks.size : Int) + (q.vs.size : Int) ≤ 9000 := by omega
  have HOK := Lib.hid ok
  have HNO := Lib.hid hno
  have HRR := Lib.hid hrr
  clear hno hrr
  clear ok
  go_enter Try.func14, Try.ntmps14
  go_upto_region 6 with (first
    | (go_at_call 54; go_loud (refine (Req.lives_calls _).mono ?_; rintro en w1 ⟨rfl, hB1⟩; have hq1 := blk_below (blk_new w (.cells #[.int .u8 q.k, .int .u64 q.hh, .int .u64 q.hl, .int .u8 q.o, .int .u8 q.c, .int .u8 q.kk, .int .i64 q.kn, .string q.ks, .int .u8 q.vk, .int .i64 q.vn, .string q.vs, .int .i64 q.fr, .int .i64 q.n, .int .u32 q.tw, .int .u8 q.ri, .int .u64 q.oh, .int .u64 q.ol] 104)) hB1; have HQ1 := Lib.hid hq1; have HB1 := Lib.hid (below_step (below_alloc (Below.refl w.heap.size w) _) hB1); have p7 := blk_cell hq1 7; have p10 := blk_cell hq1 10; have hz1 : w.heap.size < w1.heap.size := blk_lt hq1; have hrow1 : rowOf w1 w.heap.size = some #[.int .u8 q.k, .int .u64 q.hh, .int .u64 q.hl, .int .u8 q.o, .int .u8 q.c, .int .u8 q.kk, .int .i64 q.kn, .string q.ks, .int .u8 q.vk, .int .i64 q.vn, .string q.vs, .int .i64 q.fr, .int .i64 q.n, .int .u32 q.tw, .int .u8 q.ri, .int .u64 q.oh, .int .u64 q.ol] := rowOf_of hq1 rfl; clear hB1 hq1))
    | (go_at_call 58; go_loud (refine (Req.encode_calls q _ HOK.out).mono ?_; rintro en w2 (⟨h, _⟩ | ⟨_, rfl, hB2⟩); (rw [HNO.out] at h; cases h); have hq2 := blk_below HQ1.out hB2; have HB2 := Lib.hid (below_step HB1.out hB2); clear hB2; have HQ2 := Lib.hid hq2; have hrow2 : rowOf w2 w.heap.size = some #[.int .u8 q.k, .int .u64 q.hh, .int .u64 q.hl, .int .u8 q.o, .int .u8 q.c, .int .u8 q.kk, .int .i64 q.kn, .string q.ks, .int .u8 q.vk, .int .i64 q.vn, .string q.vs, .int .i64 q.fr, .int .i64 q.n, .int .u32 q.tw, .int .u8 q.ri, .int .u64 q.oh, .int .u64 q.ol] := rowOf_of hq2 rfl; clear hq2))
    | (go_at_call 57; go_loud (have _t := HQ2.out; refine (Req.plain_calls q _ HOK.out.kk0 HOK.out.kk1 HOK.out.vk0 HOK.out.vk1).mono ?_; rintro en w3 ⟨rfl, hB3⟩; have HQ3 := Lib.hid (blk_below HQ2.out hB3); have HB3 := Lib.hid (below_step HB2.out hB3); clear hB3))
    | (go_at_call 59; go_loud (refine (renc_calls q _ HOK.out).mono ?_; intro en w4 hp4; obtain ⟨A4, c4, rfl, hb4, hlt4, hB4⟩ := rpost hp4; have HQ4 := Lib.hid (blk_below HQ3.out hB4); have HBY4 := Lib.hid hb4; have HLT4 := Lib.hid hlt4; have HB4 := Lib.hid (below_step HB3.out hB4); clear hB4 hb4 hlt4 hp4))
    | (go_at_call 56; go_loud (refine (ref_calls A4 c4 (encR q) _ HBY4.out HLT4.out (by have := encR_len q HOK.out; omega) (encR_bs q HOK.out)).mono ?_; unfold RefP; rw [HRR.out]; rintro en w5 ⟨rfl, hB5⟩; have HQ5 := Lib.hid (blk_alloc (blk_below HQ4.out hB5) (.cells #[.int .u8 r.k, .int .u64 r.hh, .int .u64 r.hl, .int .u8 r.o, .int .u8 r.c, .int .u8 r.kk, .int .i64 r.kn, .string r.ks, .int .u8 r.vk, .int .i64 r.vn, .string r.vs, .int .i64 r.fr, .int .i64 r.n, .int .u32 r.tw, .int .u8 r.ri, .int .u64 r.oh, .int .u64 r.ol] 110)); have HF5 := Lib.hid ((blk_new w5 (.cells #[.int .u8 r.k, .int .u64 r.hh, .int .u64 r.hl, .int .u8 r.o, .int .u8 r.c, .int .u8 r.kk, .int .i64 r.kn, .string r.ks, .int .u8 r.vk, .int .i64 r.vn, .string r.vs, .int .i64 r.fr, .int .i64 r.n, .int .u32 r.tw, .int .u8 r.ri, .int .u64 r.oh, .int .u64 r.ol] 110))); have HB5 := Lib.hid (below_alloc (below_step HB4.out hB5) (.cells #[.int .u8 r.k, .int .u64 r.hh, .int .u64 r.hl, .int .u8 r.o, .int .u8 r.c, .int .u8 r.kk, .int .i64 r.kn, .string r.ks, .int .u8 r.vk, .int .i64 r.vn, .string r.vs, .int .i64 r.fr, .int .i64 r.n, .int .u32 r.tw, .int .u8 r.ri, .int .u64 r.oh, .int .u64 r.ol] 110)); clear hB5)))
  have q0 := blk_cell HQ5.out 0
  have q11 := blk_cell HQ5.out 11
  have q12 := blk_cell HQ5.out 12
  have d1 : decide (1 ≤ q.k) = true := by simp; omega
  have d2 : decide (q.k ≤ 10) = false := by simp; omega
  go_wp2
  go_quiet (fail)
  go_wp2
  go_ret
  exact ⟨rfl, pw_below_drewN HB5.out _⟩
set_option maxHeartbeats 8000000 in
set_option maxRecDepth 100000 in
theorem no3 (q : Q) (w : World) (ok : Ok q) (hl : q.ks.size + q.vs.size ≤ 9000) (hno : okQ q = false) (r : Q) (ef : Int) (hrr : reqP (encR q) = (r, ef)) (h1 : 1 ≤ q.k) (h2 : q.k ≤ 10) (h3 : q.fr < 0) :
    Calls Try.prog 14 #[.agg q.cells] w fun e w' => e = .returned (.bool true) ∧ Below w.heap.size w w' := by
  have hl' : (q.ks.size : Int) + (q.vs.size : Int) ≤ 9000 := by omega
  have HOK := Lib.hid ok
  have HNO := Lib.hid hno
  have HRR := Lib.hid hrr
  clear hno hrr
  clear ok
  go_enter Try.func14, Try.ntmps14
  go_upto_region 6 with (first
    | (go_at_call 54; go_loud (refine (Req.lives_calls _).mono ?_; rintro en w1 ⟨rfl, hB1⟩; have hq1 := blk_below (blk_new w (.cells #[.int .u8 q.k, .int .u64 q.hh, .int .u64 q.hl, .int .u8 q.o, .int .u8 q.c, .int .u8 q.kk, .int .i64 q.kn, .string q.ks, .int .u8 q.vk, .int .i64 q.vn, .string q.vs, .int .i64 q.fr, .int .i64 q.n, .int .u32 q.tw, .int .u8 q.ri, .int .u64 q.oh, .int .u64 q.ol] 104)) hB1; have HQ1 := Lib.hid hq1; have HB1 := Lib.hid (below_step (below_alloc (Below.refl w.heap.size w) _) hB1); have p7 := blk_cell hq1 7; have p10 := blk_cell hq1 10; have hz1 : w.heap.size < w1.heap.size := blk_lt hq1; have hrow1 : rowOf w1 w.heap.size = some #[.int .u8 q.k, .int .u64 q.hh, .int .u64 q.hl, .int .u8 q.o, .int .u8 q.c, .int .u8 q.kk, .int .i64 q.kn, .string q.ks, .int .u8 q.vk, .int .i64 q.vn, .string q.vs, .int .i64 q.fr, .int .i64 q.n, .int .u32 q.tw, .int .u8 q.ri, .int .u64 q.oh, .int .u64 q.ol] := rowOf_of hq1 rfl; clear hB1 hq1))
    | (go_at_call 58; go_loud (refine (Req.encode_calls q _ HOK.out).mono ?_; rintro en w2 (⟨h, _⟩ | ⟨_, rfl, hB2⟩); (rw [HNO.out] at h; cases h); have hq2 := blk_below HQ1.out hB2; have HB2 := Lib.hid (below_step HB1.out hB2); clear hB2; have HQ2 := Lib.hid hq2; have hrow2 : rowOf w2 w.heap.size = some #[.int .u8 q.k, .int .u64 q.hh, .int .u64 q.hl, .int .u8 q.o, .int .u8 q.c, .int .u8 q.kk, .int .i64 q.kn, .string q.ks, .int .u8 q.vk, .int .i64 q.vn, .string q.vs, .int .i64 q.fr, .int .i64 q.n, .int .u32 q.tw, .int .u8 q.ri, .int .u64 q.oh, .int .u64 q.ol] := rowOf_of hq2 rfl; clear hq2))
    | (go_at_call 57; go_loud (have _t := HQ2.out; refine (Req.plain_calls q _ HOK.out.kk0 HOK.out.kk1 HOK.out.vk0 HOK.out.vk1).mono ?_; rintro en w3 ⟨rfl, hB3⟩; have HQ3 := Lib.hid (blk_below HQ2.out hB3); have HB3 := Lib.hid (below_step HB2.out hB3); clear hB3))
    | (go_at_call 59; go_loud (refine (renc_calls q _ HOK.out).mono ?_; intro en w4 hp4; obtain ⟨A4, c4, rfl, hb4, hlt4, hB4⟩ := rpost hp4; have HQ4 := Lib.hid (blk_below HQ3.out hB4); have HBY4 := Lib.hid hb4; have HLT4 := Lib.hid hlt4; have HB4 := Lib.hid (below_step HB3.out hB4); clear hB4 hb4 hlt4 hp4))
    | (go_at_call 56; go_loud (refine (ref_calls A4 c4 (encR q) _ HBY4.out HLT4.out (by have := encR_len q HOK.out; omega) (encR_bs q HOK.out)).mono ?_; unfold RefP; rw [HRR.out]; rintro en w5 ⟨rfl, hB5⟩; have HQ5 := Lib.hid (blk_alloc (blk_below HQ4.out hB5) (.cells #[.int .u8 r.k, .int .u64 r.hh, .int .u64 r.hl, .int .u8 r.o, .int .u8 r.c, .int .u8 r.kk, .int .i64 r.kn, .string r.ks, .int .u8 r.vk, .int .i64 r.vn, .string r.vs, .int .i64 r.fr, .int .i64 r.n, .int .u32 r.tw, .int .u8 r.ri, .int .u64 r.oh, .int .u64 r.ol] 110)); have HF5 := Lib.hid ((blk_new w5 (.cells #[.int .u8 r.k, .int .u64 r.hh, .int .u64 r.hl, .int .u8 r.o, .int .u8 r.c, .int .u8 r.kk, .int .i64 r.kn, .string r.ks, .int .u8 r.vk, .int .i64 r.vn, .string r.vs, .int .i64 r.fr, .int .i64 r.n, .int .u32 r.tw, .int .u8 r.ri, .int .u64 r.oh, .int .u64 r.ol] 110))); have HB5 := Lib.hid (below_alloc (below_step HB4.out hB5) (.cells #[.int .u8 r.k, .int .u64 r.hh, .int .u64 r.hl, .int .u8 r.o, .int .u8 r.c, .int .u8 r.kk, .int .i64 r.kn, .string r.ks, .int .u8 r.vk, .int .i64 r.vn, .string r.vs, .int .i64 r.fr, .int .i64 r.n, .int .u32 r.tw, .int .u8 r.ri, .int .u64 r.oh, .int .u64 r.ol] 110)); clear hB5)))
  have q0 := blk_cell HQ5.out 0
  have q11 := blk_cell HQ5.out 11
  have q12 := blk_cell HQ5.out 12
  have d1 : decide (1 ≤ q.k) = true := by simp; omega
  have d2 : decide (q.k ≤ 10) = true := by simp; omega
  have d3 : decide (0 ≤ q.fr) = false := by simp; omega
  go_wp2
  go_quiet (fail)
  go_wp2
  go_ret
  exact ⟨rfl, pw_below_drewN HB5.out _⟩
set_option maxHeartbeats 8000000 in
set_option maxRecDepth 100000 in
theorem no4 (q : Q) (w : World) (ok : Ok q) (hl : q.ks.size + q.vs.size ≤ 9000) (hno : okQ q = false) (r : Q) (ef : Int) (hrr : reqP (encR q) = (r, ef)) (h1 : 1 ≤ q.k) (h2 : q.k ≤ 10) (h3 : 0 ≤ q.fr) (h4 : q.n < 0) :
    Calls Try.prog 14 #[.agg q.cells] w fun e w' => e = .returned (.bool true) ∧ Below w.heap.size w w' := by
  have hl' : (q.ks.size : Int) + (q.vs.size : Int) ≤ 9000 := by omega
  have HOK := Lib.hid ok
  have HNO := Lib.hid hno
  have HRR := Lib.hid hrr
  clear hno hrr
  clear ok
  go_enter Try.func14, Try.ntmps14
  go_upto_region 6 with (first
    | (go_at_call 54; go_loud (refine (Req.lives_calls _).mono ?_; rintro en w1 ⟨rfl, hB1⟩; have hq1 := blk_below (blk_new w (.cells #[.int .u8 q.k, .int .u64 q.hh, .int .u64 q.hl, .int .u8 q.o, .int .u8 q.c, .int .u8 q.kk, .int .i64 q.kn, .string q.ks, .int .u8 q.vk, .int .i64 q.vn, .string q.vs, .int .i64 q.fr, .int .i64 q.n, .int .u32 q.tw, .int .u8 q.ri, .int .u64 q.oh, .int .u64 q.ol] 104)) hB1; have HQ1 := Lib.hid hq1; have HB1 := Lib.hid (below_step (below_alloc (Below.refl w.heap.size w) _) hB1); have p7 := blk_cell hq1 7; have p10 := blk_cell hq1 10; have hz1 : w.heap.size < w1.heap.size := blk_lt hq1; have hrow1 : rowOf w1 w.heap.size = some #[.int .u8 q.k, .int .u64 q.hh, .int .u64 q.hl, .int .u8 q.o, .int .u8 q.c, .int .u8 q.kk, .int .i64 q.kn, .string q.ks, .int .u8 q.vk, .int .i64 q.vn, .string q.vs, .int .i64 q.fr, .int .i64 q.n, .int .u32 q.tw, .int .u8 q.ri, .int .u64 q.oh, .int .u64 q.ol] := rowOf_of hq1 rfl; clear hB1 hq1))
    | (go_at_call 58; go_loud (refine (Req.encode_calls q _ HOK.out).mono ?_; rintro en w2 (⟨h, _⟩ | ⟨_, rfl, hB2⟩); (rw [HNO.out] at h; cases h); have hq2 := blk_below HQ1.out hB2; have HB2 := Lib.hid (below_step HB1.out hB2); clear hB2; have HQ2 := Lib.hid hq2; have hrow2 : rowOf w2 w.heap.size = some #[.int .u8 q.k, .int .u64 q.hh, .int .u64 q.hl, .int .u8 q.o, .int .u8 q.c, .int .u8 q.kk, .int .i64 q.kn, .string q.ks, .int .u8 q.vk, .int .i64 q.vn, .string q.vs, .int .i64 q.fr, .int .i64 q.n, .int .u32 q.tw, .int .u8 q.ri, .int .u64 q.oh, .int .u64 q.ol] := rowOf_of hq2 rfl; clear hq2))
    | (go_at_call 57; go_loud (have _t := HQ2.out; refine (Req.plain_calls q _ HOK.out.kk0 HOK.out.kk1 HOK.out.vk0 HOK.out.vk1).mono ?_; rintro en w3 ⟨rfl, hB3⟩; have HQ3 := Lib.hid (blk_below HQ2.out hB3); have HB3 := Lib.hid (below_step HB2.out hB3); clear hB3))
    | (go_at_call 59; go_loud (refine (renc_calls q _ HOK.out).mono ?_; intro en w4 hp4; obtain ⟨A4, c4, rfl, hb4, hlt4, hB4⟩ := rpost hp4; have HQ4 := Lib.hid (blk_below HQ3.out hB4); have HBY4 := Lib.hid hb4; have HLT4 := Lib.hid hlt4; have HB4 := Lib.hid (below_step HB3.out hB4); clear hB4 hb4 hlt4 hp4))
    | (go_at_call 56; go_loud (refine (ref_calls A4 c4 (encR q) _ HBY4.out HLT4.out (by have := encR_len q HOK.out; omega) (encR_bs q HOK.out)).mono ?_; unfold RefP; rw [HRR.out]; rintro en w5 ⟨rfl, hB5⟩; have HQ5 := Lib.hid (blk_alloc (blk_below HQ4.out hB5) (.cells #[.int .u8 r.k, .int .u64 r.hh, .int .u64 r.hl, .int .u8 r.o, .int .u8 r.c, .int .u8 r.kk, .int .i64 r.kn, .string r.ks, .int .u8 r.vk, .int .i64 r.vn, .string r.vs, .int .i64 r.fr, .int .i64 r.n, .int .u32 r.tw, .int .u8 r.ri, .int .u64 r.oh, .int .u64 r.ol] 110)); have HF5 := Lib.hid ((blk_new w5 (.cells #[.int .u8 r.k, .int .u64 r.hh, .int .u64 r.hl, .int .u8 r.o, .int .u8 r.c, .int .u8 r.kk, .int .i64 r.kn, .string r.ks, .int .u8 r.vk, .int .i64 r.vn, .string r.vs, .int .i64 r.fr, .int .i64 r.n, .int .u32 r.tw, .int .u8 r.ri, .int .u64 r.oh, .int .u64 r.ol] 110))); have HB5 := Lib.hid (below_alloc (below_step HB4.out hB5) (.cells #[.int .u8 r.k, .int .u64 r.hh, .int .u64 r.hl, .int .u8 r.o, .int .u8 r.c, .int .u8 r.kk, .int .i64 r.kn, .string r.ks, .int .u8 r.vk, .int .i64 r.vn, .string r.vs, .int .i64 r.fr, .int .i64 r.n, .int .u32 r.tw, .int .u8 r.ri, .int .u64 r.oh, .int .u64 r.ol] 110)); clear hB5)))
  have q0 := blk_cell HQ5.out 0
  have q11 := blk_cell HQ5.out 11
  have q12 := blk_cell HQ5.out 12
  have d1 : decide (1 ≤ q.k) = true := by simp; omega
  have d2 : decide (q.k ≤ 10) = true := by simp; omega
  have d3 : decide (0 ≤ q.fr) = true := by simp; omega
  have d4 : decide (0 ≤ q.n) = false := by simp; omega
  go_wp2
  go_quiet (fail)
  go_wp2
  go_ret
  exact ⟨rfl, pw_below_drewN HB5.out _⟩
set_option maxHeartbeats 8000000 in
set_option maxRecDepth 100000 in
theorem no5 (q : Q) (w : World) (ok : Ok q) (hl : q.ks.size + q.vs.size ≤ 9000) (hno : okQ q = false) (r : Q) (ef : Int) (hrr : reqP (encR q) = (r, ef)) (h1 : 1 ≤ q.k) (h2 : q.k ≤ 10) (h3 : 0 ≤ q.fr) (h4 : 0 ≤ q.n) (hrk : rightS ⟨q.kk, q.kn, q.ks⟩ = false) :
    Calls Try.prog 14 #[.agg q.cells] w fun e w' => e = .returned (.bool true) ∧ Below w.heap.size w w' := by
  have hl' : (q.ks.size : Int) + (q.vs.size : Int) ≤ 9000 := by omega
  have HOK := Lib.hid ok
  have HNO := Lib.hid hno
  have HRR := Lib.hid hrr
  have HRK := Lib.hid hrk
  clear hrk
  clear hno hrr
  clear ok
  go_enter Try.func14, Try.ntmps14
  go_upto_region 6 with (first
    | (go_at_call 54; go_loud (refine (Req.lives_calls _).mono ?_; rintro en w1 ⟨rfl, hB1⟩; have hq1 := blk_below (blk_new w (.cells #[.int .u8 q.k, .int .u64 q.hh, .int .u64 q.hl, .int .u8 q.o, .int .u8 q.c, .int .u8 q.kk, .int .i64 q.kn, .string q.ks, .int .u8 q.vk, .int .i64 q.vn, .string q.vs, .int .i64 q.fr, .int .i64 q.n, .int .u32 q.tw, .int .u8 q.ri, .int .u64 q.oh, .int .u64 q.ol] 104)) hB1; have HQ1 := Lib.hid hq1; have HB1 := Lib.hid (below_step (below_alloc (Below.refl w.heap.size w) _) hB1); have p7 := blk_cell hq1 7; have p10 := blk_cell hq1 10; have hz1 : w.heap.size < w1.heap.size := blk_lt hq1; have hrow1 : rowOf w1 w.heap.size = some #[.int .u8 q.k, .int .u64 q.hh, .int .u64 q.hl, .int .u8 q.o, .int .u8 q.c, .int .u8 q.kk, .int .i64 q.kn, .string q.ks, .int .u8 q.vk, .int .i64 q.vn, .string q.vs, .int .i64 q.fr, .int .i64 q.n, .int .u32 q.tw, .int .u8 q.ri, .int .u64 q.oh, .int .u64 q.ol] := rowOf_of hq1 rfl; clear hB1 hq1))
    | (go_at_call 58; go_loud (refine (Req.encode_calls q _ HOK.out).mono ?_; rintro en w2 (⟨h, _⟩ | ⟨_, rfl, hB2⟩); (rw [HNO.out] at h; cases h); have hq2 := blk_below HQ1.out hB2; have HB2 := Lib.hid (below_step HB1.out hB2); clear hB2; have HQ2 := Lib.hid hq2; have hrow2 : rowOf w2 w.heap.size = some #[.int .u8 q.k, .int .u64 q.hh, .int .u64 q.hl, .int .u8 q.o, .int .u8 q.c, .int .u8 q.kk, .int .i64 q.kn, .string q.ks, .int .u8 q.vk, .int .i64 q.vn, .string q.vs, .int .i64 q.fr, .int .i64 q.n, .int .u32 q.tw, .int .u8 q.ri, .int .u64 q.oh, .int .u64 q.ol] := rowOf_of hq2 rfl; clear hq2))
    | (go_at_call 57; go_loud (have _t := HQ2.out; refine (Req.plain_calls q _ HOK.out.kk0 HOK.out.kk1 HOK.out.vk0 HOK.out.vk1).mono ?_; rintro en w3 ⟨rfl, hB3⟩; have HQ3 := Lib.hid (blk_below HQ2.out hB3); have HB3 := Lib.hid (below_step HB2.out hB3); clear hB3))
    | (go_at_call 59; go_loud (refine (renc_calls q _ HOK.out).mono ?_; intro en w4 hp4; obtain ⟨A4, c4, rfl, hb4, hlt4, hB4⟩ := rpost hp4; have HQ4 := Lib.hid (blk_below HQ3.out hB4); have HBY4 := Lib.hid hb4; have HLT4 := Lib.hid hlt4; have HB4 := Lib.hid (below_step HB3.out hB4); clear hB4 hb4 hlt4 hp4))
    | (go_at_call 56; go_loud (refine (ref_calls A4 c4 (encR q) _ HBY4.out HLT4.out (by have := encR_len q HOK.out; omega) (encR_bs q HOK.out)).mono ?_; unfold RefP; rw [HRR.out]; rintro en w5 ⟨rfl, hB5⟩; have HQ5 := Lib.hid (blk_drew (blk_alloc (blk_below HQ4.out hB5) (.cells #[.int .u8 r.k, .int .u64 r.hh, .int .u64 r.hl, .int .u8 r.o, .int .u8 r.c, .int .u8 r.kk, .int .i64 r.kn, .string r.ks, .int .u8 r.vk, .int .i64 r.vn, .string r.vs, .int .i64 r.fr, .int .i64 r.n, .int .u32 r.tw, .int .u8 r.ri, .int .u64 r.oh, .int .u64 r.ol] 110))); have HF5 := Lib.hid (blk_drew (blk_new w5 (.cells #[.int .u8 r.k, .int .u64 r.hh, .int .u64 r.hl, .int .u8 r.o, .int .u8 r.c, .int .u8 r.kk, .int .i64 r.kn, .string r.ks, .int .u8 r.vk, .int .i64 r.vn, .string r.vs, .int .i64 r.fr, .int .i64 r.n, .int .u32 r.tw, .int .u8 r.ri, .int .u64 r.oh, .int .u64 r.ol] 110))); have HB5 := Lib.hid (below_drew1 (below_alloc (below_step HB4.out hB5) (.cells #[.int .u8 r.k, .int .u64 r.hh, .int .u64 r.hl, .int .u8 r.o, .int .u8 r.c, .int .u8 r.kk, .int .i64 r.kn, .string r.ks, .int .u8 r.vk, .int .i64 r.vn, .string r.vs, .int .i64 r.fr, .int .i64 r.n, .int .u32 r.tw, .int .u8 r.ri, .int .u64 r.oh, .int .u64 r.ol] 110))); clear hB5)))
  have d1 : decide (1 ≤ q.k) = true := by simp; omega
  have d2 : decide (q.k ≤ 10) = true := by simp; omega
  have d3 : decide (0 ≤ q.fr) = true := by simp; omega
  have d4 : decide (0 ≤ q.n) = true := by simp; omega
  go_wp2
  refine start_ (n := 45) (S := fun w' => w'.cell? ⟨w.heap.size, 0, none⟩ = some (.int .u8 q.k) ∧ w'.cell? ⟨w.heap.size, 5, none⟩ = some (.int .u8 q.kk) ∧ w'.cell? ⟨w.heap.size, 6, none⟩ = some (.int .i64 q.kn) ∧ w'.cell? ⟨w.heap.size, 7, none⟩ = some (.string q.ks) ∧ w'.cell? ⟨w.heap.size, 8, none⟩ = some (.int .u8 q.vk) ∧ w'.cell? ⟨w.heap.size, 9, none⟩ = some (.int .i64 q.vn) ∧ w'.cell? ⟨w.heap.size, 10, none⟩ = some (.string q.vs) ∧ w'.cell? ⟨w.heap.size, 11, none⟩ = some (.int .i64 q.fr) ∧ w'.cell? ⟨w.heap.size, 12, none⟩ = some (.int .i64 q.n) ∧ rowOf w' w.heap.size = some #[.int .u8 q.k, .int .u64 q.hh, .int .u64 q.hl, .int .u8 q.o, .int .u8 q.c, .int .u8 q.kk, .int .i64 q.kn, .string q.ks, .int .u8 q.vk, .int .i64 q.vn, .string q.vs, .int .i64 q.fr, .int .i64 q.n, .int .u32 q.tw, .int .u8 q.ri, .int .u64 q.oh, .int .u64 q.ol] ∧ rowOf w' w5.heap.size = some #[.int .u8 r.k, .int .u64 r.hh, .int .u64 r.hl, .int .u8 r.o, .int .u8 r.c, .int .u8 r.kk, .int .i64 r.kn, .string r.ks, .int .u8 r.vk, .int .i64 r.vn, .string r.vs, .int .i64 r.fr, .int .i64 r.n, .int .u32 r.tw, .int .u8 r.ri, .int .u64 r.oh, .int .u64 r.ol]) (ds := []) (tf 45 0) (by kernel_rfl) rfl rfl ⟨(blk_cell HQ5.out 0), (blk_cell HQ5.out 5), (blk_cell HQ5.out 6), (blk_cell HQ5.out 7), (blk_cell HQ5.out 8), (blk_cell HQ5.out 9), (blk_cell HQ5.out 10), (blk_cell HQ5.out 11), (blk_cell HQ5.out 12), (rowOf_of HQ5.out rfl), (rowOf_of HF5.out rfl)⟩ (fun hHeld => ?_)
  refine pure_ (i := 0) (N := some 41) (v := ?_) (a' := ?_) (tf 45 1) rfl rfl (by kernel_rfl) (fun _ _ _ h => h) (Or.inl ⟨by rfl, ?_⟩) ?_ ?_
  rotate_left
  · intro w'
    go_simp
    with_reducible rfl
  rotate_left
  · simp only [Act.put, List.setIfInBounds_toArray, List.set_cons_zero, List.set_cons_succ]
    rfl
  refine take_ (i := 1) (N := some 42) (v := ?_) (a' := ?_) (tf 45 2) rfl rfl (by kernel_rfl) (fun _ _ _ h => h) (Or.inl ⟨by rfl, ?_⟩) hHeld ?_ ?_
  rotate_left
  · rintro w' ⟨s0, s1, s2, s3, s4, s5, s6, s7, s8, s9, s10⟩
    go_simp
    with_reducible rfl
  rotate_left
  · simp only [Act.put, List.setIfInBounds_toArray, List.set_cons_zero, List.set_cons_succ]
    rfl
  refine pure_ (i := 2) (N := some 43) (v := ?_) (a' := ?_) (tf 45 3) rfl rfl (by kernel_rfl) (fun _ _ _ h => h) (Or.inl ⟨by rfl, ?_⟩) ?_ ?_
  rotate_left
  · intro w'
    go_simp
    with_reducible rfl
  rotate_left
  · simp only [Act.put, List.setIfInBounds_toArray, List.set_cons_zero, List.set_cons_succ]
    rfl
  refine pure_ (i := 3) (N := some 44) (v := ?_) (a' := ?_) (tf 45 4) rfl rfl (by kernel_rfl) (fun _ _ _ h => h) (Or.inl ⟨by rfl, ?_⟩) ?_ ?_
  rotate_left
  · intro w'
    go_simp
    with_reducible rfl
  rotate_left
  · simp only [Act.put, List.setIfInBounds_toArray, List.set_cons_zero, List.set_cons_succ]
    rfl
  refine pure_ (i := 4) (N := some 45) (v := ?_) (a' := ?_) (tf 45 5) rfl rfl (by kernel_rfl) (fun _ _ _ h => h) (Or.inl ⟨by rfl, ?_⟩) ?_ ?_
  rotate_left
  · intro w'
    go_simp
    with_reducible rfl
  rotate_left
  · simp only [Act.put, List.setIfInBounds_toArray, List.set_cons_zero, List.set_cons_succ]
    rfl
  refine take_ (i := 5) (N := some 46) (v := ?_) (a' := ?_) (tf 45 6) rfl rfl (by kernel_rfl) (fun _ _ _ h => h) (Or.inl ⟨by rfl, ?_⟩) hHeld ?_ ?_
  rotate_left
  · rintro w' ⟨s0, s1, s2, s3, s4, s5, s6, s7, s8, s9, s10⟩
    go_simp
    with_reducible rfl
  rotate_left
  · simp only [Act.put, List.setIfInBounds_toArray, List.set_cons_zero, List.set_cons_succ]
    rfl
  refine pure_ (i := 6) (N := some 47) (v := ?_) (a' := ?_) (tf 45 7) rfl rfl (by kernel_rfl) (fun _ _ _ h => h) (Or.inl ⟨by rfl, ?_⟩) ?_ ?_
  rotate_left
  · intro w'
    go_simp
    with_reducible rfl
  rotate_left
  · simp only [Act.put, List.setIfInBounds_toArray, List.set_cons_zero, List.set_cons_succ]
    rfl
  refine pure_ (i := 7) (N := some 48) (v := ?_) (a' := ?_) (tf 45 8) rfl rfl (by kernel_rfl) (fun _ _ _ h => h) (Or.inl ⟨by rfl, ?_⟩) ?_ ?_
  rotate_left
  · intro w'
    go_simp
    with_reducible rfl
  rotate_left
  · simp only [Act.put, List.setIfInBounds_toArray, List.set_cons_zero, List.set_cons_succ]
    rfl
  refine pure_ (i := 8) (N := some 49) (v := ?_) (a' := ?_) (tf 45 9) rfl rfl (by kernel_rfl) (fun _ _ _ h => h) (Or.inl ⟨by rfl, ?_⟩) ?_ ?_
  rotate_left
  · intro w'
    go_simp
    with_reducible rfl
  rotate_left
  · simp only [Act.put, List.setIfInBounds_toArray, List.set_cons_zero, List.set_cons_succ]
    rfl
  refine pure_ (i := 9) (N := some 50) (v := ?_) (a' := ?_) (tf 45 10) rfl rfl (by kernel_rfl) (fun _ _ _ h => h) (Or.inl ⟨by rfl, ?_⟩) ?_ ?_
  rotate_left
  · intro w'
    go_simp
    with_reducible rfl
  rotate_left
  · simp only [Act.put, List.setIfInBounds_toArray, List.set_cons_zero, List.set_cons_succ]
    rfl
  refine pure_ (i := 10) (N := some 51) (v := ?_) (a' := ?_) (tf 45 11) rfl rfl (by kernel_rfl) (fun _ _ _ h => h) (Or.inl ⟨by rfl, ?_⟩) ?_ ?_
  rotate_left
  · intro w'
    go_simp
    with_reducible rfl
  rotate_left
  · simp only [Act.put, List.setIfInBounds_toArray, List.set_cons_zero, List.set_cons_succ]
    rfl
  refine take_ (i := 11) (N := some 52) (v := ?_) (a' := ?_) (tf 45 12) rfl rfl (by kernel_rfl) (fun _ _ _ h => h) (Or.inl ⟨by rfl, ?_⟩) hHeld ?_ ?_
  rotate_left
  · rintro w' ⟨s0, s1, s2, s3, s4, s5, s6, s7, s8, s9, s10⟩
    go_simp
    with_reducible rfl
  rotate_left
  · simp only [Act.put, List.setIfInBounds_toArray, List.set_cons_zero, List.set_cons_succ]
    rfl
  refine pure_ (i := 12) (N := some 53) (v := ?_) (a' := ?_) (tf 45 13) rfl rfl (by kernel_rfl) (fun _ _ _ h => h) (Or.inl ⟨by rfl, ?_⟩) ?_ ?_
  rotate_left
  · intro w'
    go_simp
    with_reducible rfl
  rotate_left
  · simp only [Act.put, List.setIfInBounds_toArray, List.set_cons_zero, List.set_cons_succ]
    rfl
  refine pure_ (i := 13) (N := some 54) (v := ?_) (a' := ?_) (tf 45 14) rfl rfl (by kernel_rfl) (fun _ _ _ h => h) (Or.inl ⟨by rfl, ?_⟩) ?_ ?_
  rotate_left
  · intro w'
    go_simp
    with_reducible rfl
  rotate_left
  · simp only [Act.put, List.setIfInBounds_toArray, List.set_cons_zero, List.set_cons_succ]
    rfl
  refine pure_ (i := 14) (N := some 55) (v := ?_) (a' := ?_) (tf 45 15) rfl rfl (by kernel_rfl) (fun _ _ _ h => h) (Or.inl ⟨by rfl, ?_⟩) ?_ ?_
  rotate_left
  · intro w'
    go_simp
    with_reducible rfl
  rotate_left
  · simp only [Act.put, List.setIfInBounds_toArray, List.set_cons_zero, List.set_cons_succ]
    rfl
  refine pure_ (i := 15) (N := some 56) (v := ?_) (a' := ?_) (tf 45 16) rfl rfl (by kernel_rfl) (fun _ _ _ h => h) (Or.inl ⟨by rfl, ?_⟩) ?_ ?_
  rotate_left
  · intro w'
    go_simp
    with_reducible rfl
  rotate_left
  · simp only [Act.put, List.setIfInBounds_toArray, List.set_cons_zero, List.set_cons_succ]
    rfl
  refine pure_ (i := 16) (N := some 57) (v := ?_) (a' := ?_) (tf 45 17) rfl rfl (by kernel_rfl) (fun _ _ _ h => h) (Or.inl ⟨by rfl, ?_⟩) ?_ ?_
  rotate_left
  · intro w'
    go_simp
    with_reducible rfl
  rotate_left
  · simp only [Act.put, List.setIfInBounds_toArray, List.set_cons_zero, List.set_cons_succ]
    rfl
  refine take_ (i := 17) (N := some 58) (v := ?_) (a' := ?_) (tf 45 18) rfl rfl (by kernel_rfl) (fun _ _ _ h => h) (Or.inl ⟨by rfl, ?_⟩) hHeld ?_ ?_
  rotate_left
  · rintro w' ⟨s0, s1, s2, s3, s4, s5, s6, s7, s8, s9, s10⟩
    go_simp
    with_reducible rfl
  rotate_left
  · simp only [Act.put, List.setIfInBounds_toArray, List.set_cons_zero, List.set_cons_succ]
    rfl
  refine pure_ (i := 18) (N := some 59) (v := ?_) (a' := ?_) (tf 45 19) rfl rfl (by kernel_rfl) (fun _ _ _ h => h) (Or.inl ⟨by rfl, ?_⟩) ?_ ?_
  rotate_left
  · intro w'
    go_simp
    with_reducible rfl
  rotate_left
  · simp only [Act.put, List.setIfInBounds_toArray, List.set_cons_zero, List.set_cons_succ]
    rfl
  refine pure_ (i := 19) (N := some 60) (v := ?_) (a' := ?_) (tf 45 20) rfl rfl (by kernel_rfl) (fun _ _ _ h => h) (Or.inl ⟨by rfl, ?_⟩) ?_ ?_
  rotate_left
  · intro w'
    go_simp
    with_reducible rfl
  rotate_left
  · simp only [Act.put, List.setIfInBounds_toArray, List.set_cons_zero, List.set_cons_succ]
    rfl
  refine pure_ (i := 20) (N := some 61) (v := ?_) (a' := ?_) (tf 45 21) rfl rfl (by kernel_rfl) (fun _ _ _ h => h) (Or.inl ⟨by rfl, ?_⟩) ?_ ?_
  rotate_left
  · intro w'
    go_simp
    with_reducible rfl
  rotate_left
  · simp only [Act.put, List.setIfInBounds_toArray, List.set_cons_zero, List.set_cons_succ]
    rfl
  refine pure_ (i := 21) (N := some 62) (v := ?_) (a' := ?_) (tf 45 22) rfl rfl (by kernel_rfl) (fun _ _ _ h => h) (Or.inl ⟨by rfl, ?_⟩) ?_ ?_
  rotate_left
  · intro w'
    go_simp
    with_reducible rfl
  rotate_left
  · simp only [Act.put, List.setIfInBounds_toArray, List.set_cons_zero, List.set_cons_succ]
    rfl
  refine pure_ (i := 22) (N := some 63) (v := ?_) (a' := ?_) (tf 45 23) rfl rfl (by kernel_rfl) (fun _ _ _ h => h) (Or.inl ⟨by rfl, ?_⟩) ?_ ?_
  rotate_left
  · intro w'
    go_simp
    with_reducible rfl
  rotate_left
  · simp only [Act.put, List.setIfInBounds_toArray, List.set_cons_zero, List.set_cons_succ]
    rfl
  refine take_ (i := 23) (N := some 64) (v := ?_) (a' := ?_) (tf 45 24) rfl rfl (by kernel_rfl) (fun _ _ _ h => h) (Or.inl ⟨by rfl, ?_⟩) hHeld ?_ ?_
  rotate_left
  · rintro w' ⟨s0, s1, s2, s3, s4, s5, s6, s7, s8, s9, s10⟩
    go_simp
    with_reducible rfl
  rotate_left
  · simp only [Act.put, List.setIfInBounds_toArray, List.set_cons_zero, List.set_cons_succ]
    rfl
  refine one_ (i := 24) (N := some 65) (tf 45 25) rfl rfl (by kernel_rfl) (by decide) (fun K hK => ?_)
  refine goes_ Try.func60 (by kernel_rfl) rfl #[.agg #[.int .u8 q.kk, .int .i64 q.kn, .string q.ks]] (by rfl) rfl rfl (by simp only [List.map_toArray, List.map_cons, List.map_nil]; rfl) ?_
  with_reducible refine (of_calls q.kk q.kn q.ks _ HOK.out.kk0 HOK.out.kk1).mono ?_
  rintro e6 w6 ⟨rfl, hB6⟩
  refine ⟨_, rfl, ?_⟩
  have hq6 := blk_below HQ5.out hB6
  have hf6 := blk_below HF5.out hB6
  have hb6 := below_step HB5.out hB6
  refine hK.out _ _ ⟨(blk_cell hq6 0), (blk_cell hq6 5), (blk_cell hq6 6), (blk_cell hq6 7), (blk_cell hq6 8), (blk_cell hq6 9), (blk_cell hq6 10), (blk_cell hq6 11), (blk_cell hq6 12), (rowOf_of hq6 rfl), (rowOf_of hf6 rfl)⟩ (fun hHeld => ?_)
  clear hK K
  refine norm_ (a' := ?_) ?_ ?_
  rotate_left
  · show Act.put _ (some 65) _ = _
    simp only [Act.put, List.setIfInBounds_toArray, List.set_cons_zero, List.set_cons_succ]
    rfl
  refine one_ (i := 25) (N := some 66) (tf 45 26) rfl rfl (by kernel_rfl) (by decide) (fun K hK => ?_)
  refine goes_ Try.func38 (by kernel_rfl) rfl #[.agg #[.int .u8 q.kk, .int .i64 q.kn, .string q.ks]] (by rfl) rfl rfl (by simp only [List.map_toArray, List.map_cons, List.map_nil]; rfl) ?_
  with_reducible refine (right_calls q.kk q.kn q.ks _ _ HRK.out).mono ?_
  rintro e7 w7 ⟨rfl, hB7⟩
  refine ⟨_, rfl, ?_⟩
  have hq7 := blk_below hq6 hB7
  have hf7 := blk_below hf6 hB7
  have hb7 := below_step hb6 hB7
  refine hK.out _ _ ⟨(blk_cell hq7 0), (blk_cell hq7 5), (blk_cell hq7 6), (blk_cell hq7 7), (blk_cell hq7 8), (blk_cell hq7 9), (blk_cell hq7 10), (blk_cell hq7 11), (blk_cell hq7 12), (rowOf_of hq7 rfl), (rowOf_of hf7 rfl)⟩ (fun hHeld => ?_)
  clear hK K
  refine norm_ (a' := ?_) ?_ ?_
  rotate_left
  · show Act.put _ (some 66) _ = _
    simp only [Act.put, List.setIfInBounds_toArray, List.set_cons_zero, List.set_cons_succ]
    rfl
  refine pure_ (i := 26) (N := some 67) (v := ?_) (a' := ?_) (tf 45 27) rfl rfl (by kernel_rfl) (fun _ _ _ h => h) (Or.inl ⟨by rfl, ?_⟩) ?_ ?_
  rotate_left
  · intro w'
    go_simp
    with_reducible rfl
  rotate_left
  · simp only [Act.put, List.setIfInBounds_toArray, List.set_cons_zero, List.set_cons_succ]
    rfl
  refine pure_ (i := 27) (N := some 68) (v := ?_) (a' := ?_) (tf 45 28) rfl rfl (by kernel_rfl) (fun _ _ _ h => h) (Or.inl ⟨by rfl, ?_⟩) ?_ ?_
  rotate_left
  · intro w'
    go_simp
    with_reducible rfl
  rotate_left
  · simp only [Act.put, List.setIfInBounds_toArray, List.set_cons_zero, List.set_cons_succ]
    rfl
  refine pure_ (i := 28) (N := some 69) (v := undef) (a' := ?_) (tf 45 29) rfl rfl (by kernel_rfl) (fun _ _ _ h => h) (Or.inr ⟨by rfl, rfl⟩) ?_ ?_
  rotate_left
  · simp only [Act.put, List.setIfInBounds_toArray, List.set_cons_zero, List.set_cons_succ]
    rfl
  refine pure_ (i := 29) (N := some 70) (v := undef) (a' := ?_) (tf 45 30) rfl rfl (by kernel_rfl) (fun _ _ _ h => h) (Or.inr ⟨by rfl, rfl⟩) ?_ ?_
  rotate_left
  · simp only [Act.put, List.setIfInBounds_toArray, List.set_cons_zero, List.set_cons_succ]
    rfl
  refine pure_ (i := 30) (N := some 71) (v := undef) (a' := ?_) (tf 45 31) rfl rfl (by kernel_rfl) (fun _ _ _ h => h) (Or.inr ⟨by rfl, rfl⟩) ?_ ?_
  rotate_left
  · simp only [Act.put, List.setIfInBounds_toArray, List.set_cons_zero, List.set_cons_succ]
    rfl
  refine pure_ (i := 31) (N := some 72) (v := undef) (a' := ?_) (tf 45 32) rfl rfl (by kernel_rfl) (fun _ _ _ h => h) (Or.inr ⟨by rfl, rfl⟩) ?_ ?_
  rotate_left
  · simp only [Act.put, List.setIfInBounds_toArray, List.set_cons_zero, List.set_cons_succ]
    rfl
  refine pure_ (i := 32) (N := some 73) (v := undef) (a' := ?_) (tf 45 33) rfl rfl (by kernel_rfl) (fun _ _ _ h => h) (Or.inr ⟨by rfl, rfl⟩) ?_ ?_
  rotate_left
  · simp only [Act.put, List.setIfInBounds_toArray, List.set_cons_zero, List.set_cons_succ]
    rfl
  refine pure_ (i := 33) (N := some 74) (v := ?_) (a' := ?_) (tf 45 34) rfl rfl (by kernel_rfl) (fun _ _ _ h => h) (Or.inl ⟨by rfl, ?_⟩) ?_ ?_
  rotate_left
  · intro w'
    go_simp
    with_reducible rfl
  rotate_left
  · simp only [Act.put, List.setIfInBounds_toArray, List.set_cons_zero, List.set_cons_succ]
    rfl
  refine pure_ (i := 34) (N := some 75) (v := ?_) (a' := ?_) (tf 45 35) rfl rfl (by kernel_rfl) (fun _ _ _ h => h) (Or.inl ⟨by rfl, ?_⟩) ?_ ?_
  rotate_left
  · intro w'
    go_simp
    with_reducible rfl
  rotate_left
  · simp only [Act.put, List.setIfInBounds_toArray, List.set_cons_zero, List.set_cons_succ]
    rfl
  refine pure_ (i := 35) (N := some 76) (v := undef) (a' := ?_) (tf 45 36) rfl rfl (by kernel_rfl) (fun _ _ _ h => h) (Or.inr ⟨by rfl, rfl⟩) ?_ ?_
  rotate_left
  · simp only [Act.put, List.setIfInBounds_toArray, List.set_cons_zero, List.set_cons_succ]
    rfl
  refine pure_ (i := 36) (N := some 77) (v := undef) (a' := ?_) (tf 45 37) rfl rfl (by kernel_rfl) (fun _ _ _ h => h) (Or.inr ⟨by rfl, rfl⟩) ?_ ?_
  rotate_left
  · simp only [Act.put, List.setIfInBounds_toArray, List.set_cons_zero, List.set_cons_succ]
    rfl
  refine pure_ (i := 37) (N := some 78) (v := ?_) (a' := ?_) (tf 45 38) rfl rfl (by kernel_rfl) (fun _ _ _ h => h) (Or.inl ⟨by rfl, ?_⟩) ?_ ?_
  rotate_left
  · intro w'
    go_simp
    with_reducible rfl
  rotate_left
  · simp only [Act.put, List.setIfInBounds_toArray, List.set_cons_zero, List.set_cons_succ]
    rfl
  refine pure_ (i := 38) (N := some 79) (v := ?_) (a' := ?_) (tf 45 39) rfl rfl (by kernel_rfl) (fun _ _ _ h => h) (Or.inl ⟨by rfl, ?_⟩) ?_ ?_
  rotate_left
  · intro w'
    go_simp
    with_reducible rfl
  rotate_left
  · simp only [Act.put, List.setIfInBounds_toArray, List.set_cons_zero, List.set_cons_succ]
    rfl
  refine pure_ (i := 39) (N := some 80) (v := undef) (a' := ?_) (tf 45 40) rfl rfl (by kernel_rfl) (fun _ _ _ h => h) (Or.inr ⟨by rfl, rfl⟩) ?_ ?_
  rotate_left
  · simp only [Act.put, List.setIfInBounds_toArray, List.set_cons_zero, List.set_cons_succ]
    rfl
  refine pure_ (i := 40) (N := some 81) (v := undef) (a' := ?_) (tf 45 41) rfl rfl (by kernel_rfl) (fun _ _ _ h => h) (Or.inr ⟨by rfl, rfl⟩) ?_ ?_
  rotate_left
  · simp only [Act.put, List.setIfInBounds_toArray, List.set_cons_zero, List.set_cons_succ]
    rfl
  refine pure_ (i := 41) (N := some 82) (v := undef) (a' := ?_) (tf 45 42) rfl rfl (by kernel_rfl) (fun _ _ _ h => h) (Or.inr ⟨by rfl, rfl⟩) ?_ ?_
  rotate_left
  · simp only [Act.put, List.setIfInBounds_toArray, List.set_cons_zero, List.set_cons_succ]
    rfl
  refine pure_ (i := 42) (N := some 83) (v := undef) (a' := ?_) (tf 45 43) rfl rfl (by kernel_rfl) (fun _ _ _ h => h) (Or.inr ⟨by rfl, rfl⟩) ?_ ?_
  rotate_left
  · simp only [Act.put, List.setIfInBounds_toArray, List.set_cons_zero, List.set_cons_succ]
    rfl
  refine pure_ (i := 43) (N := some 84) (v := ?_) (a' := ?_) (tf 45 44) rfl rfl (by kernel_rfl) (fun _ _ _ h => h) (Or.inl ⟨by rfl, ?_⟩) ?_ ?_
  rotate_left
  · intro w'
    go_simp
    with_reducible rfl
  rotate_left
  · simp only [Act.put, List.setIfInBounds_toArray, List.set_cons_zero, List.set_cons_succ]
    rfl
  refine pure_ (i := 44) (N := some 8) (v := ?_) (a' := ?_) (tf 45 45) rfl rfl (by kernel_rfl) (fun _ _ _ h => h) (Or.inl ⟨by rfl, ?_⟩) ?_ ?_
  rotate_left
  · intro w'
    go_simp
    with_reducible rfl
  rotate_left
  · simp only [Act.put, List.setIfInBounds_toArray, List.set_cons_zero, List.set_cons_succ]
    rfl
  refine done_ (by kernel_rfl) ?_

  have HBZ := Lib.hid hb7
  go_wp2
  go_ret
  exact ⟨rfl, HBZ.out⟩
set_option maxHeartbeats 8000000 in
set_option maxRecDepth 100000 in
theorem no6 (q : Q) (w : World) (ok : Ok q) (hl : q.ks.size + q.vs.size ≤ 9000) (hno : okQ q = false) (r : Q) (ef : Int) (hrr : reqP (encR q) = (r, ef)) (h1 : 1 ≤ q.k) (h2 : q.k ≤ 10) (h3 : 0 ≤ q.fr) (h4 : 0 ≤ q.n) (hrk : rightS ⟨q.kk, q.kn, q.ks⟩ = true) (hrv : rightS ⟨q.vk, q.vn, q.vs⟩ = false) :
    Calls Try.prog 14 #[.agg q.cells] w fun e w' => e = .returned (.bool true) ∧ Below w.heap.size w w' := by
  have hl' : (q.ks.size : Int) + (q.vs.size : Int) ≤ 9000 := by omega
  have HOK := Lib.hid ok
  have HNO := Lib.hid hno
  have HRR := Lib.hid hrr
  have HRK := Lib.hid hrk
  have HRV := Lib.hid hrv
  clear hrk hrv
  clear hno hrr
  clear ok
  go_enter Try.func14, Try.ntmps14
  go_upto_region 6 with (first
    | (go_at_call 54; go_loud (refine (Req.lives_calls _).mono ?_; rintro en w1 ⟨rfl, hB1⟩; have hq1 := blk_below (blk_new w (.cells #[.int .u8 q.k, .int .u64 q.hh, .int .u64 q.hl, .int .u8 q.o, .int .u8 q.c, .int .u8 q.kk, .int .i64 q.kn, .string q.ks, .int .u8 q.vk, .int .i64 q.vn, .string q.vs, .int .i64 q.fr, .int .i64 q.n, .int .u32 q.tw, .int .u8 q.ri, .int .u64 q.oh, .int .u64 q.ol] 104)) hB1; have HQ1 := Lib.hid hq1; have HB1 := Lib.hid (below_step (below_alloc (Below.refl w.heap.size w) _) hB1); have p7 := blk_cell hq1 7; have p10 := blk_cell hq1 10; have hz1 : w.heap.size < w1.heap.size := blk_lt hq1; have hrow1 : rowOf w1 w.heap.size = some #[.int .u8 q.k, .int .u64 q.hh, .int .u64 q.hl, .int .u8 q.o, .int .u8 q.c, .int .u8 q.kk, .int .i64 q.kn, .string q.ks, .int .u8 q.vk, .int .i64 q.vn, .string q.vs, .int .i64 q.fr, .int .i64 q.n, .int .u32 q.tw, .int .u8 q.ri, .int .u64 q.oh, .int .u64 q.ol] := rowOf_of hq1 rfl; clear hB1 hq1))
    | (go_at_call 58; go_loud (refine (Req.encode_calls q _ HOK.out).mono ?_; rintro en w2 (⟨h, _⟩ | ⟨_, rfl, hB2⟩); (rw [HNO.out] at h; cases h); have hq2 := blk_below HQ1.out hB2; have HB2 := Lib.hid (below_step HB1.out hB2); clear hB2; have HQ2 := Lib.hid hq2; have hrow2 : rowOf w2 w.heap.size = some #[.int .u8 q.k, .int .u64 q.hh, .int .u64 q.hl, .int .u8 q.o, .int .u8 q.c, .int .u8 q.kk, .int .i64 q.kn, .string q.ks, .int .u8 q.vk, .int .i64 q.vn, .string q.vs, .int .i64 q.fr, .int .i64 q.n, .int .u32 q.tw, .int .u8 q.ri, .int .u64 q.oh, .int .u64 q.ol] := rowOf_of hq2 rfl; clear hq2))
    | (go_at_call 57; go_loud (have _t := HQ2.out; refine (Req.plain_calls q _ HOK.out.kk0 HOK.out.kk1 HOK.out.vk0 HOK.out.vk1).mono ?_; rintro en w3 ⟨rfl, hB3⟩; have HQ3 := Lib.hid (blk_below HQ2.out hB3); have HB3 := Lib.hid (below_step HB2.out hB3); clear hB3))
    | (go_at_call 59; go_loud (refine (renc_calls q _ HOK.out).mono ?_; intro en w4 hp4; obtain ⟨A4, c4, rfl, hb4, hlt4, hB4⟩ := rpost hp4; have HQ4 := Lib.hid (blk_below HQ3.out hB4); have HBY4 := Lib.hid hb4; have HLT4 := Lib.hid hlt4; have HB4 := Lib.hid (below_step HB3.out hB4); clear hB4 hb4 hlt4 hp4))
    | (go_at_call 56; go_loud (refine (ref_calls A4 c4 (encR q) _ HBY4.out HLT4.out (by have := encR_len q HOK.out; omega) (encR_bs q HOK.out)).mono ?_; unfold RefP; rw [HRR.out]; rintro en w5 ⟨rfl, hB5⟩; have HQ5 := Lib.hid (blk_drew (blk_alloc (blk_below HQ4.out hB5) (.cells #[.int .u8 r.k, .int .u64 r.hh, .int .u64 r.hl, .int .u8 r.o, .int .u8 r.c, .int .u8 r.kk, .int .i64 r.kn, .string r.ks, .int .u8 r.vk, .int .i64 r.vn, .string r.vs, .int .i64 r.fr, .int .i64 r.n, .int .u32 r.tw, .int .u8 r.ri, .int .u64 r.oh, .int .u64 r.ol] 110))); have HF5 := Lib.hid (blk_drew (blk_new w5 (.cells #[.int .u8 r.k, .int .u64 r.hh, .int .u64 r.hl, .int .u8 r.o, .int .u8 r.c, .int .u8 r.kk, .int .i64 r.kn, .string r.ks, .int .u8 r.vk, .int .i64 r.vn, .string r.vs, .int .i64 r.fr, .int .i64 r.n, .int .u32 r.tw, .int .u8 r.ri, .int .u64 r.oh, .int .u64 r.ol] 110))); have HB5 := Lib.hid (below_drew1 (below_alloc (below_step HB4.out hB5) (.cells #[.int .u8 r.k, .int .u64 r.hh, .int .u64 r.hl, .int .u8 r.o, .int .u8 r.c, .int .u8 r.kk, .int .i64 r.kn, .string r.ks, .int .u8 r.vk, .int .i64 r.vn, .string r.vs, .int .i64 r.fr, .int .i64 r.n, .int .u32 r.tw, .int .u8 r.ri, .int .u64 r.oh, .int .u64 r.ol] 110))); clear hB5)))
  have d1 : decide (1 ≤ q.k) = true := by simp; omega
  have d2 : decide (q.k ≤ 10) = true := by simp; omega
  have d3 : decide (0 ≤ q.fr) = true := by simp; omega
  have d4 : decide (0 ≤ q.n) = true := by simp; omega
  go_wp2
  refine start_ (n := 45) (S := fun w' => w'.cell? ⟨w.heap.size, 0, none⟩ = some (.int .u8 q.k) ∧ w'.cell? ⟨w.heap.size, 5, none⟩ = some (.int .u8 q.kk) ∧ w'.cell? ⟨w.heap.size, 6, none⟩ = some (.int .i64 q.kn) ∧ w'.cell? ⟨w.heap.size, 7, none⟩ = some (.string q.ks) ∧ w'.cell? ⟨w.heap.size, 8, none⟩ = some (.int .u8 q.vk) ∧ w'.cell? ⟨w.heap.size, 9, none⟩ = some (.int .i64 q.vn) ∧ w'.cell? ⟨w.heap.size, 10, none⟩ = some (.string q.vs) ∧ w'.cell? ⟨w.heap.size, 11, none⟩ = some (.int .i64 q.fr) ∧ w'.cell? ⟨w.heap.size, 12, none⟩ = some (.int .i64 q.n) ∧ rowOf w' w.heap.size = some #[.int .u8 q.k, .int .u64 q.hh, .int .u64 q.hl, .int .u8 q.o, .int .u8 q.c, .int .u8 q.kk, .int .i64 q.kn, .string q.ks, .int .u8 q.vk, .int .i64 q.vn, .string q.vs, .int .i64 q.fr, .int .i64 q.n, .int .u32 q.tw, .int .u8 q.ri, .int .u64 q.oh, .int .u64 q.ol] ∧ rowOf w' w5.heap.size = some #[.int .u8 r.k, .int .u64 r.hh, .int .u64 r.hl, .int .u8 r.o, .int .u8 r.c, .int .u8 r.kk, .int .i64 r.kn, .string r.ks, .int .u8 r.vk, .int .i64 r.vn, .string r.vs, .int .i64 r.fr, .int .i64 r.n, .int .u32 r.tw, .int .u8 r.ri, .int .u64 r.oh, .int .u64 r.ol]) (ds := []) (tf 45 0) (by kernel_rfl) rfl rfl ⟨(blk_cell HQ5.out 0), (blk_cell HQ5.out 5), (blk_cell HQ5.out 6), (blk_cell HQ5.out 7), (blk_cell HQ5.out 8), (blk_cell HQ5.out 9), (blk_cell HQ5.out 10), (blk_cell HQ5.out 11), (blk_cell HQ5.out 12), (rowOf_of HQ5.out rfl), (rowOf_of HF5.out rfl)⟩ (fun hHeld => ?_)
  refine pure_ (i := 0) (N := some 41) (v := ?_) (a' := ?_) (tf 45 1) rfl rfl (by kernel_rfl) (fun _ _ _ h => h) (Or.inl ⟨by rfl, ?_⟩) ?_ ?_
  rotate_left
  · intro w'
    go_simp
    with_reducible rfl
  rotate_left
  · simp only [Act.put, List.setIfInBounds_toArray, List.set_cons_zero, List.set_cons_succ]
    rfl
  refine take_ (i := 1) (N := some 42) (v := ?_) (a' := ?_) (tf 45 2) rfl rfl (by kernel_rfl) (fun _ _ _ h => h) (Or.inl ⟨by rfl, ?_⟩) hHeld ?_ ?_
  rotate_left
  · rintro w' ⟨s0, s1, s2, s3, s4, s5, s6, s7, s8, s9, s10⟩
    go_simp
    with_reducible rfl
  rotate_left
  · simp only [Act.put, List.setIfInBounds_toArray, List.set_cons_zero, List.set_cons_succ]
    rfl
  refine pure_ (i := 2) (N := some 43) (v := ?_) (a' := ?_) (tf 45 3) rfl rfl (by kernel_rfl) (fun _ _ _ h => h) (Or.inl ⟨by rfl, ?_⟩) ?_ ?_
  rotate_left
  · intro w'
    go_simp
    with_reducible rfl
  rotate_left
  · simp only [Act.put, List.setIfInBounds_toArray, List.set_cons_zero, List.set_cons_succ]
    rfl
  refine pure_ (i := 3) (N := some 44) (v := ?_) (a' := ?_) (tf 45 4) rfl rfl (by kernel_rfl) (fun _ _ _ h => h) (Or.inl ⟨by rfl, ?_⟩) ?_ ?_
  rotate_left
  · intro w'
    go_simp
    with_reducible rfl
  rotate_left
  · simp only [Act.put, List.setIfInBounds_toArray, List.set_cons_zero, List.set_cons_succ]
    rfl
  refine pure_ (i := 4) (N := some 45) (v := ?_) (a' := ?_) (tf 45 5) rfl rfl (by kernel_rfl) (fun _ _ _ h => h) (Or.inl ⟨by rfl, ?_⟩) ?_ ?_
  rotate_left
  · intro w'
    go_simp
    with_reducible rfl
  rotate_left
  · simp only [Act.put, List.setIfInBounds_toArray, List.set_cons_zero, List.set_cons_succ]
    rfl
  refine take_ (i := 5) (N := some 46) (v := ?_) (a' := ?_) (tf 45 6) rfl rfl (by kernel_rfl) (fun _ _ _ h => h) (Or.inl ⟨by rfl, ?_⟩) hHeld ?_ ?_
  rotate_left
  · rintro w' ⟨s0, s1, s2, s3, s4, s5, s6, s7, s8, s9, s10⟩
    go_simp
    with_reducible rfl
  rotate_left
  · simp only [Act.put, List.setIfInBounds_toArray, List.set_cons_zero, List.set_cons_succ]
    rfl
  refine pure_ (i := 6) (N := some 47) (v := ?_) (a' := ?_) (tf 45 7) rfl rfl (by kernel_rfl) (fun _ _ _ h => h) (Or.inl ⟨by rfl, ?_⟩) ?_ ?_
  rotate_left
  · intro w'
    go_simp
    with_reducible rfl
  rotate_left
  · simp only [Act.put, List.setIfInBounds_toArray, List.set_cons_zero, List.set_cons_succ]
    rfl
  refine pure_ (i := 7) (N := some 48) (v := ?_) (a' := ?_) (tf 45 8) rfl rfl (by kernel_rfl) (fun _ _ _ h => h) (Or.inl ⟨by rfl, ?_⟩) ?_ ?_
  rotate_left
  · intro w'
    go_simp
    with_reducible rfl
  rotate_left
  · simp only [Act.put, List.setIfInBounds_toArray, List.set_cons_zero, List.set_cons_succ]
    rfl
  refine pure_ (i := 8) (N := some 49) (v := ?_) (a' := ?_) (tf 45 9) rfl rfl (by kernel_rfl) (fun _ _ _ h => h) (Or.inl ⟨by rfl, ?_⟩) ?_ ?_
  rotate_left
  · intro w'
    go_simp
    with_reducible rfl
  rotate_left
  · simp only [Act.put, List.setIfInBounds_toArray, List.set_cons_zero, List.set_cons_succ]
    rfl
  refine pure_ (i := 9) (N := some 50) (v := ?_) (a' := ?_) (tf 45 10) rfl rfl (by kernel_rfl) (fun _ _ _ h => h) (Or.inl ⟨by rfl, ?_⟩) ?_ ?_
  rotate_left
  · intro w'
    go_simp
    with_reducible rfl
  rotate_left
  · simp only [Act.put, List.setIfInBounds_toArray, List.set_cons_zero, List.set_cons_succ]
    rfl
  refine pure_ (i := 10) (N := some 51) (v := ?_) (a' := ?_) (tf 45 11) rfl rfl (by kernel_rfl) (fun _ _ _ h => h) (Or.inl ⟨by rfl, ?_⟩) ?_ ?_
  rotate_left
  · intro w'
    go_simp
    with_reducible rfl
  rotate_left
  · simp only [Act.put, List.setIfInBounds_toArray, List.set_cons_zero, List.set_cons_succ]
    rfl
  refine take_ (i := 11) (N := some 52) (v := ?_) (a' := ?_) (tf 45 12) rfl rfl (by kernel_rfl) (fun _ _ _ h => h) (Or.inl ⟨by rfl, ?_⟩) hHeld ?_ ?_
  rotate_left
  · rintro w' ⟨s0, s1, s2, s3, s4, s5, s6, s7, s8, s9, s10⟩
    go_simp
    with_reducible rfl
  rotate_left
  · simp only [Act.put, List.setIfInBounds_toArray, List.set_cons_zero, List.set_cons_succ]
    rfl
  refine pure_ (i := 12) (N := some 53) (v := ?_) (a' := ?_) (tf 45 13) rfl rfl (by kernel_rfl) (fun _ _ _ h => h) (Or.inl ⟨by rfl, ?_⟩) ?_ ?_
  rotate_left
  · intro w'
    go_simp
    with_reducible rfl
  rotate_left
  · simp only [Act.put, List.setIfInBounds_toArray, List.set_cons_zero, List.set_cons_succ]
    rfl
  refine pure_ (i := 13) (N := some 54) (v := ?_) (a' := ?_) (tf 45 14) rfl rfl (by kernel_rfl) (fun _ _ _ h => h) (Or.inl ⟨by rfl, ?_⟩) ?_ ?_
  rotate_left
  · intro w'
    go_simp
    with_reducible rfl
  rotate_left
  · simp only [Act.put, List.setIfInBounds_toArray, List.set_cons_zero, List.set_cons_succ]
    rfl
  refine pure_ (i := 14) (N := some 55) (v := ?_) (a' := ?_) (tf 45 15) rfl rfl (by kernel_rfl) (fun _ _ _ h => h) (Or.inl ⟨by rfl, ?_⟩) ?_ ?_
  rotate_left
  · intro w'
    go_simp
    with_reducible rfl
  rotate_left
  · simp only [Act.put, List.setIfInBounds_toArray, List.set_cons_zero, List.set_cons_succ]
    rfl
  refine pure_ (i := 15) (N := some 56) (v := ?_) (a' := ?_) (tf 45 16) rfl rfl (by kernel_rfl) (fun _ _ _ h => h) (Or.inl ⟨by rfl, ?_⟩) ?_ ?_
  rotate_left
  · intro w'
    go_simp
    with_reducible rfl
  rotate_left
  · simp only [Act.put, List.setIfInBounds_toArray, List.set_cons_zero, List.set_cons_succ]
    rfl
  refine pure_ (i := 16) (N := some 57) (v := ?_) (a' := ?_) (tf 45 17) rfl rfl (by kernel_rfl) (fun _ _ _ h => h) (Or.inl ⟨by rfl, ?_⟩) ?_ ?_
  rotate_left
  · intro w'
    go_simp
    with_reducible rfl
  rotate_left
  · simp only [Act.put, List.setIfInBounds_toArray, List.set_cons_zero, List.set_cons_succ]
    rfl
  refine take_ (i := 17) (N := some 58) (v := ?_) (a' := ?_) (tf 45 18) rfl rfl (by kernel_rfl) (fun _ _ _ h => h) (Or.inl ⟨by rfl, ?_⟩) hHeld ?_ ?_
  rotate_left
  · rintro w' ⟨s0, s1, s2, s3, s4, s5, s6, s7, s8, s9, s10⟩
    go_simp
    with_reducible rfl
  rotate_left
  · simp only [Act.put, List.setIfInBounds_toArray, List.set_cons_zero, List.set_cons_succ]
    rfl
  refine pure_ (i := 18) (N := some 59) (v := ?_) (a' := ?_) (tf 45 19) rfl rfl (by kernel_rfl) (fun _ _ _ h => h) (Or.inl ⟨by rfl, ?_⟩) ?_ ?_
  rotate_left
  · intro w'
    go_simp
    with_reducible rfl
  rotate_left
  · simp only [Act.put, List.setIfInBounds_toArray, List.set_cons_zero, List.set_cons_succ]
    rfl
  refine pure_ (i := 19) (N := some 60) (v := ?_) (a' := ?_) (tf 45 20) rfl rfl (by kernel_rfl) (fun _ _ _ h => h) (Or.inl ⟨by rfl, ?_⟩) ?_ ?_
  rotate_left
  · intro w'
    go_simp
    with_reducible rfl
  rotate_left
  · simp only [Act.put, List.setIfInBounds_toArray, List.set_cons_zero, List.set_cons_succ]
    rfl
  refine pure_ (i := 20) (N := some 61) (v := ?_) (a' := ?_) (tf 45 21) rfl rfl (by kernel_rfl) (fun _ _ _ h => h) (Or.inl ⟨by rfl, ?_⟩) ?_ ?_
  rotate_left
  · intro w'
    go_simp
    with_reducible rfl
  rotate_left
  · simp only [Act.put, List.setIfInBounds_toArray, List.set_cons_zero, List.set_cons_succ]
    rfl
  refine pure_ (i := 21) (N := some 62) (v := ?_) (a' := ?_) (tf 45 22) rfl rfl (by kernel_rfl) (fun _ _ _ h => h) (Or.inl ⟨by rfl, ?_⟩) ?_ ?_
  rotate_left
  · intro w'
    go_simp
    with_reducible rfl
  rotate_left
  · simp only [Act.put, List.setIfInBounds_toArray, List.set_cons_zero, List.set_cons_succ]
    rfl
  refine pure_ (i := 22) (N := some 63) (v := ?_) (a' := ?_) (tf 45 23) rfl rfl (by kernel_rfl) (fun _ _ _ h => h) (Or.inl ⟨by rfl, ?_⟩) ?_ ?_
  rotate_left
  · intro w'
    go_simp
    with_reducible rfl
  rotate_left
  · simp only [Act.put, List.setIfInBounds_toArray, List.set_cons_zero, List.set_cons_succ]
    rfl
  refine take_ (i := 23) (N := some 64) (v := ?_) (a' := ?_) (tf 45 24) rfl rfl (by kernel_rfl) (fun _ _ _ h => h) (Or.inl ⟨by rfl, ?_⟩) hHeld ?_ ?_
  rotate_left
  · rintro w' ⟨s0, s1, s2, s3, s4, s5, s6, s7, s8, s9, s10⟩
    go_simp
    with_reducible rfl
  rotate_left
  · simp only [Act.put, List.setIfInBounds_toArray, List.set_cons_zero, List.set_cons_succ]
    rfl
  refine one_ (i := 24) (N := some 65) (tf 45 25) rfl rfl (by kernel_rfl) (by decide) (fun K hK => ?_)
  refine goes_ Try.func60 (by kernel_rfl) rfl #[.agg #[.int .u8 q.kk, .int .i64 q.kn, .string q.ks]] (by rfl) rfl rfl (by simp only [List.map_toArray, List.map_cons, List.map_nil]; rfl) ?_
  with_reducible refine (of_calls q.kk q.kn q.ks _ HOK.out.kk0 HOK.out.kk1).mono ?_
  rintro e6 w6 ⟨rfl, hB6⟩
  refine ⟨_, rfl, ?_⟩
  have hq6 := blk_below HQ5.out hB6
  have hf6 := blk_below HF5.out hB6
  have hb6 := below_step HB5.out hB6
  refine hK.out _ _ ⟨(blk_cell hq6 0), (blk_cell hq6 5), (blk_cell hq6 6), (blk_cell hq6 7), (blk_cell hq6 8), (blk_cell hq6 9), (blk_cell hq6 10), (blk_cell hq6 11), (blk_cell hq6 12), (rowOf_of hq6 rfl), (rowOf_of hf6 rfl)⟩ (fun hHeld => ?_)
  clear hK K
  refine norm_ (a' := ?_) ?_ ?_
  rotate_left
  · show Act.put _ (some 65) _ = _
    simp only [Act.put, List.setIfInBounds_toArray, List.set_cons_zero, List.set_cons_succ]
    rfl
  refine one_ (i := 25) (N := some 66) (tf 45 26) rfl rfl (by kernel_rfl) (by decide) (fun K hK => ?_)
  refine goes_ Try.func38 (by kernel_rfl) rfl #[.agg #[.int .u8 q.kk, .int .i64 q.kn, .string q.ks]] (by rfl) rfl rfl (by simp only [List.map_toArray, List.map_cons, List.map_nil]; rfl) ?_
  with_reducible refine (right_calls q.kk q.kn q.ks _ _ HRK.out).mono ?_
  rintro e7 w7 ⟨rfl, hB7⟩
  refine ⟨_, rfl, ?_⟩
  have hq7 := blk_below hq6 hB7
  have hf7 := blk_below hf6 hB7
  have hb7 := below_step hb6 hB7
  refine hK.out _ _ ⟨(blk_cell hq7 0), (blk_cell hq7 5), (blk_cell hq7 6), (blk_cell hq7 7), (blk_cell hq7 8), (blk_cell hq7 9), (blk_cell hq7 10), (blk_cell hq7 11), (blk_cell hq7 12), (rowOf_of hq7 rfl), (rowOf_of hf7 rfl)⟩ (fun hHeld => ?_)
  clear hK K
  refine norm_ (a' := ?_) ?_ ?_
  rotate_left
  · show Act.put _ (some 66) _ = _
    simp only [Act.put, List.setIfInBounds_toArray, List.set_cons_zero, List.set_cons_succ]
    rfl
  refine pure_ (i := 26) (N := some 67) (v := ?_) (a' := ?_) (tf 45 27) rfl rfl (by kernel_rfl) (fun _ _ _ h => h) (Or.inl ⟨by rfl, ?_⟩) ?_ ?_
  rotate_left
  · intro w'
    go_simp
    with_reducible rfl
  rotate_left
  · simp only [Act.put, List.setIfInBounds_toArray, List.set_cons_zero, List.set_cons_succ]
    rfl
  refine pure_ (i := 27) (N := some 68) (v := ?_) (a' := ?_) (tf 45 28) rfl rfl (by kernel_rfl) (fun _ _ _ h => h) (Or.inl ⟨by rfl, ?_⟩) ?_ ?_
  rotate_left
  · intro w'
    go_simp
    with_reducible rfl
  rotate_left
  · simp only [Act.put, List.setIfInBounds_toArray, List.set_cons_zero, List.set_cons_succ]
    rfl
  refine pure_ (i := 28) (N := some 69) (v := ?_) (a' := ?_) (tf 45 29) rfl rfl (by kernel_rfl) (fun _ _ _ h => h) (Or.inl ⟨by rfl, ?_⟩) ?_ ?_
  rotate_left
  · intro w'
    go_simp
    with_reducible rfl
  rotate_left
  · simp only [Act.put, List.setIfInBounds_toArray, List.set_cons_zero, List.set_cons_succ]
    rfl
  refine pure_ (i := 29) (N := some 70) (v := ?_) (a' := ?_) (tf 45 30) rfl rfl (by kernel_rfl) (fun _ _ _ h => h) (Or.inl ⟨by rfl, ?_⟩) ?_ ?_
  rotate_left
  · intro w'
    go_simp
    with_reducible rfl
  rotate_left
  · simp only [Act.put, List.setIfInBounds_toArray, List.set_cons_zero, List.set_cons_succ]
    rfl
  refine take_ (i := 30) (N := some 71) (v := ?_) (a' := ?_) (tf 45 31) rfl rfl (by kernel_rfl) (fun _ _ _ h => h) (Or.inl ⟨by rfl, ?_⟩) hHeld ?_ ?_
  rotate_left
  · rintro w' ⟨s0, s1, s2, s3, s4, s5, s6, s7, s8, s9, s10⟩
    go_simp
    with_reducible rfl
  rotate_left
  · simp only [Act.put, List.setIfInBounds_toArray, List.set_cons_zero, List.set_cons_succ]
    rfl
  refine one_ (i := 31) (N := some 72) (tf 45 32) rfl rfl (by kernel_rfl) (by decide) (fun K hK => ?_)
  refine goes_ Try.func60 (by kernel_rfl) rfl #[.agg #[.int .u8 q.vk, .int .i64 q.vn, .string q.vs]] (by rfl) rfl rfl (by simp only [List.map_toArray, List.map_cons, List.map_nil]; rfl) ?_
  with_reducible refine (of_calls q.vk q.vn q.vs _ HOK.out.vk0 HOK.out.vk1).mono ?_
  rintro e8 w8 ⟨rfl, hB8⟩
  refine ⟨_, rfl, ?_⟩
  have hq8 := blk_below hq7 hB8
  have hf8 := blk_below hf7 hB8
  have hb8 := below_step hb7 hB8
  refine hK.out _ _ ⟨(blk_cell hq8 0), (blk_cell hq8 5), (blk_cell hq8 6), (blk_cell hq8 7), (blk_cell hq8 8), (blk_cell hq8 9), (blk_cell hq8 10), (blk_cell hq8 11), (blk_cell hq8 12), (rowOf_of hq8 rfl), (rowOf_of hf8 rfl)⟩ (fun hHeld => ?_)
  clear hK K
  refine norm_ (a' := ?_) ?_ ?_
  rotate_left
  · show Act.put _ (some 72) _ = _
    simp only [Act.put, List.setIfInBounds_toArray, List.set_cons_zero, List.set_cons_succ]
    rfl
  refine one_ (i := 32) (N := some 73) (tf 45 33) rfl rfl (by kernel_rfl) (by decide) (fun K hK => ?_)
  refine goes_ Try.func38 (by kernel_rfl) rfl #[.agg #[.int .u8 q.vk, .int .i64 q.vn, .string q.vs]] (by rfl) rfl rfl (by simp only [List.map_toArray, List.map_cons, List.map_nil]; rfl) ?_
  with_reducible refine (right_calls q.vk q.vn q.vs _ _ HRV.out).mono ?_
  rintro e9 w9 ⟨rfl, hB9⟩
  refine ⟨_, rfl, ?_⟩
  have hq9 := blk_below hq8 hB9
  have hf9 := blk_below hf8 hB9
  have hb9 := below_step hb8 hB9
  refine hK.out _ _ ⟨(blk_cell hq9 0), (blk_cell hq9 5), (blk_cell hq9 6), (blk_cell hq9 7), (blk_cell hq9 8), (blk_cell hq9 9), (blk_cell hq9 10), (blk_cell hq9 11), (blk_cell hq9 12), (rowOf_of hq9 rfl), (rowOf_of hf9 rfl)⟩ (fun hHeld => ?_)
  clear hK K
  refine norm_ (a' := ?_) ?_ ?_
  rotate_left
  · show Act.put _ (some 73) _ = _
    simp only [Act.put, List.setIfInBounds_toArray, List.set_cons_zero, List.set_cons_succ]
    rfl
  refine pure_ (i := 33) (N := some 74) (v := ?_) (a' := ?_) (tf 45 34) rfl rfl (by kernel_rfl) (fun _ _ _ h => h) (Or.inl ⟨by rfl, ?_⟩) ?_ ?_
  rotate_left
  · intro w'
    go_simp
    with_reducible rfl
  rotate_left
  · simp only [Act.put, List.setIfInBounds_toArray, List.set_cons_zero, List.set_cons_succ]
    rfl
  refine pure_ (i := 34) (N := some 75) (v := ?_) (a' := ?_) (tf 45 35) rfl rfl (by kernel_rfl) (fun _ _ _ h => h) (Or.inl ⟨by rfl, ?_⟩) ?_ ?_
  rotate_left
  · intro w'
    go_simp
    with_reducible rfl
  rotate_left
  · simp only [Act.put, List.setIfInBounds_toArray, List.set_cons_zero, List.set_cons_succ]
    rfl
  refine pure_ (i := 35) (N := some 76) (v := undef) (a' := ?_) (tf 45 36) rfl rfl (by kernel_rfl) (fun _ _ _ h => h) (Or.inr ⟨by rfl, rfl⟩) ?_ ?_
  rotate_left
  · simp only [Act.put, List.setIfInBounds_toArray, List.set_cons_zero, List.set_cons_succ]
    rfl
  refine pure_ (i := 36) (N := some 77) (v := undef) (a' := ?_) (tf 45 37) rfl rfl (by kernel_rfl) (fun _ _ _ h => h) (Or.inr ⟨by rfl, rfl⟩) ?_ ?_
  rotate_left
  · simp only [Act.put, List.setIfInBounds_toArray, List.set_cons_zero, List.set_cons_succ]
    rfl
  refine pure_ (i := 37) (N := some 78) (v := ?_) (a' := ?_) (tf 45 38) rfl rfl (by kernel_rfl) (fun _ _ _ h => h) (Or.inl ⟨by rfl, ?_⟩) ?_ ?_
  rotate_left
  · intro w'
    go_simp
    with_reducible rfl
  rotate_left
  · simp only [Act.put, List.setIfInBounds_toArray, List.set_cons_zero, List.set_cons_succ]
    rfl
  refine pure_ (i := 38) (N := some 79) (v := ?_) (a' := ?_) (tf 45 39) rfl rfl (by kernel_rfl) (fun _ _ _ h => h) (Or.inl ⟨by rfl, ?_⟩) ?_ ?_
  rotate_left
  · intro w'
    go_simp
    with_reducible rfl
  rotate_left
  · simp only [Act.put, List.setIfInBounds_toArray, List.set_cons_zero, List.set_cons_succ]
    rfl
  refine pure_ (i := 39) (N := some 80) (v := undef) (a' := ?_) (tf 45 40) rfl rfl (by kernel_rfl) (fun _ _ _ h => h) (Or.inr ⟨by rfl, rfl⟩) ?_ ?_
  rotate_left
  · simp only [Act.put, List.setIfInBounds_toArray, List.set_cons_zero, List.set_cons_succ]
    rfl
  refine pure_ (i := 40) (N := some 81) (v := undef) (a' := ?_) (tf 45 41) rfl rfl (by kernel_rfl) (fun _ _ _ h => h) (Or.inr ⟨by rfl, rfl⟩) ?_ ?_
  rotate_left
  · simp only [Act.put, List.setIfInBounds_toArray, List.set_cons_zero, List.set_cons_succ]
    rfl
  refine pure_ (i := 41) (N := some 82) (v := undef) (a' := ?_) (tf 45 42) rfl rfl (by kernel_rfl) (fun _ _ _ h => h) (Or.inr ⟨by rfl, rfl⟩) ?_ ?_
  rotate_left
  · simp only [Act.put, List.setIfInBounds_toArray, List.set_cons_zero, List.set_cons_succ]
    rfl
  refine pure_ (i := 42) (N := some 83) (v := undef) (a' := ?_) (tf 45 43) rfl rfl (by kernel_rfl) (fun _ _ _ h => h) (Or.inr ⟨by rfl, rfl⟩) ?_ ?_
  rotate_left
  · simp only [Act.put, List.setIfInBounds_toArray, List.set_cons_zero, List.set_cons_succ]
    rfl
  refine pure_ (i := 43) (N := some 84) (v := ?_) (a' := ?_) (tf 45 44) rfl rfl (by kernel_rfl) (fun _ _ _ h => h) (Or.inl ⟨by rfl, ?_⟩) ?_ ?_
  rotate_left
  · intro w'
    go_simp
    with_reducible rfl
  rotate_left
  · simp only [Act.put, List.setIfInBounds_toArray, List.set_cons_zero, List.set_cons_succ]
    rfl
  refine pure_ (i := 44) (N := some 8) (v := ?_) (a' := ?_) (tf 45 45) rfl rfl (by kernel_rfl) (fun _ _ _ h => h) (Or.inl ⟨by rfl, ?_⟩) ?_ ?_
  rotate_left
  · intro w'
    go_simp
    with_reducible rfl
  rotate_left
  · simp only [Act.put, List.setIfInBounds_toArray, List.set_cons_zero, List.set_cons_succ]
    rfl
  refine done_ (by kernel_rfl) ?_

  have HBZ := Lib.hid hb9
  go_wp2
  go_ret
  exact ⟨rfl, HBZ.out⟩
set_option maxHeartbeats 8000000 in
set_option maxRecDepth 100000 in
theorem no7 (q : Q) (w : World) (ok : Ok q) (hl : q.ks.size + q.vs.size ≤ 9000) (hno : okQ q = false) (r : Q) (ef : Int) (hrr : reqP (encR q) = (r, ef)) (h1 : 1 ≤ q.k) (h2 : q.k ≤ 10) (h3 : 0 ≤ q.fr) (h4 : 0 ≤ q.n) (hrk : rightS ⟨q.kk, q.kn, q.ks⟩ = true) (hrv : rightS ⟨q.vk, q.vn, q.vs⟩ = true) (hef : ef ≠ 0) :
    Calls Try.prog 14 #[.agg q.cells] w fun e w' => e = .returned (.bool true) ∧ Below w.heap.size w w' := by
  have hl' : (q.ks.size : Int) + (q.vs.size : Int) ≤ 9000 := by omega
  have HOK := Lib.hid ok
  have HNO := Lib.hid hno
  have HRR := Lib.hid hrr
  have HRK := Lib.hid hrk
  have HRV := Lib.hid hrv
  have b7 : (ef == 0) = false := by simpa using hef
  clear hrk hrv hef
  clear hno hrr
  clear ok
  go_enter Try.func14, Try.ntmps14
  go_upto_region 6 with (first
    | (go_at_call 54; go_loud (refine (Req.lives_calls _).mono ?_; rintro en w1 ⟨rfl, hB1⟩; have hq1 := blk_below (blk_new w (.cells #[.int .u8 q.k, .int .u64 q.hh, .int .u64 q.hl, .int .u8 q.o, .int .u8 q.c, .int .u8 q.kk, .int .i64 q.kn, .string q.ks, .int .u8 q.vk, .int .i64 q.vn, .string q.vs, .int .i64 q.fr, .int .i64 q.n, .int .u32 q.tw, .int .u8 q.ri, .int .u64 q.oh, .int .u64 q.ol] 104)) hB1; have HQ1 := Lib.hid hq1; have HB1 := Lib.hid (below_step (below_alloc (Below.refl w.heap.size w) _) hB1); have p7 := blk_cell hq1 7; have p10 := blk_cell hq1 10; have hz1 : w.heap.size < w1.heap.size := blk_lt hq1; have hrow1 : rowOf w1 w.heap.size = some #[.int .u8 q.k, .int .u64 q.hh, .int .u64 q.hl, .int .u8 q.o, .int .u8 q.c, .int .u8 q.kk, .int .i64 q.kn, .string q.ks, .int .u8 q.vk, .int .i64 q.vn, .string q.vs, .int .i64 q.fr, .int .i64 q.n, .int .u32 q.tw, .int .u8 q.ri, .int .u64 q.oh, .int .u64 q.ol] := rowOf_of hq1 rfl; clear hB1 hq1))
    | (go_at_call 58; go_loud (refine (Req.encode_calls q _ HOK.out).mono ?_; rintro en w2 (⟨h, _⟩ | ⟨_, rfl, hB2⟩); (rw [HNO.out] at h; cases h); have hq2 := blk_below HQ1.out hB2; have HB2 := Lib.hid (below_step HB1.out hB2); clear hB2; have HQ2 := Lib.hid hq2; have hrow2 : rowOf w2 w.heap.size = some #[.int .u8 q.k, .int .u64 q.hh, .int .u64 q.hl, .int .u8 q.o, .int .u8 q.c, .int .u8 q.kk, .int .i64 q.kn, .string q.ks, .int .u8 q.vk, .int .i64 q.vn, .string q.vs, .int .i64 q.fr, .int .i64 q.n, .int .u32 q.tw, .int .u8 q.ri, .int .u64 q.oh, .int .u64 q.ol] := rowOf_of hq2 rfl; clear hq2))
    | (go_at_call 57; go_loud (have _t := HQ2.out; refine (Req.plain_calls q _ HOK.out.kk0 HOK.out.kk1 HOK.out.vk0 HOK.out.vk1).mono ?_; rintro en w3 ⟨rfl, hB3⟩; have HQ3 := Lib.hid (blk_below HQ2.out hB3); have HB3 := Lib.hid (below_step HB2.out hB3); clear hB3))
    | (go_at_call 59; go_loud (refine (renc_calls q _ HOK.out).mono ?_; intro en w4 hp4; obtain ⟨A4, c4, rfl, hb4, hlt4, hB4⟩ := rpost hp4; have HQ4 := Lib.hid (blk_below HQ3.out hB4); have HBY4 := Lib.hid hb4; have HLT4 := Lib.hid hlt4; have HB4 := Lib.hid (below_step HB3.out hB4); clear hB4 hb4 hlt4 hp4))
    | (go_at_call 56; go_loud (refine (ref_calls A4 c4 (encR q) _ HBY4.out HLT4.out (by have := encR_len q HOK.out; omega) (encR_bs q HOK.out)).mono ?_; unfold RefP; rw [HRR.out]; rintro en w5 ⟨rfl, hB5⟩; have HQ5 := Lib.hid (blk_drew (blk_alloc (blk_below HQ4.out hB5) (.cells #[.int .u8 r.k, .int .u64 r.hh, .int .u64 r.hl, .int .u8 r.o, .int .u8 r.c, .int .u8 r.kk, .int .i64 r.kn, .string r.ks, .int .u8 r.vk, .int .i64 r.vn, .string r.vs, .int .i64 r.fr, .int .i64 r.n, .int .u32 r.tw, .int .u8 r.ri, .int .u64 r.oh, .int .u64 r.ol] 110))); have HF5 := Lib.hid (blk_drew (blk_new w5 (.cells #[.int .u8 r.k, .int .u64 r.hh, .int .u64 r.hl, .int .u8 r.o, .int .u8 r.c, .int .u8 r.kk, .int .i64 r.kn, .string r.ks, .int .u8 r.vk, .int .i64 r.vn, .string r.vs, .int .i64 r.fr, .int .i64 r.n, .int .u32 r.tw, .int .u8 r.ri, .int .u64 r.oh, .int .u64 r.ol] 110))); have HB5 := Lib.hid (below_drew1 (below_alloc (below_step HB4.out hB5) (.cells #[.int .u8 r.k, .int .u64 r.hh, .int .u64 r.hl, .int .u8 r.o, .int .u8 r.c, .int .u8 r.kk, .int .i64 r.kn, .string r.ks, .int .u8 r.vk, .int .i64 r.vn, .string r.vs, .int .i64 r.fr, .int .i64 r.n, .int .u32 r.tw, .int .u8 r.ri, .int .u64 r.oh, .int .u64 r.ol] 110))); clear hB5)))
  have d1 : decide (1 ≤ q.k) = true := by simp; omega
  have d2 : decide (q.k ≤ 10) = true := by simp; omega
  have d3 : decide (0 ≤ q.fr) = true := by simp; omega
  have d4 : decide (0 ≤ q.n) = true := by simp; omega
  go_wp2
  refine start_ (n := 45) (S := fun w' => w'.cell? ⟨w.heap.size, 0, none⟩ = some (.int .u8 q.k) ∧ w'.cell? ⟨w.heap.size, 5, none⟩ = some (.int .u8 q.kk) ∧ w'.cell? ⟨w.heap.size, 6, none⟩ = some (.int .i64 q.kn) ∧ w'.cell? ⟨w.heap.size, 7, none⟩ = some (.string q.ks) ∧ w'.cell? ⟨w.heap.size, 8, none⟩ = some (.int .u8 q.vk) ∧ w'.cell? ⟨w.heap.size, 9, none⟩ = some (.int .i64 q.vn) ∧ w'.cell? ⟨w.heap.size, 10, none⟩ = some (.string q.vs) ∧ w'.cell? ⟨w.heap.size, 11, none⟩ = some (.int .i64 q.fr) ∧ w'.cell? ⟨w.heap.size, 12, none⟩ = some (.int .i64 q.n) ∧ rowOf w' w.heap.size = some #[.int .u8 q.k, .int .u64 q.hh, .int .u64 q.hl, .int .u8 q.o, .int .u8 q.c, .int .u8 q.kk, .int .i64 q.kn, .string q.ks, .int .u8 q.vk, .int .i64 q.vn, .string q.vs, .int .i64 q.fr, .int .i64 q.n, .int .u32 q.tw, .int .u8 q.ri, .int .u64 q.oh, .int .u64 q.ol] ∧ rowOf w' w5.heap.size = some #[.int .u8 r.k, .int .u64 r.hh, .int .u64 r.hl, .int .u8 r.o, .int .u8 r.c, .int .u8 r.kk, .int .i64 r.kn, .string r.ks, .int .u8 r.vk, .int .i64 r.vn, .string r.vs, .int .i64 r.fr, .int .i64 r.n, .int .u32 r.tw, .int .u8 r.ri, .int .u64 r.oh, .int .u64 r.ol]) (ds := []) (tf 45 0) (by kernel_rfl) rfl rfl ⟨(blk_cell HQ5.out 0), (blk_cell HQ5.out 5), (blk_cell HQ5.out 6), (blk_cell HQ5.out 7), (blk_cell HQ5.out 8), (blk_cell HQ5.out 9), (blk_cell HQ5.out 10), (blk_cell HQ5.out 11), (blk_cell HQ5.out 12), (rowOf_of HQ5.out rfl), (rowOf_of HF5.out rfl)⟩ (fun hHeld => ?_)
  refine pure_ (i := 0) (N := some 41) (v := ?_) (a' := ?_) (tf 45 1) rfl rfl (by kernel_rfl) (fun _ _ _ h => h) (Or.inl ⟨by rfl, ?_⟩) ?_ ?_
  rotate_left
  · intro w'
    go_simp
    with_reducible rfl
  rotate_left
  · simp only [Act.put, List.setIfInBounds_toArray, List.set_cons_zero, List.set_cons_succ]
    rfl
  refine take_ (i := 1) (N := some 42) (v := ?_) (a' := ?_) (tf 45 2) rfl rfl (by kernel_rfl) (fun _ _ _ h => h) (Or.inl ⟨by rfl, ?_⟩) hHeld ?_ ?_
  rotate_left
  · rintro w' ⟨s0, s1, s2, s3, s4, s5, s6, s7, s8, s9, s10⟩
    go_simp
    with_reducible rfl
  rotate_left
  · simp only [Act.put, List.setIfInBounds_toArray, List.set_cons_zero, List.set_cons_succ]
    rfl
  refine pure_ (i := 2) (N := some 43) (v := ?_) (a' := ?_) (tf 45 3) rfl rfl (by kernel_rfl) (fun _ _ _ h => h) (Or.inl ⟨by rfl, ?_⟩) ?_ ?_
  rotate_left
  · intro w'
    go_simp
    with_reducible rfl
  rotate_left
  · simp only [Act.put, List.setIfInBounds_toArray, List.set_cons_zero, List.set_cons_succ]
    rfl
  refine pure_ (i := 3) (N := some 44) (v := ?_) (a' := ?_) (tf 45 4) rfl rfl (by kernel_rfl) (fun _ _ _ h => h) (Or.inl ⟨by rfl, ?_⟩) ?_ ?_
  rotate_left
  · intro w'
    go_simp
    with_reducible rfl
  rotate_left
  · simp only [Act.put, List.setIfInBounds_toArray, List.set_cons_zero, List.set_cons_succ]
    rfl
  refine pure_ (i := 4) (N := some 45) (v := ?_) (a' := ?_) (tf 45 5) rfl rfl (by kernel_rfl) (fun _ _ _ h => h) (Or.inl ⟨by rfl, ?_⟩) ?_ ?_
  rotate_left
  · intro w'
    go_simp
    with_reducible rfl
  rotate_left
  · simp only [Act.put, List.setIfInBounds_toArray, List.set_cons_zero, List.set_cons_succ]
    rfl
  refine take_ (i := 5) (N := some 46) (v := ?_) (a' := ?_) (tf 45 6) rfl rfl (by kernel_rfl) (fun _ _ _ h => h) (Or.inl ⟨by rfl, ?_⟩) hHeld ?_ ?_
  rotate_left
  · rintro w' ⟨s0, s1, s2, s3, s4, s5, s6, s7, s8, s9, s10⟩
    go_simp
    with_reducible rfl
  rotate_left
  · simp only [Act.put, List.setIfInBounds_toArray, List.set_cons_zero, List.set_cons_succ]
    rfl
  refine pure_ (i := 6) (N := some 47) (v := ?_) (a' := ?_) (tf 45 7) rfl rfl (by kernel_rfl) (fun _ _ _ h => h) (Or.inl ⟨by rfl, ?_⟩) ?_ ?_
  rotate_left
  · intro w'
    go_simp
    with_reducible rfl
  rotate_left
  · simp only [Act.put, List.setIfInBounds_toArray, List.set_cons_zero, List.set_cons_succ]
    rfl
  refine pure_ (i := 7) (N := some 48) (v := ?_) (a' := ?_) (tf 45 8) rfl rfl (by kernel_rfl) (fun _ _ _ h => h) (Or.inl ⟨by rfl, ?_⟩) ?_ ?_
  rotate_left
  · intro w'
    go_simp
    with_reducible rfl
  rotate_left
  · simp only [Act.put, List.setIfInBounds_toArray, List.set_cons_zero, List.set_cons_succ]
    rfl
  refine pure_ (i := 8) (N := some 49) (v := ?_) (a' := ?_) (tf 45 9) rfl rfl (by kernel_rfl) (fun _ _ _ h => h) (Or.inl ⟨by rfl, ?_⟩) ?_ ?_
  rotate_left
  · intro w'
    go_simp
    with_reducible rfl
  rotate_left
  · simp only [Act.put, List.setIfInBounds_toArray, List.set_cons_zero, List.set_cons_succ]
    rfl
  refine pure_ (i := 9) (N := some 50) (v := ?_) (a' := ?_) (tf 45 10) rfl rfl (by kernel_rfl) (fun _ _ _ h => h) (Or.inl ⟨by rfl, ?_⟩) ?_ ?_
  rotate_left
  · intro w'
    go_simp
    with_reducible rfl
  rotate_left
  · simp only [Act.put, List.setIfInBounds_toArray, List.set_cons_zero, List.set_cons_succ]
    rfl
  refine pure_ (i := 10) (N := some 51) (v := ?_) (a' := ?_) (tf 45 11) rfl rfl (by kernel_rfl) (fun _ _ _ h => h) (Or.inl ⟨by rfl, ?_⟩) ?_ ?_
  rotate_left
  · intro w'
    go_simp
    with_reducible rfl
  rotate_left
  · simp only [Act.put, List.setIfInBounds_toArray, List.set_cons_zero, List.set_cons_succ]
    rfl
  refine take_ (i := 11) (N := some 52) (v := ?_) (a' := ?_) (tf 45 12) rfl rfl (by kernel_rfl) (fun _ _ _ h => h) (Or.inl ⟨by rfl, ?_⟩) hHeld ?_ ?_
  rotate_left
  · rintro w' ⟨s0, s1, s2, s3, s4, s5, s6, s7, s8, s9, s10⟩
    go_simp
    with_reducible rfl
  rotate_left
  · simp only [Act.put, List.setIfInBounds_toArray, List.set_cons_zero, List.set_cons_succ]
    rfl
  refine pure_ (i := 12) (N := some 53) (v := ?_) (a' := ?_) (tf 45 13) rfl rfl (by kernel_rfl) (fun _ _ _ h => h) (Or.inl ⟨by rfl, ?_⟩) ?_ ?_
  rotate_left
  · intro w'
    go_simp
    with_reducible rfl
  rotate_left
  · simp only [Act.put, List.setIfInBounds_toArray, List.set_cons_zero, List.set_cons_succ]
    rfl
  refine pure_ (i := 13) (N := some 54) (v := ?_) (a' := ?_) (tf 45 14) rfl rfl (by kernel_rfl) (fun _ _ _ h => h) (Or.inl ⟨by rfl, ?_⟩) ?_ ?_
  rotate_left
  · intro w'
    go_simp
    with_reducible rfl
  rotate_left
  · simp only [Act.put, List.setIfInBounds_toArray, List.set_cons_zero, List.set_cons_succ]
    rfl
  refine pure_ (i := 14) (N := some 55) (v := ?_) (a' := ?_) (tf 45 15) rfl rfl (by kernel_rfl) (fun _ _ _ h => h) (Or.inl ⟨by rfl, ?_⟩) ?_ ?_
  rotate_left
  · intro w'
    go_simp
    with_reducible rfl
  rotate_left
  · simp only [Act.put, List.setIfInBounds_toArray, List.set_cons_zero, List.set_cons_succ]
    rfl
  refine pure_ (i := 15) (N := some 56) (v := ?_) (a' := ?_) (tf 45 16) rfl rfl (by kernel_rfl) (fun _ _ _ h => h) (Or.inl ⟨by rfl, ?_⟩) ?_ ?_
  rotate_left
  · intro w'
    go_simp
    with_reducible rfl
  rotate_left
  · simp only [Act.put, List.setIfInBounds_toArray, List.set_cons_zero, List.set_cons_succ]
    rfl
  refine pure_ (i := 16) (N := some 57) (v := ?_) (a' := ?_) (tf 45 17) rfl rfl (by kernel_rfl) (fun _ _ _ h => h) (Or.inl ⟨by rfl, ?_⟩) ?_ ?_
  rotate_left
  · intro w'
    go_simp
    with_reducible rfl
  rotate_left
  · simp only [Act.put, List.setIfInBounds_toArray, List.set_cons_zero, List.set_cons_succ]
    rfl
  refine take_ (i := 17) (N := some 58) (v := ?_) (a' := ?_) (tf 45 18) rfl rfl (by kernel_rfl) (fun _ _ _ h => h) (Or.inl ⟨by rfl, ?_⟩) hHeld ?_ ?_
  rotate_left
  · rintro w' ⟨s0, s1, s2, s3, s4, s5, s6, s7, s8, s9, s10⟩
    go_simp
    with_reducible rfl
  rotate_left
  · simp only [Act.put, List.setIfInBounds_toArray, List.set_cons_zero, List.set_cons_succ]
    rfl
  refine pure_ (i := 18) (N := some 59) (v := ?_) (a' := ?_) (tf 45 19) rfl rfl (by kernel_rfl) (fun _ _ _ h => h) (Or.inl ⟨by rfl, ?_⟩) ?_ ?_
  rotate_left
  · intro w'
    go_simp
    with_reducible rfl
  rotate_left
  · simp only [Act.put, List.setIfInBounds_toArray, List.set_cons_zero, List.set_cons_succ]
    rfl
  refine pure_ (i := 19) (N := some 60) (v := ?_) (a' := ?_) (tf 45 20) rfl rfl (by kernel_rfl) (fun _ _ _ h => h) (Or.inl ⟨by rfl, ?_⟩) ?_ ?_
  rotate_left
  · intro w'
    go_simp
    with_reducible rfl
  rotate_left
  · simp only [Act.put, List.setIfInBounds_toArray, List.set_cons_zero, List.set_cons_succ]
    rfl
  refine pure_ (i := 20) (N := some 61) (v := ?_) (a' := ?_) (tf 45 21) rfl rfl (by kernel_rfl) (fun _ _ _ h => h) (Or.inl ⟨by rfl, ?_⟩) ?_ ?_
  rotate_left
  · intro w'
    go_simp
    with_reducible rfl
  rotate_left
  · simp only [Act.put, List.setIfInBounds_toArray, List.set_cons_zero, List.set_cons_succ]
    rfl
  refine pure_ (i := 21) (N := some 62) (v := ?_) (a' := ?_) (tf 45 22) rfl rfl (by kernel_rfl) (fun _ _ _ h => h) (Or.inl ⟨by rfl, ?_⟩) ?_ ?_
  rotate_left
  · intro w'
    go_simp
    with_reducible rfl
  rotate_left
  · simp only [Act.put, List.setIfInBounds_toArray, List.set_cons_zero, List.set_cons_succ]
    rfl
  refine pure_ (i := 22) (N := some 63) (v := ?_) (a' := ?_) (tf 45 23) rfl rfl (by kernel_rfl) (fun _ _ _ h => h) (Or.inl ⟨by rfl, ?_⟩) ?_ ?_
  rotate_left
  · intro w'
    go_simp
    with_reducible rfl
  rotate_left
  · simp only [Act.put, List.setIfInBounds_toArray, List.set_cons_zero, List.set_cons_succ]
    rfl
  refine take_ (i := 23) (N := some 64) (v := ?_) (a' := ?_) (tf 45 24) rfl rfl (by kernel_rfl) (fun _ _ _ h => h) (Or.inl ⟨by rfl, ?_⟩) hHeld ?_ ?_
  rotate_left
  · rintro w' ⟨s0, s1, s2, s3, s4, s5, s6, s7, s8, s9, s10⟩
    go_simp
    with_reducible rfl
  rotate_left
  · simp only [Act.put, List.setIfInBounds_toArray, List.set_cons_zero, List.set_cons_succ]
    rfl
  refine one_ (i := 24) (N := some 65) (tf 45 25) rfl rfl (by kernel_rfl) (by decide) (fun K hK => ?_)
  refine goes_ Try.func60 (by kernel_rfl) rfl #[.agg #[.int .u8 q.kk, .int .i64 q.kn, .string q.ks]] (by rfl) rfl rfl (by simp only [List.map_toArray, List.map_cons, List.map_nil]; rfl) ?_
  with_reducible refine (of_calls q.kk q.kn q.ks _ HOK.out.kk0 HOK.out.kk1).mono ?_
  rintro e6 w6 ⟨rfl, hB6⟩
  refine ⟨_, rfl, ?_⟩
  have hq6 := blk_below HQ5.out hB6
  have hf6 := blk_below HF5.out hB6
  have hb6 := below_step HB5.out hB6
  refine hK.out _ _ ⟨(blk_cell hq6 0), (blk_cell hq6 5), (blk_cell hq6 6), (blk_cell hq6 7), (blk_cell hq6 8), (blk_cell hq6 9), (blk_cell hq6 10), (blk_cell hq6 11), (blk_cell hq6 12), (rowOf_of hq6 rfl), (rowOf_of hf6 rfl)⟩ (fun hHeld => ?_)
  clear hK K
  refine norm_ (a' := ?_) ?_ ?_
  rotate_left
  · show Act.put _ (some 65) _ = _
    simp only [Act.put, List.setIfInBounds_toArray, List.set_cons_zero, List.set_cons_succ]
    rfl
  refine one_ (i := 25) (N := some 66) (tf 45 26) rfl rfl (by kernel_rfl) (by decide) (fun K hK => ?_)
  refine goes_ Try.func38 (by kernel_rfl) rfl #[.agg #[.int .u8 q.kk, .int .i64 q.kn, .string q.ks]] (by rfl) rfl rfl (by simp only [List.map_toArray, List.map_cons, List.map_nil]; rfl) ?_
  with_reducible refine (right_calls q.kk q.kn q.ks _ _ HRK.out).mono ?_
  rintro e7 w7 ⟨rfl, hB7⟩
  refine ⟨_, rfl, ?_⟩
  have hq7 := blk_below hq6 hB7
  have hf7 := blk_below hf6 hB7
  have hb7 := below_step hb6 hB7
  refine hK.out _ _ ⟨(blk_cell hq7 0), (blk_cell hq7 5), (blk_cell hq7 6), (blk_cell hq7 7), (blk_cell hq7 8), (blk_cell hq7 9), (blk_cell hq7 10), (blk_cell hq7 11), (blk_cell hq7 12), (rowOf_of hq7 rfl), (rowOf_of hf7 rfl)⟩ (fun hHeld => ?_)
  clear hK K
  refine norm_ (a' := ?_) ?_ ?_
  rotate_left
  · show Act.put _ (some 66) _ = _
    simp only [Act.put, List.setIfInBounds_toArray, List.set_cons_zero, List.set_cons_succ]
    rfl
  refine pure_ (i := 26) (N := some 67) (v := ?_) (a' := ?_) (tf 45 27) rfl rfl (by kernel_rfl) (fun _ _ _ h => h) (Or.inl ⟨by rfl, ?_⟩) ?_ ?_
  rotate_left
  · intro w'
    go_simp
    with_reducible rfl
  rotate_left
  · simp only [Act.put, List.setIfInBounds_toArray, List.set_cons_zero, List.set_cons_succ]
    rfl
  refine pure_ (i := 27) (N := some 68) (v := ?_) (a' := ?_) (tf 45 28) rfl rfl (by kernel_rfl) (fun _ _ _ h => h) (Or.inl ⟨by rfl, ?_⟩) ?_ ?_
  rotate_left
  · intro w'
    go_simp
    with_reducible rfl
  rotate_left
  · simp only [Act.put, List.setIfInBounds_toArray, List.set_cons_zero, List.set_cons_succ]
    rfl
  refine pure_ (i := 28) (N := some 69) (v := ?_) (a' := ?_) (tf 45 29) rfl rfl (by kernel_rfl) (fun _ _ _ h => h) (Or.inl ⟨by rfl, ?_⟩) ?_ ?_
  rotate_left
  · intro w'
    go_simp
    with_reducible rfl
  rotate_left
  · simp only [Act.put, List.setIfInBounds_toArray, List.set_cons_zero, List.set_cons_succ]
    rfl
  refine pure_ (i := 29) (N := some 70) (v := ?_) (a' := ?_) (tf 45 30) rfl rfl (by kernel_rfl) (fun _ _ _ h => h) (Or.inl ⟨by rfl, ?_⟩) ?_ ?_
  rotate_left
  · intro w'
    go_simp
    with_reducible rfl
  rotate_left
  · simp only [Act.put, List.setIfInBounds_toArray, List.set_cons_zero, List.set_cons_succ]
    rfl
  refine take_ (i := 30) (N := some 71) (v := ?_) (a' := ?_) (tf 45 31) rfl rfl (by kernel_rfl) (fun _ _ _ h => h) (Or.inl ⟨by rfl, ?_⟩) hHeld ?_ ?_
  rotate_left
  · rintro w' ⟨s0, s1, s2, s3, s4, s5, s6, s7, s8, s9, s10⟩
    go_simp
    with_reducible rfl
  rotate_left
  · simp only [Act.put, List.setIfInBounds_toArray, List.set_cons_zero, List.set_cons_succ]
    rfl
  refine one_ (i := 31) (N := some 72) (tf 45 32) rfl rfl (by kernel_rfl) (by decide) (fun K hK => ?_)
  refine goes_ Try.func60 (by kernel_rfl) rfl #[.agg #[.int .u8 q.vk, .int .i64 q.vn, .string q.vs]] (by rfl) rfl rfl (by simp only [List.map_toArray, List.map_cons, List.map_nil]; rfl) ?_
  with_reducible refine (of_calls q.vk q.vn q.vs _ HOK.out.vk0 HOK.out.vk1).mono ?_
  rintro e8 w8 ⟨rfl, hB8⟩
  refine ⟨_, rfl, ?_⟩
  have hq8 := blk_below hq7 hB8
  have hf8 := blk_below hf7 hB8
  have hb8 := below_step hb7 hB8
  refine hK.out _ _ ⟨(blk_cell hq8 0), (blk_cell hq8 5), (blk_cell hq8 6), (blk_cell hq8 7), (blk_cell hq8 8), (blk_cell hq8 9), (blk_cell hq8 10), (blk_cell hq8 11), (blk_cell hq8 12), (rowOf_of hq8 rfl), (rowOf_of hf8 rfl)⟩ (fun hHeld => ?_)
  clear hK K
  refine norm_ (a' := ?_) ?_ ?_
  rotate_left
  · show Act.put _ (some 72) _ = _
    simp only [Act.put, List.setIfInBounds_toArray, List.set_cons_zero, List.set_cons_succ]
    rfl
  refine one_ (i := 32) (N := some 73) (tf 45 33) rfl rfl (by kernel_rfl) (by decide) (fun K hK => ?_)
  refine goes_ Try.func38 (by kernel_rfl) rfl #[.agg #[.int .u8 q.vk, .int .i64 q.vn, .string q.vs]] (by rfl) rfl rfl (by simp only [List.map_toArray, List.map_cons, List.map_nil]; rfl) ?_
  with_reducible refine (right_calls q.vk q.vn q.vs _ _ HRV.out).mono ?_
  rintro e9 w9 ⟨rfl, hB9⟩
  refine ⟨_, rfl, ?_⟩
  have hq9 := blk_below hq8 hB9
  have hf9 := blk_below hf8 hB9
  have hb9 := below_step hb8 hB9
  refine hK.out _ _ ⟨(blk_cell hq9 0), (blk_cell hq9 5), (blk_cell hq9 6), (blk_cell hq9 7), (blk_cell hq9 8), (blk_cell hq9 9), (blk_cell hq9 10), (blk_cell hq9 11), (blk_cell hq9 12), (rowOf_of hq9 rfl), (rowOf_of hf9 rfl)⟩ (fun hHeld => ?_)
  clear hK K
  refine norm_ (a' := ?_) ?_ ?_
  rotate_left
  · show Act.put _ (some 73) _ = _
    simp only [Act.put, List.setIfInBounds_toArray, List.set_cons_zero, List.set_cons_succ]
    rfl
  refine pure_ (i := 33) (N := some 74) (v := ?_) (a' := ?_) (tf 45 34) rfl rfl (by kernel_rfl) (fun _ _ _ h => h) (Or.inl ⟨by rfl, ?_⟩) ?_ ?_
  rotate_left
  · intro w'
    go_simp
    with_reducible rfl
  rotate_left
  · simp only [Act.put, List.setIfInBounds_toArray, List.set_cons_zero, List.set_cons_succ]
    rfl
  refine pure_ (i := 34) (N := some 75) (v := ?_) (a' := ?_) (tf 45 35) rfl rfl (by kernel_rfl) (fun _ _ _ h => h) (Or.inl ⟨by rfl, ?_⟩) ?_ ?_
  rotate_left
  · intro w'
    go_simp
    with_reducible rfl
  rotate_left
  · simp only [Act.put, List.setIfInBounds_toArray, List.set_cons_zero, List.set_cons_succ]
    rfl
  refine pure_ (i := 35) (N := some 76) (v := ?_) (a' := ?_) (tf 45 36) rfl rfl (by kernel_rfl) (fun _ _ _ h => h) (Or.inl ⟨by rfl, ?_⟩) ?_ ?_
  rotate_left
  · intro w'
    go_simp
    with_reducible rfl
  rotate_left
  · simp only [Act.put, List.setIfInBounds_toArray, List.set_cons_zero, List.set_cons_succ]
    rfl
  refine pure_ (i := 36) (N := some 77) (v := ?_) (a' := ?_) (tf 45 37) rfl rfl (by kernel_rfl) (fun _ _ _ h => h) (Or.inl ⟨by rfl, ?_⟩) ?_ ?_
  rotate_left
  · intro w'
    go_simp
    with_reducible rfl
  rotate_left
  · simp only [Act.put, List.setIfInBounds_toArray, List.set_cons_zero, List.set_cons_succ]
    rfl
  refine pure_ (i := 37) (N := some 78) (v := ?_) (a' := ?_) (tf 45 38) rfl rfl (by kernel_rfl) (fun _ _ _ h => h) (Or.inl ⟨by rfl, ?_⟩) ?_ ?_
  rotate_left
  · intro w'
    go_simp
    with_reducible rfl
  rotate_left
  · simp only [Act.put, List.setIfInBounds_toArray, List.set_cons_zero, List.set_cons_succ]
    rfl
  refine pure_ (i := 38) (N := some 79) (v := ?_) (a' := ?_) (tf 45 39) rfl rfl (by kernel_rfl) (fun _ _ _ h => h) (Or.inl ⟨by rfl, ?_⟩) ?_ ?_
  rotate_left
  · intro w'
    go_simp
    with_reducible rfl
  rotate_left
  · simp only [Act.put, List.setIfInBounds_toArray, List.set_cons_zero, List.set_cons_succ]
    rfl
  refine pure_ (i := 39) (N := some 80) (v := undef) (a' := ?_) (tf 45 40) rfl rfl (by kernel_rfl) (fun _ _ _ h => h) (Or.inr ⟨by rfl, rfl⟩) ?_ ?_
  rotate_left
  · simp only [Act.put, List.setIfInBounds_toArray, List.set_cons_zero, List.set_cons_succ]
    rfl
  refine pure_ (i := 40) (N := some 81) (v := undef) (a' := ?_) (tf 45 41) rfl rfl (by kernel_rfl) (fun _ _ _ h => h) (Or.inr ⟨by rfl, rfl⟩) ?_ ?_
  rotate_left
  · simp only [Act.put, List.setIfInBounds_toArray, List.set_cons_zero, List.set_cons_succ]
    rfl
  refine pure_ (i := 41) (N := some 82) (v := undef) (a' := ?_) (tf 45 42) rfl rfl (by kernel_rfl) (fun _ _ _ h => h) (Or.inr ⟨by rfl, rfl⟩) ?_ ?_
  rotate_left
  · simp only [Act.put, List.setIfInBounds_toArray, List.set_cons_zero, List.set_cons_succ]
    rfl
  refine pure_ (i := 42) (N := some 83) (v := undef) (a' := ?_) (tf 45 43) rfl rfl (by kernel_rfl) (fun _ _ _ h => h) (Or.inr ⟨by rfl, rfl⟩) ?_ ?_
  rotate_left
  · simp only [Act.put, List.setIfInBounds_toArray, List.set_cons_zero, List.set_cons_succ]
    rfl
  refine pure_ (i := 43) (N := some 84) (v := ?_) (a' := ?_) (tf 45 44) rfl rfl (by kernel_rfl) (fun _ _ _ h => h) (Or.inl ⟨by rfl, ?_⟩) ?_ ?_
  rotate_left
  · intro w'
    go_simp
    with_reducible rfl
  rotate_left
  · simp only [Act.put, List.setIfInBounds_toArray, List.set_cons_zero, List.set_cons_succ]
    rfl
  refine pure_ (i := 44) (N := some 8) (v := ?_) (a' := ?_) (tf 45 45) rfl rfl (by kernel_rfl) (fun _ _ _ h => h) (Or.inl ⟨by rfl, ?_⟩) ?_ ?_
  rotate_left
  · intro w'
    go_simp
    with_reducible rfl
  rotate_left
  · simp only [Act.put, List.setIfInBounds_toArray, List.set_cons_zero, List.set_cons_succ]
    rfl
  refine done_ (by kernel_rfl) ?_

  have HBZ := Lib.hid hb9
  go_wp2
  go_ret
  exact ⟨rfl, HBZ.out⟩
set_option maxHeartbeats 8000000 in
set_option maxRecDepth 100000 in
theorem no8 (q : Q) (w : World) (ok : Ok q) (hl : q.ks.size + q.vs.size ≤ 9000) (hno : okQ q = false) (r : Q) (ef : Int) (hrr : reqP (encR q) = (r, ef)) (h1 : 1 ≤ q.k) (h2 : q.k ≤ 10) (h3 : 0 ≤ q.fr) (h4 : 0 ≤ q.n) (hrk : rightS ⟨q.kk, q.kn, q.ks⟩ = true) (hrv : rightS ⟨q.vk, q.vn, q.vs⟩ = true) (hef : ef = 0) (hsm : sameQ r q = false) :
    Calls Try.prog 14 #[.agg q.cells] w fun e w' => e = .returned (.bool true) ∧ Below w.heap.size w w' := by
  have hl' : (q.ks.size : Int) + (q.vs.size : Int) ≤ 9000 := by omega
  have HOK := Lib.hid ok
  have HNO := Lib.hid hno
  have HRR := Lib.hid hrr
  have HRK := Lib.hid hrk
  have HRV := Lib.hid hrv
  subst hef
  have HSM : sameQ ⟨r.k, r.hh, r.hl, r.o, r.c, r.kk, r.kn, r.ks, r.vk, r.vn, r.vs, r.fr, r.n, r.tw, r.ri, r.oh, r.ol⟩ ⟨q.k, q.hh, q.hl, q.o, q.c, q.kk, q.kn, q.ks, q.vk, q.vn, q.vs, q.fr, q.n, q.tw, q.ri, q.oh, q.ol⟩ = false := hsm
  clear hrk hrv hsm
  clear hno hrr
  clear ok
  go_enter Try.func14, Try.ntmps14
  go_upto_region 6 with (first
    | (go_at_call 54; go_loud (refine (Req.lives_calls _).mono ?_; rintro en w1 ⟨rfl, hB1⟩; have hq1 := blk_below (blk_new w (.cells #[.int .u8 q.k, .int .u64 q.hh, .int .u64 q.hl, .int .u8 q.o, .int .u8 q.c, .int .u8 q.kk, .int .i64 q.kn, .string q.ks, .int .u8 q.vk, .int .i64 q.vn, .string q.vs, .int .i64 q.fr, .int .i64 q.n, .int .u32 q.tw, .int .u8 q.ri, .int .u64 q.oh, .int .u64 q.ol] 104)) hB1; have HQ1 := Lib.hid hq1; have HB1 := Lib.hid (below_step (below_alloc (Below.refl w.heap.size w) _) hB1); have p7 := blk_cell hq1 7; have p10 := blk_cell hq1 10; have hz1 : w.heap.size < w1.heap.size := blk_lt hq1; have hrow1 : rowOf w1 w.heap.size = some #[.int .u8 q.k, .int .u64 q.hh, .int .u64 q.hl, .int .u8 q.o, .int .u8 q.c, .int .u8 q.kk, .int .i64 q.kn, .string q.ks, .int .u8 q.vk, .int .i64 q.vn, .string q.vs, .int .i64 q.fr, .int .i64 q.n, .int .u32 q.tw, .int .u8 q.ri, .int .u64 q.oh, .int .u64 q.ol] := rowOf_of hq1 rfl; clear hB1 hq1))
    | (go_at_call 58; go_loud (refine (Req.encode_calls q _ HOK.out).mono ?_; rintro en w2 (⟨h, _⟩ | ⟨_, rfl, hB2⟩); (rw [HNO.out] at h; cases h); have hq2 := blk_below HQ1.out hB2; have HB2 := Lib.hid (below_step HB1.out hB2); clear hB2; have HQ2 := Lib.hid hq2; have hrow2 : rowOf w2 w.heap.size = some #[.int .u8 q.k, .int .u64 q.hh, .int .u64 q.hl, .int .u8 q.o, .int .u8 q.c, .int .u8 q.kk, .int .i64 q.kn, .string q.ks, .int .u8 q.vk, .int .i64 q.vn, .string q.vs, .int .i64 q.fr, .int .i64 q.n, .int .u32 q.tw, .int .u8 q.ri, .int .u64 q.oh, .int .u64 q.ol] := rowOf_of hq2 rfl; clear hq2))
    | (go_at_call 57; go_loud (have _t := HQ2.out; refine (Req.plain_calls q _ HOK.out.kk0 HOK.out.kk1 HOK.out.vk0 HOK.out.vk1).mono ?_; rintro en w3 ⟨rfl, hB3⟩; have HQ3 := Lib.hid (blk_below HQ2.out hB3); have HB3 := Lib.hid (below_step HB2.out hB3); clear hB3))
    | (go_at_call 59; go_loud (refine (renc_calls q _ HOK.out).mono ?_; intro en w4 hp4; obtain ⟨A4, c4, rfl, hb4, hlt4, hB4⟩ := rpost hp4; have HQ4 := Lib.hid (blk_below HQ3.out hB4); have HBY4 := Lib.hid hb4; have HLT4 := Lib.hid hlt4; have HB4 := Lib.hid (below_step HB3.out hB4); clear hB4 hb4 hlt4 hp4))
    | (go_at_call 56; go_loud (refine (ref_calls A4 c4 (encR q) _ HBY4.out HLT4.out (by have := encR_len q HOK.out; omega) (encR_bs q HOK.out)).mono ?_; unfold RefP; rw [HRR.out]; rintro en w5 ⟨rfl, hB5⟩; have HQ5 := Lib.hid (blk_drew (blk_alloc (blk_below HQ4.out hB5) (.cells #[.int .u8 r.k, .int .u64 r.hh, .int .u64 r.hl, .int .u8 r.o, .int .u8 r.c, .int .u8 r.kk, .int .i64 r.kn, .string r.ks, .int .u8 r.vk, .int .i64 r.vn, .string r.vs, .int .i64 r.fr, .int .i64 r.n, .int .u32 r.tw, .int .u8 r.ri, .int .u64 r.oh, .int .u64 r.ol] 110))); have HF5 := Lib.hid (blk_drew (blk_new w5 (.cells #[.int .u8 r.k, .int .u64 r.hh, .int .u64 r.hl, .int .u8 r.o, .int .u8 r.c, .int .u8 r.kk, .int .i64 r.kn, .string r.ks, .int .u8 r.vk, .int .i64 r.vn, .string r.vs, .int .i64 r.fr, .int .i64 r.n, .int .u32 r.tw, .int .u8 r.ri, .int .u64 r.oh, .int .u64 r.ol] 110))); have HB5 := Lib.hid (below_drew1 (below_alloc (below_step HB4.out hB5) (.cells #[.int .u8 r.k, .int .u64 r.hh, .int .u64 r.hl, .int .u8 r.o, .int .u8 r.c, .int .u8 r.kk, .int .i64 r.kn, .string r.ks, .int .u8 r.vk, .int .i64 r.vn, .string r.vs, .int .i64 r.fr, .int .i64 r.n, .int .u32 r.tw, .int .u8 r.ri, .int .u64 r.oh, .int .u64 r.ol] 110))); clear hB5)))
  have d1 : decide (1 ≤ q.k) = true := by simp; omega
  have d2 : decide (q.k ≤ 10) = true := by simp; omega
  have d3 : decide (0 ≤ q.fr) = true := by simp; omega
  have d4 : decide (0 ≤ q.n) = true := by simp; omega
  go_wp2
  refine start_ (n := 45) (S := fun w' => w'.cell? ⟨w.heap.size, 0, none⟩ = some (.int .u8 q.k) ∧ w'.cell? ⟨w.heap.size, 5, none⟩ = some (.int .u8 q.kk) ∧ w'.cell? ⟨w.heap.size, 6, none⟩ = some (.int .i64 q.kn) ∧ w'.cell? ⟨w.heap.size, 7, none⟩ = some (.string q.ks) ∧ w'.cell? ⟨w.heap.size, 8, none⟩ = some (.int .u8 q.vk) ∧ w'.cell? ⟨w.heap.size, 9, none⟩ = some (.int .i64 q.vn) ∧ w'.cell? ⟨w.heap.size, 10, none⟩ = some (.string q.vs) ∧ w'.cell? ⟨w.heap.size, 11, none⟩ = some (.int .i64 q.fr) ∧ w'.cell? ⟨w.heap.size, 12, none⟩ = some (.int .i64 q.n) ∧ rowOf w' w.heap.size = some #[.int .u8 q.k, .int .u64 q.hh, .int .u64 q.hl, .int .u8 q.o, .int .u8 q.c, .int .u8 q.kk, .int .i64 q.kn, .string q.ks, .int .u8 q.vk, .int .i64 q.vn, .string q.vs, .int .i64 q.fr, .int .i64 q.n, .int .u32 q.tw, .int .u8 q.ri, .int .u64 q.oh, .int .u64 q.ol] ∧ rowOf w' w5.heap.size = some #[.int .u8 r.k, .int .u64 r.hh, .int .u64 r.hl, .int .u8 r.o, .int .u8 r.c, .int .u8 r.kk, .int .i64 r.kn, .string r.ks, .int .u8 r.vk, .int .i64 r.vn, .string r.vs, .int .i64 r.fr, .int .i64 r.n, .int .u32 r.tw, .int .u8 r.ri, .int .u64 r.oh, .int .u64 r.ol]) (ds := []) (tf 45 0) (by kernel_rfl) rfl rfl ⟨(blk_cell HQ5.out 0), (blk_cell HQ5.out 5), (blk_cell HQ5.out 6), (blk_cell HQ5.out 7), (blk_cell HQ5.out 8), (blk_cell HQ5.out 9), (blk_cell HQ5.out 10), (blk_cell HQ5.out 11), (blk_cell HQ5.out 12), (rowOf_of HQ5.out rfl), (rowOf_of HF5.out rfl)⟩ (fun hHeld => ?_)
  refine pure_ (i := 0) (N := some 41) (v := ?_) (a' := ?_) (tf 45 1) rfl rfl (by kernel_rfl) (fun _ _ _ h => h) (Or.inl ⟨by rfl, ?_⟩) ?_ ?_
  rotate_left
  · intro w'
    go_simp
    with_reducible rfl
  rotate_left
  · simp only [Act.put, List.setIfInBounds_toArray, List.set_cons_zero, List.set_cons_succ]
    rfl
  refine take_ (i := 1) (N := some 42) (v := ?_) (a' := ?_) (tf 45 2) rfl rfl (by kernel_rfl) (fun _ _ _ h => h) (Or.inl ⟨by rfl, ?_⟩) hHeld ?_ ?_
  rotate_left
  · rintro w' ⟨s0, s1, s2, s3, s4, s5, s6, s7, s8, s9, s10⟩
    go_simp
    with_reducible rfl
  rotate_left
  · simp only [Act.put, List.setIfInBounds_toArray, List.set_cons_zero, List.set_cons_succ]
    rfl
  refine pure_ (i := 2) (N := some 43) (v := ?_) (a' := ?_) (tf 45 3) rfl rfl (by kernel_rfl) (fun _ _ _ h => h) (Or.inl ⟨by rfl, ?_⟩) ?_ ?_
  rotate_left
  · intro w'
    go_simp
    with_reducible rfl
  rotate_left
  · simp only [Act.put, List.setIfInBounds_toArray, List.set_cons_zero, List.set_cons_succ]
    rfl
  refine pure_ (i := 3) (N := some 44) (v := ?_) (a' := ?_) (tf 45 4) rfl rfl (by kernel_rfl) (fun _ _ _ h => h) (Or.inl ⟨by rfl, ?_⟩) ?_ ?_
  rotate_left
  · intro w'
    go_simp
    with_reducible rfl
  rotate_left
  · simp only [Act.put, List.setIfInBounds_toArray, List.set_cons_zero, List.set_cons_succ]
    rfl
  refine pure_ (i := 4) (N := some 45) (v := ?_) (a' := ?_) (tf 45 5) rfl rfl (by kernel_rfl) (fun _ _ _ h => h) (Or.inl ⟨by rfl, ?_⟩) ?_ ?_
  rotate_left
  · intro w'
    go_simp
    with_reducible rfl
  rotate_left
  · simp only [Act.put, List.setIfInBounds_toArray, List.set_cons_zero, List.set_cons_succ]
    rfl
  refine take_ (i := 5) (N := some 46) (v := ?_) (a' := ?_) (tf 45 6) rfl rfl (by kernel_rfl) (fun _ _ _ h => h) (Or.inl ⟨by rfl, ?_⟩) hHeld ?_ ?_
  rotate_left
  · rintro w' ⟨s0, s1, s2, s3, s4, s5, s6, s7, s8, s9, s10⟩
    go_simp
    with_reducible rfl
  rotate_left
  · simp only [Act.put, List.setIfInBounds_toArray, List.set_cons_zero, List.set_cons_succ]
    rfl
  refine pure_ (i := 6) (N := some 47) (v := ?_) (a' := ?_) (tf 45 7) rfl rfl (by kernel_rfl) (fun _ _ _ h => h) (Or.inl ⟨by rfl, ?_⟩) ?_ ?_
  rotate_left
  · intro w'
    go_simp
    with_reducible rfl
  rotate_left
  · simp only [Act.put, List.setIfInBounds_toArray, List.set_cons_zero, List.set_cons_succ]
    rfl
  refine pure_ (i := 7) (N := some 48) (v := ?_) (a' := ?_) (tf 45 8) rfl rfl (by kernel_rfl) (fun _ _ _ h => h) (Or.inl ⟨by rfl, ?_⟩) ?_ ?_
  rotate_left
  · intro w'
    go_simp
    with_reducible rfl
  rotate_left
  · simp only [Act.put, List.setIfInBounds_toArray, List.set_cons_zero, List.set_cons_succ]
    rfl
  refine pure_ (i := 8) (N := some 49) (v := ?_) (a' := ?_) (tf 45 9) rfl rfl (by kernel_rfl) (fun _ _ _ h => h) (Or.inl ⟨by rfl, ?_⟩) ?_ ?_
  rotate_left
  · intro w'
    go_simp
    with_reducible rfl
  rotate_left
  · simp only [Act.put, List.setIfInBounds_toArray, List.set_cons_zero, List.set_cons_succ]
    rfl
  refine pure_ (i := 9) (N := some 50) (v := ?_) (a' := ?_) (tf 45 10) rfl rfl (by kernel_rfl) (fun _ _ _ h => h) (Or.inl ⟨by rfl, ?_⟩) ?_ ?_
  rotate_left
  · intro w'
    go_simp
    with_reducible rfl
  rotate_left
  · simp only [Act.put, List.setIfInBounds_toArray, List.set_cons_zero, List.set_cons_succ]
    rfl
  refine pure_ (i := 10) (N := some 51) (v := ?_) (a' := ?_) (tf 45 11) rfl rfl (by kernel_rfl) (fun _ _ _ h => h) (Or.inl ⟨by rfl, ?_⟩) ?_ ?_
  rotate_left
  · intro w'
    go_simp
    with_reducible rfl
  rotate_left
  · simp only [Act.put, List.setIfInBounds_toArray, List.set_cons_zero, List.set_cons_succ]
    rfl
  refine take_ (i := 11) (N := some 52) (v := ?_) (a' := ?_) (tf 45 12) rfl rfl (by kernel_rfl) (fun _ _ _ h => h) (Or.inl ⟨by rfl, ?_⟩) hHeld ?_ ?_
  rotate_left
  · rintro w' ⟨s0, s1, s2, s3, s4, s5, s6, s7, s8, s9, s10⟩
    go_simp
    with_reducible rfl
  rotate_left
  · simp only [Act.put, List.setIfInBounds_toArray, List.set_cons_zero, List.set_cons_succ]
    rfl
  refine pure_ (i := 12) (N := some 53) (v := ?_) (a' := ?_) (tf 45 13) rfl rfl (by kernel_rfl) (fun _ _ _ h => h) (Or.inl ⟨by rfl, ?_⟩) ?_ ?_
  rotate_left
  · intro w'
    go_simp
    with_reducible rfl
  rotate_left
  · simp only [Act.put, List.setIfInBounds_toArray, List.set_cons_zero, List.set_cons_succ]
    rfl
  refine pure_ (i := 13) (N := some 54) (v := ?_) (a' := ?_) (tf 45 14) rfl rfl (by kernel_rfl) (fun _ _ _ h => h) (Or.inl ⟨by rfl, ?_⟩) ?_ ?_
  rotate_left
  · intro w'
    go_simp
    with_reducible rfl
  rotate_left
  · simp only [Act.put, List.setIfInBounds_toArray, List.set_cons_zero, List.set_cons_succ]
    rfl
  refine pure_ (i := 14) (N := some 55) (v := ?_) (a' := ?_) (tf 45 15) rfl rfl (by kernel_rfl) (fun _ _ _ h => h) (Or.inl ⟨by rfl, ?_⟩) ?_ ?_
  rotate_left
  · intro w'
    go_simp
    with_reducible rfl
  rotate_left
  · simp only [Act.put, List.setIfInBounds_toArray, List.set_cons_zero, List.set_cons_succ]
    rfl
  refine pure_ (i := 15) (N := some 56) (v := ?_) (a' := ?_) (tf 45 16) rfl rfl (by kernel_rfl) (fun _ _ _ h => h) (Or.inl ⟨by rfl, ?_⟩) ?_ ?_
  rotate_left
  · intro w'
    go_simp
    with_reducible rfl
  rotate_left
  · simp only [Act.put, List.setIfInBounds_toArray, List.set_cons_zero, List.set_cons_succ]
    rfl
  refine pure_ (i := 16) (N := some 57) (v := ?_) (a' := ?_) (tf 45 17) rfl rfl (by kernel_rfl) (fun _ _ _ h => h) (Or.inl ⟨by rfl, ?_⟩) ?_ ?_
  rotate_left
  · intro w'
    go_simp
    with_reducible rfl
  rotate_left
  · simp only [Act.put, List.setIfInBounds_toArray, List.set_cons_zero, List.set_cons_succ]
    rfl
  refine take_ (i := 17) (N := some 58) (v := ?_) (a' := ?_) (tf 45 18) rfl rfl (by kernel_rfl) (fun _ _ _ h => h) (Or.inl ⟨by rfl, ?_⟩) hHeld ?_ ?_
  rotate_left
  · rintro w' ⟨s0, s1, s2, s3, s4, s5, s6, s7, s8, s9, s10⟩
    go_simp
    with_reducible rfl
  rotate_left
  · simp only [Act.put, List.setIfInBounds_toArray, List.set_cons_zero, List.set_cons_succ]
    rfl
  refine pure_ (i := 18) (N := some 59) (v := ?_) (a' := ?_) (tf 45 19) rfl rfl (by kernel_rfl) (fun _ _ _ h => h) (Or.inl ⟨by rfl, ?_⟩) ?_ ?_
  rotate_left
  · intro w'
    go_simp
    with_reducible rfl
  rotate_left
  · simp only [Act.put, List.setIfInBounds_toArray, List.set_cons_zero, List.set_cons_succ]
    rfl
  refine pure_ (i := 19) (N := some 60) (v := ?_) (a' := ?_) (tf 45 20) rfl rfl (by kernel_rfl) (fun _ _ _ h => h) (Or.inl ⟨by rfl, ?_⟩) ?_ ?_
  rotate_left
  · intro w'
    go_simp
    with_reducible rfl
  rotate_left
  · simp only [Act.put, List.setIfInBounds_toArray, List.set_cons_zero, List.set_cons_succ]
    rfl
  refine pure_ (i := 20) (N := some 61) (v := ?_) (a' := ?_) (tf 45 21) rfl rfl (by kernel_rfl) (fun _ _ _ h => h) (Or.inl ⟨by rfl, ?_⟩) ?_ ?_
  rotate_left
  · intro w'
    go_simp
    with_reducible rfl
  rotate_left
  · simp only [Act.put, List.setIfInBounds_toArray, List.set_cons_zero, List.set_cons_succ]
    rfl
  refine pure_ (i := 21) (N := some 62) (v := ?_) (a' := ?_) (tf 45 22) rfl rfl (by kernel_rfl) (fun _ _ _ h => h) (Or.inl ⟨by rfl, ?_⟩) ?_ ?_
  rotate_left
  · intro w'
    go_simp
    with_reducible rfl
  rotate_left
  · simp only [Act.put, List.setIfInBounds_toArray, List.set_cons_zero, List.set_cons_succ]
    rfl
  refine pure_ (i := 22) (N := some 63) (v := ?_) (a' := ?_) (tf 45 23) rfl rfl (by kernel_rfl) (fun _ _ _ h => h) (Or.inl ⟨by rfl, ?_⟩) ?_ ?_
  rotate_left
  · intro w'
    go_simp
    with_reducible rfl
  rotate_left
  · simp only [Act.put, List.setIfInBounds_toArray, List.set_cons_zero, List.set_cons_succ]
    rfl
  refine take_ (i := 23) (N := some 64) (v := ?_) (a' := ?_) (tf 45 24) rfl rfl (by kernel_rfl) (fun _ _ _ h => h) (Or.inl ⟨by rfl, ?_⟩) hHeld ?_ ?_
  rotate_left
  · rintro w' ⟨s0, s1, s2, s3, s4, s5, s6, s7, s8, s9, s10⟩
    go_simp
    with_reducible rfl
  rotate_left
  · simp only [Act.put, List.setIfInBounds_toArray, List.set_cons_zero, List.set_cons_succ]
    rfl
  refine one_ (i := 24) (N := some 65) (tf 45 25) rfl rfl (by kernel_rfl) (by decide) (fun K hK => ?_)
  refine goes_ Try.func60 (by kernel_rfl) rfl #[.agg #[.int .u8 q.kk, .int .i64 q.kn, .string q.ks]] (by rfl) rfl rfl (by simp only [List.map_toArray, List.map_cons, List.map_nil]; rfl) ?_
  with_reducible refine (of_calls q.kk q.kn q.ks _ HOK.out.kk0 HOK.out.kk1).mono ?_
  rintro e6 w6 ⟨rfl, hB6⟩
  refine ⟨_, rfl, ?_⟩
  have hq6 := blk_below HQ5.out hB6
  have hf6 := blk_below HF5.out hB6
  have hb6 := below_step HB5.out hB6
  refine hK.out _ _ ⟨(blk_cell hq6 0), (blk_cell hq6 5), (blk_cell hq6 6), (blk_cell hq6 7), (blk_cell hq6 8), (blk_cell hq6 9), (blk_cell hq6 10), (blk_cell hq6 11), (blk_cell hq6 12), (rowOf_of hq6 rfl), (rowOf_of hf6 rfl)⟩ (fun hHeld => ?_)
  clear hK K
  refine norm_ (a' := ?_) ?_ ?_
  rotate_left
  · show Act.put _ (some 65) _ = _
    simp only [Act.put, List.setIfInBounds_toArray, List.set_cons_zero, List.set_cons_succ]
    rfl
  refine one_ (i := 25) (N := some 66) (tf 45 26) rfl rfl (by kernel_rfl) (by decide) (fun K hK => ?_)
  refine goes_ Try.func38 (by kernel_rfl) rfl #[.agg #[.int .u8 q.kk, .int .i64 q.kn, .string q.ks]] (by rfl) rfl rfl (by simp only [List.map_toArray, List.map_cons, List.map_nil]; rfl) ?_
  with_reducible refine (right_calls q.kk q.kn q.ks _ _ HRK.out).mono ?_
  rintro e7 w7 ⟨rfl, hB7⟩
  refine ⟨_, rfl, ?_⟩
  have hq7 := blk_below hq6 hB7
  have hf7 := blk_below hf6 hB7
  have hb7 := below_step hb6 hB7
  refine hK.out _ _ ⟨(blk_cell hq7 0), (blk_cell hq7 5), (blk_cell hq7 6), (blk_cell hq7 7), (blk_cell hq7 8), (blk_cell hq7 9), (blk_cell hq7 10), (blk_cell hq7 11), (blk_cell hq7 12), (rowOf_of hq7 rfl), (rowOf_of hf7 rfl)⟩ (fun hHeld => ?_)
  clear hK K
  refine norm_ (a' := ?_) ?_ ?_
  rotate_left
  · show Act.put _ (some 66) _ = _
    simp only [Act.put, List.setIfInBounds_toArray, List.set_cons_zero, List.set_cons_succ]
    rfl
  refine pure_ (i := 26) (N := some 67) (v := ?_) (a' := ?_) (tf 45 27) rfl rfl (by kernel_rfl) (fun _ _ _ h => h) (Or.inl ⟨by rfl, ?_⟩) ?_ ?_
  rotate_left
  · intro w'
    go_simp
    with_reducible rfl
  rotate_left
  · simp only [Act.put, List.setIfInBounds_toArray, List.set_cons_zero, List.set_cons_succ]
    rfl
  refine pure_ (i := 27) (N := some 68) (v := ?_) (a' := ?_) (tf 45 28) rfl rfl (by kernel_rfl) (fun _ _ _ h => h) (Or.inl ⟨by rfl, ?_⟩) ?_ ?_
  rotate_left
  · intro w'
    go_simp
    with_reducible rfl
  rotate_left
  · simp only [Act.put, List.setIfInBounds_toArray, List.set_cons_zero, List.set_cons_succ]
    rfl
  refine pure_ (i := 28) (N := some 69) (v := ?_) (a' := ?_) (tf 45 29) rfl rfl (by kernel_rfl) (fun _ _ _ h => h) (Or.inl ⟨by rfl, ?_⟩) ?_ ?_
  rotate_left
  · intro w'
    go_simp
    with_reducible rfl
  rotate_left
  · simp only [Act.put, List.setIfInBounds_toArray, List.set_cons_zero, List.set_cons_succ]
    rfl
  refine pure_ (i := 29) (N := some 70) (v := ?_) (a' := ?_) (tf 45 30) rfl rfl (by kernel_rfl) (fun _ _ _ h => h) (Or.inl ⟨by rfl, ?_⟩) ?_ ?_
  rotate_left
  · intro w'
    go_simp
    with_reducible rfl
  rotate_left
  · simp only [Act.put, List.setIfInBounds_toArray, List.set_cons_zero, List.set_cons_succ]
    rfl
  refine take_ (i := 30) (N := some 71) (v := ?_) (a' := ?_) (tf 45 31) rfl rfl (by kernel_rfl) (fun _ _ _ h => h) (Or.inl ⟨by rfl, ?_⟩) hHeld ?_ ?_
  rotate_left
  · rintro w' ⟨s0, s1, s2, s3, s4, s5, s6, s7, s8, s9, s10⟩
    go_simp
    with_reducible rfl
  rotate_left
  · simp only [Act.put, List.setIfInBounds_toArray, List.set_cons_zero, List.set_cons_succ]
    rfl
  refine one_ (i := 31) (N := some 72) (tf 45 32) rfl rfl (by kernel_rfl) (by decide) (fun K hK => ?_)
  refine goes_ Try.func60 (by kernel_rfl) rfl #[.agg #[.int .u8 q.vk, .int .i64 q.vn, .string q.vs]] (by rfl) rfl rfl (by simp only [List.map_toArray, List.map_cons, List.map_nil]; rfl) ?_
  with_reducible refine (of_calls q.vk q.vn q.vs _ HOK.out.vk0 HOK.out.vk1).mono ?_
  rintro e8 w8 ⟨rfl, hB8⟩
  refine ⟨_, rfl, ?_⟩
  have hq8 := blk_below hq7 hB8
  have hf8 := blk_below hf7 hB8
  have hb8 := below_step hb7 hB8
  refine hK.out _ _ ⟨(blk_cell hq8 0), (blk_cell hq8 5), (blk_cell hq8 6), (blk_cell hq8 7), (blk_cell hq8 8), (blk_cell hq8 9), (blk_cell hq8 10), (blk_cell hq8 11), (blk_cell hq8 12), (rowOf_of hq8 rfl), (rowOf_of hf8 rfl)⟩ (fun hHeld => ?_)
  clear hK K
  refine norm_ (a' := ?_) ?_ ?_
  rotate_left
  · show Act.put _ (some 72) _ = _
    simp only [Act.put, List.setIfInBounds_toArray, List.set_cons_zero, List.set_cons_succ]
    rfl
  refine one_ (i := 32) (N := some 73) (tf 45 33) rfl rfl (by kernel_rfl) (by decide) (fun K hK => ?_)
  refine goes_ Try.func38 (by kernel_rfl) rfl #[.agg #[.int .u8 q.vk, .int .i64 q.vn, .string q.vs]] (by rfl) rfl rfl (by simp only [List.map_toArray, List.map_cons, List.map_nil]; rfl) ?_
  with_reducible refine (right_calls q.vk q.vn q.vs _ _ HRV.out).mono ?_
  rintro e9 w9 ⟨rfl, hB9⟩
  refine ⟨_, rfl, ?_⟩
  have hq9 := blk_below hq8 hB9
  have hf9 := blk_below hf8 hB9
  have hb9 := below_step hb8 hB9
  refine hK.out _ _ ⟨(blk_cell hq9 0), (blk_cell hq9 5), (blk_cell hq9 6), (blk_cell hq9 7), (blk_cell hq9 8), (blk_cell hq9 9), (blk_cell hq9 10), (blk_cell hq9 11), (blk_cell hq9 12), (rowOf_of hq9 rfl), (rowOf_of hf9 rfl)⟩ (fun hHeld => ?_)
  clear hK K
  refine norm_ (a' := ?_) ?_ ?_
  rotate_left
  · show Act.put _ (some 73) _ = _
    simp only [Act.put, List.setIfInBounds_toArray, List.set_cons_zero, List.set_cons_succ]
    rfl
  refine pure_ (i := 33) (N := some 74) (v := ?_) (a' := ?_) (tf 45 34) rfl rfl (by kernel_rfl) (fun _ _ _ h => h) (Or.inl ⟨by rfl, ?_⟩) ?_ ?_
  rotate_left
  · intro w'
    go_simp
    with_reducible rfl
  rotate_left
  · simp only [Act.put, List.setIfInBounds_toArray, List.set_cons_zero, List.set_cons_succ]
    rfl
  refine pure_ (i := 34) (N := some 75) (v := ?_) (a' := ?_) (tf 45 35) rfl rfl (by kernel_rfl) (fun _ _ _ h => h) (Or.inl ⟨by rfl, ?_⟩) ?_ ?_
  rotate_left
  · intro w'
    go_simp
    with_reducible rfl
  rotate_left
  · simp only [Act.put, List.setIfInBounds_toArray, List.set_cons_zero, List.set_cons_succ]
    rfl
  refine pure_ (i := 35) (N := some 76) (v := ?_) (a' := ?_) (tf 45 36) rfl rfl (by kernel_rfl) (fun _ _ _ h => h) (Or.inl ⟨by rfl, ?_⟩) ?_ ?_
  rotate_left
  · intro w'
    go_simp
    with_reducible rfl
  rotate_left
  · simp only [Act.put, List.setIfInBounds_toArray, List.set_cons_zero, List.set_cons_succ]
    rfl
  refine pure_ (i := 36) (N := some 77) (v := ?_) (a' := ?_) (tf 45 37) rfl rfl (by kernel_rfl) (fun _ _ _ h => h) (Or.inl ⟨by rfl, ?_⟩) ?_ ?_
  rotate_left
  · intro w'
    go_simp
    with_reducible rfl
  rotate_left
  · simp only [Act.put, List.setIfInBounds_toArray, List.set_cons_zero, List.set_cons_succ]
    rfl
  refine pure_ (i := 37) (N := some 78) (v := ?_) (a' := ?_) (tf 45 38) rfl rfl (by kernel_rfl) (fun _ _ _ h => h) (Or.inl ⟨by rfl, ?_⟩) ?_ ?_
  rotate_left
  · intro w'
    go_simp
    with_reducible rfl
  rotate_left
  · simp only [Act.put, List.setIfInBounds_toArray, List.set_cons_zero, List.set_cons_succ]
    rfl
  refine pure_ (i := 38) (N := some 79) (v := ?_) (a' := ?_) (tf 45 39) rfl rfl (by kernel_rfl) (fun _ _ _ h => h) (Or.inl ⟨by rfl, ?_⟩) ?_ ?_
  rotate_left
  · intro w'
    go_simp
    with_reducible rfl
  rotate_left
  · simp only [Act.put, List.setIfInBounds_toArray, List.set_cons_zero, List.set_cons_succ]
    rfl
  refine take_ (i := 39) (N := some 80) (v := ?_) (a' := ?_) (tf 45 40) rfl rfl (by kernel_rfl) (fun _ _ _ h => h) (Or.inl ⟨by rfl, ?_⟩) hHeld ?_ ?_
  rotate_left
  · rintro w' ⟨s0, s1, s2, s3, s4, s5, s6, s7, s8, s9, s10⟩
    go_simp
    with_reducible rfl
  rotate_left
  · simp only [Act.put, List.setIfInBounds_toArray, List.set_cons_zero, List.set_cons_succ]
    rfl
  refine take_ (i := 40) (N := some 81) (v := ?_) (a' := ?_) (tf 45 41) rfl rfl (by kernel_rfl) (fun _ _ _ h => h) (Or.inl ⟨by rfl, ?_⟩) hHeld ?_ ?_
  rotate_left
  · rintro w' ⟨s0, s1, s2, s3, s4, s5, s6, s7, s8, s9, s10⟩
    go_simp
    with_reducible rfl
  rotate_left
  · simp only [Act.put, List.setIfInBounds_toArray, List.set_cons_zero, List.set_cons_succ]
    rfl
  refine one_ (i := 41) (N := some 82) (tf 45 42) rfl rfl (by kernel_rfl) (by decide) (fun K hK => ?_)
  refine goes_ Try.func57 (by kernel_rfl) rfl #[.agg #[.int .u8 q.k, .int .u64 q.hh, .int .u64 q.hl, .int .u8 q.o, .int .u8 q.c, .int .u8 q.kk, .int .i64 q.kn, .string q.ks, .int .u8 q.vk, .int .i64 q.vn, .string q.vs, .int .i64 q.fr, .int .i64 q.n, .int .u32 q.tw, .int .u8 q.ri, .int .u64 q.oh, .int .u64 q.ol]] (by rfl) rfl rfl (by simp only [List.map_toArray, List.map_cons, List.map_nil]; rfl) ?_
  with_reducible refine (Req.plain_calls q _ HOK.out.kk0 HOK.out.kk1 HOK.out.vk0 HOK.out.vk1).mono ?_
  rintro e10 w10 ⟨rfl, hB10⟩
  refine ⟨_, rfl, ?_⟩
  have hq10 := blk_below hq9 hB10
  have hf10 := blk_below hf9 hB10
  have hb10 := below_step hb9 hB10
  refine hK.out _ _ ⟨(blk_cell hq10 0), (blk_cell hq10 5), (blk_cell hq10 6), (blk_cell hq10 7), (blk_cell hq10 8), (blk_cell hq10 9), (blk_cell hq10 10), (blk_cell hq10 11), (blk_cell hq10 12), (rowOf_of hq10 rfl), (rowOf_of hf10 rfl)⟩ (fun hHeld => ?_)
  clear hK K
  refine norm_ (a' := ?_) ?_ ?_
  rotate_left
  · show Act.put _ (some 82) _ = _
    simp only [Act.put, List.setIfInBounds_toArray, List.set_cons_zero, List.set_cons_succ]
    rfl
  refine pure_ (i := 42) (N := some 83) (v := ?_) (a' := ?_) (tf 45 43) rfl rfl (by kernel_rfl) (fun _ _ _ h => h) (Or.inl ⟨by rfl, ?_⟩) ?_ ?_
  rotate_left
  · intro w'
    go_simp
    with_reducible rfl
  rotate_left
  · simp only [Act.put, List.setIfInBounds_toArray, List.set_cons_zero, List.set_cons_succ]
    rfl
  refine pure_ (i := 43) (N := some 84) (v := ?_) (a' := ?_) (tf 45 44) rfl rfl (by kernel_rfl) (fun _ _ _ h => h) (Or.inl ⟨by rfl, ?_⟩) ?_ ?_
  rotate_left
  · intro w'
    go_simp
    with_reducible rfl
  rotate_left
  · simp only [Act.put, List.setIfInBounds_toArray, List.set_cons_zero, List.set_cons_succ]
    rfl
  refine pure_ (i := 44) (N := some 8) (v := ?_) (a' := ?_) (tf 45 45) rfl rfl (by kernel_rfl) (fun _ _ _ h => h) (Or.inl ⟨by rfl, ?_⟩) ?_ ?_
  rotate_left
  · intro w'
    go_simp
    with_reducible rfl
  rotate_left
  · simp only [Act.put, List.setIfInBounds_toArray, List.set_cons_zero, List.set_cons_succ]
    rfl
  refine done_ (by kernel_rfl) ?_

  have HBZ := Lib.hid hb10
  go_wp2
  go_ret
  exact ⟨rfl, HBZ.out⟩
set_option maxHeartbeats 8000000 in
set_option maxRecDepth 100000 in
theorem yes (q : Q) (w : World) (ok : Ok q) (hl : q.ks.size + q.vs.size ≤ 9000) (hyes : okQ q = true) :
    Calls Try.prog 14 #[.agg q.cells] w fun e w' => e = .returned (.bool true) ∧ Below w.heap.size w w' := by
  have hl' : (q.ks.size : Int) + (q.vs.size : Int) ≤ 9000 := by omega
  have HOK := Lib.hid ok
  have HYES := Lib.hid hyes
  have HRR := Lib.hid (show reqP (encR q) = (q, 0) by rw [encR_ok (okQ_parse hyes).1]; exact (okQ_parse hyes).2.2)
  have HER := Lib.hid (encR_ok (okQ_parse hyes).1)
  have hrq := (okQ_parse hyes).2.1
  unfold rightQ at hrq
  rw [Bool.and_eq_true] at hrq
  have HRK := Lib.hid hrq.1
  have HRV := Lib.hid hrq.2
  have hkk := (okQ_parse hyes).1
  unfold okK at hkk
  simp only [Bool.and_eq_true, decide_eq_true_eq] at hkk
  obtain ⟨h1, h2⟩ := hkk
  have hok := reqP_ok (encB_bs q ok) (okQ_parse hyes).2.2
  have h3 := hok.2.2.2.2.1
  have h4 := hok.2.2.2.2.2
  have HSM : sameQ ⟨q.k, q.hh, q.hl, q.o, q.c, q.kk, q.kn, q.ks, q.vk, q.vn, q.vs, q.fr, q.n, q.tw, q.ri, q.oh, q.ol⟩ ⟨q.k, q.hh, q.hl, q.o, q.c, q.kk, q.kn, q.ks, q.vk, q.vn, q.vs, q.fr, q.n, q.tw, q.ri, q.oh, q.ol⟩ = true := sameQ_self q
  clear hrq hok hyes
  clear ok
  go_enter Try.func14, Try.ntmps14
  go_upto_region 6 with (first
    | (go_at_call 54; go_loud (refine (Req.lives_calls _).mono ?_; rintro en w1 ⟨rfl, hB1⟩; have hq1 := blk_below (blk_new w (.cells #[.int .u8 q.k, .int .u64 q.hh, .int .u64 q.hl, .int .u8 q.o, .int .u8 q.c, .int .u8 q.kk, .int .i64 q.kn, .string q.ks, .int .u8 q.vk, .int .i64 q.vn, .string q.vs, .int .i64 q.fr, .int .i64 q.n, .int .u32 q.tw, .int .u8 q.ri, .int .u64 q.oh, .int .u64 q.ol] 104)) hB1; have HQ1 := Lib.hid hq1; have HB1 := Lib.hid (below_step (below_alloc (Below.refl w.heap.size w) _) hB1); have p7 := blk_cell hq1 7; have p10 := blk_cell hq1 10; have hz1 : w.heap.size < w1.heap.size := blk_lt hq1; have hrow1 : rowOf w1 w.heap.size = some #[.int .u8 q.k, .int .u64 q.hh, .int .u64 q.hl, .int .u8 q.o, .int .u8 q.c, .int .u8 q.kk, .int .i64 q.kn, .string q.ks, .int .u8 q.vk, .int .i64 q.vn, .string q.vs, .int .i64 q.fr, .int .i64 q.n, .int .u32 q.tw, .int .u8 q.ri, .int .u64 q.oh, .int .u64 q.ol] := rowOf_of hq1 rfl; clear hB1 hq1))
    | (go_at_call 58; go_loud (refine (Req.encode_calls q _ HOK.out).mono ?_; rintro en w2 (⟨_, v2, rfl, hM2⟩ | ⟨h, _⟩); rotate_left; (rw [HYES.out] at h; cases h); have hq2 := blk_below HQ1.out hM2.2; have HBY2 := Lib.hid hM2.byt; have HB2 := Lib.hid (below_step HB1.out hM2.2); clear hM2; have HQ2 := Lib.hid hq2; have hrow2 : rowOf w2 w.heap.size = some #[.int .u8 q.k, .int .u64 q.hh, .int .u64 q.hl, .int .u8 q.o, .int .u8 q.c, .int .u8 q.kk, .int .i64 q.kn, .string q.ks, .int .u8 q.vk, .int .i64 q.vn, .string q.vs, .int .i64 q.fr, .int .i64 q.n, .int .u32 q.tw, .int .u8 q.ri, .int .u64 q.oh, .int .u64 q.ol] := rowOf_of hq2 rfl; clear hq2))
    | (go_at_call 57; go_loud (have _t := HQ2.out; refine (Req.plain_calls q _ HOK.out.kk0 HOK.out.kk1 HOK.out.vk0 HOK.out.vk1).mono ?_; rintro en w3 ⟨rfl, hB3⟩; have HQ3 := Lib.hid (blk_below HQ2.out hB3); have HB3 := Lib.hid (below_step HB2.out hB3); have HBY3 := Lib.hid (HBY2.out.below hB3); clear hB3))
    | (go_at_call 59; go_loud (refine (renc_calls q _ HOK.out).mono ?_; intro en w4 hp4; obtain ⟨A4, c4, rfl, hb4, hlt4, hB4⟩ := rpost hp4; have HQ4 := Lib.hid (blk_below HQ3.out hB4); have HBY4 := Lib.hid hb4; have HLT4 := Lib.hid hlt4; have HB4 := Lib.hid (below_step HB3.out hB4); have HBY4b := Lib.hid (HBY3.out.below hB4); clear hB4 hb4 hlt4 hp4))
    | (go_at_call 56; go_loud (refine (ref_calls A4 c4 (encR q) _ HBY4.out HLT4.out (by have := encR_len q HOK.out; omega) (encR_bs q HOK.out)).mono ?_; unfold RefP; rw [HRR.out]; rintro en w5 ⟨rfl, hB5⟩; have HQ5 := Lib.hid (blk_drew (blk_alloc (blk_below HQ4.out hB5) (.cells #[.int .u8 q.k, .int .u64 q.hh, .int .u64 q.hl, .int .u8 q.o, .int .u8 q.c, .int .u8 q.kk, .int .i64 q.kn, .string q.ks, .int .u8 q.vk, .int .i64 q.vn, .string q.vs, .int .i64 q.fr, .int .i64 q.n, .int .u32 q.tw, .int .u8 q.ri, .int .u64 q.oh, .int .u64 q.ol] 110))); have HF5 := Lib.hid (blk_drew (blk_new w5 (.cells #[.int .u8 q.k, .int .u64 q.hh, .int .u64 q.hl, .int .u8 q.o, .int .u8 q.c, .int .u8 q.kk, .int .i64 q.kn, .string q.ks, .int .u8 q.vk, .int .i64 q.vn, .string q.vs, .int .i64 q.fr, .int .i64 q.n, .int .u32 q.tw, .int .u8 q.ri, .int .u64 q.oh, .int .u64 q.ol] 110))); have HB5 := Lib.hid (below_drew1 (below_alloc (below_step HB4.out hB5) (.cells #[.int .u8 q.k, .int .u64 q.hh, .int .u64 q.hl, .int .u8 q.o, .int .u8 q.c, .int .u8 q.kk, .int .i64 q.kn, .string q.ks, .int .u8 q.vk, .int .i64 q.vn, .string q.vs, .int .i64 q.fr, .int .i64 q.n, .int .u32 q.tw, .int .u8 q.ri, .int .u64 q.oh, .int .u64 q.ol] 110))); have HBY5 := Lib.hid (HBY4b.out.below hB5); have HBR5 := Lib.hid (HBY4.out.below hB5); clear hB5)))
  have d1 : decide (1 ≤ q.k) = true := by simp; omega
  have d2 : decide (q.k ≤ 10) = true := by simp; omega
  have d3 : decide (0 ≤ q.fr) = true := by simp; omega
  have d4 : decide (0 ≤ q.n) = true := by simp; omega
  go_wp2
  refine start_ (n := 45) (S := fun w' => w'.cell? ⟨w.heap.size, 0, none⟩ = some (.int .u8 q.k) ∧ w'.cell? ⟨w.heap.size, 5, none⟩ = some (.int .u8 q.kk) ∧ w'.cell? ⟨w.heap.size, 6, none⟩ = some (.int .i64 q.kn) ∧ w'.cell? ⟨w.heap.size, 7, none⟩ = some (.string q.ks) ∧ w'.cell? ⟨w.heap.size, 8, none⟩ = some (.int .u8 q.vk) ∧ w'.cell? ⟨w.heap.size, 9, none⟩ = some (.int .i64 q.vn) ∧ w'.cell? ⟨w.heap.size, 10, none⟩ = some (.string q.vs) ∧ w'.cell? ⟨w.heap.size, 11, none⟩ = some (.int .i64 q.fr) ∧ w'.cell? ⟨w.heap.size, 12, none⟩ = some (.int .i64 q.n) ∧ rowOf w' w.heap.size = some #[.int .u8 q.k, .int .u64 q.hh, .int .u64 q.hl, .int .u8 q.o, .int .u8 q.c, .int .u8 q.kk, .int .i64 q.kn, .string q.ks, .int .u8 q.vk, .int .i64 q.vn, .string q.vs, .int .i64 q.fr, .int .i64 q.n, .int .u32 q.tw, .int .u8 q.ri, .int .u64 q.oh, .int .u64 q.ol] ∧ rowOf w' w5.heap.size = some #[.int .u8 q.k, .int .u64 q.hh, .int .u64 q.hl, .int .u8 q.o, .int .u8 q.c, .int .u8 q.kk, .int .i64 q.kn, .string q.ks, .int .u8 q.vk, .int .i64 q.vn, .string q.vs, .int .i64 q.fr, .int .i64 q.n, .int .u32 q.tw, .int .u8 q.ri, .int .u64 q.oh, .int .u64 q.ol]) (ds := []) (tf 45 0) (by kernel_rfl) rfl rfl ⟨(blk_cell HQ5.out 0), (blk_cell HQ5.out 5), (blk_cell HQ5.out 6), (blk_cell HQ5.out 7), (blk_cell HQ5.out 8), (blk_cell HQ5.out 9), (blk_cell HQ5.out 10), (blk_cell HQ5.out 11), (blk_cell HQ5.out 12), (rowOf_of HQ5.out rfl), (rowOf_of HF5.out rfl)⟩ (fun hHeld => ?_)
  refine pure_ (i := 0) (N := some 41) (v := ?_) (a' := ?_) (tf 45 1) rfl rfl (by kernel_rfl) (fun _ _ _ h => h) (Or.inl ⟨by rfl, ?_⟩) ?_ ?_
  rotate_left
  · intro w'
    go_simp
    with_reducible rfl
  rotate_left
  · simp only [Act.put, List.setIfInBounds_toArray, List.set_cons_zero, List.set_cons_succ]
    rfl
  refine take_ (i := 1) (N := some 42) (v := ?_) (a' := ?_) (tf 45 2) rfl rfl (by kernel_rfl) (fun _ _ _ h => h) (Or.inl ⟨by rfl, ?_⟩) hHeld ?_ ?_
  rotate_left
  · rintro w' ⟨s0, s1, s2, s3, s4, s5, s6, s7, s8, s9, s10⟩
    go_simp
    with_reducible rfl
  rotate_left
  · simp only [Act.put, List.setIfInBounds_toArray, List.set_cons_zero, List.set_cons_succ]
    rfl
  refine pure_ (i := 2) (N := some 43) (v := ?_) (a' := ?_) (tf 45 3) rfl rfl (by kernel_rfl) (fun _ _ _ h => h) (Or.inl ⟨by rfl, ?_⟩) ?_ ?_
  rotate_left
  · intro w'
    go_simp
    with_reducible rfl
  rotate_left
  · simp only [Act.put, List.setIfInBounds_toArray, List.set_cons_zero, List.set_cons_succ]
    rfl
  refine pure_ (i := 3) (N := some 44) (v := ?_) (a' := ?_) (tf 45 4) rfl rfl (by kernel_rfl) (fun _ _ _ h => h) (Or.inl ⟨by rfl, ?_⟩) ?_ ?_
  rotate_left
  · intro w'
    go_simp
    with_reducible rfl
  rotate_left
  · simp only [Act.put, List.setIfInBounds_toArray, List.set_cons_zero, List.set_cons_succ]
    rfl
  refine pure_ (i := 4) (N := some 45) (v := ?_) (a' := ?_) (tf 45 5) rfl rfl (by kernel_rfl) (fun _ _ _ h => h) (Or.inl ⟨by rfl, ?_⟩) ?_ ?_
  rotate_left
  · intro w'
    go_simp
    with_reducible rfl
  rotate_left
  · simp only [Act.put, List.setIfInBounds_toArray, List.set_cons_zero, List.set_cons_succ]
    rfl
  refine take_ (i := 5) (N := some 46) (v := ?_) (a' := ?_) (tf 45 6) rfl rfl (by kernel_rfl) (fun _ _ _ h => h) (Or.inl ⟨by rfl, ?_⟩) hHeld ?_ ?_
  rotate_left
  · rintro w' ⟨s0, s1, s2, s3, s4, s5, s6, s7, s8, s9, s10⟩
    go_simp
    with_reducible rfl
  rotate_left
  · simp only [Act.put, List.setIfInBounds_toArray, List.set_cons_zero, List.set_cons_succ]
    rfl
  refine pure_ (i := 6) (N := some 47) (v := ?_) (a' := ?_) (tf 45 7) rfl rfl (by kernel_rfl) (fun _ _ _ h => h) (Or.inl ⟨by rfl, ?_⟩) ?_ ?_
  rotate_left
  · intro w'
    go_simp
    with_reducible rfl
  rotate_left
  · simp only [Act.put, List.setIfInBounds_toArray, List.set_cons_zero, List.set_cons_succ]
    rfl
  refine pure_ (i := 7) (N := some 48) (v := ?_) (a' := ?_) (tf 45 8) rfl rfl (by kernel_rfl) (fun _ _ _ h => h) (Or.inl ⟨by rfl, ?_⟩) ?_ ?_
  rotate_left
  · intro w'
    go_simp
    with_reducible rfl
  rotate_left
  · simp only [Act.put, List.setIfInBounds_toArray, List.set_cons_zero, List.set_cons_succ]
    rfl
  refine pure_ (i := 8) (N := some 49) (v := ?_) (a' := ?_) (tf 45 9) rfl rfl (by kernel_rfl) (fun _ _ _ h => h) (Or.inl ⟨by rfl, ?_⟩) ?_ ?_
  rotate_left
  · intro w'
    go_simp
    with_reducible rfl
  rotate_left
  · simp only [Act.put, List.setIfInBounds_toArray, List.set_cons_zero, List.set_cons_succ]
    rfl
  refine pure_ (i := 9) (N := some 50) (v := ?_) (a' := ?_) (tf 45 10) rfl rfl (by kernel_rfl) (fun _ _ _ h => h) (Or.inl ⟨by rfl, ?_⟩) ?_ ?_
  rotate_left
  · intro w'
    go_simp
    with_reducible rfl
  rotate_left
  · simp only [Act.put, List.setIfInBounds_toArray, List.set_cons_zero, List.set_cons_succ]
    rfl
  refine pure_ (i := 10) (N := some 51) (v := ?_) (a' := ?_) (tf 45 11) rfl rfl (by kernel_rfl) (fun _ _ _ h => h) (Or.inl ⟨by rfl, ?_⟩) ?_ ?_
  rotate_left
  · intro w'
    go_simp
    with_reducible rfl
  rotate_left
  · simp only [Act.put, List.setIfInBounds_toArray, List.set_cons_zero, List.set_cons_succ]
    rfl
  refine take_ (i := 11) (N := some 52) (v := ?_) (a' := ?_) (tf 45 12) rfl rfl (by kernel_rfl) (fun _ _ _ h => h) (Or.inl ⟨by rfl, ?_⟩) hHeld ?_ ?_
  rotate_left
  · rintro w' ⟨s0, s1, s2, s3, s4, s5, s6, s7, s8, s9, s10⟩
    go_simp
    with_reducible rfl
  rotate_left
  · simp only [Act.put, List.setIfInBounds_toArray, List.set_cons_zero, List.set_cons_succ]
    rfl
  refine pure_ (i := 12) (N := some 53) (v := ?_) (a' := ?_) (tf 45 13) rfl rfl (by kernel_rfl) (fun _ _ _ h => h) (Or.inl ⟨by rfl, ?_⟩) ?_ ?_
  rotate_left
  · intro w'
    go_simp
    with_reducible rfl
  rotate_left
  · simp only [Act.put, List.setIfInBounds_toArray, List.set_cons_zero, List.set_cons_succ]
    rfl
  refine pure_ (i := 13) (N := some 54) (v := ?_) (a' := ?_) (tf 45 14) rfl rfl (by kernel_rfl) (fun _ _ _ h => h) (Or.inl ⟨by rfl, ?_⟩) ?_ ?_
  rotate_left
  · intro w'
    go_simp
    with_reducible rfl
  rotate_left
  · simp only [Act.put, List.setIfInBounds_toArray, List.set_cons_zero, List.set_cons_succ]
    rfl
  refine pure_ (i := 14) (N := some 55) (v := ?_) (a' := ?_) (tf 45 15) rfl rfl (by kernel_rfl) (fun _ _ _ h => h) (Or.inl ⟨by rfl, ?_⟩) ?_ ?_
  rotate_left
  · intro w'
    go_simp
    with_reducible rfl
  rotate_left
  · simp only [Act.put, List.setIfInBounds_toArray, List.set_cons_zero, List.set_cons_succ]
    rfl
  refine pure_ (i := 15) (N := some 56) (v := ?_) (a' := ?_) (tf 45 16) rfl rfl (by kernel_rfl) (fun _ _ _ h => h) (Or.inl ⟨by rfl, ?_⟩) ?_ ?_
  rotate_left
  · intro w'
    go_simp
    with_reducible rfl
  rotate_left
  · simp only [Act.put, List.setIfInBounds_toArray, List.set_cons_zero, List.set_cons_succ]
    rfl
  refine pure_ (i := 16) (N := some 57) (v := ?_) (a' := ?_) (tf 45 17) rfl rfl (by kernel_rfl) (fun _ _ _ h => h) (Or.inl ⟨by rfl, ?_⟩) ?_ ?_
  rotate_left
  · intro w'
    go_simp
    with_reducible rfl
  rotate_left
  · simp only [Act.put, List.setIfInBounds_toArray, List.set_cons_zero, List.set_cons_succ]
    rfl
  refine take_ (i := 17) (N := some 58) (v := ?_) (a' := ?_) (tf 45 18) rfl rfl (by kernel_rfl) (fun _ _ _ h => h) (Or.inl ⟨by rfl, ?_⟩) hHeld ?_ ?_
  rotate_left
  · rintro w' ⟨s0, s1, s2, s3, s4, s5, s6, s7, s8, s9, s10⟩
    go_simp
    with_reducible rfl
  rotate_left
  · simp only [Act.put, List.setIfInBounds_toArray, List.set_cons_zero, List.set_cons_succ]
    rfl
  refine pure_ (i := 18) (N := some 59) (v := ?_) (a' := ?_) (tf 45 19) rfl rfl (by kernel_rfl) (fun _ _ _ h => h) (Or.inl ⟨by rfl, ?_⟩) ?_ ?_
  rotate_left
  · intro w'
    go_simp
    with_reducible rfl
  rotate_left
  · simp only [Act.put, List.setIfInBounds_toArray, List.set_cons_zero, List.set_cons_succ]
    rfl
  refine pure_ (i := 19) (N := some 60) (v := ?_) (a' := ?_) (tf 45 20) rfl rfl (by kernel_rfl) (fun _ _ _ h => h) (Or.inl ⟨by rfl, ?_⟩) ?_ ?_
  rotate_left
  · intro w'
    go_simp
    with_reducible rfl
  rotate_left
  · simp only [Act.put, List.setIfInBounds_toArray, List.set_cons_zero, List.set_cons_succ]
    rfl
  refine pure_ (i := 20) (N := some 61) (v := ?_) (a' := ?_) (tf 45 21) rfl rfl (by kernel_rfl) (fun _ _ _ h => h) (Or.inl ⟨by rfl, ?_⟩) ?_ ?_
  rotate_left
  · intro w'
    go_simp
    with_reducible rfl
  rotate_left
  · simp only [Act.put, List.setIfInBounds_toArray, List.set_cons_zero, List.set_cons_succ]
    rfl
  refine pure_ (i := 21) (N := some 62) (v := ?_) (a' := ?_) (tf 45 22) rfl rfl (by kernel_rfl) (fun _ _ _ h => h) (Or.inl ⟨by rfl, ?_⟩) ?_ ?_
  rotate_left
  · intro w'
    go_simp
    with_reducible rfl
  rotate_left
  · simp only [Act.put, List.setIfInBounds_toArray, List.set_cons_zero, List.set_cons_succ]
    rfl
  refine pure_ (i := 22) (N := some 63) (v := ?_) (a' := ?_) (tf 45 23) rfl rfl (by kernel_rfl) (fun _ _ _ h => h) (Or.inl ⟨by rfl, ?_⟩) ?_ ?_
  rotate_left
  · intro w'
    go_simp
    with_reducible rfl
  rotate_left
  · simp only [Act.put, List.setIfInBounds_toArray, List.set_cons_zero, List.set_cons_succ]
    rfl
  refine take_ (i := 23) (N := some 64) (v := ?_) (a' := ?_) (tf 45 24) rfl rfl (by kernel_rfl) (fun _ _ _ h => h) (Or.inl ⟨by rfl, ?_⟩) hHeld ?_ ?_
  rotate_left
  · rintro w' ⟨s0, s1, s2, s3, s4, s5, s6, s7, s8, s9, s10⟩
    go_simp
    with_reducible rfl
  rotate_left
  · simp only [Act.put, List.setIfInBounds_toArray, List.set_cons_zero, List.set_cons_succ]
    rfl
  refine one_ (i := 24) (N := some 65) (tf 45 25) rfl rfl (by kernel_rfl) (by decide) (fun K hK => ?_)
  refine goes_ Try.func60 (by kernel_rfl) rfl #[.agg #[.int .u8 q.kk, .int .i64 q.kn, .string q.ks]] (by rfl) rfl rfl (by simp only [List.map_toArray, List.map_cons, List.map_nil]; rfl) ?_
  with_reducible refine (of_calls q.kk q.kn q.ks _ HOK.out.kk0 HOK.out.kk1).mono ?_
  rintro e6 w6 ⟨rfl, hB6⟩
  refine ⟨_, rfl, ?_⟩
  have hq6 := blk_below HQ5.out hB6
  have hf6 := blk_below HF5.out hB6
  have hb6 := below_step HB5.out hB6
  refine hK.out _ _ ⟨(blk_cell hq6 0), (blk_cell hq6 5), (blk_cell hq6 6), (blk_cell hq6 7), (blk_cell hq6 8), (blk_cell hq6 9), (blk_cell hq6 10), (blk_cell hq6 11), (blk_cell hq6 12), (rowOf_of hq6 rfl), (rowOf_of hf6 rfl)⟩ (fun hHeld => ?_)
  clear hK K
  refine norm_ (a' := ?_) ?_ ?_
  rotate_left
  · show Act.put _ (some 65) _ = _
    simp only [Act.put, List.setIfInBounds_toArray, List.set_cons_zero, List.set_cons_succ]
    rfl
  refine one_ (i := 25) (N := some 66) (tf 45 26) rfl rfl (by kernel_rfl) (by decide) (fun K hK => ?_)
  refine goes_ Try.func38 (by kernel_rfl) rfl #[.agg #[.int .u8 q.kk, .int .i64 q.kn, .string q.ks]] (by rfl) rfl rfl (by simp only [List.map_toArray, List.map_cons, List.map_nil]; rfl) ?_
  with_reducible refine (right_calls q.kk q.kn q.ks _ _ HRK.out).mono ?_
  rintro e7 w7 ⟨rfl, hB7⟩
  refine ⟨_, rfl, ?_⟩
  have hq7 := blk_below hq6 hB7
  have hf7 := blk_below hf6 hB7
  have hb7 := below_step hb6 hB7
  refine hK.out _ _ ⟨(blk_cell hq7 0), (blk_cell hq7 5), (blk_cell hq7 6), (blk_cell hq7 7), (blk_cell hq7 8), (blk_cell hq7 9), (blk_cell hq7 10), (blk_cell hq7 11), (blk_cell hq7 12), (rowOf_of hq7 rfl), (rowOf_of hf7 rfl)⟩ (fun hHeld => ?_)
  clear hK K
  refine norm_ (a' := ?_) ?_ ?_
  rotate_left
  · show Act.put _ (some 66) _ = _
    simp only [Act.put, List.setIfInBounds_toArray, List.set_cons_zero, List.set_cons_succ]
    rfl
  refine pure_ (i := 26) (N := some 67) (v := ?_) (a' := ?_) (tf 45 27) rfl rfl (by kernel_rfl) (fun _ _ _ h => h) (Or.inl ⟨by rfl, ?_⟩) ?_ ?_
  rotate_left
  · intro w'
    go_simp
    with_reducible rfl
  rotate_left
  · simp only [Act.put, List.setIfInBounds_toArray, List.set_cons_zero, List.set_cons_succ]
    rfl
  refine pure_ (i := 27) (N := some 68) (v := ?_) (a' := ?_) (tf 45 28) rfl rfl (by kernel_rfl) (fun _ _ _ h => h) (Or.inl ⟨by rfl, ?_⟩) ?_ ?_
  rotate_left
  · intro w'
    go_simp
    with_reducible rfl
  rotate_left
  · simp only [Act.put, List.setIfInBounds_toArray, List.set_cons_zero, List.set_cons_succ]
    rfl
  refine pure_ (i := 28) (N := some 69) (v := ?_) (a' := ?_) (tf 45 29) rfl rfl (by kernel_rfl) (fun _ _ _ h => h) (Or.inl ⟨by rfl, ?_⟩) ?_ ?_
  rotate_left
  · intro w'
    go_simp
    with_reducible rfl
  rotate_left
  · simp only [Act.put, List.setIfInBounds_toArray, List.set_cons_zero, List.set_cons_succ]
    rfl
  refine pure_ (i := 29) (N := some 70) (v := ?_) (a' := ?_) (tf 45 30) rfl rfl (by kernel_rfl) (fun _ _ _ h => h) (Or.inl ⟨by rfl, ?_⟩) ?_ ?_
  rotate_left
  · intro w'
    go_simp
    with_reducible rfl
  rotate_left
  · simp only [Act.put, List.setIfInBounds_toArray, List.set_cons_zero, List.set_cons_succ]
    rfl
  refine take_ (i := 30) (N := some 71) (v := ?_) (a' := ?_) (tf 45 31) rfl rfl (by kernel_rfl) (fun _ _ _ h => h) (Or.inl ⟨by rfl, ?_⟩) hHeld ?_ ?_
  rotate_left
  · rintro w' ⟨s0, s1, s2, s3, s4, s5, s6, s7, s8, s9, s10⟩
    go_simp
    with_reducible rfl
  rotate_left
  · simp only [Act.put, List.setIfInBounds_toArray, List.set_cons_zero, List.set_cons_succ]
    rfl
  refine one_ (i := 31) (N := some 72) (tf 45 32) rfl rfl (by kernel_rfl) (by decide) (fun K hK => ?_)
  refine goes_ Try.func60 (by kernel_rfl) rfl #[.agg #[.int .u8 q.vk, .int .i64 q.vn, .string q.vs]] (by rfl) rfl rfl (by simp only [List.map_toArray, List.map_cons, List.map_nil]; rfl) ?_
  with_reducible refine (of_calls q.vk q.vn q.vs _ HOK.out.vk0 HOK.out.vk1).mono ?_
  rintro e8 w8 ⟨rfl, hB8⟩
  refine ⟨_, rfl, ?_⟩
  have hq8 := blk_below hq7 hB8
  have hf8 := blk_below hf7 hB8
  have hb8 := below_step hb7 hB8
  refine hK.out _ _ ⟨(blk_cell hq8 0), (blk_cell hq8 5), (blk_cell hq8 6), (blk_cell hq8 7), (blk_cell hq8 8), (blk_cell hq8 9), (blk_cell hq8 10), (blk_cell hq8 11), (blk_cell hq8 12), (rowOf_of hq8 rfl), (rowOf_of hf8 rfl)⟩ (fun hHeld => ?_)
  clear hK K
  refine norm_ (a' := ?_) ?_ ?_
  rotate_left
  · show Act.put _ (some 72) _ = _
    simp only [Act.put, List.setIfInBounds_toArray, List.set_cons_zero, List.set_cons_succ]
    rfl
  refine one_ (i := 32) (N := some 73) (tf 45 33) rfl rfl (by kernel_rfl) (by decide) (fun K hK => ?_)
  refine goes_ Try.func38 (by kernel_rfl) rfl #[.agg #[.int .u8 q.vk, .int .i64 q.vn, .string q.vs]] (by rfl) rfl rfl (by simp only [List.map_toArray, List.map_cons, List.map_nil]; rfl) ?_
  with_reducible refine (right_calls q.vk q.vn q.vs _ _ HRV.out).mono ?_
  rintro e9 w9 ⟨rfl, hB9⟩
  refine ⟨_, rfl, ?_⟩
  have hq9 := blk_below hq8 hB9
  have hf9 := blk_below hf8 hB9
  have hb9 := below_step hb8 hB9
  refine hK.out _ _ ⟨(blk_cell hq9 0), (blk_cell hq9 5), (blk_cell hq9 6), (blk_cell hq9 7), (blk_cell hq9 8), (blk_cell hq9 9), (blk_cell hq9 10), (blk_cell hq9 11), (blk_cell hq9 12), (rowOf_of hq9 rfl), (rowOf_of hf9 rfl)⟩ (fun hHeld => ?_)
  clear hK K
  refine norm_ (a' := ?_) ?_ ?_
  rotate_left
  · show Act.put _ (some 73) _ = _
    simp only [Act.put, List.setIfInBounds_toArray, List.set_cons_zero, List.set_cons_succ]
    rfl
  refine pure_ (i := 33) (N := some 74) (v := ?_) (a' := ?_) (tf 45 34) rfl rfl (by kernel_rfl) (fun _ _ _ h => h) (Or.inl ⟨by rfl, ?_⟩) ?_ ?_
  rotate_left
  · intro w'
    go_simp
    with_reducible rfl
  rotate_left
  · simp only [Act.put, List.setIfInBounds_toArray, List.set_cons_zero, List.set_cons_succ]
    rfl
  refine pure_ (i := 34) (N := some 75) (v := ?_) (a' := ?_) (tf 45 35) rfl rfl (by kernel_rfl) (fun _ _ _ h => h) (Or.inl ⟨by rfl, ?_⟩) ?_ ?_
  rotate_left
  · intro w'
    go_simp
    with_reducible rfl
  rotate_left
  · simp only [Act.put, List.setIfInBounds_toArray, List.set_cons_zero, List.set_cons_succ]
    rfl
  refine pure_ (i := 35) (N := some 76) (v := ?_) (a' := ?_) (tf 45 36) rfl rfl (by kernel_rfl) (fun _ _ _ h => h) (Or.inl ⟨by rfl, ?_⟩) ?_ ?_
  rotate_left
  · intro w'
    go_simp
    with_reducible rfl
  rotate_left
  · simp only [Act.put, List.setIfInBounds_toArray, List.set_cons_zero, List.set_cons_succ]
    rfl
  refine pure_ (i := 36) (N := some 77) (v := ?_) (a' := ?_) (tf 45 37) rfl rfl (by kernel_rfl) (fun _ _ _ h => h) (Or.inl ⟨by rfl, ?_⟩) ?_ ?_
  rotate_left
  · intro w'
    go_simp
    with_reducible rfl
  rotate_left
  · simp only [Act.put, List.setIfInBounds_toArray, List.set_cons_zero, List.set_cons_succ]
    rfl
  refine pure_ (i := 37) (N := some 78) (v := ?_) (a' := ?_) (tf 45 38) rfl rfl (by kernel_rfl) (fun _ _ _ h => h) (Or.inl ⟨by rfl, ?_⟩) ?_ ?_
  rotate_left
  · intro w'
    go_simp
    with_reducible rfl
  rotate_left
  · simp only [Act.put, List.setIfInBounds_toArray, List.set_cons_zero, List.set_cons_succ]
    rfl
  refine pure_ (i := 38) (N := some 79) (v := ?_) (a' := ?_) (tf 45 39) rfl rfl (by kernel_rfl) (fun _ _ _ h => h) (Or.inl ⟨by rfl, ?_⟩) ?_ ?_
  rotate_left
  · intro w'
    go_simp
    with_reducible rfl
  rotate_left
  · simp only [Act.put, List.setIfInBounds_toArray, List.set_cons_zero, List.set_cons_succ]
    rfl
  refine take_ (i := 39) (N := some 80) (v := ?_) (a' := ?_) (tf 45 40) rfl rfl (by kernel_rfl) (fun _ _ _ h => h) (Or.inl ⟨by rfl, ?_⟩) hHeld ?_ ?_
  rotate_left
  · rintro w' ⟨s0, s1, s2, s3, s4, s5, s6, s7, s8, s9, s10⟩
    go_simp
    with_reducible rfl
  rotate_left
  · simp only [Act.put, List.setIfInBounds_toArray, List.set_cons_zero, List.set_cons_succ]
    rfl
  refine take_ (i := 40) (N := some 81) (v := ?_) (a' := ?_) (tf 45 41) rfl rfl (by kernel_rfl) (fun _ _ _ h => h) (Or.inl ⟨by rfl, ?_⟩) hHeld ?_ ?_
  rotate_left
  · rintro w' ⟨s0, s1, s2, s3, s4, s5, s6, s7, s8, s9, s10⟩
    go_simp
    with_reducible rfl
  rotate_left
  · simp only [Act.put, List.setIfInBounds_toArray, List.set_cons_zero, List.set_cons_succ]
    rfl
  refine one_ (i := 41) (N := some 82) (tf 45 42) rfl rfl (by kernel_rfl) (by decide) (fun K hK => ?_)
  refine goes_ Try.func57 (by kernel_rfl) rfl #[.agg #[.int .u8 q.k, .int .u64 q.hh, .int .u64 q.hl, .int .u8 q.o, .int .u8 q.c, .int .u8 q.kk, .int .i64 q.kn, .string q.ks, .int .u8 q.vk, .int .i64 q.vn, .string q.vs, .int .i64 q.fr, .int .i64 q.n, .int .u32 q.tw, .int .u8 q.ri, .int .u64 q.oh, .int .u64 q.ol]] (by rfl) rfl rfl (by simp only [List.map_toArray, List.map_cons, List.map_nil]; rfl) ?_
  with_reducible refine (Req.plain_calls q _ HOK.out.kk0 HOK.out.kk1 HOK.out.vk0 HOK.out.vk1).mono ?_
  rintro e10 w10 ⟨rfl, hB10⟩
  refine ⟨_, rfl, ?_⟩
  have hq10 := blk_below hq9 hB10
  have hf10 := blk_below hf9 hB10
  have hb10 := below_step hb9 hB10
  refine hK.out _ _ ⟨(blk_cell hq10 0), (blk_cell hq10 5), (blk_cell hq10 6), (blk_cell hq10 7), (blk_cell hq10 8), (blk_cell hq10 9), (blk_cell hq10 10), (blk_cell hq10 11), (blk_cell hq10 12), (rowOf_of hq10 rfl), (rowOf_of hf10 rfl)⟩ (fun hHeld => ?_)
  clear hK K
  refine norm_ (a' := ?_) ?_ ?_
  rotate_left
  · show Act.put _ (some 82) _ = _
    simp only [Act.put, List.setIfInBounds_toArray, List.set_cons_zero, List.set_cons_succ]
    rfl
  refine pure_ (i := 42) (N := some 83) (v := ?_) (a' := ?_) (tf 45 43) rfl rfl (by kernel_rfl) (fun _ _ _ h => h) (Or.inl ⟨by rfl, ?_⟩) ?_ ?_
  rotate_left
  · intro w'
    go_simp
    with_reducible rfl
  rotate_left
  · simp only [Act.put, List.setIfInBounds_toArray, List.set_cons_zero, List.set_cons_succ]
    rfl
  refine pure_ (i := 43) (N := some 84) (v := ?_) (a' := ?_) (tf 45 44) rfl rfl (by kernel_rfl) (fun _ _ _ h => h) (Or.inl ⟨by rfl, ?_⟩) ?_ ?_
  rotate_left
  · intro w'
    go_simp
    with_reducible rfl
  rotate_left
  · simp only [Act.put, List.setIfInBounds_toArray, List.set_cons_zero, List.set_cons_succ]
    rfl
  refine pure_ (i := 44) (N := some 8) (v := ?_) (a' := ?_) (tf 45 45) rfl rfl (by kernel_rfl) (fun _ _ _ h => h) (Or.inl ⟨by rfl, ?_⟩) ?_ ?_
  rotate_left
  · intro w'
    go_simp
    with_reducible rfl
  rotate_left
  · simp only [Act.put, List.setIfInBounds_toArray, List.set_cons_zero, List.set_cons_succ]
    rfl
  refine done_ (by kernel_rfl) ?_

  have HBY10 := Lib.hid ((HBY5.out.below (below_drew1 (below_alloc (Below.refl w5.heap.size w5) (.cells #[.int .u8 q.k, .int .u64 q.hh, .int .u64 q.hl, .int .u8 q.o, .int .u8 q.c, .int .u8 q.kk, .int .i64 q.kn, .string q.ks, .int .u8 q.vk, .int .i64 q.vn, .string q.vs, .int .i64 q.fr, .int .i64 q.n, .int .u32 q.tw, .int .u8 q.ri, .int .u64 q.oh, .int .u64 q.ol] 110)))).below (below_step (below_step (below_step (below_step hB6 hB7) hB8) hB9) hB10))
  have HBR10 := Lib.hid ((HBR5.out.below (below_drew1 (below_alloc (Below.refl w5.heap.size w5) (.cells #[.int .u8 q.k, .int .u64 q.hh, .int .u64 q.hl, .int .u8 q.o, .int .u8 q.c, .int .u8 q.kk, .int .i64 q.kn, .string q.ks, .int .u8 q.vk, .int .i64 q.vn, .string q.vs, .int .i64 q.fr, .int .i64 q.n, .int .u32 q.tw, .int .u8 q.ri, .int .u64 q.oh, .int .u64 q.ol] 110)))).below (below_step (below_step (below_step (below_step hB6 hB7) hB8) hB9) hB10))
  have HB10 := Lib.hid hb10
  have hr10 : rowOf w10 w.heap.size = some #[.int .u8 q.k, .int .u64 q.hh, .int .u64 q.hl, .int .u8 q.o, .int .u8 q.c, .int .u8 q.kk, .int .i64 q.kn, .string q.ks, .int .u8 q.vk, .int .i64 q.vn, .string q.vs, .int .i64 q.fr, .int .i64 q.n, .int .u32 q.tw, .int .u8 q.ri, .int .u64 q.oh, .int .u64 q.ol] := rowOf_of hq10 rfl
  have HQ10 := Lib.hid hq10
  go_upto_region 10 with (go_at_call 55; go_loud (refine (Req.parse_calls v2 (encB q) _ HBY10.out (by have := encB_len q HOK.out; omega) (encB_bs q HOK.out)).mono ?_; rw [(okQ_parse HYES.out).2.2]; rintro en w11 ⟨rfl, hB11⟩; have HBY11 := Lib.hid (HBY10.out.below hB11); have HBR11 := Lib.hid (HBR10.out.below hB11); have HQ11 := Lib.hid (blk_below HQ10.out hB11); have HB11 := Lib.hid (below_step HB10.out hB11); clear hB11))
  have HW := Lib.hid (below_alloc (Below.refl w11.heap.size w11) (.cells #[.int .u8 q.k, .int .u64 q.hh, .int .u64 q.hl, .int .u8 q.o, .int .u8 q.c, .int .u8 q.kk, .int .i64 q.kn, .string q.ks, .int .u8 q.vk, .int .i64 q.vn, .string q.vs, .int .i64 q.fr, .int .i64 q.n, .int .u32 q.tw, .int .u8 q.ri, .int .u64 q.oh, .int .u64 q.ol] 104))
  have kc : (convert 56 9 v2).run Try.prog (w11.alloc (.cells #[.int .u8 q.k, .int .u64 q.hh, .int .u64 q.hl, .int .u8 q.o, .int .u8 q.c, .int .u8 q.kk, .int .i64 q.kn, .string q.ks, .int .u8 q.vk, .int .i64 q.vn, .string q.vs, .int .i64 q.fr, .int .i64 q.n, .int .u32 q.tw, .int .u8 q.ri, .int .u64 q.oh, .int .u64 q.ol] 104)) = .ok (.string (strOfNums (encB q))) (w11.alloc (.cells #[.int .u8 q.k, .int .u64 q.hh, .int .u64 q.hl, .int .u8 q.o, .int .u8 q.c, .int .u8 q.kk, .int .i64 q.kn, .string q.ks, .int .u8 q.vk, .int .i64 q.vn, .string q.vs, .int .i64 q.fr, .int .i64 q.n, .int .u32 q.tw, .int .u8 q.ri, .int .u64 q.oh, .int .u64 q.ol] 104)) := byt_conv (HBY11.out.below HW.out) (by have := encB_len q HOK.out; omega)
  have ka : (convert 56 9 (.slice A4 (encR q).length c4)).run Try.prog (w11.alloc (.cells #[.int .u8 q.k, .int .u64 q.hh, .int .u64 q.hl, .int .u8 q.o, .int .u8 q.c, .int .u8 q.kk, .int .i64 q.kn, .string q.ks, .int .u8 q.vk, .int .i64 q.vn, .string q.vs, .int .i64 q.fr, .int .i64 q.n, .int .u32 q.tw, .int .u8 q.ri, .int .u64 q.oh, .int .u64 q.ol] 104)) = .ok (.string (strOfNums (encB q))) (w11.alloc (.cells #[.int .u8 q.k, .int .u64 q.hh, .int .u64 q.hl, .int .u8 q.o, .int .u8 q.c, .int .u8 q.kk, .int .i64 q.kn, .string q.ks, .int .u8 q.vk, .int .i64 q.vn, .string q.vs, .int .i64 q.fr, .int .i64 q.n, .int .u32 q.tw, .int .u8 q.ri, .int .u64 q.oh, .int .u64 q.ol] 104)) := by
    have h := byt_conv (HBR11.out.below HW.out) (by have := encR_len q HOK.out; omega)
    rw [HER.out] at h ⊢
    exact h
  have hr11 : rowOf w11 w.heap.size = some #[.int .u8 q.k, .int .u64 q.hh, .int .u64 q.hl, .int .u8 q.o, .int .u8 q.c, .int .u8 q.kk, .int .i64 q.kn, .string q.ks, .int .u8 q.vk, .int .i64 q.vn, .string q.vs, .int .i64 q.fr, .int .i64 q.n, .int .u32 q.tw, .int .u8 q.ri, .int .u64 q.oh, .int .u64 q.ol] := rowOf_of HQ11.out rfl
  have hz11 : w.heap.size < w11.heap.size := blk_lt HQ11.out
  go_wp2
  go_ret
  exact ⟨rfl, below_alloc HB11.out _⟩
theorem all_ (q : Q) (w : World) (ok : Ok q) (hl : q.ks.size + q.vs.size ≤ 9000) :
    Calls Try.prog 14 #[.agg q.cells] w fun e w' => e = .returned (.bool true) ∧ Below w.heap.size w w' := by
  cases hok : okQ q
  · obtain ⟨⟨r, ef⟩, hrr⟩ : ∃ x, reqP (encR q) = x := ⟨_, rfl⟩
    by_cases h1 : q.k < 1
    · exact no1 q w ok hl hok r ef hrr h1
    have h1 : 1 ≤ q.k := by omega
    by_cases h2 : 10 < q.k
    · exact no2 q w ok hl hok r ef hrr h1 h2
    have h2 : q.k ≤ 10 := by omega
    by_cases h3 : q.fr < 0
    · exact no3 q w ok hl hok r ef hrr h1 h2 h3
    have h3 : 0 ≤ q.fr := by omega
    by_cases h4 : q.n < 0
    · exact no4 q w ok hl hok r ef hrr h1 h2 h3 h4
    have h4 : 0 ≤ q.n := by omega
    cases hrk : rightS ⟨q.kk, q.kn, q.ks⟩
    · exact no5 q w ok hl hok r ef hrr h1 h2 h3 h4 hrk
    cases hrv : rightS ⟨q.vk, q.vn, q.vs⟩
    · exact no6 q w ok hl hok r ef hrr h1 h2 h3 h4 hrk hrv
    by_cases hef : ef = 0
    · refine no8 q w ok hl hok r ef hrr h1 h2 h3 h4 hrk hrv hef ?_
      cases hsm : sameQ r q
      · rfl
      · exfalso
        have hkk : okK q.k = true := by unfold okK; rw [Bool.and_eq_true, decide_eq_true_eq, decide_eq_true_eq]; omega
        rw [encR_ok hkk] at hrr
        have : okQ q = true := by
          unfold okQ rightQ
          rw [hrr, hkk, hrk, hrv]
          dsimp only
          rw [hsm, hef]
          rfl
        rw [this] at hok
        cases hok
    · exact no7 q w ok hl hok r ef hrr h1 h2 h3 h4 hrk hrv hef
  · exact yes q w ok hl hok
theorem walk (x0_0 : Int) (x0_1_0 : Int) (x0_1_1 : Int) (x0_2 : Int) (x0_3_0 : Int) (x0_3_1_0 : Int) (x0_3_1_1 : Int) (x0_3_1_2 : ByteArray) (x0_3_2_0 : Int) (x0_3_2_1 : Int) (x0_3_2_2 : ByteArray) (x0_3_3 : Int) (x0_3_4 : Int) (x0_4 : Int) (x0_5 : Int) (x0_6_0 : Int) (x0_6_1 : Int) (W : World) (p0_0 : (IntKind.u8.min ≤ x0_0 ∧ x0_0 ≤ IntKind.u8.max)) (p0_1_0 : (IntKind.u64.min ≤ x0_1_0 ∧ x0_1_0 ≤ IntKind.u64.max)) (p0_1_1 : (IntKind.u64.min ≤ x0_1_1 ∧ x0_1_1 ≤ IntKind.u64.max)) (p0_2 : (IntKind.u8.min ≤ x0_2 ∧ x0_2 ≤ IntKind.u8.max)) (p0_3_0 : (IntKind.u8.min ≤ x0_3_0 ∧ x0_3_0 ≤ IntKind.u8.max)) (p0_3_1_0 : (IntKind.u8.min ≤ x0_3_1_0 ∧ x0_3_1_0 ≤ IntKind.u8.max)) (p0_3_1_1 : (IntKind.i64.min ≤ x0_3_1_1 ∧ x0_3_1_1 ≤ IntKind.i64.max)) (p0_3_1_2 : (x0_3_1_2.size ≤ 140737488351232)) (p0_3_2_0 : (IntKind.u8.min ≤ x0_3_2_0 ∧ x0_3_2_0 ≤ IntKind.u8.max)) (p0_3_2_1 : (IntKind.i64.min ≤ x0_3_2_1 ∧ x0_3_2_1 ≤ IntKind.i64.max)) (p0_3_2_2 : (x0_3_2_2.size ≤ 140737488351232)) (p0_3_3 : (IntKind.i64.min ≤ x0_3_3 ∧ x0_3_3 ≤ IntKind.i64.max)) (p0_3_4 : (IntKind.i64.min ≤ x0_3_4 ∧ x0_3_4 ≤ IntKind.i64.max)) (p0_4 : (IntKind.u32.min ≤ x0_4 ∧ x0_4 ≤ IntKind.u32.max)) (p0_5 : (IntKind.u8.min ≤ x0_5 ∧ x0_5 ≤ IntKind.u8.max)) (p0_6_0 : (IntKind.u64.min ≤ x0_6_0 ∧ x0_6_0 ≤ IntKind.u64.max)) (p0_6_1 : (IntKind.u64.min ≤ x0_6_1 ∧ x0_6_1 ≤ IntKind.u64.max)) :
    Calls Try.prog 14 #[.agg #[.int .u8 x0_0, .int .u64 x0_1_0, .int .u64 x0_1_1, .int .u8 x0_2, .int .u8 x0_3_0, .int .u8 x0_3_1_0, .int .i64 x0_3_1_1, .string x0_3_1_2, .int .u8 x0_3_2_0, .int .i64 x0_3_2_1, .string x0_3_2_2, .int .i64 x0_3_3, .int .i64 x0_3_4, .int .u32 x0_4, .int .u8 x0_5, .int .u64 x0_6_0, .int .u64 x0_6_1]] W fun e W' => e = .returned (.bool true) ∧ Below W.heap.size W W' := by
  by_cases hl : 9000 < x0_3_1_2.size + x0_3_2_2.size
  · exact long_ ⟨x0_0, x0_1_0, x0_1_1, x0_2, x0_3_0, x0_3_1_0, x0_3_1_1, x0_3_1_2, x0_3_2_0, x0_3_2_1, x0_3_2_2, x0_3_3, x0_3_4, x0_4, x0_5, x0_6_0, x0_6_1⟩ W p0_3_1_2 p0_3_2_2 hl
  · exact all_ ⟨x0_0, x0_1_0, x0_1_1, x0_2, x0_3_0, x0_3_1_0, x0_3_1_1, x0_3_1_2, x0_3_2_0, x0_3_2_1, x0_3_2_2, x0_3_3, x0_3_4, x0_4, x0_5, x0_6_0, x0_6_1⟩ W ⟨p0_0.1, p0_0.2, p0_1_0.1, p0_1_0.2, p0_1_1.1, p0_1_1.2, p0_2.1, p0_2.2, p0_3_0.1, p0_3_0.2, p0_3_1_0.1, p0_3_1_0.2, p0_3_1_1.1, p0_3_1_1.2, by show x0_3_1_2.size ≤ 10000; omega, p0_3_2_0.1, p0_3_2_0.2, p0_3_2_1.1, p0_3_2_1.2, by show x0_3_2_2.size ≤ 10000; omega, p0_3_3.1, p0_3_3.2, p0_3_4.1, p0_3_4.2, p0_4.1, p0_4.2, p0_5.1, p0_5.2, p0_6_0.1, p0_6_0.2, p0_6_1.1, p0_6_1.2⟩ (by show x0_3_1_2.size + x0_3_2_2.size ≤ 9000; omega)
end Go.Proofs.Ytaoacibahdbdkaa.ReqN
