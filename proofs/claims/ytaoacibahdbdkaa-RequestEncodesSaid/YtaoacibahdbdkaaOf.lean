/- Texts of this claim, laid together: ReqG2. -/
import Derived.Test.YtaoacibahdbdkaaOd
/-! request: the reference's Parse, by kinds. Printed by wip/tools/gen_reqf.py. -/
namespace Go.Proofs.Ytaoacibahdbdkaa.Req
open Go.RowKit Go Go.Proofs.Ytaoacibahdbdkaa.QRequestParses Go.Proofs.YtaoacibahdbdkaaW.PrintWords Go.Proofs.YtaoacibahdbdkaaW.PrintLast Go.Proofs.YtaoacibahdbdkaaW.PrintMore Go.Proofs.Ytaoacibahdbdkaa.Fra Go.Proofs.Ytaoacibahdbdkaa.Pk Go.Proofs.Ytaoacibahdbdkaa.Bts Go.Proofs.Ytaoacibahdbdkaa.Pr Go.Proofs.Ytaoacibahdbdkaa.Rep
attribute [local go_sem] is_ref_new World.setRow_alloc_new store_ref
attribute [local go_sem high] all_ref
set_option maxHeartbeats 8000000 in
set_option maxRecDepth 100000 in
theorem ref_2 (A0 : Option Addr) (c0 : Nat) (xs0 : List Int) (w : World) (hv : Byt w (.slice A0 xs0.length c0) xs0) (hlt : ∀ ad, A0 = some ad → 0 < xs0.length → ad.block < w.heap.size) (hl : xs0.length ≤ 100000) (hb : Bs xs0) (bs ys : List Int) (ht : takeP xs0 0 1 = (bs, ys, 0)) (hk : numB bs = 2) :
    Calls Try.prog 56 #[.slice A0 xs0.length c0] w (RefP w xs0) := by
  obtain ⟨q1, q2, q3, q4⟩ := takeP_bs1 ht hb
  have HT0 := Lib.hid ht
  have HN0 := Lib.hid hk
  have HBS := Lib.hid q2
  have HLY := Lib.hid (show ys.length ≤ 100000 by omega)
  clear q1 q3
  obtain ⟨bs1, xs1, f1, ht1⟩ : ∃ bs xs f, takeP ys 0 8 = (bs, xs, f) := ⟨_, _, _, rfl⟩
  obtain ⟨p1, hb1, s1, hl1⟩ := takeP_bs1 ht1 HBS.out
  obtain ⟨n1, hn1⟩ : ∃ n, numB bs1 = n := ⟨_, rfl⟩
  obtain ⟨bs2, xs2, f2, ht2⟩ : ∃ bs xs f, takeP xs1 f1 8 = (bs, xs, f) := ⟨_, _, _, rfl⟩
  obtain ⟨p2, hb2, s2, hl2⟩ := takeP_bs1 ht2 hb1
  obtain ⟨n2, hn2⟩ : ∃ n, numB bs2 = n := ⟨_, rfl⟩
  obtain ⟨bs3, xs3, f3, ht3⟩ : ∃ bs xs f, takeP xs2 f2 1 = (bs, xs, f) := ⟨_, _, _, rfl⟩
  obtain ⟨p3, hb3, s3, hl3⟩ := takeP_bs1 ht3 hb2
  obtain ⟨u3, v3⟩ := num1 p3 s3
  obtain ⟨n3, hn3⟩ : ∃ n, numB bs3 = n := ⟨_, rfl⟩
  obtain ⟨⟨kd4, kn4, ks4⟩, xs4, f4, ht4⟩ : ∃ a xs f, valueP xs3 f3 = (a, xs, f) := ⟨_, _, _, rfl⟩
  obtain ⟨hb4, hl4⟩ : Bs xs4 ∧ xs4.length ≤ xs3.length := by have := valueP_bs xs3 f3 hb3; rw [ht4] at this; exact this
  obtain ⟨bs5, xs5, f5, ht5⟩ : ∃ bs xs f, takeP xs4 f4 4 = (bs, xs, f) := ⟨_, _, _, rfl⟩
  obtain ⟨p5, hb5, s5, hl5⟩ := takeP_bs1 ht5 hb4
  obtain ⟨u5, v5⟩ := num4 p5 s5
  obtain ⟨n5, hn5⟩ : ∃ n, numB bs5 = n := ⟨_, rfl⟩
  obtain ⟨bs6, xs6, f6, ht6⟩ : ∃ bs xs f, takeP xs5 f5 2 = (bs, xs, f) := ⟨_, _, _, rfl⟩
  obtain ⟨p6, hb6, s6, hl6⟩ := takeP_bs1 ht6 hb5
  obtain ⟨u6, v6⟩ := num2 p6 s6
  obtain ⟨n6, hn6⟩ : ∃ n, numB bs6 = n := ⟨_, rfl⟩
  have hrun : runP (partsOf 2) ({k := 2}, ys, 0) = (({k := 2, hh := n1, hl := n2, c := n3, kk := kd4, kn := kn4, ks := ks4, fr := n5, n := n6} : Q), xs6, f6) := by
    show gLooks (gHandle ({k := 2} : Q) ys 0).1 (gHandle ({k := 2} : Q) ys 0).2.1 (gHandle ({k := 2} : Q) ys 0).2.2 = _
    simp only [gHandle, gLooks, ht1, ht2, ht3, ht4, ht5, ht6, hn1, hn2, hn3, hn5, hn6]
  have hres := reqP_go ht hk (by decide) _ _ _ hrun
  have HRES0 := Lib.hid hres
  have HN1 := Lib.hid hn1
  have HN2 := Lib.hid hn2
  rw [hn3] at u3 v3
  have em3 : n3 % 256 = n3 := by omega
  have HN3 := Lib.hid hn3
  rw [hn5] at u5 v5
  have HN5 := Lib.hid hn5
  rw [hn6] at u6 v6
  have HN6 := Lib.hid hn6
  have HT1 := Lib.hid ht1
  have HB1 := Lib.hid hb1
  have HL1 := Lib.hid hl1
  have HT2 := Lib.hid ht2
  have HB2 := Lib.hid hb2
  have HL2 := Lib.hid hl2
  have HT3 := Lib.hid ht3
  have HB3 := Lib.hid hb3
  have HL3 := Lib.hid hl3
  have HT4 := Lib.hid ht4
  have HB4 := Lib.hid hb4
  have HL4 := Lib.hid hl4
  have HT5 := Lib.hid ht5
  have HB5 := Lib.hid hb5
  have HL5 := Lib.hid hl5
  have HT6 := Lib.hid ht6
  have HB6 := Lib.hid hb6
  have HL6 := Lib.hid hl6
  clear hres hrun ht1 ht2 ht3 ht4 ht5 ht6 hb1 hb2 hb3 hb4 hb5 hb6 hl1 hl2 hl3 hl4 hl5 hl6 hn1 p1 s1 hn2 p2 s2 hn3 p3 s3 hn5 p5 s5 hn6 p6 s6 ht hk
  have hr1 : Rf.Rx ((w.alloc (.cells #[.int .u8 0, .int .u64 0, .int .u64 0, .int .u8 0, .int .u8 0, .int .u8 0, .int .i64 0, .string (⟨#[]⟩ : ByteArray), .int .u8 0, .int .i64 0, .string (⟨#[]⟩ : ByteArray), .int .i64 0, .int .i64 0, .int .u32 0, .int .u8 0, .int .u64 0, .int .u64 0] 110)).alloc (.cells #[.slice A0 xs0.length c0, .int .i64 0] 157)) (w.heap.size + 2) (w.heap.size + 1) xs0 0 := ⟨A0, c0, blk_new1 w _ _, hv.below (below_alloc (below_alloc (Below.refl _ _) _) _), by omega, fun ad ha hp => by have := hlt ad ha hp; omega⟩
  have HRD1 := Lib.hid hr1
  have HZ1 := Lib.hid (show QF ((w.alloc (.cells #[.int .u8 0, .int .u64 0, .int .u64 0, .int .u8 0, .int .u8 0, .int .u8 0, .int .i64 0, .string (⟨#[]⟩ : ByteArray), .int .u8 0, .int .i64 0, .string (⟨#[]⟩ : ByteArray), .int .i64 0, .int .i64 0, .int .u32 0, .int .u8 0, .int .u64 0, .int .u64 0] 110)).alloc (.cells #[.slice A0 xs0.length c0, .int .i64 0] 157)) w.heap.size {} from blk_alloc (blk_new w _) _)
  have HBB1 := Lib.hid (show Below w.heap.size w ((w.alloc (.cells #[.int .u8 0, .int .u64 0, .int .u64 0, .int .u8 0, .int .u8 0, .int .u8 0, .int .i64 0, .string (⟨#[]⟩ : ByteArray), .int .u8 0, .int .i64 0, .string (⟨#[]⟩ : ByteArray), .int .i64 0, .int .i64 0, .int .u32 0, .int .u8 0, .int .u64 0, .int .u64 0] 110)).alloc (.cells #[.slice A0 xs0.length c0, .int .i64 0] 157)) from below_alloc (below_alloc (Below.refl _ _) _) _)
  have HS1 := Lib.hid (show ((w.alloc (.cells #[.int .u8 0, .int .u64 0, .int .u64 0, .int .u8 0, .int .u8 0, .int .u8 0, .int .i64 0, .string (⟨#[]⟩ : ByteArray), .int .u8 0, .int .i64 0, .string (⟨#[]⟩ : ByteArray), .int .i64 0, .int .i64 0, .int .u32 0, .int .u8 0, .int .u64 0, .int .u64 0] 110)).alloc (.cells #[.slice A0 xs0.length c0, .int .i64 0] 157)).heap.size = w.heap.size + 2 by simp)
  clear hr1 hv
  go_enter Try.func56, Try.ntmps56
  go_upto_region 25 with (first
    | (go_at_call 85; go_loud (have _t := HX4.out; refine (Rf.number_k 2 (w.heap.size + 2) (w.heap.size + 1) xs5 f5 2 _ rfl HX4.out.rd (by have := HX4.out.hl; omega) HB5.out).mono ?_; rw [HT6.out]; rw [HN6.out]; rintro en w7 ⟨rfl, hr4, hf4⟩; have HY5 := Lib.hid (HX4.out.num hr4 hf4 HB6.out HL6.out); have z12 := blk_frozen HY5.out.qb 12; have y12 := blk_cell HY5.out.qb 12; have HX5 := Lib.hid (HY5.out.put 12 (.int .i64 n6) ({k := 2, hh := n1, hl := n2, c := n3, kk := kd4, kn := kn4, ks := ks4, fr := n5, n := n6} : Q) rfl (by decide)); have hxk5 := blk_cell HX5.out.qb 0; clear hr4 hf4))
    | (go_at_call 85; go_loud (have _t := HX3.out; refine (Rf.number_k 4 (w.heap.size + 2) (w.heap.size + 1) xs4 f4 4 _ rfl HX3.out.rd (by have := HX3.out.hl; omega) HB4.out).mono ?_; rw [HT5.out]; rw [HN5.out]; rintro en w6 ⟨rfl, hr3, hf3⟩; have HY4 := Lib.hid (HX3.out.num hr3 hf3 HB5.out HL5.out); have z11 := blk_frozen HY4.out.qb 11; have y11 := blk_cell HY4.out.qb 11; have HX4 := Lib.hid (HY4.out.put 11 (.int .i64 n5) ({k := 2, hh := n1, hl := n2, c := n3, kk := kd4, kn := kn4, ks := ks4, fr := n5} : Q) rfl (by decide)); have hxk4 := blk_cell HX4.out.qb 0; clear hr3 hf3))
    | (go_at_call 87; go_loud (have _t := HX2.out; refine (Rf.value_reads (w.heap.size + 2) (w.heap.size + 1) xs3 f3 _ HX2.out.rd HX2.out.size (by have := HX2.out.hl; omega) HB3.out).mono ?_; rw [HT4.out]; rintro en w5 ⟨rfl, hr2, hf2⟩; have HY3 := Lib.hid (HX2.out.num hr2 hf2 HB4.out HL4.out); have z5 := blk_frozen HY3.out.qb 5; have y5 := blk_cell HY3.out.qb 5; have z6 := blk_frozen HY3.out.qb 6; have y6 := blk_cell HY3.out.qb 6; have z7 := blk_frozen HY3.out.qb 7; have y7 := blk_cell HY3.out.qb 7; have HX3 := Lib.hid (((HY3.out.put 5 (.int .u8 kd4) ({k := 2, hh := n1, hl := n2, c := n3, kk := kd4} : Q) rfl (by decide)).put 6 (.int .i64 kn4) ({k := 2, hh := n1, hl := n2, c := n3, kk := kd4, kn := kn4} : Q) rfl (by decide)).put 7 (.string ks4) ({k := 2, hh := n1, hl := n2, c := n3, kk := kd4, kn := kn4, ks := ks4} : Q) rfl (by decide)); have hxk3 := blk_cell HX3.out.qb 0; clear hr2 hf2))
    | (go_at_call 85; go_loud (have _t := HX1.out; refine (Rf.number_k 1 (w.heap.size + 2) (w.heap.size + 1) xs2 f2 1 _ rfl HX1.out.rd (by have := HX1.out.hl; omega) HB2.out).mono ?_; rw [HT3.out]; rw [HN3.out]; rintro en w4 ⟨rfl, hr1, hf1⟩; have HY2 := Lib.hid (HX1.out.num hr1 hf1 HB3.out HL3.out); have z4 := blk_frozen HY2.out.qb 4; have y4 := blk_cell HY2.out.qb 4; have HX2 := Lib.hid (HY2.out.put 4 (.int .u8 n3) ({k := 2, hh := n1, hl := n2, c := n3} : Q) rfl (by decide)); have hxk2 := blk_cell HX2.out.qb 0; clear hr1 hf1))
    | (go_at_call 86; go_loud (have _t := HX0.out; refine (handle_calls (w.heap.size + 2) (w.heap.size + 1) ys 0 _ HX0.out.rd HX0.out.size HX0.out.hl HBS.out _ _ _ HT1.out _ _ _ HT2.out).mono ?_; rw [HN1.out, HN2.out]; rintro en w3 ⟨rfl, hr0, hf0⟩; have HY1 := Lib.hid (HX0.out.num hr0 hf0 HB2.out (Nat.le_trans HL2.out HL1.out)); have z1 := blk_frozen HY1.out.qb 1; have y1 := blk_cell HY1.out.qb 1; have z2 := blk_frozen HY1.out.qb 2; have y2 := blk_cell HY1.out.qb 2; have HX1 := Lib.hid ((HY1.out.put 1 (.int .u64 n1) ({k := 2, hh := n1} : Q) rfl (by decide)).put 2 (.int .u64 n2) ({k := 2, hh := n1, hl := n2} : Q) rfl (by decide)); have hxk1 := blk_cell HX1.out.qb 0; clear hr0 hf0))
    | (go_at_call 85; go_loud (have _t := HRD1.out; refine (Rf.number_k 1 (w.heap.size + 2) (w.heap.size + 1) xs0 0 1 _ rfl HRD1.out (by omega) hb).mono ?_; rw [HT0.out]; rw [HN0.out]; rintro en w2 ⟨rfl, hr2, hf2⟩; have HX0 := Lib.hid (show XS w (w2.alloc (.cells #[.int .u8 2, .int .u64 0, .int .u64 0, .int .u8 0, .int .u8 0, .int .u8 0, .int .i64 0, .string (⟨#[]⟩ : ByteArray), .int .u8 0, .int .i64 0, .string (⟨#[]⟩ : ByteArray), .int .i64 0, .int .i64 0, .int .u32 0, .int .u8 0, .int .u64 0, .int .u64 0] 110)) w2.heap.size {k := 2} ys 0 from ⟨hr2.below (below_alloc (Below.refl _ _) _), blk_new w2 _, blk_alloc (hf2.blk HZ1.out (by omega)) _, below_alloc (fr_below HBB1.out hf2 (fun k hk => by omega) (Nat.le_refl _)) _, HBS.out, HLY.out, (by have := hf2.size; rw [HS1.out] at this; exact this)⟩); have hx1 := HX0.out.rd.cell1; have hxk := blk_cell HX0.out.qb 0; have hxb := HX0.out.hb; clear hr2 hf2 HRD1)))
  obtain ⟨Wz, hWz⟩ : ∃ Wz, Wz = Wz := ⟨w, rfl⟩
  clear hWz Wz
  have HXE := HX5
  have zr := is_ref_of HXE.out.res rfl
  have hm1 := HXE.out.rd.cell1
  have hm3 := HXE.out.rd.frozen1
  obtain ⟨Ax, cx, hm0⟩ := HXE.out.rd.cell0
  have s0 := blk_cell HX5.out.qb 0
  have s1 := blk_cell HX5.out.qb 1
  have s2 := blk_cell HX5.out.qb 2
  have s3 := blk_cell HX5.out.qb 3
  have s4 := blk_cell HX5.out.qb 4
  have s5 := blk_cell HX5.out.qb 5
  have s6 := blk_cell HX5.out.qb 6
  have s7 := blk_cell HX5.out.qb 7
  have s8 := blk_cell HX5.out.qb 8
  have s9 := blk_cell HX5.out.qb 9
  have s10 := blk_cell HX5.out.qb 10
  have s11 := blk_cell HX5.out.qb 11
  have s12 := blk_cell HX5.out.qb 12
  have s13 := blk_cell HX5.out.qb 13
  have s14 := blk_cell HX5.out.qb 14
  have s15 := blk_cell HX5.out.qb 15
  have s16 := blk_cell HX5.out.qb 16
  by_cases hF0 : f6 = 0
  · have hflt := hF0
    subst hflt
    by_cases hX0 : xs6 = []
    · have HRES := Lib.hid (show reqP xs0 = (({k := 2, hh := n1, hl := n2, c := n3, kk := kd4, kn := kn4, ks := ks4, fr := n5, n := n6} : Q), 0) by rw [HRES0.out, if_pos (by rw [hX0]; rfl)])
      have hlx0 : xs6.length = 0 := by rw [hX0]; rfl
      rw [hlx0] at hm0
      clear hX0 hlx0
      go_wp2
      refine bodyPost_ret (results_ct rfl _ _ w.heap.size 110 ({k := 2, hh := n1, hl := n2, c := n3, kk := kd4, kn := kn4, ks := ks4, fr := n5, n := n6} : Q).cells (0, 0) _ rfl (setRow_heap _ _ _ _ _ _ HXE.out.res) Try.underlying110 rfl (by kernel_rfl)) rfl ?_
      exact ⟨by rw [HRES.out] <;> rfl, below_setRow HXE.out.bel (Nat.le_refl _) _⟩
    · have HRES := Lib.hid (show reqP xs0 = ({}, 12) by rw [HRES0.out]; unfold endP; rw [if_pos rfl, if_neg hX0]; rfl)
      have hlx0 : 0 < xs6.length := List.length_pos_iff.2 hX0
      have bx : decide ((0 : Int) < (xs6.length : Int)) = true := by simp; omega
      have HXF := Lib.hid (show QF ((w7.setCell ⟨w2.heap.size, 12, none⟩ (.int .i64 n6)).setCell ⟨w.heap.size + 1, 1, none⟩ (.int .i64 12)) w.heap.size {} from blk_far HXE.out.res (by show w.heap.size ≠ w.heap.size + 1; omega) _)
      have zr2 := is_ref_of (blk_drew HXF.out) rfl
      have hsr : ∀ (V : World) (cs : Array Value), (V.setRow w.heap.size cs).cell? ⟨w.heap.size + 1, 1, none⟩ = V.cell? ⟨w.heap.size + 1, 1, none⟩ := fun V cs => cell_setRow_other V _ cs _ (by show w.heap.size + 1 ≠ w.heap.size; omega)
      clear hX0
      go_wp2
      go_region
      go_wp2
      refine bodyPost_ret (results_ct rfl _ _ w.heap.size 110 #[.int .u8 0, .int .u64 0, .int .u64 0, .int .u8 0, .int .u8 0, .int .u8 0, .int .i64 0, .string (⟨#[]⟩ : ByteArray), .int .u8 0, .int .i64 0, .string (⟨#[]⟩ : ByteArray), .int .i64 0, .int .i64 0, .int .u32 0, .int .u8 0, .int .u64 0, .int .u64 0] (0, 0) _ rfl (setRow_heap _ _ _ _ _ _ (blk_drew HXF.out)) Try.underlying110 rfl (by kernel_rfl)) rfl ?_
      exact ⟨by rw [HRES.out] <;> rfl, below_setRow (below_drew1 (Below.setCell (p := ⟨w.heap.size + 1, 1, none⟩) HXE.out.bel (Nat.le_succ _) _)) (Nat.le_refl _) _⟩
  · have hE : endP xs6 f6 = f6 := by unfold endP; rw [if_neg hF0]
    have HRES := Lib.hid (show reqP xs0 = ({}, f6) by rw [HRES0.out, hE, if_neg hF0])
    have b1z : (f6 == 0) = false := by simpa using hF0
    have b2z : (f6 != 0) = true := by simpa using hF0
    have zr3 := is_ref_of (blk_drew HXE.out.res) rfl
    have hsr : ∀ (V : World) (cs : Array Value), (V.setRow w.heap.size cs).cell? ⟨w.heap.size + 1, 1, none⟩ = V.cell? ⟨w.heap.size + 1, 1, none⟩ := fun V cs => cell_setRow_other V _ cs _ (by show w.heap.size + 1 ≠ w.heap.size; omega)
    clear hE hF0
    go_wp2
    go_region
    go_wp2
    refine bodyPost_ret (results_ct rfl _ _ w.heap.size 110 #[.int .u8 0, .int .u64 0, .int .u64 0, .int .u8 0, .int .u8 0, .int .u8 0, .int .i64 0, .string (⟨#[]⟩ : ByteArray), .int .u8 0, .int .i64 0, .string (⟨#[]⟩ : ByteArray), .int .i64 0, .int .i64 0, .int .u32 0, .int .u8 0, .int .u64 0, .int .u64 0] (0, 0) _ rfl (setRow_heap _ _ _ _ _ _ (blk_drew HXE.out.res)) Try.underlying110 rfl (by kernel_rfl)) rfl ?_
    exact ⟨by rw [HRES.out] <;> rfl, below_setRow (below_drew1 HXE.out.bel) (Nat.le_refl _) _⟩
set_option maxHeartbeats 8000000 in
set_option maxRecDepth 100000 in
theorem ref_7 (A0 : Option Addr) (c0 : Nat) (xs0 : List Int) (w : World) (hv : Byt w (.slice A0 xs0.length c0) xs0) (hlt : ∀ ad, A0 = some ad → 0 < xs0.length → ad.block < w.heap.size) (hl : xs0.length ≤ 100000) (hb : Bs xs0) (bs ys : List Int) (ht : takeP xs0 0 1 = (bs, ys, 0)) (hk : numB bs = 7) :
    Calls Try.prog 56 #[.slice A0 xs0.length c0] w (RefP w xs0) := by
  obtain ⟨q1, q2, q3, q4⟩ := takeP_bs1 ht hb
  have HT0 := Lib.hid ht
  have HN0 := Lib.hid hk
  have HBS := Lib.hid q2
  have HLY := Lib.hid (show ys.length ≤ 100000 by omega)
  clear q1 q3
  obtain ⟨bs1, xs1, f1, ht1⟩ : ∃ bs xs f, takeP ys 0 8 = (bs, xs, f) := ⟨_, _, _, rfl⟩
  obtain ⟨p1, hb1, s1, hl1⟩ := takeP_bs1 ht1 HBS.out
  obtain ⟨n1, hn1⟩ : ∃ n, numB bs1 = n := ⟨_, rfl⟩
  obtain ⟨bs2, xs2, f2, ht2⟩ : ∃ bs xs f, takeP xs1 f1 8 = (bs, xs, f) := ⟨_, _, _, rfl⟩
  obtain ⟨p2, hb2, s2, hl2⟩ := takeP_bs1 ht2 hb1
  obtain ⟨n2, hn2⟩ : ∃ n, numB bs2 = n := ⟨_, rfl⟩
  obtain ⟨bs3, xs3, f3, ht3⟩ : ∃ bs xs f, takeP xs2 f2 4 = (bs, xs, f) := ⟨_, _, _, rfl⟩
  obtain ⟨p3, hb3, s3, hl3⟩ := takeP_bs1 ht3 hb2
  obtain ⟨u3, v3⟩ := num4 p3 s3
  obtain ⟨n3, hn3⟩ : ∃ n, numB bs3 = n := ⟨_, rfl⟩
  obtain ⟨bs4, xs4, f4, ht4⟩ : ∃ bs xs f, takeP xs3 f3 1 = (bs, xs, f) := ⟨_, _, _, rfl⟩
  obtain ⟨p4, hb4, s4, hl4⟩ := takeP_bs1 ht4 hb3
  obtain ⟨u4, v4⟩ := num1 p4 s4
  obtain ⟨n4, hn4⟩ : ∃ n, numB bs4 = n := ⟨_, rfl⟩
  have hrun : runP (partsOf 7) ({k := 7}, ys, 0) = (({k := 7, hh := n1, hl := n2, tw := n3, ri := n4} : Q), xs4, f4) := by
    show gGift (gHandle ({k := 7} : Q) ys 0).1 (gHandle ({k := 7} : Q) ys 0).2.1 (gHandle ({k := 7} : Q) ys 0).2.2 = _
    simp only [gHandle, gGift, ht1, ht2, ht3, ht4, hn1, hn2, hn3, hn4]
  have hres := reqP_go ht hk (by decide) _ _ _ hrun
  have HRES0 := Lib.hid hres
  have HN1 := Lib.hid hn1
  have HN2 := Lib.hid hn2
  rw [hn3] at u3 v3
  have em3 : n3 % 4294967296 = n3 := by omega
  have HN3 := Lib.hid hn3
  rw [hn4] at u4 v4
  have em4 : n4 % 256 = n4 := by omega
  have HN4 := Lib.hid hn4
  have HT1 := Lib.hid ht1
  have HB1 := Lib.hid hb1
  have HL1 := Lib.hid hl1
  have HT2 := Lib.hid ht2
  have HB2 := Lib.hid hb2
  have HL2 := Lib.hid hl2
  have HT3 := Lib.hid ht3
  have HB3 := Lib.hid hb3
  have HL3 := Lib.hid hl3
  have HT4 := Lib.hid ht4
  have HB4 := Lib.hid hb4
  have HL4 := Lib.hid hl4
  clear hres hrun ht1 ht2 ht3 ht4 hb1 hb2 hb3 hb4 hl1 hl2 hl3 hl4 hn1 p1 s1 hn2 p2 s2 hn3 p3 s3 hn4 p4 s4 ht hk
  have hr1 : Rf.Rx ((w.alloc (.cells #[.int .u8 0, .int .u64 0, .int .u64 0, .int .u8 0, .int .u8 0, .int .u8 0, .int .i64 0, .string (⟨#[]⟩ : ByteArray), .int .u8 0, .int .i64 0, .string (⟨#[]⟩ : ByteArray), .int .i64 0, .int .i64 0, .int .u32 0, .int .u8 0, .int .u64 0, .int .u64 0] 110)).alloc (.cells #[.slice A0 xs0.length c0, .int .i64 0] 157)) (w.heap.size + 2) (w.heap.size + 1) xs0 0 := ⟨A0, c0, blk_new1 w _ _, hv.below (below_alloc (below_alloc (Below.refl _ _) _) _), by omega, fun ad ha hp => by have := hlt ad ha hp; omega⟩
  have HRD1 := Lib.hid hr1
  have HZ1 := Lib.hid (show QF ((w.alloc (.cells #[.int .u8 0, .int .u64 0, .int .u64 0, .int .u8 0, .int .u8 0, .int .u8 0, .int .i64 0, .string (⟨#[]⟩ : ByteArray), .int .u8 0, .int .i64 0, .string (⟨#[]⟩ : ByteArray), .int .i64 0, .int .i64 0, .int .u32 0, .int .u8 0, .int .u64 0, .int .u64 0] 110)).alloc (.cells #[.slice A0 xs0.length c0, .int .i64 0] 157)) w.heap.size {} from blk_alloc (blk_new w _) _)
  have HBB1 := Lib.hid (show Below w.heap.size w ((w.alloc (.cells #[.int .u8 0, .int .u64 0, .int .u64 0, .int .u8 0, .int .u8 0, .int .u8 0, .int .i64 0, .string (⟨#[]⟩ : ByteArray), .int .u8 0, .int .i64 0, .string (⟨#[]⟩ : ByteArray), .int .i64 0, .int .i64 0, .int .u32 0, .int .u8 0, .int .u64 0, .int .u64 0] 110)).alloc (.cells #[.slice A0 xs0.length c0, .int .i64 0] 157)) from below_alloc (below_alloc (Below.refl _ _) _) _)
  have HS1 := Lib.hid (show ((w.alloc (.cells #[.int .u8 0, .int .u64 0, .int .u64 0, .int .u8 0, .int .u8 0, .int .u8 0, .int .i64 0, .string (⟨#[]⟩ : ByteArray), .int .u8 0, .int .i64 0, .string (⟨#[]⟩ : ByteArray), .int .i64 0, .int .i64 0, .int .u32 0, .int .u8 0, .int .u64 0, .int .u64 0] 110)).alloc (.cells #[.slice A0 xs0.length c0, .int .i64 0] 157)).heap.size = w.heap.size + 2 by simp)
  clear hr1 hv
  go_enter Try.func56, Try.ntmps56
  go_upto_region 25 with (first
    | (go_at_call 85; go_loud (have _t := HX2.out; refine (Rf.number_k 1 (w.heap.size + 2) (w.heap.size + 1) xs3 f3 1 _ rfl HX2.out.rd (by have := HX2.out.hl; omega) HB3.out).mono ?_; rw [HT4.out]; rw [HN4.out]; rintro en w5 ⟨rfl, hr2, hf2⟩; have HY3 := Lib.hid (HX2.out.num hr2 hf2 HB4.out HL4.out); have z14 := blk_frozen HY3.out.qb 14; have y14 := blk_cell HY3.out.qb 14; have HX3 := Lib.hid (HY3.out.put 14 (.int .u8 n4) ({k := 7, hh := n1, hl := n2, tw := n3, ri := n4} : Q) rfl (by decide)); have hxk3 := blk_cell HX3.out.qb 0; clear hr2 hf2))
    | (go_at_call 85; go_loud (have _t := HX1.out; refine (Rf.number_k 4 (w.heap.size + 2) (w.heap.size + 1) xs2 f2 4 _ rfl HX1.out.rd (by have := HX1.out.hl; omega) HB2.out).mono ?_; rw [HT3.out]; rw [HN3.out]; rintro en w4 ⟨rfl, hr1, hf1⟩; have HY2 := Lib.hid (HX1.out.num hr1 hf1 HB3.out HL3.out); have z13 := blk_frozen HY2.out.qb 13; have y13 := blk_cell HY2.out.qb 13; have HX2 := Lib.hid (HY2.out.put 13 (.int .u32 n3) ({k := 7, hh := n1, hl := n2, tw := n3} : Q) rfl (by decide)); have hxk2 := blk_cell HX2.out.qb 0; clear hr1 hf1))
    | (go_at_call 86; go_loud (have _t := HX0.out; refine (handle_calls (w.heap.size + 2) (w.heap.size + 1) ys 0 _ HX0.out.rd HX0.out.size HX0.out.hl HBS.out _ _ _ HT1.out _ _ _ HT2.out).mono ?_; rw [HN1.out, HN2.out]; rintro en w3 ⟨rfl, hr0, hf0⟩; have HY1 := Lib.hid (HX0.out.num hr0 hf0 HB2.out (Nat.le_trans HL2.out HL1.out)); have z1 := blk_frozen HY1.out.qb 1; have y1 := blk_cell HY1.out.qb 1; have z2 := blk_frozen HY1.out.qb 2; have y2 := blk_cell HY1.out.qb 2; have HX1 := Lib.hid ((HY1.out.put 1 (.int .u64 n1) ({k := 7, hh := n1} : Q) rfl (by decide)).put 2 (.int .u64 n2) ({k := 7, hh := n1, hl := n2} : Q) rfl (by decide)); have hxk1 := blk_cell HX1.out.qb 0; clear hr0 hf0))
    | (go_at_call 85; go_loud (have _t := HRD1.out; refine (Rf.number_k 1 (w.heap.size + 2) (w.heap.size + 1) xs0 0 1 _ rfl HRD1.out (by omega) hb).mono ?_; rw [HT0.out]; rw [HN0.out]; rintro en w2 ⟨rfl, hr2, hf2⟩; have HX0 := Lib.hid (show XS w (w2.alloc (.cells #[.int .u8 7, .int .u64 0, .int .u64 0, .int .u8 0, .int .u8 0, .int .u8 0, .int .i64 0, .string (⟨#[]⟩ : ByteArray), .int .u8 0, .int .i64 0, .string (⟨#[]⟩ : ByteArray), .int .i64 0, .int .i64 0, .int .u32 0, .int .u8 0, .int .u64 0, .int .u64 0] 110)) w2.heap.size {k := 7} ys 0 from ⟨hr2.below (below_alloc (Below.refl _ _) _), blk_new w2 _, blk_alloc (hf2.blk HZ1.out (by omega)) _, below_alloc (fr_below HBB1.out hf2 (fun k hk => by omega) (Nat.le_refl _)) _, HBS.out, HLY.out, (by have := hf2.size; rw [HS1.out] at this; exact this)⟩); have hx1 := HX0.out.rd.cell1; have hxk := blk_cell HX0.out.qb 0; have hxb := HX0.out.hb; clear hr2 hf2 HRD1)))
  obtain ⟨Wz, hWz⟩ : ∃ Wz, Wz = Wz := ⟨w, rfl⟩
  clear hWz Wz
  have HXE := HX3
  have zr := is_ref_of HXE.out.res rfl
  have hm1 := HXE.out.rd.cell1
  have hm3 := HXE.out.rd.frozen1
  obtain ⟨Ax, cx, hm0⟩ := HXE.out.rd.cell0
  have s0 := blk_cell HX3.out.qb 0
  have s1 := blk_cell HX3.out.qb 1
  have s2 := blk_cell HX3.out.qb 2
  have s3 := blk_cell HX3.out.qb 3
  have s4 := blk_cell HX3.out.qb 4
  have s5 := blk_cell HX3.out.qb 5
  have s6 := blk_cell HX3.out.qb 6
  have s7 := blk_cell HX3.out.qb 7
  have s8 := blk_cell HX3.out.qb 8
  have s9 := blk_cell HX3.out.qb 9
  have s10 := blk_cell HX3.out.qb 10
  have s11 := blk_cell HX3.out.qb 11
  have s12 := blk_cell HX3.out.qb 12
  have s13 := blk_cell HX3.out.qb 13
  have s14 := blk_cell HX3.out.qb 14
  have s15 := blk_cell HX3.out.qb 15
  have s16 := blk_cell HX3.out.qb 16
  by_cases hF0 : f4 = 0
  · have hflt := hF0
    subst hflt
    by_cases hX0 : xs4 = []
    · have HRES := Lib.hid (show reqP xs0 = (({k := 7, hh := n1, hl := n2, tw := n3, ri := n4} : Q), 0) by rw [HRES0.out, if_pos (by rw [hX0]; rfl)])
      have hlx0 : xs4.length = 0 := by rw [hX0]; rfl
      rw [hlx0] at hm0
      clear hX0 hlx0
      go_wp2
      refine bodyPost_ret (results_ct rfl _ _ w.heap.size 110 ({k := 7, hh := n1, hl := n2, tw := n3, ri := n4} : Q).cells (0, 0) _ rfl (setRow_heap _ _ _ _ _ _ HXE.out.res) Try.underlying110 rfl (by kernel_rfl)) rfl ?_
      exact ⟨by rw [HRES.out] <;> rfl, below_setRow HXE.out.bel (Nat.le_refl _) _⟩
    · have HRES := Lib.hid (show reqP xs0 = ({}, 12) by rw [HRES0.out]; unfold endP; rw [if_pos rfl, if_neg hX0]; rfl)
      have hlx0 : 0 < xs4.length := List.length_pos_iff.2 hX0
      have bx : decide ((0 : Int) < (xs4.length : Int)) = true := by simp; omega
      have HXF := Lib.hid (show QF ((w5.setCell ⟨w2.heap.size, 14, none⟩ (.int .u8 n4)).setCell ⟨w.heap.size + 1, 1, none⟩ (.int .i64 12)) w.heap.size {} from blk_far HXE.out.res (by show w.heap.size ≠ w.heap.size + 1; omega) _)
      have zr2 := is_ref_of (blk_drew HXF.out) rfl
      have hsr : ∀ (V : World) (cs : Array Value), (V.setRow w.heap.size cs).cell? ⟨w.heap.size + 1, 1, none⟩ = V.cell? ⟨w.heap.size + 1, 1, none⟩ := fun V cs => cell_setRow_other V _ cs _ (by show w.heap.size + 1 ≠ w.heap.size; omega)
      clear hX0
      go_wp2
      go_region
      go_wp2
      refine bodyPost_ret (results_ct rfl _ _ w.heap.size 110 #[.int .u8 0, .int .u64 0, .int .u64 0, .int .u8 0, .int .u8 0, .int .u8 0, .int .i64 0, .string (⟨#[]⟩ : ByteArray), .int .u8 0, .int .i64 0, .string (⟨#[]⟩ : ByteArray), .int .i64 0, .int .i64 0, .int .u32 0, .int .u8 0, .int .u64 0, .int .u64 0] (0, 0) _ rfl (setRow_heap _ _ _ _ _ _ (blk_drew HXF.out)) Try.underlying110 rfl (by kernel_rfl)) rfl ?_
      exact ⟨by rw [HRES.out] <;> rfl, below_setRow (below_drew1 (Below.setCell (p := ⟨w.heap.size + 1, 1, none⟩) HXE.out.bel (Nat.le_succ _) _)) (Nat.le_refl _) _⟩
  · have hE : endP xs4 f4 = f4 := by unfold endP; rw [if_neg hF0]
    have HRES := Lib.hid (show reqP xs0 = ({}, f4) by rw [HRES0.out, hE, if_neg hF0])
    have b1z : (f4 == 0) = false := by simpa using hF0
    have b2z : (f4 != 0) = true := by simpa using hF0
    have zr3 := is_ref_of (blk_drew HXE.out.res) rfl
    have hsr : ∀ (V : World) (cs : Array Value), (V.setRow w.heap.size cs).cell? ⟨w.heap.size + 1, 1, none⟩ = V.cell? ⟨w.heap.size + 1, 1, none⟩ := fun V cs => cell_setRow_other V _ cs _ (by show w.heap.size + 1 ≠ w.heap.size; omega)
    clear hE hF0
    go_wp2
    go_region
    go_wp2
    refine bodyPost_ret (results_ct rfl _ _ w.heap.size 110 #[.int .u8 0, .int .u64 0, .int .u64 0, .int .u8 0, .int .u8 0, .int .u8 0, .int .i64 0, .string (⟨#[]⟩ : ByteArray), .int .u8 0, .int .i64 0, .string (⟨#[]⟩ : ByteArray), .int .i64 0, .int .i64 0, .int .u32 0, .int .u8 0, .int .u64 0, .int .u64 0] (0, 0) _ rfl (setRow_heap _ _ _ _ _ _ (blk_drew HXE.out.res)) Try.underlying110 rfl (by kernel_rfl)) rfl ?_
    exact ⟨by rw [HRES.out] <;> rfl, below_setRow (below_drew1 HXE.out.bel) (Nat.le_refl _) _⟩
end Go.Proofs.Ytaoacibahdbdkaa.Req
