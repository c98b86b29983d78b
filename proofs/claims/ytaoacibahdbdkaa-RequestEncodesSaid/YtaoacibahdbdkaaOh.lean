/- Texts of this claim, laid together: ReqG4. -/
import Derived.Test.YtaoacibahdbdkaaOd
/-! request: the reference's Parse, by kinds. Printed by wip/tools/gen_reqf.py. -/
namespace Go.Proofs.Ytaoacibahdbdkaa.Req
open Go.RowKit Go Go.Proofs.Ytaoacibahdbdkaa.QRequestParses Go.Proofs.YtaoacibahdbdkaaW.PrintWords Go.Proofs.YtaoacibahdbdkaaW.PrintLast Go.Proofs.YtaoacibahdbdkaaW.PrintMore Go.Proofs.Ytaoacibahdbdkaa.Fra Go.Proofs.Ytaoacibahdbdkaa.Pk Go.Proofs.Ytaoacibahdbdkaa.Bts Go.Proofs.Ytaoacibahdbdkaa.Pr Go.Proofs.Ytaoacibahdbdkaa.Rep
attribute [local go_sem] is_ref_new World.setRow_alloc_new store_ref
attribute [local go_sem high] all_ref
set_option maxHeartbeats 8000000 in
set_option maxRecDepth 100000 in
theorem ref_5 (A0 : Option Addr) (c0 : Nat) (xs0 : List Int) (w : World) (hv : Byt w (.slice A0 xs0.length c0) xs0) (hlt : ∀ ad, A0 = some ad → 0 < xs0.length → ad.block < w.heap.size) (hl : xs0.length ≤ 100000) (hb : Bs xs0) (bs ys : List Int) (ht : takeP xs0 0 1 = (bs, ys, 0)) (hk : numB bs = 5) :
    Calls Try.prog 56 #[.slice A0 xs0.length c0] w (RefP w xs0) := by
  obtain ⟨q1, q2, q3, q4⟩ := takeP_bs1 ht hb
  have HT0 := Lib.hid ht
  have HN0 := Lib.hid hk
  have HBS := Lib.hid q2
  have HLY := Lib.hid (show ys.length ≤ 100000 by omega)
  clear q1 q3
  obtain ⟨bs1, xs1, f1, ht1⟩ : ∃ bs xs f, takeP ys 0 8 = (bs, xs, f) := ⟨_, _, _, rfl⟩
  obtain ⟨p1, hb1, s1, hl1⟩ := takeP_bs1 ht1 HBS.out
  obtain ⟨n1, hn1⟩ : ∃ n, numB bs1 = n := ⟨_, rfl⟩
  obtain ⟨bs2, xs2, f2, ht2⟩ : ∃ bs xs f, takeP xs1 f1 8 = (bs, xs, f) := ⟨_, _, _, rfl⟩
  obtain ⟨p2, hb2, s2, hl2⟩ := takeP_bs1 ht2 hb1
  obtain ⟨n2, hn2⟩ : ∃ n, numB bs2 = n := ⟨_, rfl⟩
  obtain ⟨bs3, xs3, f3, ht3⟩ : ∃ bs xs f, takeP xs2 f2 1 = (bs, xs, f) := ⟨_, _, _, rfl⟩
  obtain ⟨p3, hb3, s3, hl3⟩ := takeP_bs1 ht3 hb2
  obtain ⟨u3, v3⟩ := num1 p3 s3
  obtain ⟨n3, hn3⟩ : ∃ n, numB bs3 = n := ⟨_, rfl⟩
  obtain ⟨⟨kd4, kn4, ks4⟩, xs4, f4, ht4⟩ : ∃ a xs f, valueP xs3 f3 = (a, xs, f) := ⟨_, _, _, rfl⟩
  obtain ⟨hb4, hl4⟩ : Bs xs4 ∧ xs4.length ≤ xs3.length := by have := valueP_bs xs3 f3 hb3; rw [ht4] at this; exact this
  obtain ⟨⟨kd5, kn5, ks5⟩, xs5, f5, ht5⟩ : ∃ a xs f, valueP xs4 f4 = (a, xs, f) := ⟨_, _, _, rfl⟩
  obtain ⟨hb5, hl5⟩ : Bs xs5 ∧ xs5.length ≤ xs4.length := by have := valueP_bs xs4 f4 hb4; rw [ht5] at this; exact this
  have hrun : runP (partsOf 5) ({k := 5}, ys, 0) = (({k := 5, hh := n1, hl := n2, c := n3, kk := kd4, kn := kn4, ks := ks4, vk := kd5, vn := kn5, vs := ks5} : Q), xs5, f5) := by
    show gChanges (gHandle ({k := 5} : Q) ys 0).1 (gHandle ({k := 5} : Q) ys 0).2.1 (gHandle ({k := 5} : Q) ys 0).2.2 = _
    simp only [gHandle, gChanges, ht1, ht2, ht3, ht4, ht5, hn1, hn2, hn3]
  have hres := reqP_go ht hk (by decide) _ _ _ hrun
  have HRES0 := Lib.hid hres
  have HN1 := Lib.hid hn1
  have HN2 := Lib.hid hn2
  rw [hn3] at u3 v3
  have em3 : n3 % 256 = n3 := by omega
  have HN3 := Lib.hid hn3
  have HT1 := Lib.hid ht1
  have HB1 := Lib.hid hb1
  have HL1 := Lib.hid hl1
  have HT2 := Lib.hid ht2
  have HB2 := Lib.hid hb2
  have HL2 := Lib.hid hl2
  have HT3 := Lib.hid ht3
  have HB3 := Lib.hid hb3
  have HL3 := Lib.hid hl3
  have HT4 := Lib.hid ht4
  have HB4 := Lib.hid hb4
  have HL4 := Lib.hid hl4
  have HT5 := Lib.hid ht5
  have HB5 := Lib.hid hb5
  have HL5 := Lib.hid hl5
  clear hres hrun ht1 ht2 ht3 ht4 ht5 hb1 hb2 hb3 hb4 hb5 hl1 hl2 hl3 hl4 hl5 hn1 p1 s1 hn2 p2 s2 hn3 p3 s3 ht hk
  have hr1 : Rf.Rx ((w.alloc (.cells #[.int .u8 0, .int .u64 0, .int .u64 0, .int .u8 0, .int .u8 0, .int .u8 0, .int .i64 0, .string (⟨#[]⟩ : ByteArray), .int .u8 0, .int .i64 0, .string (⟨#[]⟩ : ByteArray), .int .i64 0, .int .i64 0, .int .u32 0, .int .u8 0, .int .u64 0, .int .u64 0] 110)).alloc (.cells #[.slice A0 xs0.length c0, .int .i64 0] 157)) (w.heap.size + 2) (w.heap.size + 1) xs0 0 := ⟨A0, c0, blk_new1 w _ _, hv.below (below_alloc (below_alloc (Below.refl _ _) _) _), by omega, fun ad ha hp => by have := hlt ad ha hp; omega⟩
  have HRD1 := Lib.hid hr1
  have HZ1 := Lib.hid (show QF ((w.alloc (.cells #[.int .u8 0, .int .u64 0, .int .u64 0, .int .u8 0, .int .u8 0, .int .u8 0, .int .i64 0, .string (⟨#[]⟩ : ByteArray), .int .u8 0, .int .i64 0, .string (⟨#[]⟩ : ByteArray), .int .i64 0, .int .i64 0, .int .u32 0, .int .u8 0, .int .u64 0, .int .u64 0] 110)).alloc (.cells #[.slice A0 xs0.length c0, .int .i64 0] 157)) w.heap.size {} from blk_alloc (blk_new w _) _)
  have HBB1 := Lib.hid (show Below w.heap.size w ((w.alloc (.cells #[.int .u8 0, .int .u64 0, .int .u64 0, .int .u8 0, .int .u8 0, .int .u8 0, .int .i64 0, .string (⟨#[]⟩ : ByteArray), .int .u8 0, .int .i64 0, .string (⟨#[]⟩ : ByteArray), .int .i64 0, .int .i64 0, .int .u32 0, .int .u8 0, .int .u64 0, .int .u64 0] 110)).alloc (.cells #[.slice A0 xs0.length c0, .int .i64 0] 157)) from below_alloc (below_alloc (Below.refl _ _) _) _)
  have HS1 := Lib.hid (show ((w.alloc (.cells #[.int .u8 0, .int .u64 0, .int .u64 0, .int .u8 0, .int .u8 0, .int .u8 0, .int .i64 0, .string (⟨#[]⟩ : ByteArray), .int .u8 0, .int .i64 0, .string (⟨#[]⟩ : ByteArray), .int .i64 0, .int .i64 0, .int .u32 0, .int .u8 0, .int .u64 0, .int .u64 0] 110)).alloc (.cells #[.slice A0 xs0.length c0, .int .i64 0] 157)).heap.size = w.heap.size + 2 by simp)
  clear hr1 hv
  go_enter Try.func56, Try.ntmps56
  go_upto_region 25 with (first
    | (go_at_call 87; go_loud (have _t := HX3.out; refine (Rf.value_reads (w.heap.size + 2) (w.heap.size + 1) xs4 f4 _ HX3.out.rd HX3.out.size (by have := HX3.out.hl; omega) HB4.out).mono ?_; rw [HT5.out]; rintro en w6 ⟨rfl, hr3, hf3⟩; have HY4 := Lib.hid (HX3.out.num hr3 hf3 HB5.out HL5.out); have z8 := blk_frozen HY4.out.qb 8; have y8 := blk_cell HY4.out.qb 8; have z9 := blk_frozen HY4.out.qb 9; have y9 := blk_cell HY4.out.qb 9; have z10 := blk_frozen HY4.out.qb 10; have y10 := blk_cell HY4.out.qb 10; have HX4 := Lib.hid (((HY4.out.put 8 (.int .u8 kd5) ({k := 5, hh := n1, hl := n2, c := n3, kk := kd4, kn := kn4, ks := ks4, vk := kd5} : Q) rfl (by decide)).put 9 (.int .i64 kn5) ({k := 5, hh := n1, hl := n2, c := n3, kk := kd4, kn := kn4, ks := ks4, vk := kd5, vn := kn5} : Q) rfl (by decide)).put 10 (.string ks5) ({k := 5, hh := n1, hl := n2, c := n3, kk := kd4, kn := kn4, ks := ks4, vk := kd5, vn := kn5, vs := ks5} : Q) rfl (by decide)); have hxk4 := blk_cell HX4.out.qb 0; clear hr3 hf3))
    | (go_at_call 87; go_loud (have _t := HX2.out; refine (Rf.value_reads (w.heap.size + 2) (w.heap.size + 1) xs3 f3 _ HX2.out.rd HX2.out.size (by have := HX2.out.hl; omega) HB3.out).mono ?_; rw [HT4.out]; rintro en w5 ⟨rfl, hr2, hf2⟩; have HY3 := Lib.hid (HX2.out.num hr2 hf2 HB4.out HL4.out); have z5 := blk_frozen HY3.out.qb 5; have y5 := blk_cell HY3.out.qb 5; have z6 := blk_frozen HY3.out.qb 6; have y6 := blk_cell HY3.out.qb 6; have z7 := blk_frozen HY3.out.qb 7; have y7 := blk_cell HY3.out.qb 7; have HX3 := Lib.hid (((HY3.out.put 5 (.int .u8 kd4) ({k := 5, hh := n1, hl := n2, c := n3, kk := kd4} : Q) rfl (by decide)).put 6 (.int .i64 kn4) ({k := 5, hh := n1, hl := n2, c := n3, kk := kd4, kn := kn4} : Q) rfl (by decide)).put 7 (.string ks4) ({k := 5, hh := n1, hl := n2, c := n3, kk := kd4, kn := kn4, ks := ks4} : Q) rfl (by decide)); have hxk3 := blk_cell HX3.out.qb 0; clear hr2 hf2))
    | (go_at_call 85; go_loud (have _t := HX1.out; refine (Rf.number_k 1 (w.heap.size + 2) (w.heap.size + 1) xs2 f2 1 _ rfl HX1.out.rd (by have := HX1.out.hl; omega) HB2.out).mono ?_; rw [HT3.out]; rw [HN3.out]; rintro en w4 ⟨rfl, hr1, hf1⟩; have HY2 := Lib.hid (HX1.out.num hr1 hf1 HB3.out HL3.out); have z4 := blk_frozen HY2.out.qb 4; have y4 := blk_cell HY2.out.qb 4; have HX2 := Lib.hid (HY2.out.put 4 (.int .u8 n3) ({k := 5, hh := n1, hl := n2, c := n3} : Q) rfl (by decide)); have hxk2 := blk_cell HX2.out.qb 0; clear hr1 hf1))
    | (go_at_call 86; go_loud (have _t := HX0.out; refine (handle_calls (w.heap.size + 2) (w.heap.size + 1) ys 0 _ HX0.out.rd HX0.out.size HX0.out.hl HBS.out _ _ _ HT1.out _ _ _ HT2.out).mono ?_; rw [HN1.out, HN2.out]; rintro en w3 ⟨rfl, hr0, hf0⟩; have HY1 := Lib.hid (HX0.out.num hr0 hf0 HB2.out (Nat.le_trans HL2.out HL1.out)); have z1 := blk_frozen HY1.out.qb 1; have y1 := blk_cell HY1.out.qb 1; have z2 := blk_frozen HY1.out.qb 2; have y2 := blk_cell HY1.out.qb 2; have HX1 := Lib.hid ((HY1.out.put 1 (.int .u64 n1) ({k := 5, hh := n1} : Q) rfl (by decide)).put 2 (.int .u64 n2) ({k := 5, hh := n1, hl := n2} : Q) rfl (by decide)); have hxk1 := blk_cell HX1.out.qb 0; clear hr0 hf0))
    | (go_at_call 85; go_loud (have _t := HRD1.out; refine (Rf.number_k 1 (w.heap.size + 2) (w.heap.size + 1) xs0 0 1 _ rfl HRD1.out (by omega) hb).mono ?_; rw [HT0.out]; rw [HN0.out]; rintro en w2 ⟨rfl, hr2, hf2⟩; have HX0 := Lib.hid (show XS w (w2.alloc (.cells #[.int .u8 5, .int .u64 0, .int .u64 0, .int .u8 0, .int .u8 0, .int .u8 0, .int .i64 0, .string (⟨#[]⟩ : ByteArray), .int .u8 0, .int .i64 0, .string (⟨#[]⟩ : ByteArray), .int .i64 0, .int .i64 0, .int .u32 0, .int .u8 0, .int .u64 0, .int .u64 0] 110)) w2.heap.size {k := 5} ys 0 from ⟨hr2.below (below_alloc (Below.refl _ _) _), blk_new w2 _, blk_alloc (hf2.blk HZ1.out (by omega)) _, below_alloc (fr_below HBB1.out hf2 (fun k hk => by omega) (Nat.le_refl _)) _, HBS.out, HLY.out, (by have := hf2.size; rw [HS1.out] at this; exact this)⟩); have hx1 := HX0.out.rd.cell1; have hxk := blk_cell HX0.out.qb 0; have hxb := HX0.out.hb; clear hr2 hf2 HRD1)))
  obtain ⟨Wz, hWz⟩ : ∃ Wz, Wz = Wz := ⟨w, rfl⟩
  clear hWz Wz
  have HXE := HX4
  have zr := is_ref_of HXE.out.res rfl
  have hm1 := HXE.out.rd.cell1
  have hm3 := HXE.out.rd.frozen1
  obtain ⟨Ax, cx, hm0⟩ := HXE.out.rd.cell0
  have s0 := blk_cell HX4.out.qb 0
  have s1 := blk_cell HX4.out.qb 1
  have s2 := blk_cell HX4.out.qb 2
  have s3 := blk_cell HX4.out.qb 3
  have s4 := blk_cell HX4.out.qb 4
  have s5 := blk_cell HX4.out.qb 5
  have s6 := blk_cell HX4.out.qb 6
  have s7 := blk_cell HX4.out.qb 7
  have s8 := blk_cell HX4.out.qb 8
  have s9 := blk_cell HX4.out.qb 9
  have s10 := blk_cell HX4.out.qb 10
  have s11 := blk_cell HX4.out.qb 11
  have s12 := blk_cell HX4.out.qb 12
  have s13 := blk_cell HX4.out.qb 13
  have s14 := blk_cell HX4.out.qb 14
  have s15 := blk_cell HX4.out.qb 15
  have s16 := blk_cell HX4.out.qb 16
  by_cases hF0 : f5 = 0
  · have hflt := hF0
    subst hflt
    by_cases hX0 : xs5 = []
    · have HRES := Lib.hid (show reqP xs0 = (({k := 5, hh := n1, hl := n2, c := n3, kk := kd4, kn := kn4, ks := ks4, vk := kd5, vn := kn5, vs := ks5} : Q), 0) by rw [HRES0.out, if_pos (by rw [hX0]; rfl)])
      have hlx0 : xs5.length = 0 := by rw [hX0]; rfl
      rw [hlx0] at hm0
      clear hX0 hlx0
      go_wp2
      refine bodyPost_ret (results_ct rfl _ _ w.heap.size 110 ({k := 5, hh := n1, hl := n2, c := n3, kk := kd4, kn := kn4, ks := ks4, vk := kd5, vn := kn5, vs := ks5} : Q).cells (0, 0) _ rfl (setRow_heap _ _ _ _ _ _ HXE.out.res) Try.underlying110 rfl (by kernel_rfl)) rfl ?_
      exact ⟨by rw [HRES.out] <;> rfl, below_setRow HXE.out.bel (Nat.le_refl _) _⟩
    · have HRES := Lib.hid (show reqP xs0 = ({}, 12) by rw [HRES0.out]; unfold endP; rw [if_pos rfl, if_neg hX0]; rfl)
      have hlx0 : 0 < xs5.length := List.length_pos_iff.2 hX0
      have bx : decide ((0 : Int) < (xs5.length : Int)) = true := by simp; omega
      have HXF := Lib.hid (show QF ((((w6.setCell ⟨w2.heap.size, 8, none⟩ (.int .u8 kd5)).setCell ⟨w2.heap.size, 9, none⟩ (.int .i64 kn5)).setCell ⟨w2.heap.size, 10, none⟩ (.string ks5)).setCell ⟨w.heap.size + 1, 1, none⟩ (.int .i64 12)) w.heap.size {} from blk_far HXE.out.res (by show w.heap.size ≠ w.heap.size + 1; omega) _)
      have zr2 := is_ref_of (blk_drew HXF.out) rfl
      have hsr : ∀ (V : World) (cs : Array Value), (V.setRow w.heap.size cs).cell? ⟨w.heap.size + 1, 1, none⟩ = V.cell? ⟨w.heap.size + 1, 1, none⟩ := fun V cs => cell_setRow_other V _ cs _ (by show w.heap.size + 1 ≠ w.heap.size; omega)
      clear hX0
      go_wp2
      go_region
      go_wp2
      refine bodyPost_ret (results_ct rfl _ _ w.heap.size 110 #[.int .u8 0, .int .u64 0, .int .u64 0, .int .u8 0, .int .u8 0, .int .u8 0, .int .i64 0, .string (⟨#[]⟩ : ByteArray), .int .u8 0, .int .i64 0, .string (⟨#[]⟩ : ByteArray), .int .i64 0, .int .i64 0, .int .u32 0, .int .u8 0, .int .u64 0, .int .u64 0] (0, 0) _ rfl (setRow_heap _ _ _ _ _ _ (blk_drew HXF.out)) Try.underlying110 rfl (by kernel_rfl)) rfl ?_
      exact ⟨by rw [HRES.out] <;> rfl, below_setRow (below_drew1 (Below.setCell (p := ⟨w.heap.size + 1, 1, none⟩) HXE.out.bel (Nat.le_succ _) _)) (Nat.le_refl _) _⟩
  · have hE : endP xs5 f5 = f5 := by unfold endP; rw [if_neg hF0]
    have HRES := Lib.hid (show reqP xs0 = ({}, f5) by rw [HRES0.out, hE, if_neg hF0])
    have b1z : (f5 == 0) = false := by simpa using hF0
    have b2z : (f5 != 0) = true := by simpa using hF0
    have zr3 := is_ref_of (blk_drew HXE.out.res) rfl
    have hsr : ∀ (V : World) (cs : Array Value), (V.setRow w.heap.size cs).cell? ⟨w.heap.size + 1, 1, none⟩ = V.cell? ⟨w.heap.size + 1, 1, none⟩ := fun V cs => cell_setRow_other V _ cs _ (by show w.heap.size + 1 ≠ w.heap.size; omega)
    clear hE hF0
    go_wp2
    go_region
    go_wp2
    refine bodyPost_ret (results_ct rfl _ _ w.heap.size 110 #[.int .u8 0, .int .u64 0, .int .u64 0, .int .u8 0, .int .u8 0, .int .u8 0, .int .i64 0, .string (⟨#[]⟩ : ByteArray), .int .u8 0, .int .i64 0, .string (⟨#[]⟩ : ByteArray), .int .i64 0, .int .i64 0, .int .u32 0, .int .u8 0, .int .u64 0, .int .u64 0] (0, 0) _ rfl (setRow_heap _ _ _ _ _ _ (blk_drew HXE.out.res)) Try.underlying110 rfl (by kernel_rfl)) rfl ?_
    exact ⟨by rw [HRES.out] <;> rfl, below_setRow (below_drew1 HXE.out.bel) (Nat.le_refl _) _⟩
end Go.Proofs.Ytaoacibahdbdkaa.Req
