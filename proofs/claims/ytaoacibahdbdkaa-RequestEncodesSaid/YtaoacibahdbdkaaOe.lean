/- Texts of this claim, laid together: ReqG1. -/
import Derived.Test.YtaoacibahdbdkaaOd
/-! request: the reference's Parse, by kinds. Printed by wip/tools/gen_reqf.py. -/
namespace Go.Proofs.Ytaoacibahdbdkaa.Req
open Go.RowKit Go Go.Proofs.Ytaoacibahdbdkaa.QRequestParses Go.Proofs.YtaoacibahdbdkaaW.PrintWords Go.Proofs.YtaoacibahdbdkaaW.PrintLast Go.Proofs.YtaoacibahdbdkaaW.PrintMore Go.Proofs.Ytaoacibahdbdkaa.Fra Go.Proofs.Ytaoacibahdbdkaa.Pk Go.Proofs.Ytaoacibahdbdkaa.Bts Go.Proofs.Ytaoacibahdbdkaa.Pr Go.Proofs.Ytaoacibahdbdkaa.Rep
attribute [local go_sem] is_ref_new World.setRow_alloc_new store_ref
attribute [local go_sem high] all_ref
set_option maxHeartbeats 8000000 in
set_option maxRecDepth 100000 in
theorem ref_fail (A0 : Option Addr) (c0 : Nat) (xs0 : List Int) (w : World) (hv : Byt w (.slice A0 xs0.length c0) xs0) (hlt : ∀ ad, A0 = some ad → 0 < xs0.length → ad.block < w.heap.size) (hl : xs0.length ≤ 100000) (hb : Bs xs0) (bs ys : List Int) (f1 : Int) (ht : takeP xs0 0 1 = (bs, ys, f1)) (hf : f1 ≠ 0) :
    Calls Try.prog 56 #[.slice A0 xs0.length c0] w (RefP w xs0) := by
  have hres := reqP_fail ht hf
  have hk : numB bs = 0 := by have := takeP_wrong xs0 0 1 (by rw [ht]; exact hf); rw [ht] at this; dsimp only at this; rw [this]; rfl
  obtain ⟨q1, q2, q3, q4⟩ := takeP_bs1 ht hb
  have HT0 := Lib.hid ht
  have HN0 := Lib.hid hk
  have HBS := Lib.hid q2
  have HLY := Lib.hid (show ys.length ≤ 100000 by omega)
  clear q1 q3
  have HRES := Lib.hid hres
  have b1 : (f1 != 0) = true := by simpa using hf
  have b2 : (f1 == 0) = false := by simpa using hf
  clear hres hf ht hk
  have hr1 : Rf.Rx ((w.alloc (.cells #[.int .u8 0, .int .u64 0, .int .u64 0, .int .u8 0, .int .u8 0, .int .u8 0, .int .i64 0, .string (⟨#[]⟩ : ByteArray), .int .u8 0, .int .i64 0, .string (⟨#[]⟩ : ByteArray), .int .i64 0, .int .i64 0, .int .u32 0, .int .u8 0, .int .u64 0, .int .u64 0] 110)).alloc (.cells #[.slice A0 xs0.length c0, .int .i64 0] 157)) (w.heap.size + 2) (w.heap.size + 1) xs0 0 := ⟨A0, c0, blk_new1 w _ _, hv.below (below_alloc (below_alloc (Below.refl _ _) _) _), by omega, fun ad ha hp => by have := hlt ad ha hp; omega⟩
  have HRD1 := Lib.hid hr1
  have HZ1 := Lib.hid (show QF ((w.alloc (.cells #[.int .u8 0, .int .u64 0, .int .u64 0, .int .u8 0, .int .u8 0, .int .u8 0, .int .i64 0, .string (⟨#[]⟩ : ByteArray), .int .u8 0, .int .i64 0, .string (⟨#[]⟩ : ByteArray), .int .i64 0, .int .i64 0, .int .u32 0, .int .u8 0, .int .u64 0, .int .u64 0] 110)).alloc (.cells #[.slice A0 xs0.length c0, .int .i64 0] 157)) w.heap.size {} from blk_alloc (blk_new w _) _)
  have HB1 := Lib.hid (show Below w.heap.size w ((w.alloc (.cells #[.int .u8 0, .int .u64 0, .int .u64 0, .int .u8 0, .int .u8 0, .int .u8 0, .int .i64 0, .string (⟨#[]⟩ : ByteArray), .int .u8 0, .int .i64 0, .string (⟨#[]⟩ : ByteArray), .int .i64 0, .int .i64 0, .int .u32 0, .int .u8 0, .int .u64 0, .int .u64 0] 110)).alloc (.cells #[.slice A0 xs0.length c0, .int .i64 0] 157)) from below_alloc (below_alloc (Below.refl _ _) _) _)
  have HS1 := Lib.hid (show ((w.alloc (.cells #[.int .u8 0, .int .u64 0, .int .u64 0, .int .u8 0, .int .u8 0, .int .u8 0, .int .i64 0, .string (⟨#[]⟩ : ByteArray), .int .u8 0, .int .i64 0, .string (⟨#[]⟩ : ByteArray), .int .i64 0, .int .i64 0, .int .u32 0, .int .u8 0, .int .u64 0, .int .u64 0] 110)).alloc (.cells #[.slice A0 xs0.length c0, .int .i64 0] 157)).heap.size = w.heap.size + 2 by simp)
  clear hr1 hv
  go_enter Try.func56, Try.ntmps56
  go_upto_region 4 with (go_at_call 85; go_loud (have _t := HRD1.out; refine (Rf.number_k 1 (w.heap.size + 2) (w.heap.size + 1) xs0 0 1 _ rfl HRD1.out (by omega) hb).mono ?_; rw [HT0.out]; rw [HN0.out]; rintro en w2 ⟨rfl, hr2, hf2⟩; have HX0 := Lib.hid (show XS w (w2.alloc (.cells #[.int .u8 0, .int .u64 0, .int .u64 0, .int .u8 0, .int .u8 0, .int .u8 0, .int .i64 0, .string (⟨#[]⟩ : ByteArray), .int .u8 0, .int .i64 0, .string (⟨#[]⟩ : ByteArray), .int .i64 0, .int .i64 0, .int .u32 0, .int .u8 0, .int .u64 0, .int .u64 0] 110)) w2.heap.size {k := 0} ys f1 from ⟨hr2.below (below_alloc (Below.refl _ _) _), blk_new w2 _, blk_alloc (hf2.blk HZ1.out (by omega)) _, below_alloc (fr_below HB1.out hf2 (fun k hk => by omega) (Nat.le_refl _)) _, HBS.out, HLY.out, (by have := hf2.size; rw [HS1.out] at this; exact this)⟩); have hx1 := HX0.out.rd.cell1; have hxk := blk_cell HX0.out.qb 0; have hxb := HX0.out.hb; clear hr2 hf2 HRD1))
  have zr := is_ref_of (blk_drew HX0.out.res) rfl
  have hsr : ∀ (V : World) (cs : Array Value), (V.setRow w.heap.size cs).cell? ⟨w.heap.size + 1, 1, none⟩ = V.cell? ⟨w.heap.size + 1, 1, none⟩ := fun V cs => cell_setRow_other V _ cs _ (by show w.heap.size + 1 ≠ w.heap.size; omega)
  go_wp2
  go_region
  go_wp2
  refine bodyPost_ret (results_ct rfl _ _ w.heap.size 110 #[.int .u8 0, .int .u64 0, .int .u64 0, .int .u8 0, .int .u8 0, .int .u8 0, .int .i64 0, .string (⟨#[]⟩ : ByteArray), .int .u8 0, .int .i64 0, .string (⟨#[]⟩ : ByteArray), .int .i64 0, .int .i64 0, .int .u32 0, .int .u8 0, .int .u64 0, .int .u64 0] (0, 0) _ rfl (setRow_heap _ _ _ _ _ _ (blk_drew HX0.out.res)) Try.underlying110 rfl (by kernel_rfl)) rfl ?_
  exact ⟨by rw [HRES.out] <;> rfl, below_setRow (below_drew1 HX0.out.bel) (Nat.le_refl _) _⟩
set_option maxHeartbeats 8000000 in
set_option maxRecDepth 100000 in
theorem ref_none (A0 : Option Addr) (c0 : Nat) (xs0 : List Int) (w : World) (hv : Byt w (.slice A0 xs0.length c0) xs0) (hlt : ∀ ad, A0 = some ad → 0 < xs0.length → ad.block < w.heap.size) (hl : xs0.length ≤ 100000) (hb : Bs xs0) (bs ys : List Int) (k : Int) (ht : takeP xs0 0 1 = (bs, ys, 0)) (hk : numB bs = k) (ho : okK k = false) :
    Calls Try.prog 56 #[.slice A0 xs0.length c0] w (RefP w xs0) := by
  have hres := reqP_none ht hk ho
  have hk2 : 0 ≤ k ∧ k < 256 := by have h := takeP_bs1 ht hb; have := num1 h.1 h.2.2.1; rw [hk] at this; exact this
  obtain ⟨u0, u1⟩ := hk2
  have em : k % 256 = k := by omega
  have hk3 : k < 1 ∨ 10 < k := by
    unfold okK at ho
    simp only [Bool.and_eq_false_iff, decide_eq_false_iff_not] at ho
    omega
  obtain ⟨q1, q2, q3, q4⟩ := takeP_bs1 ht hb
  have HT0 := Lib.hid ht
  have HN0 := Lib.hid hk
  have HBS := Lib.hid q2
  have HLY := Lib.hid (show ys.length ≤ 100000 by omega)
  clear q1 q3
  have HRES := Lib.hid hres
  clear hres ht hk ho
  have hr1 : Rf.Rx ((w.alloc (.cells #[.int .u8 0, .int .u64 0, .int .u64 0, .int .u8 0, .int .u8 0, .int .u8 0, .int .i64 0, .string (⟨#[]⟩ : ByteArray), .int .u8 0, .int .i64 0, .string (⟨#[]⟩ : ByteArray), .int .i64 0, .int .i64 0, .int .u32 0, .int .u8 0, .int .u64 0, .int .u64 0] 110)).alloc (.cells #[.slice A0 xs0.length c0, .int .i64 0] 157)) (w.heap.size + 2) (w.heap.size + 1) xs0 0 := ⟨A0, c0, blk_new1 w _ _, hv.below (below_alloc (below_alloc (Below.refl _ _) _) _), by omega, fun ad ha hp => by have := hlt ad ha hp; omega⟩
  have HRD1 := Lib.hid hr1
  have HZ1 := Lib.hid (show QF ((w.alloc (.cells #[.int .u8 0, .int .u64 0, .int .u64 0, .int .u8 0, .int .u8 0, .int .u8 0, .int .i64 0, .string (⟨#[]⟩ : ByteArray), .int .u8 0, .int .i64 0, .string (⟨#[]⟩ : ByteArray), .int .i64 0, .int .i64 0, .int .u32 0, .int .u8 0, .int .u64 0, .int .u64 0] 110)).alloc (.cells #[.slice A0 xs0.length c0, .int .i64 0] 157)) w.heap.size {} from blk_alloc (blk_new w _) _)
  have HB1 := Lib.hid (show Below w.heap.size w ((w.alloc (.cells #[.int .u8 0, .int .u64 0, .int .u64 0, .int .u8 0, .int .u8 0, .int .u8 0, .int .i64 0, .string (⟨#[]⟩ : ByteArray), .int .u8 0, .int .i64 0, .string (⟨#[]⟩ : ByteArray), .int .i64 0, .int .i64 0, .int .u32 0, .int .u8 0, .int .u64 0, .int .u64 0] 110)).alloc (.cells #[.slice A0 xs0.length c0, .int .i64 0] 157)) from below_alloc (below_alloc (Below.refl _ _) _) _)
  have HS1 := Lib.hid (show ((w.alloc (.cells #[.int .u8 0, .int .u64 0, .int .u64 0, .int .u8 0, .int .u8 0, .int .u8 0, .int .i64 0, .string (⟨#[]⟩ : ByteArray), .int .u8 0, .int .i64 0, .string (⟨#[]⟩ : ByteArray), .int .i64 0, .int .i64 0, .int .u32 0, .int .u8 0, .int .u64 0, .int .u64 0] 110)).alloc (.cells #[.slice A0 xs0.length c0, .int .i64 0] 157)).heap.size = w.heap.size + 2 by simp)
  clear hr1 hv
  rcases (by omega : k < 1 ∨ (¬ k < 1 ∧ 10 < k)) with h1 | ⟨h1, h2⟩
  all_goals (
    go_enter Try.func56, Try.ntmps56
    go_upto_region 5 with (go_at_call 85; go_loud (have _t := HRD1.out; refine (Rf.number_k 1 (w.heap.size + 2) (w.heap.size + 1) xs0 0 1 _ rfl HRD1.out (by omega) hb).mono ?_; rw [HT0.out]; rw [HN0.out]; rintro en w2 ⟨rfl, hr2, hf2⟩; have HX0 := Lib.hid (show XS w (w2.alloc (.cells #[.int .u8 k, .int .u64 0, .int .u64 0, .int .u8 0, .int .u8 0, .int .u8 0, .int .i64 0, .string (⟨#[]⟩ : ByteArray), .int .u8 0, .int .i64 0, .string (⟨#[]⟩ : ByteArray), .int .i64 0, .int .i64 0, .int .u32 0, .int .u8 0, .int .u64 0, .int .u64 0] 110)) w2.heap.size {k := k} ys 0 from ⟨hr2.below (below_alloc (Below.refl _ _) _), blk_new w2 _, blk_alloc (hf2.blk HZ1.out (by omega)) _, below_alloc (fr_below HB1.out hf2 (fun k hk => by omega) (Nat.le_refl _)) _, HBS.out, HLY.out, (by have := hf2.size; rw [HS1.out] at this; exact this)⟩); have hx1 := HX0.out.rd.cell1; have hxk := blk_cell HX0.out.qb 0; have hxb := HX0.out.hb; clear hr2 hf2 HRD1))
    have zr := is_ref_of HX0.out.res rfl
    go_wp2
    refine bodyPost_ret (results_ct rfl _ _ w.heap.size 110 #[.int .u8 0, .int .u64 0, .int .u64 0, .int .u8 0, .int .u8 0, .int .u8 0, .int .i64 0, .string (⟨#[]⟩ : ByteArray), .int .u8 0, .int .i64 0, .string (⟨#[]⟩ : ByteArray), .int .i64 0, .int .i64 0, .int .u32 0, .int .u8 0, .int .u64 0, .int .u64 0] (0, 0) _ rfl (setRow_heap _ _ _ _ _ _ HX0.out.res) Try.underlying110 rfl (by kernel_rfl)) rfl ?_
    exact ⟨by rw [HRES.out] <;> rfl, below_setRow HX0.out.bel (Nat.le_refl _) _⟩)
set_option maxHeartbeats 8000000 in
set_option maxRecDepth 100000 in
theorem ref_1 (A0 : Option Addr) (c0 : Nat) (xs0 : List Int) (w : World) (hv : Byt w (.slice A0 xs0.length c0) xs0) (hlt : ∀ ad, A0 = some ad → 0 < xs0.length → ad.block < w.heap.size) (hl : xs0.length ≤ 100000) (hb : Bs xs0) (bs ys : List Int) (ht : takeP xs0 0 1 = (bs, ys, 0)) (hk : numB bs = 1) :
    Calls Try.prog 56 #[.slice A0 xs0.length c0] w (RefP w xs0) := by
  obtain ⟨q1, q2, q3, q4⟩ := takeP_bs1 ht hb
  have HT0 := Lib.hid ht
  have HN0 := Lib.hid hk
  have HBS := Lib.hid q2
  have HLY := Lib.hid (show ys.length ≤ 100000 by omega)
  clear q1 q3
  obtain ⟨bs1, xs1, f1, ht1⟩ : ∃ bs xs f, takeP ys 0 1 = (bs, xs, f) := ⟨_, _, _, rfl⟩
  obtain ⟨p1, hb1, s1, hl1⟩ := takeP_bs1 ht1 HBS.out
  obtain ⟨u1, v1⟩ := num1 p1 s1
  obtain ⟨n1, hn1⟩ : ∃ n, numB bs1 = n := ⟨_, rfl⟩
  have hrun : runP (partsOf 1) ({k := 1}, ys, 0) = (({k := 1, o := n1} : Q), xs1, f1) := by
    show gKind ({k := 1} : Q) ys 0 = _
    simp only [gKind, ht1, hn1]
  have hres := reqP_go ht hk (by decide) _ _ _ hrun
  have HRES0 := Lib.hid hres
  rw [hn1] at u1 v1
  have em1 : n1 % 256 = n1 := by omega
  have HN1 := Lib.hid hn1
  have HT1 := Lib.hid ht1
  have HB1 := Lib.hid hb1
  have HL1 := Lib.hid hl1
  clear hres hrun ht1 hb1 hl1 hn1 p1 s1 ht hk
  have hr1 : Rf.Rx ((w.alloc (.cells #[.int .u8 0, .int .u64 0, .int .u64 0, .int .u8 0, .int .u8 0, .int .u8 0, .int .i64 0, .string (⟨#[]⟩ : ByteArray), .int .u8 0, .int .i64 0, .string (⟨#[]⟩ : ByteArray), .int .i64 0, .int .i64 0, .int .u32 0, .int .u8 0, .int .u64 0, .int .u64 0] 110)).alloc (.cells #[.slice A0 xs0.length c0, .int .i64 0] 157)) (w.heap.size + 2) (w.heap.size + 1) xs0 0 := ⟨A0, c0, blk_new1 w _ _, hv.below (below_alloc (below_alloc (Below.refl _ _) _) _), by omega, fun ad ha hp => by have := hlt ad ha hp; omega⟩
  have HRD1 := Lib.hid hr1
  have HZ1 := Lib.hid (show QF ((w.alloc (.cells #[.int .u8 0, .int .u64 0, .int .u64 0, .int .u8 0, .int .u8 0, .int .u8 0, .int .i64 0, .string (⟨#[]⟩ : ByteArray), .int .u8 0, .int .i64 0, .string (⟨#[]⟩ : ByteArray), .int .i64 0, .int .i64 0, .int .u32 0, .int .u8 0, .int .u64 0, .int .u64 0] 110)).alloc (.cells #[.slice A0 xs0.length c0, .int .i64 0] 157)) w.heap.size {} from blk_alloc (blk_new w _) _)
  have HBB1 := Lib.hid (show Below w.heap.size w ((w.alloc (.cells #[.int .u8 0, .int .u64 0, .int .u64 0, .int .u8 0, .int .u8 0, .int .u8 0, .int .i64 0, .string (⟨#[]⟩ : ByteArray), .int .u8 0, .int .i64 0, .string (⟨#[]⟩ : ByteArray), .int .i64 0, .int .i64 0, .int .u32 0, .int .u8 0, .int .u64 0, .int .u64 0] 110)).alloc (.cells #[.slice A0 xs0.length c0, .int .i64 0] 157)) from below_alloc (below_alloc (Below.refl _ _) _) _)
  have HS1 := Lib.hid (show ((w.alloc (.cells #[.int .u8 0, .int .u64 0, .int .u64 0, .int .u8 0, .int .u8 0, .int .u8 0, .int .i64 0, .string (⟨#[]⟩ : ByteArray), .int .u8 0, .int .i64 0, .string (⟨#[]⟩ : ByteArray), .int .i64 0, .int .i64 0, .int .u32 0, .int .u8 0, .int .u64 0, .int .u64 0] 110)).alloc (.cells #[.slice A0 xs0.length c0, .int .i64 0] 157)).heap.size = w.heap.size + 2 by simp)
  clear hr1 hv
  go_enter Try.func56, Try.ntmps56
  go_upto_region 25 with (first
    | (go_at_call 85; go_loud (have _t := HX0.out; refine (Rf.number_k 1 (w.heap.size + 2) (w.heap.size + 1) ys 0 1 _ rfl HX0.out.rd (by have := HX0.out.hl; omega) HBS.out).mono ?_; rw [HT1.out]; rw [HN1.out]; rintro en w3 ⟨rfl, hr0, hf0⟩; have HY1 := Lib.hid (HX0.out.num hr0 hf0 HB1.out HL1.out); have z3 := blk_frozen HY1.out.qb 3; have y3 := blk_cell HY1.out.qb 3; have HX1 := Lib.hid (HY1.out.put 3 (.int .u8 n1) ({k := 1, o := n1} : Q) rfl (by decide)); have hxk1 := blk_cell HX1.out.qb 0; clear hr0 hf0))
    | (go_at_call 85; go_loud (have _t := HRD1.out; refine (Rf.number_k 1 (w.heap.size + 2) (w.heap.size + 1) xs0 0 1 _ rfl HRD1.out (by omega) hb).mono ?_; rw [HT0.out]; rw [HN0.out]; rintro en w2 ⟨rfl, hr2, hf2⟩; have HX0 := Lib.hid (show XS w (w2.alloc (.cells #[.int .u8 1, .int .u64 0, .int .u64 0, .int .u8 0, .int .u8 0, .int .u8 0, .int .i64 0, .string (⟨#[]⟩ : ByteArray), .int .u8 0, .int .i64 0, .string (⟨#[]⟩ : ByteArray), .int .i64 0, .int .i64 0, .int .u32 0, .int .u8 0, .int .u64 0, .int .u64 0] 110)) w2.heap.size {k := 1} ys 0 from ⟨hr2.below (below_alloc (Below.refl _ _) _), blk_new w2 _, blk_alloc (hf2.blk HZ1.out (by omega)) _, below_alloc (fr_below HBB1.out hf2 (fun k hk => by omega) (Nat.le_refl _)) _, HBS.out, HLY.out, (by have := hf2.size; rw [HS1.out] at this; exact this)⟩); have hx1 := HX0.out.rd.cell1; have hxk := blk_cell HX0.out.qb 0; have hxb := HX0.out.hb; clear hr2 hf2 HRD1)))
  obtain ⟨Wz, hWz⟩ : ∃ Wz, Wz = Wz := ⟨w, rfl⟩
  clear hWz Wz
  have HXE := HX1
  have zr := is_ref_of HXE.out.res rfl
  have hm1 := HXE.out.rd.cell1
  have hm3 := HXE.out.rd.frozen1
  obtain ⟨Ax, cx, hm0⟩ := HXE.out.rd.cell0
  have s0 := blk_cell HX1.out.qb 0
  have s1 := blk_cell HX1.out.qb 1
  have s2 := blk_cell HX1.out.qb 2
  have s3 := blk_cell HX1.out.qb 3
  have s4 := blk_cell HX1.out.qb 4
  have s5 := blk_cell HX1.out.qb 5
  have s6 := blk_cell HX1.out.qb 6
  have s7 := blk_cell HX1.out.qb 7
  have s8 := blk_cell HX1.out.qb 8
  have s9 := blk_cell HX1.out.qb 9
  have s10 := blk_cell HX1.out.qb 10
  have s11 := blk_cell HX1.out.qb 11
  have s12 := blk_cell HX1.out.qb 12
  have s13 := blk_cell HX1.out.qb 13
  have s14 := blk_cell HX1.out.qb 14
  have s15 := blk_cell HX1.out.qb 15
  have s16 := blk_cell HX1.out.qb 16
  by_cases hF0 : f1 = 0
  · have hflt := hF0
    subst hflt
    by_cases hX0 : xs1 = []
    · have HRES := Lib.hid (show reqP xs0 = (({k := 1, o := n1} : Q), 0) by rw [HRES0.out, if_pos (by rw [hX0]; rfl)])
      have hlx0 : xs1.length = 0 := by rw [hX0]; rfl
      rw [hlx0] at hm0
      clear hX0 hlx0
      go_wp2
      refine bodyPost_ret (results_ct rfl _ _ w.heap.size 110 ({k := 1, o := n1} : Q).cells (0, 0) _ rfl (setRow_heap _ _ _ _ _ _ HXE.out.res) Try.underlying110 rfl (by kernel_rfl)) rfl ?_
      exact ⟨by rw [HRES.out] <;> rfl, below_setRow HXE.out.bel (Nat.le_refl _) _⟩
    · have HRES := Lib.hid (show reqP xs0 = ({}, 12) by rw [HRES0.out]; unfold endP; rw [if_pos rfl, if_neg hX0]; rfl)
      have hlx0 : 0 < xs1.length := List.length_pos_iff.2 hX0
      have bx : decide ((0 : Int) < (xs1.length : Int)) = true := by simp; omega
      have HXF := Lib.hid (show QF ((w3.setCell ⟨w2.heap.size, 3, none⟩ (.int .u8 n1)).setCell ⟨w.heap.size + 1, 1, none⟩ (.int .i64 12)) w.heap.size {} from blk_far HXE.out.res (by show w.heap.size ≠ w.heap.size + 1; omega) _)
      have zr2 := is_ref_of (blk_drew HXF.out) rfl
      have hsr : ∀ (V : World) (cs : Array Value), (V.setRow w.heap.size cs).cell? ⟨w.heap.size + 1, 1, none⟩ = V.cell? ⟨w.heap.size + 1, 1, none⟩ := fun V cs => cell_setRow_other V _ cs _ (by show w.heap.size + 1 ≠ w.heap.size; omega)
      clear hX0
      go_wp2
      go_region
      go_wp2
      refine bodyPost_ret (results_ct rfl _ _ w.heap.size 110 #[.int .u8 0, .int .u64 0, .int .u64 0, .int .u8 0, .int .u8 0, .int .u8 0, .int .i64 0, .string (⟨#[]⟩ : ByteArray), .int .u8 0, .int .i64 0, .string (⟨#[]⟩ : ByteArray), .int .i64 0, .int .i64 0, .int .u32 0, .int .u8 0, .int .u64 0, .int .u64 0] (0, 0) _ rfl (setRow_heap _ _ _ _ _ _ (blk_drew HXF.out)) Try.underlying110 rfl (by kernel_rfl)) rfl ?_
      exact ⟨by rw [HRES.out] <;> rfl, below_setRow (below_drew1 (Below.setCell (p := ⟨w.heap.size + 1, 1, none⟩) HXE.out.bel (Nat.le_succ _) _)) (Nat.le_refl _) _⟩
  · have hE : endP xs1 f1 = f1 := by unfold endP; rw [if_neg hF0]
    have HRES := Lib.hid (show reqP xs0 = ({}, f1) by rw [HRES0.out, hE, if_neg hF0])
    have b1z : (f1 == 0) = false := by simpa using hF0
    have b2z : (f1 != 0) = true := by simpa using hF0
    have zr3 := is_ref_of (blk_drew HXE.out.res) rfl
    have hsr : ∀ (V : World) (cs : Array Value), (V.setRow w.heap.size cs).cell? ⟨w.heap.size + 1, 1, none⟩ = V.cell? ⟨w.heap.size + 1, 1, none⟩ := fun V cs => cell_setRow_other V _ cs _ (by show w.heap.size + 1 ≠ w.heap.size; omega)
    clear hE hF0
    go_wp2
    go_region
    go_wp2
    refine bodyPost_ret (results_ct rfl _ _ w.heap.size 110 #[.int .u8 0, .int .u64 0, .int .u64 0, .int .u8 0, .int .u8 0, .int .u8 0, .int .i64 0, .string (⟨#[]⟩ : ByteArray), .int .u8 0, .int .i64 0, .string (⟨#[]⟩ : ByteArray), .int .i64 0, .int .i64 0, .int .u32 0, .int .u8 0, .int .u64 0, .int .u64 0] (0, 0) _ rfl (setRow_heap _ _ _ _ _ _ (blk_drew HXE.out.res)) Try.underlying110 rfl (by kernel_rfl)) rfl ?_
    exact ⟨by rw [HRES.out] <;> rfl, below_setRow (below_drew1 HXE.out.bel) (Nat.le_refl _) _⟩
set_option maxHeartbeats 8000000 in
set_option maxRecDepth 100000 in
theorem ref_4 (A0 : Option Addr) (c0 : Nat) (xs0 : List Int) (w : World) (hv : Byt w (.slice A0 xs0.length c0) xs0) (hlt : ∀ ad, A0 = some ad → 0 < xs0.length → ad.block < w.heap.size) (hl : xs0.length ≤ 100000) (hb : Bs xs0) (bs ys : List Int) (k : Int) (ht : takeP xs0 0 1 = (bs, ys, 0)) (hk : numB bs = k) (hg : k = 4 ∨ k = 6 ∨ k = 9 ∨ k = 10) :
    Calls Try.prog 56 #[.slice A0 xs0.length c0] w (RefP w xs0) := by
  have em : k % 256 = k := by omega
  have d1 : decide (k < 1) = false := by rw [decide_eq_false_iff_not]; omega
  have d2 : decide (10 < k) = false := by rw [decide_eq_false_iff_not]; omega
  have b1 : (k == 1) = false := by rw [beq_eq_false_iff_ne]; omega
  have b2 : (k == 2) = false := by rw [beq_eq_false_iff_ne]; omega
  have b3 : (k == 3) = false := by rw [beq_eq_false_iff_ne]; omega
  have b5 : (k == 5) = false := by rw [beq_eq_false_iff_ne]; omega
  have b7 : (k == 7) = false := by rw [beq_eq_false_iff_ne]; omega
  have b8 : (k == 8) = false := by rw [beq_eq_false_iff_ne]; omega
  have ho : okK k = true := by unfold okK; rw [Bool.and_eq_true, decide_eq_true_eq, decide_eq_true_eq]; omega
  have hp : partsOf k = [.handle] := by rcases hg with rfl | rfl | rfl | rfl <;> rfl
  obtain ⟨q1, q2, q3, q4⟩ := takeP_bs1 ht hb
  have HT0 := Lib.hid ht
  have HN0 := Lib.hid hk
  have HBS := Lib.hid q2
  have HLY := Lib.hid (show ys.length ≤ 100000 by omega)
  clear q1 q3
  obtain ⟨bs1, xs1, f1, ht1⟩ : ∃ bs xs f, takeP ys 0 8 = (bs, xs, f) := ⟨_, _, _, rfl⟩
  obtain ⟨p1, hb1, s1, hl1⟩ := takeP_bs1 ht1 HBS.out
  obtain ⟨n1, hn1⟩ : ∃ n, numB bs1 = n := ⟨_, rfl⟩
  obtain ⟨bs2, xs2, f2, ht2⟩ : ∃ bs xs f, takeP xs1 f1 8 = (bs, xs, f) := ⟨_, _, _, rfl⟩
  obtain ⟨p2, hb2, s2, hl2⟩ := takeP_bs1 ht2 hb1
  obtain ⟨n2, hn2⟩ : ∃ n, numB bs2 = n := ⟨_, rfl⟩
  have hrun : runP (partsOf k) ({k := k}, ys, 0) = (({k := k, hh := n1, hl := n2} : Q), xs2, f2) := by
    rw [hp]
    show gHandle ({k := k} : Q) ys 0 = _
    simp only [gHandle, ht1, ht2, hn1, hn2]
  have hres := reqP_go ht hk ho _ _ _ hrun
  have HRES0 := Lib.hid hres
  have HN1 := Lib.hid hn1
  have HN2 := Lib.hid hn2
  have HT1 := Lib.hid ht1
  have HB1 := Lib.hid hb1
  have HL1 := Lib.hid hl1
  have HT2 := Lib.hid ht2
  have HB2 := Lib.hid hb2
  have HL2 := Lib.hid hl2
  clear hres hrun ht1 ht2 hb1 hb2 hl1 hl2 hn1 p1 s1 hn2 p2 s2 ht hk ho hp hg
  have hr1 : Rf.Rx ((w.alloc (.cells #[.int .u8 0, .int .u64 0, .int .u64 0, .int .u8 0, .int .u8 0, .int .u8 0, .int .i64 0, .string (⟨#[]⟩ : ByteArray), .int .u8 0, .int .i64 0, .string (⟨#[]⟩ : ByteArray), .int .i64 0, .int .i64 0, .int .u32 0, .int .u8 0, .int .u64 0, .int .u64 0] 110)).alloc (.cells #[.slice A0 xs0.length c0, .int .i64 0] 157)) (w.heap.size + 2) (w.heap.size + 1) xs0 0 := ⟨A0, c0, blk_new1 w _ _, hv.below (below_alloc (below_alloc (Below.refl _ _) _) _), by omega, fun ad ha hp => by have := hlt ad ha hp; omega⟩
  have HRD1 := Lib.hid hr1
  have HZ1 := Lib.hid (show QF ((w.alloc (.cells #[.int .u8 0, .int .u64 0, .int .u64 0, .int .u8 0, .int .u8 0, .int .u8 0, .int .i64 0, .string (⟨#[]⟩ : ByteArray), .int .u8 0, .int .i64 0, .string (⟨#[]⟩ : ByteArray), .int .i64 0, .int .i64 0, .int .u32 0, .int .u8 0, .int .u64 0, .int .u64 0] 110)).alloc (.cells #[.slice A0 xs0.length c0, .int .i64 0] 157)) w.heap.size {} from blk_alloc (blk_new w _) _)
  have HBB1 := Lib.hid (show Below w.heap.size w ((w.alloc (.cells #[.int .u8 0, .int .u64 0, .int .u64 0, .int .u8 0, .int .u8 0, .int .u8 0, .int .i64 0, .string (⟨#[]⟩ : ByteArray), .int .u8 0, .int .i64 0, .string (⟨#[]⟩ : ByteArray), .int .i64 0, .int .i64 0, .int .u32 0, .int .u8 0, .int .u64 0, .int .u64 0] 110)).alloc (.cells #[.slice A0 xs0.length c0, .int .i64 0] 157)) from below_alloc (below_alloc (Below.refl _ _) _) _)
  have HS1 := Lib.hid (show ((w.alloc (.cells #[.int .u8 0, .int .u64 0, .int .u64 0, .int .u8 0, .int .u8 0, .int .u8 0, .int .i64 0, .string (⟨#[]⟩ : ByteArray), .int .u8 0, .int .i64 0, .string (⟨#[]⟩ : ByteArray), .int .i64 0, .int .i64 0, .int .u32 0, .int .u8 0, .int .u64 0, .int .u64 0] 110)).alloc (.cells #[.slice A0 xs0.length c0, .int .i64 0] 157)).heap.size = w.heap.size + 2 by simp)
  clear hr1 hv
  go_enter Try.func56, Try.ntmps56
  go_upto_region 25 with (first
    | (go_at_call 86; go_loud (have _t := HX0.out; refine (handle_calls (w.heap.size + 2) (w.heap.size + 1) ys 0 _ HX0.out.rd HX0.out.size HX0.out.hl HBS.out _ _ _ HT1.out _ _ _ HT2.out).mono ?_; rw [HN1.out, HN2.out]; rintro en w3 ⟨rfl, hr0, hf0⟩; have HY1 := Lib.hid (HX0.out.num hr0 hf0 HB2.out (Nat.le_trans HL2.out HL1.out)); have z1 := blk_frozen HY1.out.qb 1; have y1 := blk_cell HY1.out.qb 1; have z2 := blk_frozen HY1.out.qb 2; have y2 := blk_cell HY1.out.qb 2; have HX1 := Lib.hid ((HY1.out.put 1 (.int .u64 n1) ({k := k, hh := n1} : Q) rfl (by decide)).put 2 (.int .u64 n2) ({k := k, hh := n1, hl := n2} : Q) rfl (by decide)); have hxk1 := blk_cell HX1.out.qb 0; clear hr0 hf0))
    | (go_at_call 85; go_loud (have _t := HRD1.out; refine (Rf.number_k 1 (w.heap.size + 2) (w.heap.size + 1) xs0 0 1 _ rfl HRD1.out (by omega) hb).mono ?_; rw [HT0.out]; rw [HN0.out]; rintro en w2 ⟨rfl, hr2, hf2⟩; have HX0 := Lib.hid (show XS w (w2.alloc (.cells #[.int .u8 k, .int .u64 0, .int .u64 0, .int .u8 0, .int .u8 0, .int .u8 0, .int .i64 0, .string (⟨#[]⟩ : ByteArray), .int .u8 0, .int .i64 0, .string (⟨#[]⟩ : ByteArray), .int .i64 0, .int .i64 0, .int .u32 0, .int .u8 0, .int .u64 0, .int .u64 0] 110)) w2.heap.size {k := k} ys 0 from ⟨hr2.below (below_alloc (Below.refl _ _) _), blk_new w2 _, blk_alloc (hf2.blk HZ1.out (by omega)) _, below_alloc (fr_below HBB1.out hf2 (fun k hk => by omega) (Nat.le_refl _)) _, HBS.out, HLY.out, (by have := hf2.size; rw [HS1.out] at this; exact this)⟩); have hx1 := HX0.out.rd.cell1; have hxk := blk_cell HX0.out.qb 0; have hxb := HX0.out.hb; clear hr2 hf2 HRD1)))
  obtain ⟨Wz, hWz⟩ : ∃ Wz, Wz = Wz := ⟨w, rfl⟩
  clear hWz Wz
  have HXE := HX1
  have zr := is_ref_of HXE.out.res rfl
  have hm1 := HXE.out.rd.cell1
  have hm3 := HXE.out.rd.frozen1
  obtain ⟨Ax, cx, hm0⟩ := HXE.out.rd.cell0
  have s0 := blk_cell HX1.out.qb 0
  have s1 := blk_cell HX1.out.qb 1
  have s2 := blk_cell HX1.out.qb 2
  have s3 := blk_cell HX1.out.qb 3
  have s4 := blk_cell HX1.out.qb 4
  have s5 := blk_cell HX1.out.qb 5
  have s6 := blk_cell HX1.out.qb 6
  have s7 := blk_cell HX1.out.qb 7
  have s8 := blk_cell HX1.out.qb 8
  have s9 := blk_cell HX1.out.qb 9
  have s10 := blk_cell HX1.out.qb 10
  have s11 := blk_cell HX1.out.qb 11
  have s12 := blk_cell HX1.out.qb 12
  have s13 := blk_cell HX1.out.qb 13
  have s14 := blk_cell HX1.out.qb 14
  have s15 := blk_cell HX1.out.qb 15
  have s16 := blk_cell HX1.out.qb 16
  by_cases hF0 : f2 = 0
  · have hflt := hF0
    subst hflt
    by_cases hX0 : xs2 = []
    · have HRES := Lib.hid (show reqP xs0 = (({k := k, hh := n1, hl := n2} : Q), 0) by rw [HRES0.out, if_pos (by rw [hX0]; rfl)])
      have hlx0 : xs2.length = 0 := by rw [hX0]; rfl
      rw [hlx0] at hm0
      clear hX0 hlx0
      go_wp2
      refine bodyPost_ret (results_ct rfl _ _ w.heap.size 110 ({k := k, hh := n1, hl := n2} : Q).cells (0, 0) _ rfl (setRow_heap _ _ _ _ _ _ HXE.out.res) Try.underlying110 rfl (by kernel_rfl)) rfl ?_
      exact ⟨by rw [HRES.out] <;> rfl, below_setRow HXE.out.bel (Nat.le_refl _) _⟩
    · have HRES := Lib.hid (show reqP xs0 = ({}, 12) by rw [HRES0.out]; unfold endP; rw [if_pos rfl, if_neg hX0]; rfl)
      have hlx0 : 0 < xs2.length := List.length_pos_iff.2 hX0
      have bx : decide ((0 : Int) < (xs2.length : Int)) = true := by simp; omega
      have HXF := Lib.hid (show QF (((w3.setCell ⟨w2.heap.size, 1, none⟩ (.int .u64 n1)).setCell ⟨w2.heap.size, 2, none⟩ (.int .u64 n2)).setCell ⟨w.heap.size + 1, 1, none⟩ (.int .i64 12)) w.heap.size {} from blk_far HXE.out.res (by show w.heap.size ≠ w.heap.size + 1; omega) _)
      have zr2 := is_ref_of (blk_drew HXF.out) rfl
      have hsr : ∀ (V : World) (cs : Array Value), (V.setRow w.heap.size cs).cell? ⟨w.heap.size + 1, 1, none⟩ = V.cell? ⟨w.heap.size + 1, 1, none⟩ := fun V cs => cell_setRow_other V _ cs _ (by show w.heap.size + 1 ≠ w.heap.size; omega)
      clear hX0
      go_wp2
      go_region
      go_wp2
      refine bodyPost_ret (results_ct rfl _ _ w.heap.size 110 #[.int .u8 0, .int .u64 0, .int .u64 0, .int .u8 0, .int .u8 0, .int .u8 0, .int .i64 0, .string (⟨#[]⟩ : ByteArray), .int .u8 0, .int .i64 0, .string (⟨#[]⟩ : ByteArray), .int .i64 0, .int .i64 0, .int .u32 0, .int .u8 0, .int .u64 0, .int .u64 0] (0, 0) _ rfl (setRow_heap _ _ _ _ _ _ (blk_drew HXF.out)) Try.underlying110 rfl (by kernel_rfl)) rfl ?_
      exact ⟨by rw [HRES.out] <;> rfl, below_setRow (below_drew1 (Below.setCell (p := ⟨w.heap.size + 1, 1, none⟩) HXE.out.bel (Nat.le_succ _) _)) (Nat.le_refl _) _⟩
  · have hE : endP xs2 f2 = f2 := by unfold endP; rw [if_neg hF0]
    have HRES := Lib.hid (show reqP xs0 = ({}, f2) by rw [HRES0.out, hE, if_neg hF0])
    have b1z : (f2 == 0) = false := by simpa using hF0
    have b2z : (f2 != 0) = true := by simpa using hF0
    have zr3 := is_ref_of (blk_drew HXE.out.res) rfl
    have hsr : ∀ (V : World) (cs : Array Value), (V.setRow w.heap.size cs).cell? ⟨w.heap.size + 1, 1, none⟩ = V.cell? ⟨w.heap.size + 1, 1, none⟩ := fun V cs => cell_setRow_other V _ cs _ (by show w.heap.size + 1 ≠ w.heap.size; omega)
    clear hE hF0
    go_wp2
    go_region
    go_wp2
    refine bodyPost_ret (results_ct rfl _ _ w.heap.size 110 #[.int .u8 0, .int .u64 0, .int .u64 0, .int .u8 0, .int .u8 0, .int .u8 0, .int .i64 0, .string (⟨#[]⟩ : ByteArray), .int .u8 0, .int .i64 0, .string (⟨#[]⟩ : ByteArray), .int .i64 0, .int .i64 0, .int .u32 0, .int .u8 0, .int .u64 0, .int .u64 0] (0, 0) _ rfl (setRow_heap _ _ _ _ _ _ (blk_drew HXE.out.res)) Try.underlying110 rfl (by kernel_rfl)) rfl ?_
    exact ⟨by rw [HRES.out] <;> rfl, below_setRow (below_drew1 HXE.out.bel) (Nat.le_refl _) _⟩
end Go.Proofs.Ytaoacibahdbdkaa.Req
