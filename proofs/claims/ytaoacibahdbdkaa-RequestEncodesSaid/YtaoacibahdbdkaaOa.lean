/- Texts of this claim, laid together: ReqA, ReqB, ReqS. -/
import Derived.Test.YtaoacibahdbdkaaRq1
import Derived.Deep.WholeRow
import Derived.Laws.CopyOwn
/-! request: a request's parts are got, as contracts. Printed by wip/tools/gen_reqa.py. -/
namespace Go.Proofs.Ytaoacibahdbdkaa.Req
open Go.RowKit Go Go.Proofs.Ytaoacibahdbdkaa.QRequestParses Go.Proofs.YtaoacibahdbdkaaW.PrintWords Go.Proofs.YtaoacibahdbdkaaW.PrintLast Go.Proofs.YtaoacibahdbdkaaW.PrintMore Go.Proofs.Ytaoacibahdbdkaa.Fra Go.Proofs.Ytaoacibahdbdkaa.Pk Go.Proofs.Ytaoacibahdbdkaa.Bts Go.Proofs.Ytaoacibahdbdkaa.Pr Go.Proofs.Ytaoacibahdbdkaa.Rep
/-- A request. -/
structure Q where
  k : Int := 0
  hh : Int := 0
  hl : Int := 0
  o : Int := 0
  c : Int := 0
  kk : Int := 0
  kn : Int := 0
  ks : ByteArray := ⟨#[]⟩
  vk : Int := 0
  vn : Int := 0
  vs : ByteArray := ⟨#[]⟩
  fr : Int := 0
  n : Int := 0
  tw : Int := 0
  ri : Int := 0
  oh : Int := 0
  ol : Int := 0
abbrev Q.cells (q : Q) : Array Value := #[.int .u8 q.k, .int .u64 q.hh, .int .u64 q.hl, .int .u8 q.o, .int .u8 q.c, .int .u8 q.kk, .int .i64 q.kn, .string q.ks, .int .u8 q.vk, .int .i64 q.vn, .string q.vs, .int .i64 q.fr, .int .i64 q.n, .int .u32 q.tw, .int .u8 q.ri, .int .u64 q.oh, .int .u64 q.ol]
abbrev QB (w : World) (b : Nat) (q : Q) : Prop := w.heap[b]? = some (.cells q.cells 104 (0, 0))
/-- A part of a request. -/
inductive Part | handle | other | kind | gift | looks | changes
def gHandle (q : Q) (xs : List Int) (f : Int) : Q × List Int × Int :=
  let t1 := takeP xs f 8
  let t2 := takeP t1.2.1 t1.2.2 8
  ({q with hh := numB t1.1, hl := numB t2.1}, t2.2)
def gOther (q : Q) (xs : List Int) (f : Int) : Q × List Int × Int :=
  let t1 := takeP xs f 8
  let t2 := takeP t1.2.1 t1.2.2 8
  ({q with oh := numB t1.1, ol := numB t2.1}, t2.2)
def gKind (q : Q) (xs : List Int) (f : Int) : Q × List Int × Int :=
  let t1 := takeP xs f 1
  ({q with o := numB t1.1}, t1.2)
def gGift (q : Q) (xs : List Int) (f : Int) : Q × List Int × Int :=
  let t1 := takeP xs f 4
  let t2 := takeP t1.2.1 t1.2.2 1
  ({q with tw := numB t1.1, ri := numB t2.1}, t2.2)
def gLooks (q : Q) (xs : List Int) (f : Int) : Q × List Int × Int :=
  let t1 := takeP xs f 1
  let t2 := valueP t1.2.1 t1.2.2
  let t3 := takeP t2.2.1 t2.2.2 4
  let t4 := takeP t3.2.1 t3.2.2 2
  ({q with c := numB t1.1, kk := t2.1.1, kn := t2.1.2.1, ks := t2.1.2.2, fr := numB t3.1, n := numB t4.1}, t4.2)
def gChanges (q : Q) (xs : List Int) (f : Int) : Q × List Int × Int :=
  let t1 := takeP xs f 1
  let t2 := valueP t1.2.1 t1.2.2
  let t3 := valueP t2.2.1 t2.2.2
  ({q with c := numB t1.1, kk := t2.1.1, kn := t2.1.2.1, ks := t2.1.2.2, vk := t3.1.1, vn := t3.1.2.1, vs := t3.1.2.2}, t3.2)
def getP (p : Part) (q : Q) (xs : List Int) (f : Int) : Q × List Int × Int :=
  match p with
  | .handle => gHandle q xs f
  | .other => gOther q xs f
  | .kind => gKind q xs f
  | .gift => gGift q xs f
  | .looks => gLooks q xs f
  | .changes => gChanges q xs f
abbrev GetPost (B g b : Nat) (w : World) (r : Q × List Int × Int) (e : Ending) (w' : World) : Prop :=
  e = .returned (.tuple #[]) ∧ Rd w' B g r.2.1 r.2.2 ∧ QB w' b r.1 ∧ Fr (fun k => k = g ∨ k = b) w w'
theorem Fr.gb {w w' : World} {g b : Nat} (h : Fr (· = g) w w') : Fr (fun k => k = g ∨ k = b) w w' := h.mono (fun _ hk => .inl (.inl hk))
theorem num8 {bs : List Int} (h : Bs bs) (hl : bs.length ≤ 8) : 0 ≤ numB bs ∧ numB bs < 18446744073709551616 := numB_small h hl (by omega)
theorem num4 {bs : List Int} (h : Bs bs) (hl : bs.length ≤ 4) : 0 ≤ numB bs ∧ numB bs < 4294967296 := numB_small h hl (by omega)
theorem num2 {bs : List Int} (h : Bs bs) (hl : bs.length ≤ 2) : 0 ≤ numB bs ∧ numB bs < 65536 := numB_small h hl (by omega)
theorem num1 {bs : List Int} (h : Bs bs) (hl : bs.length ≤ 1) : 0 ≤ numB bs ∧ numB bs < 256 := numB_small h hl (by omega)
set_option maxHeartbeats 4000000 in
set_option maxRecDepth 100000 in
theorem handle_gets (B g : Nat) (xs : List Int) (f : Int) (w : World) (h : Rd w B g xs f) (hBw : B ≤ w.heap.size) (hl : xs.length ≤ 1000000) (hb : Bs xs) (b2 r2 : List Int) (f2 : Int) (ht2 : takeP xs f 8 = (b2, r2, f2)) (b3 r3 : List Int) (f3 : Int) (ht3 : takeP r2 f2 8 = (b3, r3, f3)) :
    Calls Try.prog 121 #[.pointer (some ⟨g, 0, none⟩)] w fun en w' => en = .returned (.agg #[.int .u64 (numB b2), .int .u64 (numB b3)]) ∧ Rd w' B g r3 f3 ∧ Fr (· = g) w w' := by
  obtain ⟨p1, hb2, p3, p4⟩ := takeP_bs1 ht2 hb
  have HRX := Lib.hid h
  have HT2 := Lib.hid ht2
  have HT3 := Lib.hid ht3
  have hgw : w.heap.size ≠ g := by have := h.lt; omega
  have hvB : ∀ k, k < B → ¬ k = w.heap.size := by omega
  clear h ht2 ht3
  go_enter Try.func121, Try.ntmps121
  go_wp2_with (first
    | (go_at_call 32; go_loud (have _t := HR1.out; refine (number_k 8 B g r2 f2 8 _ rfl HR1.out (by omega) hb2).mono ?_; rw [HT3.out]; rintro en w2 ⟨rfl, hr2, hf2⟩; have hv := hf2.blk HV1.out hgw; have HV2 := Lib.hid hv; have c0 := blk_cell hv 0; have c1 := blk_cell hv 1; have y0 := blk_frozen hv 0; have y1 := blk_frozen hv 1; have HR2 := Lib.hid hr2; have HF2 := Lib.hid hf2; clear hr2 hf2 hv))
    | (go_at_call 32; go_loud (refine (number_k 8 B g xs f 8 _ rfl (HRX.out.below (below_alloc (Below.refl _ _) _)) (by omega) hb).mono ?_; rw [HT2.out]; rintro en w1 ⟨rfl, hr1, hf1⟩; have HV1 := Lib.hid (hf1.blk (blk_new w _) hgw); have HR1 := Lib.hid hr1; have HF1 := Lib.hid hf1; clear hr1 hf1)))
  refine bodyPost_ret (results_cell_row rfl _ _ w.heap.size 80 #[.int .u64 (numB b2), .int .u64 (numB b3)] (0, 0) _ rfl (blk_put (blk_put HV2.out 0 _ rfl) 1 _ rfl) Try.underlying80 rfl (by kernel_rfl)) rfl ?_
  exact ⟨rfl, (HR2.out.put (p := ⟨w.heap.size, 0, none⟩) hvB _).put (p := ⟨w.heap.size, 1, none⟩) hvB _, ((((Fr.alloc (S := (· = g)) _).trans HF1.out).trans HF2.out).put (p := ⟨w.heap.size, 0, none⟩) (.inr (Nat.le_refl _)) _).put (p := ⟨w.heap.size, 1, none⟩) (.inr (Nat.le_refl _)) _⟩
set_option maxHeartbeats 4000000 in
set_option maxRecDepth 100000 in
theorem get_kind (B g b : Nat) (xs0 : List Int) (f0 : Int) (q : Q) (w : World) (h : Rd w B g xs0 f0) (hq : QB w b q) (hBb : B ≤ b) (hl0 : xs0.length ≤ 1000000) (hb0 : Bs xs0) :
    Calls Try.prog 117 #[.pointer (some ⟨g, 0, none⟩), .pointer (some ⟨b, 0, none⟩)] w (GetPost B g b w (gKind q xs0 f0)) := by
  obtain ⟨bs1, xs1, f1, ht1⟩ : ∃ bs xs f, takeP xs0 f0 1 = (bs, xs, f) := ⟨_, _, _, rfl⟩
  obtain ⟨p1, hb1, s1, hl1⟩ := takeP_bs1 ht1 hb0
  obtain ⟨u1, v1⟩ := num1 p1 s1
  have hg : gKind q xs0 f0 = ({q with o := numB bs1}, xs1, f1) := by unfold gKind; rw [ht1]
  rw [hg]
  have hgb : b ≠ g := by have := h.lt; omega
  have hbw : b < w.heap.size := blk_lt hq
  have hBw : B ≤ w.heap.size := by omega
  have hvB : ∀ k, k < B → ¬ k = b := by omega
  have HR0 := Lib.hid h
  have HQ0 := Lib.hid hq
  have HF0 := Lib.hid (Fr.refl (fun k => k = g ∨ k = b) w)
  have HT1 := Lib.hid ht1
  clear h hq hg ht1
  obtain ⟨n1, hn1⟩ : ∃ n, numB bs1 = n := ⟨_, rfl⟩
  rw [hn1] at u1 v1 ⊢
  have HN1 := Lib.hid hn1
  clear hn1
  have em1 : n1 % 256 = n1 := by omega
  go_enter Try.func117, Try.ntmps117
  go_wp2_with (first
    | (go_at_call 32; go_loud (have _t := HR0.out; refine (number_k 1 B g xs0 f0 1 _ rfl HR0.out (by omega) hb0).mono ?_; rw [HT1.out]; rw [HN1.out]; rintro en w1 ⟨rfl, hr1, hf1⟩; have HQa1 := Lib.hid (hf1.blk HQ0.out hgb); have z3 := blk_frozen HQa1.out 3; have y3 := blk_cell HQa1.out 3; have HR1 := Lib.hid (hr1.put (p := ⟨b, 3, none⟩) hvB (.int .u8 n1)); have HF1 := Lib.hid ((HF0.out.trans (Fr.gb hf1)).put (p := ⟨b, 3, none⟩) (.inl (.inr rfl)) (.int .u8 n1)); have HQ1 := Lib.hid (blk_put HQa1.out 3 (.int .u8 n1) rfl); clear hr1 hf1)))
  go_end0
  exact ⟨rfl, HR1.out, HQ1.out, HF1.out⟩
set_option maxHeartbeats 4000000 in
set_option maxRecDepth 100000 in
theorem get_gift (B g b : Nat) (xs0 : List Int) (f0 : Int) (q : Q) (w : World) (h : Rd w B g xs0 f0) (hq : QB w b q) (hBb : B ≤ b) (hl0 : xs0.length ≤ 1000000) (hb0 : Bs xs0) :
    Calls Try.prog 127 #[.pointer (some ⟨g, 0, none⟩), .pointer (some ⟨b, 0, none⟩)] w (GetPost B g b w (gGift q xs0 f0)) := by
  obtain ⟨bs1, xs1, f1, ht1⟩ : ∃ bs xs f, takeP xs0 f0 4 = (bs, xs, f) := ⟨_, _, _, rfl⟩
  obtain ⟨p1, hb1, s1, hl1⟩ := takeP_bs1 ht1 hb0
  obtain ⟨u1, v1⟩ := num4 p1 s1
  obtain ⟨bs2, xs2, f2, ht2⟩ : ∃ bs xs f, takeP xs1 f1 1 = (bs, xs, f) := ⟨_, _, _, rfl⟩
  obtain ⟨p2, hb2, s2, hl2⟩ := takeP_bs1 ht2 hb1
  obtain ⟨u2, v2⟩ := num1 p2 s2
  have hg : gGift q xs0 f0 = ({q with tw := numB bs1, ri := numB bs2}, xs2, f2) := by unfold gGift; rw [ht1]; dsimp only; rw [ht2]
  rw [hg]
  have hgb : b ≠ g := by have := h.lt; omega
  have hbw : b < w.heap.size := blk_lt hq
  have hBw : B ≤ w.heap.size := by omega
  have hvB : ∀ k, k < B → ¬ k = b := by omega
  have HR0 := Lib.hid h
  have HQ0 := Lib.hid hq
  have HF0 := Lib.hid (Fr.refl (fun k => k = g ∨ k = b) w)
  have HT1 := Lib.hid ht1
  have HT2 := Lib.hid ht2
  clear h hq hg ht1 ht2
  obtain ⟨n1, hn1⟩ : ∃ n, numB bs1 = n := ⟨_, rfl⟩
  rw [hn1] at u1 v1 ⊢
  have HN1 := Lib.hid hn1
  clear hn1
  have em1 : n1 % 4294967296 = n1 := by omega
  obtain ⟨n2, hn2⟩ : ∃ n, numB bs2 = n := ⟨_, rfl⟩
  rw [hn2] at u2 v2 ⊢
  have HN2 := Lib.hid hn2
  clear hn2
  have em2 : n2 % 256 = n2 := by omega
  go_enter Try.func127, Try.ntmps127
  go_wp2_with (first
    | (go_at_call 32; go_loud (have _t := HR1.out; refine (number_k 1 B g xs1 f1 1 _ rfl HR1.out (by omega) hb1).mono ?_; rw [HT2.out]; rw [HN2.out]; rintro en w2 ⟨rfl, hr2, hf2⟩; have HQa2 := Lib.hid (hf2.blk HQ1.out hgb); have z14 := blk_frozen HQa2.out 14; have y14 := blk_cell HQa2.out 14; have HR2 := Lib.hid (hr2.put (p := ⟨b, 14, none⟩) hvB (.int .u8 n2)); have HF2 := Lib.hid ((HF1.out.trans (Fr.gb hf2)).put (p := ⟨b, 14, none⟩) (.inl (.inr rfl)) (.int .u8 n2)); have HQ2 := Lib.hid (blk_put HQa2.out 14 (.int .u8 n2) rfl); clear hr2 hf2))
    | (go_at_call 32; go_loud (have _t := HR0.out; refine (number_k 4 B g xs0 f0 4 _ rfl HR0.out (by omega) hb0).mono ?_; rw [HT1.out]; rw [HN1.out]; rintro en w1 ⟨rfl, hr1, hf1⟩; have HQa1 := Lib.hid (hf1.blk HQ0.out hgb); have z13 := blk_frozen HQa1.out 13; have y13 := blk_cell HQa1.out 13; have HR1 := Lib.hid (hr1.put (p := ⟨b, 13, none⟩) hvB (.int .u32 n1)); have HF1 := Lib.hid ((HF0.out.trans (Fr.gb hf1)).put (p := ⟨b, 13, none⟩) (.inl (.inr rfl)) (.int .u32 n1)); have HQ1 := Lib.hid (blk_put HQa1.out 13 (.int .u32 n1) rfl); clear hr1 hf1)))
  go_end0
  exact ⟨rfl, HR2.out, HQ2.out, HF2.out⟩
set_option maxHeartbeats 4000000 in
set_option maxRecDepth 100000 in
theorem get_looks (B g b : Nat) (xs0 : List Int) (f0 : Int) (q : Q) (w : World) (h : Rd w B g xs0 f0) (hq : QB w b q) (hBb : B ≤ b) (hl0 : xs0.length ≤ 1000000) (hb0 : Bs xs0) :
    Calls Try.prog 123 #[.pointer (some ⟨g, 0, none⟩), .pointer (some ⟨b, 0, none⟩)] w (GetPost B g b w (gLooks q xs0 f0)) := by
  obtain ⟨bs1, xs1, f1, ht1⟩ : ∃ bs xs f, takeP xs0 f0 1 = (bs, xs, f) := ⟨_, _, _, rfl⟩
  obtain ⟨p1, hb1, s1, hl1⟩ := takeP_bs1 ht1 hb0
  obtain ⟨u1, v1⟩ := num1 p1 s1
  obtain ⟨⟨kd2, kn2, ks2⟩, xs2, f2, ht2⟩ : ∃ a xs f, valueP xs1 f1 = (a, xs, f) := ⟨_, _, _, rfl⟩
  obtain ⟨hb2, hl2⟩ : Bs xs2 ∧ xs2.length ≤ xs1.length := by have := valueP_bs xs1 f1 hb1; rw [ht2] at this; exact this
  obtain ⟨bs3, xs3, f3, ht3⟩ : ∃ bs xs f, takeP xs2 f2 4 = (bs, xs, f) := ⟨_, _, _, rfl⟩
  obtain ⟨p3, hb3, s3, hl3⟩ := takeP_bs1 ht3 hb2
  obtain ⟨u3, v3⟩ := num4 p3 s3
  obtain ⟨bs4, xs4, f4, ht4⟩ : ∃ bs xs f, takeP xs3 f3 2 = (bs, xs, f) := ⟨_, _, _, rfl⟩
  obtain ⟨p4, hb4, s4, hl4⟩ := takeP_bs1 ht4 hb3
  obtain ⟨u4, v4⟩ := num2 p4 s4
  have hg : gLooks q xs0 f0 = ({q with c := numB bs1, kk := kd2, kn := kn2, ks := ks2, fr := numB bs3, n := numB bs4}, xs4, f4) := by unfold gLooks; rw [ht1]; dsimp only; rw [ht2]; dsimp only; rw [ht3]; dsimp only; rw [ht4]
  rw [hg]
  have hgb : b ≠ g := by have := h.lt; omega
  have hbw : b < w.heap.size := blk_lt hq
  have hBw : B ≤ w.heap.size := by omega
  have hvB : ∀ k, k < B → ¬ k = b := by omega
  have HR0 := Lib.hid h
  have HQ0 := Lib.hid hq
  have HF0 := Lib.hid (Fr.refl (fun k => k = g ∨ k = b) w)
  have HT1 := Lib.hid ht1
  have HT2 := Lib.hid ht2
  have HT3 := Lib.hid ht3
  have HT4 := Lib.hid ht4
  clear h hq hg ht1 ht2 ht3 ht4
  obtain ⟨n1, hn1⟩ : ∃ n, numB bs1 = n := ⟨_, rfl⟩
  rw [hn1] at u1 v1 ⊢
  have HN1 := Lib.hid hn1
  clear hn1
  have em1 : n1 % 256 = n1 := by omega
  obtain ⟨n3, hn3⟩ : ∃ n, numB bs3 = n := ⟨_, rfl⟩
  rw [hn3] at u3 v3 ⊢
  have HN3 := Lib.hid hn3
  clear hn3
  obtain ⟨n4, hn4⟩ : ∃ n, numB bs4 = n := ⟨_, rfl⟩
  rw [hn4] at u4 v4 ⊢
  have HN4 := Lib.hid hn4
  clear hn4
  go_enter Try.func123, Try.ntmps123
  go_wp2_with (first
    | (go_at_call 32; go_loud (have _t := HR3.out; refine (number_k 2 B g xs3 f3 2 _ rfl HR3.out (by omega) hb3).mono ?_; rw [HT4.out]; rw [HN4.out]; rintro en w4 ⟨rfl, hr4, hf4⟩; have HQa4 := Lib.hid (hf4.blk HQ3.out hgb); have z12 := blk_frozen HQa4.out 12; have y12 := blk_cell HQa4.out 12; have HR4 := Lib.hid (hr4.put (p := ⟨b, 12, none⟩) hvB (.int .i64 n4)); have HF4 := Lib.hid ((HF3.out.trans (Fr.gb hf4)).put (p := ⟨b, 12, none⟩) (.inl (.inr rfl)) (.int .i64 n4)); have HQ4 := Lib.hid (blk_put HQa4.out 12 (.int .i64 n4) rfl); clear hr4 hf4))
    | (go_at_call 32; go_loud (have _t := HR2.out; refine (number_k 4 B g xs2 f2 4 _ rfl HR2.out (by omega) hb2).mono ?_; rw [HT3.out]; rw [HN3.out]; rintro en w3 ⟨rfl, hr3, hf3⟩; have HQa3 := Lib.hid (hf3.blk HQ2.out hgb); have z11 := blk_frozen HQa3.out 11; have y11 := blk_cell HQa3.out 11; have HR3 := Lib.hid (hr3.put (p := ⟨b, 11, none⟩) hvB (.int .i64 n3)); have HF3 := Lib.hid ((HF2.out.trans (Fr.gb hf3)).put (p := ⟨b, 11, none⟩) (.inl (.inr rfl)) (.int .i64 n3)); have HQ3 := Lib.hid (blk_put HQa3.out 11 (.int .i64 n3) rfl); clear hr3 hf3))
    | (go_at_call 34; go_loud (have _t := HR1.out; refine (value_reads B g xs1 f1 _ HR1.out (by have := HF1.out.size; omega) (by omega) hb1).mono ?_; rw [HT2.out]; rintro en w2 ⟨rfl, hr2, hf2⟩; have HQa2 := Lib.hid (hf2.blk HQ1.out hgb); have z5 := blk_frozen HQa2.out 5; have y5 := blk_cell HQa2.out 5; have z6 := blk_frozen HQa2.out 6; have y6 := blk_cell HQa2.out 6; have z7 := blk_frozen HQa2.out 7; have y7 := blk_cell HQa2.out 7; have HR2 := Lib.hid (((hr2.put (p := ⟨b, 5, none⟩) hvB (.int .u8 kd2)).put (p := ⟨b, 6, none⟩) hvB (.int .i64 kn2)).put (p := ⟨b, 7, none⟩) hvB (.string ks2)); have HF2 := Lib.hid ((((HF1.out.trans (Fr.gb hf2)).put (p := ⟨b, 5, none⟩) (.inl (.inr rfl)) (.int .u8 kd2)).put (p := ⟨b, 6, none⟩) (.inl (.inr rfl)) (.int .i64 kn2)).put (p := ⟨b, 7, none⟩) (.inl (.inr rfl)) (.string ks2)); have HQ2 := Lib.hid (blk_put (blk_put (blk_put HQa2.out 5 (.int .u8 kd2) rfl) 6 (.int .i64 kn2) rfl) 7 (.string ks2) rfl); clear hr2 hf2))
    | (go_at_call 32; go_loud (have _t := HR0.out; refine (number_k 1 B g xs0 f0 1 _ rfl HR0.out (by omega) hb0).mono ?_; rw [HT1.out]; rw [HN1.out]; rintro en w1 ⟨rfl, hr1, hf1⟩; have HQa1 := Lib.hid (hf1.blk HQ0.out hgb); have z4 := blk_frozen HQa1.out 4; have y4 := blk_cell HQa1.out 4; have HR1 := Lib.hid (hr1.put (p := ⟨b, 4, none⟩) hvB (.int .u8 n1)); have HF1 := Lib.hid ((HF0.out.trans (Fr.gb hf1)).put (p := ⟨b, 4, none⟩) (.inl (.inr rfl)) (.int .u8 n1)); have HQ1 := Lib.hid (blk_put HQa1.out 4 (.int .u8 n1) rfl); clear hr1 hf1)))
  go_end0
  exact ⟨rfl, HR4.out, HQ4.out, HF4.out⟩
set_option maxHeartbeats 4000000 in
set_option maxRecDepth 100000 in
theorem get_changes (B g b : Nat) (xs0 : List Int) (f0 : Int) (q : Q) (w : World) (h : Rd w B g xs0 f0) (hq : QB w b q) (hBb : B ≤ b) (hl0 : xs0.length ≤ 1000000) (hb0 : Bs xs0) :
    Calls Try.prog 125 #[.pointer (some ⟨g, 0, none⟩), .pointer (some ⟨b, 0, none⟩)] w (GetPost B g b w (gChanges q xs0 f0)) := by
  obtain ⟨bs1, xs1, f1, ht1⟩ : ∃ bs xs f, takeP xs0 f0 1 = (bs, xs, f) := ⟨_, _, _, rfl⟩
  obtain ⟨p1, hb1, s1, hl1⟩ := takeP_bs1 ht1 hb0
  obtain ⟨u1, v1⟩ := num1 p1 s1
  obtain ⟨⟨kd2, kn2, ks2⟩, xs2, f2, ht2⟩ : ∃ a xs f, valueP xs1 f1 = (a, xs, f) := ⟨_, _, _, rfl⟩
  obtain ⟨hb2, hl2⟩ : Bs xs2 ∧ xs2.length ≤ xs1.length := by have := valueP_bs xs1 f1 hb1; rw [ht2] at this; exact this
  obtain ⟨⟨kd3, kn3, ks3⟩, xs3, f3, ht3⟩ : ∃ a xs f, valueP xs2 f2 = (a, xs, f) := ⟨_, _, _, rfl⟩
  obtain ⟨hb3, hl3⟩ : Bs xs3 ∧ xs3.length ≤ xs2.length := by have := valueP_bs xs2 f2 hb2; rw [ht3] at this; exact this
  have hg : gChanges q xs0 f0 = ({q with c := numB bs1, kk := kd2, kn := kn2, ks := ks2, vk := kd3, vn := kn3, vs := ks3}, xs3, f3) := by unfold gChanges; rw [ht1]; dsimp only; rw [ht2]; dsimp only; rw [ht3]
  rw [hg]
  have hgb : b ≠ g := by have := h.lt; omega
  have hbw : b < w.heap.size := blk_lt hq
  have hBw : B ≤ w.heap.size := by omega
  have hvB : ∀ k, k < B → ¬ k = b := by omega
  have HR0 := Lib.hid h
  have HQ0 := Lib.hid hq
  have HF0 := Lib.hid (Fr.refl (fun k => k = g ∨ k = b) w)
  have HT1 := Lib.hid ht1
  have HT2 := Lib.hid ht2
  have HT3 := Lib.hid ht3
  clear h hq hg ht1 ht2 ht3
  obtain ⟨n1, hn1⟩ : ∃ n, numB bs1 = n := ⟨_, rfl⟩
  rw [hn1] at u1 v1 ⊢
  have HN1 := Lib.hid hn1
  clear hn1
  have em1 : n1 % 256 = n1 := by omega
  go_enter Try.func125, Try.ntmps125
  go_wp2_with (first
    | (go_at_call 34; go_loud (have _t := HR2.out; refine (value_reads B g xs2 f2 _ HR2.out (by have := HF2.out.size; omega) (by omega) hb2).mono ?_; rw [HT3.out]; rintro en w3 ⟨rfl, hr3, hf3⟩; have HQa3 := Lib.hid (hf3.blk HQ2.out hgb); have z8 := blk_frozen HQa3.out 8; have y8 := blk_cell HQa3.out 8; have z9 := blk_frozen HQa3.out 9; have y9 := blk_cell HQa3.out 9; have z10 := blk_frozen HQa3.out 10; have y10 := blk_cell HQa3.out 10; have HR3 := Lib.hid (((hr3.put (p := ⟨b, 8, none⟩) hvB (.int .u8 kd3)).put (p := ⟨b, 9, none⟩) hvB (.int .i64 kn3)).put (p := ⟨b, 10, none⟩) hvB (.string ks3)); have HF3 := Lib.hid ((((HF2.out.trans (Fr.gb hf3)).put (p := ⟨b, 8, none⟩) (.inl (.inr rfl)) (.int .u8 kd3)).put (p := ⟨b, 9, none⟩) (.inl (.inr rfl)) (.int .i64 kn3)).put (p := ⟨b, 10, none⟩) (.inl (.inr rfl)) (.string ks3)); have HQ3 := Lib.hid (blk_put (blk_put (blk_put HQa3.out 8 (.int .u8 kd3) rfl) 9 (.int .i64 kn3) rfl) 10 (.string ks3) rfl); clear hr3 hf3))
    | (go_at_call 34; go_loud (have _t := HR1.out; refine (value_reads B g xs1 f1 _ HR1.out (by have := HF1.out.size; omega) (by omega) hb1).mono ?_; rw [HT2.out]; rintro en w2 ⟨rfl, hr2, hf2⟩; have HQa2 := Lib.hid (hf2.blk HQ1.out hgb); have z5 := blk_frozen HQa2.out 5; have y5 := blk_cell HQa2.out 5; have z6 := blk_frozen HQa2.out 6; have y6 := blk_cell HQa2.out 6; have z7 := blk_frozen HQa2.out 7; have y7 := blk_cell HQa2.out 7; have HR2 := Lib.hid (((hr2.put (p := ⟨b, 5, none⟩) hvB (.int .u8 kd2)).put (p := ⟨b, 6, none⟩) hvB (.int .i64 kn2)).put (p := ⟨b, 7, none⟩) hvB (.string ks2)); have HF2 := Lib.hid ((((HF1.out.trans (Fr.gb hf2)).put (p := ⟨b, 5, none⟩) (.inl (.inr rfl)) (.int .u8 kd2)).put (p := ⟨b, 6, none⟩) (.inl (.inr rfl)) (.int .i64 kn2)).put (p := ⟨b, 7, none⟩) (.inl (.inr rfl)) (.string ks2)); have HQ2 := Lib.hid (blk_put (blk_put (blk_put HQa2.out 5 (.int .u8 kd2) rfl) 6 (.int .i64 kn2) rfl) 7 (.string ks2) rfl); clear hr2 hf2))
    | (go_at_call 32; go_loud (have _t := HR0.out; refine (number_k 1 B g xs0 f0 1 _ rfl HR0.out (by omega) hb0).mono ?_; rw [HT1.out]; rw [HN1.out]; rintro en w1 ⟨rfl, hr1, hf1⟩; have HQa1 := Lib.hid (hf1.blk HQ0.out hgb); have z4 := blk_frozen HQa1.out 4; have y4 := blk_cell HQa1.out 4; have HR1 := Lib.hid (hr1.put (p := ⟨b, 4, none⟩) hvB (.int .u8 n1)); have HF1 := Lib.hid ((HF0.out.trans (Fr.gb hf1)).put (p := ⟨b, 4, none⟩) (.inl (.inr rfl)) (.int .u8 n1)); have HQ1 := Lib.hid (blk_put HQa1.out 4 (.int .u8 n1) rfl); clear hr1 hf1)))
  go_end0
  exact ⟨rfl, HR3.out, HQ3.out, HF3.out⟩
set_option maxHeartbeats 4000000 in
set_option maxRecDepth 100000 in
theorem get_handle (B g b : Nat) (xs0 : List Int) (f0 : Int) (q : Q) (w : World) (h : Rd w B g xs0 f0) (hq : QB w b q) (hBb : B ≤ b) (hl0 : xs0.length ≤ 1000000) (hb0 : Bs xs0) :
    Calls Try.prog 120 #[.pointer (some ⟨g, 0, none⟩), .pointer (some ⟨b, 0, none⟩)] w (GetPost B g b w (gHandle q xs0 f0)) := by
  obtain ⟨b2, xs1, f1, ht1⟩ : ∃ bs xs f, takeP xs0 f0 8 = (bs, xs, f) := ⟨_, _, _, rfl⟩
  obtain ⟨b3, xs2, f2, ht2⟩ : ∃ bs xs f, takeP xs1 f1 8 = (bs, xs, f) := ⟨_, _, _, rfl⟩
  have hg : gHandle q xs0 f0 = ({q with hh := numB b2, hl := numB b3}, xs2, f2) := by unfold gHandle; rw [ht1]; dsimp only; rw [ht2]
  rw [hg]
  have hgb : b ≠ g := by have := h.lt; omega
  have hbw : b < w.heap.size := blk_lt hq
  have hBw : B ≤ w.heap.size := by omega
  have hvB : ∀ k, k < B → ¬ k = b := by omega
  have HR0 := Lib.hid h
  have HQ0 := Lib.hid hq
  have HF0 := Lib.hid (Fr.refl (fun k => k = g ∨ k = b) w)
  have HT1 := Lib.hid ht1
  have HT2 := Lib.hid ht2
  clear h hq hg ht1 ht2
  go_enter Try.func120, Try.ntmps120
  go_wp2_with (first
    | (go_at_call 121; go_loud (have _t := HR0.out; refine (handle_gets B g xs0 f0 _ HR0.out hBw (by omega) hb0 _ _ _ HT1.out _ _ _ HT2.out).mono ?_;  rintro en w1 ⟨rfl, hr1, hf1⟩; have HQa1 := Lib.hid (hf1.blk HQ0.out hgb); have z1 := blk_frozen HQa1.out 1; have y1 := blk_cell HQa1.out 1; have z2 := blk_frozen HQa1.out 2; have y2 := blk_cell HQa1.out 2; have HR1 := Lib.hid ((hr1.put (p := ⟨b, 1, none⟩) hvB (.int .u64 (numB b2))).put (p := ⟨b, 2, none⟩) hvB (.int .u64 (numB b3))); have HF1 := Lib.hid (((HF0.out.trans (Fr.gb hf1)).put (p := ⟨b, 1, none⟩) (.inl (.inr rfl)) (.int .u64 (numB b2))).put (p := ⟨b, 2, none⟩) (.inl (.inr rfl)) (.int .u64 (numB b3))); have HQ1 := Lib.hid (blk_put (blk_put HQa1.out 1 (.int .u64 (numB b2)) rfl) 2 (.int .u64 (numB b3)) rfl); clear hr1 hf1)))
  go_end0
  exact ⟨rfl, HR1.out, HQ1.out, HF1.out⟩
set_option maxHeartbeats 4000000 in
set_option maxRecDepth 100000 in
theorem get_other (B g b : Nat) (xs0 : List Int) (f0 : Int) (q : Q) (w : World) (h : Rd w B g xs0 f0) (hq : QB w b q) (hBb : B ≤ b) (hl0 : xs0.length ≤ 1000000) (hb0 : Bs xs0) :
    Calls Try.prog 129 #[.pointer (some ⟨g, 0, none⟩), .pointer (some ⟨b, 0, none⟩)] w (GetPost B g b w (gOther q xs0 f0)) := by
  obtain ⟨b2, xs1, f1, ht1⟩ : ∃ bs xs f, takeP xs0 f0 8 = (bs, xs, f) := ⟨_, _, _, rfl⟩
  obtain ⟨b3, xs2, f2, ht2⟩ : ∃ bs xs f, takeP xs1 f1 8 = (bs, xs, f) := ⟨_, _, _, rfl⟩
  have hg : gOther q xs0 f0 = ({q with oh := numB b2, ol := numB b3}, xs2, f2) := by unfold gOther; rw [ht1]; dsimp only; rw [ht2]
  rw [hg]
  have hgb : b ≠ g := by have := h.lt; omega
  have hbw : b < w.heap.size := blk_lt hq
  have hBw : B ≤ w.heap.size := by omega
  have hvB : ∀ k, k < B → ¬ k = b := by omega
  have HR0 := Lib.hid h
  have HQ0 := Lib.hid hq
  have HF0 := Lib.hid (Fr.refl (fun k => k = g ∨ k = b) w)
  have HT1 := Lib.hid ht1
  have HT2 := Lib.hid ht2
  clear h hq hg ht1 ht2
  go_enter Try.func129, Try.ntmps129
  go_wp2_with (first
    | (go_at_call 121; go_loud (have _t := HR0.out; refine (handle_gets B g xs0 f0 _ HR0.out hBw (by omega) hb0 _ _ _ HT1.out _ _ _ HT2.out).mono ?_;  rintro en w1 ⟨rfl, hr1, hf1⟩; have HQa1 := Lib.hid (hf1.blk HQ0.out hgb); have z15 := blk_frozen HQa1.out 15; have y15 := blk_cell HQa1.out 15; have z16 := blk_frozen HQa1.out 16; have y16 := blk_cell HQa1.out 16; have HR1 := Lib.hid ((hr1.put (p := ⟨b, 15, none⟩) hvB (.int .u64 (numB b2))).put (p := ⟨b, 16, none⟩) hvB (.int .u64 (numB b3))); have HF1 := Lib.hid (((HF0.out.trans (Fr.gb hf1)).put (p := ⟨b, 15, none⟩) (.inl (.inr rfl)) (.int .u64 (numB b2))).put (p := ⟨b, 16, none⟩) (.inl (.inr rfl)) (.int .u64 (numB b3))); have HQ1 := Lib.hid (blk_put (blk_put HQa1.out 15 (.int .u64 (numB b2)) rfl) 16 (.int .u64 (numB b3)) rfl); clear hr1 hf1)))
  go_end0
  exact ⟨rfl, HR1.out, HQ1.out, HF1.out⟩
end Go.Proofs.Ytaoacibahdbdkaa.Req
/-! request: a kind's parts, as a contract. Printed by wip/tools/gen_reqb.py. -/
namespace Go.Proofs.Ytaoacibahdbdkaa.Req
open Go.RowKit Go Go.Proofs.Ytaoacibahdbdkaa.QRequestParses Go.Proofs.YtaoacibahdbdkaaW.PrintWords Go.Proofs.YtaoacibahdbdkaaW.PrintLast Go.Proofs.YtaoacibahdbdkaaW.PrintMore Go.Proofs.Ytaoacibahdbdkaa.Fra Go.Proofs.Ytaoacibahdbdkaa.Pk Go.Proofs.Ytaoacibahdbdkaa.Bts Go.Proofs.Ytaoacibahdbdkaa.Pr Go.Proofs.Ytaoacibahdbdkaa.Rep
@[local go_sem] theorem run_store_func (P : Program) (w : World) (a : Addr) (m : Mode) (fn : Fn) (fi ca : Array Value) : (store a (.func fn fi ca) m).run P w = stored P w a (.func fn fi ca) m := run_store P w a _ m rfl
abbrev fv (n : Nat) : Value := .func (.func n) #[] #[]
def Part.put : Part → Nat
  | .handle => 118
  | .other => 128
  | .kind => 116
  | .gift => 126
  | .looks => 122
  | .changes => 124
def Part.get : Part → Nat
  | .handle => 120
  | .other => 129
  | .kind => 117
  | .gift => 127
  | .looks => 123
  | .changes => 125
/-- A kind's parts. -/
def partsOf (k : Int) : List Part :=
  if k = 1 then [.kind] else if k = 2 then [.handle, .looks] else if k = 3 ∨ k = 5 then [.handle, .changes] else if k = 4 ∨ k = 6 ∨ k = 9 ∨ k = 10 then [.handle] else if k = 7 then [.handle, .gift] else if k = 8 then [.handle, .other] else []
def okK (k : Int) : Bool := decide (1 ≤ k) && decide (k ≤ 10)
/-- The parts' functions lie in a block. -/
def PL (w : World) (B : Nat) (A : Option Addr) (ps : List Part) : Prop :=
  (ps = [] ∧ A = none) ∨ ∃ b, A = some ⟨b, 0, none⟩ ∧ B ≤ b ∧ w.heap[b]? = some (.cells (ps.flatMap fun p => [fv p.put, fv p.get]).toArray 166 (0, 0))
theorem PL.below {w w' : World} {B : Nat} {A : Option Addr} {ps : List Part} (h : PL w B A ps) (hb : Below w.heap.size w w') : PL w' B A ps := by
  rcases h with h | ⟨b, rfl, h1, h2⟩
  · exact .inl h
  · exact .inr ⟨b, rfl, h1, blk_below h2 hb⟩
theorem PL.fr {w w' : World} {B : Nat} {A : Option Addr} {ps : List Part} {S : Nat → Prop} (h : PL w B A ps) (hf : Fr S w w') (hs : ∀ k, B ≤ k → ¬ S k) : PL w' B A ps := by
  rcases h with h | ⟨b, rfl, h1, h2⟩
  · exact .inl h
  · exact .inr ⟨b, rfl, h1, hf.blk h2 (hs b h1)⟩
theorem flat_at (ps : List Part) : ∀ (j : Nat) (p : Part), ps[j]? = some p → (ps.flatMap fun p => [fv p.put, fv p.get])[j * 2]? = some (fv p.put) ∧ (ps.flatMap fun p => [fv p.put, fv p.get])[j * 2 + 1]? = some (fv p.get) := by
  induction ps with
  | nil => intro j p h; simp at h
  | cons x ps ih =>
    intro j p h
    cases j with
    | zero => simp at h; subst h; exact ⟨rfl, rfl⟩
    | succ j =>
      have h' : ps[j]? = some p := by simpa using h
      obtain ⟨h1, h2⟩ := ih j p h'
      rw [List.flatMap_cons]
      rw [show (j + 1) * 2 = j * 2 + 2 by omega]
      exact ⟨h1, h2⟩
theorem PL.at {w : World} {B : Nat} {A : Option Addr} {ps : List Part} (h : PL w B A ps) (j : Nat) (p : Part) (hp : ps[j]? = some p) :
    ∃ ad, A = some ad ∧ w.cell? (ad.add (j * 2)) = some (fv p.put) ∧ w.cell? ⟨(ad.add (j * 2)).block, (ad.add (j * 2)).off + 1, none⟩ = some (fv p.get) := by
  rcases h with ⟨rfl, _⟩ | ⟨b, rfl, h1, h2⟩
  · simp at hp
  · obtain ⟨e1, e2⟩ := flat_at ps j p hp
    refine ⟨_, rfl, ?_, ?_⟩
    · have : (⟨b, 0, none⟩ : Addr).add (j * 2) = ⟨b, j * 2, none⟩ := by unfold Addr.add; split <;> simp_all
      rw [this]
      exact (blk_cell h2 (j * 2)).trans (by rw [List.getElem?_toArray]; exact e1)
    · have : (⟨b, 0, none⟩ : Addr).add (j * 2) = ⟨b, j * 2, none⟩ := by unfold Addr.add; split <;> simp_all
      rw [this]
      exact (blk_cell h2 (j * 2 + 1)).trans (by rw [List.getElem?_toArray]; exact e2)
set_option maxHeartbeats 1000000 in
theorem part_handle (w : World) : Calls Try.prog 102 #[] w fun e w' => e = .returned (.agg #[fv 118, fv 120]) ∧ Below w.heap.size w w' := by
  go_enter Try.func102, Try.ntmps102
  go_wp2
  refine bodyPost_ret (results_cell_row rfl _ _ w.heap.size 166 #[fv 118, fv 120] (0, 0) _ rfl (blk_new _ _) Try.underlying166 rfl (by kernel_rfl)) rfl ?_
  exact ⟨rfl, below_alloc (Below.refl _ w) _⟩
set_option maxHeartbeats 1000000 in
theorem part_other (w : World) : Calls Try.prog 106 #[] w fun e w' => e = .returned (.agg #[fv 128, fv 129]) ∧ Below w.heap.size w w' := by
  go_enter Try.func106, Try.ntmps106
  go_wp2
  refine bodyPost_ret (results_cell_row rfl _ _ w.heap.size 166 #[fv 128, fv 129] (0, 0) _ rfl (blk_new _ _) Try.underlying166 rfl (by kernel_rfl)) rfl ?_
  exact ⟨rfl, below_alloc (Below.refl _ w) _⟩
set_option maxHeartbeats 1000000 in
theorem part_kind (w : World) : Calls Try.prog 101 #[] w fun e w' => e = .returned (.agg #[fv 116, fv 117]) ∧ Below w.heap.size w w' := by
  go_enter Try.func101, Try.ntmps101
  go_wp2
  refine bodyPost_ret (results_cell_row rfl _ _ w.heap.size 166 #[fv 116, fv 117] (0, 0) _ rfl (blk_new _ _) Try.underlying166 rfl (by kernel_rfl)) rfl ?_
  exact ⟨rfl, below_alloc (Below.refl _ w) _⟩
set_option maxHeartbeats 1000000 in
theorem part_gift (w : World) : Calls Try.prog 105 #[] w fun e w' => e = .returned (.agg #[fv 126, fv 127]) ∧ Below w.heap.size w w' := by
  go_enter Try.func105, Try.ntmps105
  go_wp2
  refine bodyPost_ret (results_cell_row rfl _ _ w.heap.size 166 #[fv 126, fv 127] (0, 0) _ rfl (blk_new _ _) Try.underlying166 rfl (by kernel_rfl)) rfl ?_
  exact ⟨rfl, below_alloc (Below.refl _ w) _⟩
set_option maxHeartbeats 1000000 in
theorem part_looks (w : World) : Calls Try.prog 103 #[] w fun e w' => e = .returned (.agg #[fv 122, fv 123]) ∧ Below w.heap.size w w' := by
  go_enter Try.func103, Try.ntmps103
  go_wp2
  refine bodyPost_ret (results_cell_row rfl _ _ w.heap.size 166 #[fv 122, fv 123] (0, 0) _ rfl (blk_new _ _) Try.underlying166 rfl (by kernel_rfl)) rfl ?_
  exact ⟨rfl, below_alloc (Below.refl _ w) _⟩
set_option maxHeartbeats 1000000 in
theorem part_changes (w : World) : Calls Try.prog 104 #[] w fun e w' => e = .returned (.agg #[fv 124, fv 125]) ∧ Below w.heap.size w w' := by
  go_enter Try.func104, Try.ntmps104
  go_wp2
  refine bodyPost_ret (results_cell_row rfl _ _ w.heap.size 166 #[fv 124, fv 125] (0, 0) _ rfl (blk_new _ _) Try.underlying166 rfl (by kernel_rfl)) rfl ?_
  exact ⟨rfl, below_alloc (Below.refl _ w) _⟩
abbrev PartsPost (w : World) (k : Int) (e : Ending) (w' : World) : Prop := ∃ A c, e = .returned (.tuple #[.slice A (partsOf k).length c, .bool (okK k)]) ∧ PL w' w.heap.size A (partsOf k) ∧ Below w.heap.size w w'
set_option maxHeartbeats 1000000 in
theorem parts_1 (w : World) : Calls Try.prog 88 #[.int .u8 1] w (PartsPost w 1) := by
  go_enter Try.func88, Try.ntmps88
  go_wp2_with (first
    | (go_at_call 101; go_loud (refine (part_kind _).mono ?_; rintro e w1 ⟨rfl, hB1⟩; have HB1 := Lib.hid hB1; clear hB1)))
  go_ret2
  exact ⟨_, _, rfl, .inr ⟨_, rfl, HB1.out.size, blk_new _ _⟩, below_alloc HB1.out _⟩
set_option maxHeartbeats 1000000 in
theorem parts_2 (w : World) : Calls Try.prog 88 #[.int .u8 2] w (PartsPost w 2) := by
  go_enter Try.func88, Try.ntmps88
  go_wp2_with (first
    | (go_at_call 103; go_loud (have _t := HB1.out; refine (part_looks _).mono ?_; rintro e w2 ⟨rfl, hB2⟩; have HB2 := Lib.hid (below_step HB1.out hB2); clear hB2))
    | (go_at_call 102; go_loud (refine (part_handle _).mono ?_; rintro e w1 ⟨rfl, hB1⟩; have HB1 := Lib.hid hB1; clear hB1)))
  go_ret2
  exact ⟨_, _, rfl, .inr ⟨_, rfl, HB2.out.size, blk_new _ _⟩, below_alloc HB2.out _⟩
set_option maxHeartbeats 1000000 in
theorem parts_3 (w : World) : Calls Try.prog 88 #[.int .u8 3] w (PartsPost w 3) := by
  go_enter Try.func88, Try.ntmps88
  go_wp2_with (first
    | (go_at_call 104; go_loud (have _t := HB1.out; refine (part_changes _).mono ?_; rintro e w2 ⟨rfl, hB2⟩; have HB2 := Lib.hid (below_step HB1.out hB2); clear hB2))
    | (go_at_call 102; go_loud (refine (part_handle _).mono ?_; rintro e w1 ⟨rfl, hB1⟩; have HB1 := Lib.hid hB1; clear hB1)))
  go_ret2
  exact ⟨_, _, rfl, .inr ⟨_, rfl, HB2.out.size, blk_new _ _⟩, below_alloc HB2.out _⟩
set_option maxHeartbeats 1000000 in
theorem parts_4 (w : World) : Calls Try.prog 88 #[.int .u8 4] w (PartsPost w 4) := by
  go_enter Try.func88, Try.ntmps88
  go_wp2_with (first
    | (go_at_call 102; go_loud (refine (part_handle _).mono ?_; rintro e w1 ⟨rfl, hB1⟩; have HB1 := Lib.hid hB1; clear hB1)))
  go_ret2
  exact ⟨_, _, rfl, .inr ⟨_, rfl, HB1.out.size, blk_new _ _⟩, below_alloc HB1.out _⟩
set_option maxHeartbeats 1000000 in
theorem parts_5 (w : World) : Calls Try.prog 88 #[.int .u8 5] w (PartsPost w 5) := by
  go_enter Try.func88, Try.ntmps88
  go_wp2_with (first
    | (go_at_call 104; go_loud (have _t := HB1.out; refine (part_changes _).mono ?_; rintro e w2 ⟨rfl, hB2⟩; have HB2 := Lib.hid (below_step HB1.out hB2); clear hB2))
    | (go_at_call 102; go_loud (refine (part_handle _).mono ?_; rintro e w1 ⟨rfl, hB1⟩; have HB1 := Lib.hid hB1; clear hB1)))
  go_ret2
  exact ⟨_, _, rfl, .inr ⟨_, rfl, HB2.out.size, blk_new _ _⟩, below_alloc HB2.out _⟩
set_option maxHeartbeats 1000000 in
theorem parts_6 (w : World) : Calls Try.prog 88 #[.int .u8 6] w (PartsPost w 6) := by
  go_enter Try.func88, Try.ntmps88
  go_wp2_with (first
    | (go_at_call 102; go_loud (refine (part_handle _).mono ?_; rintro e w1 ⟨rfl, hB1⟩; have HB1 := Lib.hid hB1; clear hB1)))
  go_ret2
  exact ⟨_, _, rfl, .inr ⟨_, rfl, HB1.out.size, blk_new _ _⟩, below_alloc HB1.out _⟩
set_option maxHeartbeats 1000000 in
theorem parts_7 (w : World) : Calls Try.prog 88 #[.int .u8 7] w (PartsPost w 7) := by
  go_enter Try.func88, Try.ntmps88
  go_wp2_with (first
    | (go_at_call 105; go_loud (have _t := HB1.out; refine (part_gift _).mono ?_; rintro e w2 ⟨rfl, hB2⟩; have HB2 := Lib.hid (below_step HB1.out hB2); clear hB2))
    | (go_at_call 102; go_loud (refine (part_handle _).mono ?_; rintro e w1 ⟨rfl, hB1⟩; have HB1 := Lib.hid hB1; clear hB1)))
  go_ret2
  exact ⟨_, _, rfl, .inr ⟨_, rfl, HB2.out.size, blk_new _ _⟩, below_alloc HB2.out _⟩
set_option maxHeartbeats 1000000 in
theorem parts_8 (w : World) : Calls Try.prog 88 #[.int .u8 8] w (PartsPost w 8) := by
  go_enter Try.func88, Try.ntmps88
  go_wp2_with (first
    | (go_at_call 106; go_loud (have _t := HB1.out; refine (part_other _).mono ?_; rintro e w2 ⟨rfl, hB2⟩; have HB2 := Lib.hid (below_step HB1.out hB2); clear hB2))
    | (go_at_call 102; go_loud (refine (part_handle _).mono ?_; rintro e w1 ⟨rfl, hB1⟩; have HB1 := Lib.hid hB1; clear hB1)))
  go_ret2
  exact ⟨_, _, rfl, .inr ⟨_, rfl, HB2.out.size, blk_new _ _⟩, below_alloc HB2.out _⟩
set_option maxHeartbeats 1000000 in
theorem parts_9 (w : World) : Calls Try.prog 88 #[.int .u8 9] w (PartsPost w 9) := by
  go_enter Try.func88, Try.ntmps88
  go_wp2_with (first
    | (go_at_call 102; go_loud (refine (part_handle _).mono ?_; rintro e w1 ⟨rfl, hB1⟩; have HB1 := Lib.hid hB1; clear hB1)))
  go_ret2
  exact ⟨_, _, rfl, .inr ⟨_, rfl, HB1.out.size, blk_new _ _⟩, below_alloc HB1.out _⟩
set_option maxHeartbeats 1000000 in
theorem parts_10 (w : World) : Calls Try.prog 88 #[.int .u8 10] w (PartsPost w 10) := by
  go_enter Try.func88, Try.ntmps88
  go_wp2_with (first
    | (go_at_call 102; go_loud (refine (part_handle _).mono ?_; rintro e w1 ⟨rfl, hB1⟩; have HB1 := Lib.hid hB1; clear hB1)))
  go_ret2
  exact ⟨_, _, rfl, .inr ⟨_, rfl, HB1.out.size, blk_new _ _⟩, below_alloc HB1.out _⟩
set_option maxHeartbeats 1000000 in
theorem parts_none (k : Int) (w : World) (h : okK k = false) : Calls Try.prog 88 #[.int .u8 k] w (PartsPost w k) := by
  have hk : k < 1 ∨ 10 < k := by
    unfold okK at h
    simp only [Bool.and_eq_false_iff, decide_eq_false_iff_not] at h
    omega
  have hp : partsOf k = [] := by
    unfold partsOf
    rw [if_neg (by omega), if_neg (by omega), if_neg (by omega), if_neg (by omega), if_neg (by omega), if_neg (by omega)]
  unfold PartsPost
  rw [hp, h]
  have b1 : (k == 1) = false := by rw [beq_eq_false_iff_ne]; omega
  have b2 : (k == 2) = false := by rw [beq_eq_false_iff_ne]; omega
  have b3 : (k == 3) = false := by rw [beq_eq_false_iff_ne]; omega
  have b4 : (k == 4) = false := by rw [beq_eq_false_iff_ne]; omega
  have b5 : (k == 5) = false := by rw [beq_eq_false_iff_ne]; omega
  have b6 : (k == 6) = false := by rw [beq_eq_false_iff_ne]; omega
  have b7 : (k == 7) = false := by rw [beq_eq_false_iff_ne]; omega
  have b8 : (k == 8) = false := by rw [beq_eq_false_iff_ne]; omega
  have b9 : (k == 9) = false := by rw [beq_eq_false_iff_ne]; omega
  have b10 : (k == 10) = false := by rw [beq_eq_false_iff_ne]; omega
  clear hk hp h
  go_enter Try.func88, Try.ntmps88
  go_wp2
  go_ret2
  exact ⟨_, _, rfl, .inl ⟨rfl, rfl⟩, Below.refl _ _⟩
theorem parts_calls (k : Int) (w : World) : Calls Try.prog 88 #[.int .u8 k] w (PartsPost w k) := by
  cases h : okK k
  · exact parts_none k w h
  · unfold okK at h
    simp only [Bool.and_eq_true, decide_eq_true_eq] at h
    rcases (by omega : k = 1 ∨ k = 2 ∨ k = 3 ∨ k = 4 ∨ k = 5 ∨ k = 6 ∨ k = 7 ∨ k = 8 ∨ k = 9 ∨ k = 10) with rfl | rfl | rfl | rfl | rfl | rfl | rfl | rfl | rfl | rfl
    · exact parts_1 w
    · exact parts_2 w
    · exact parts_3 w
    · exact parts_4 w
    · exact parts_5 w
    · exact parts_6 w
    · exact parts_7 w
    · exact parts_8 w
    · exact parts_9 w
    · exact parts_10 w
end Go.Proofs.Ytaoacibahdbdkaa.Req
/-! request: a whole request is laid into its block at once. Printed by wip/tools/gen_reqs.py. -/
namespace Go.Proofs.Ytaoacibahdbdkaa.Req
open Go.RowKit Go Go.Proofs.Ytaoacibahdbdkaa.QRequestParses Go.Proofs.YtaoacibahdbdkaaW.PrintWords Go.Proofs.YtaoacibahdbdkaaW.PrintLast Go.Proofs.YtaoacibahdbdkaaW.PrintMore Go.Proofs.Ytaoacibahdbdkaa.Fra Go.Proofs.Ytaoacibahdbdkaa.Pk Go.Proofs.Ytaoacibahdbdkaa.Bts Go.Proofs.Ytaoacibahdbdkaa.Pr Go.Proofs.Ytaoacibahdbdkaa.Rep
/-- A block of this type's cells. -/
def is_req (w : World) (g : Nat) : Bool := match w.heap[g]? with
  | some (.cells cur t fr) => t == 104 && fr == (0, 0) && cur.size == 17
  | _ => false
theorem is_req_of {w : World} {g : Nat} {cs : Array Value} (h : w.heap[g]? = some (.cells cs 104 (0, 0))) (hc : cs.size = 17) : is_req w g = true := by
  unfold is_req; rw [h]; simp [hc]
@[local go_sem] theorem is_req_new (w : World) (a0 : Int) (a1 : Int) (a2 : Int) (a3 : Int) (a4 : Int) (a5 : Int) (a6 : Int) (a7 : ByteArray) (a8 : Int) (a9 : Int) (a10 : ByteArray) (a11 : Int) (a12 : Int) (a13 : Int) (a14 : Int) (a15 : Int) (a16 : Int) : is_req (w.alloc (.cells #[.int .u8 a0, .int .u64 a1, .int .u64 a2, .int .u8 a3, .int .u8 a4, .int .u8 a5, .int .i64 a6, .string a7, .int .u8 a8, .int .i64 a9, .string a10, .int .i64 a11, .int .i64 a12, .int .u32 a13, .int .u8 a14, .int .u64 a15, .int .u64 a16] 104)) w.heap.size = true := is_req_of (blk_new w _) rfl
theorem info_req : (Try.prog.info? 104).map (·.size) = some 17 := by kernel_rfl
def storeAll_req (a : Addr) (cs : Array Value) : Sem Unit := storeCells a cs.toList 0
theorem all_req (a : Addr) (a0 : Int) (a1 : Int) (a2 : Int) (a3 : Int) (a4 : Int) (a5 : Int) (a6 : Int) (a7 : ByteArray) (a8 : Int) (a9 : Int) (a10 : ByteArray) (a11 : Int) (a12 : Int) (a13 : Int) (a14 : Int) (a15 : Int) (a16 : Int) : storeCells a [.int .u8 a0, .int .u64 a1, .int .u64 a2, .int .u8 a3, .int .u8 a4, .int .u8 a5, .int .i64 a6, .string a7, .int .u8 a8, .int .i64 a9, .string a10, .int .i64 a11, .int .i64 a12, .int .u32 a13, .int .u8 a14, .int .u64 a15, .int .u64 a16] 0 = storeAll_req a #[.int .u8 a0, .int .u64 a1, .int .u64 a2, .int .u8 a3, .int .u8 a4, .int .u8 a5, .int .i64 a6, .string a7, .int .u8 a8, .int .i64 a9, .string a10, .int .i64 a11, .int .i64 a12, .int .u32 a13, .int .u8 a14, .int .u64 a15, .int .u64 a16] := rfl
theorem store_req (w : World) (g : Nat) (a0 : Int) (a1 : Int) (a2 : Int) (a3 : Int) (a4 : Int) (a5 : Int) (a6 : Int) (a7 : ByteArray) (a8 : Int) (a9 : Int) (a10 : ByteArray) (a11 : Int) (a12 : Int) (a13 : Int) (a14 : Int) (a15 : Int) (a16 : Int) (hg : is_req w g = true) :
    (storeAll_req ⟨g, 0, none⟩ #[.int .u8 a0, .int .u64 a1, .int .u64 a2, .int .u8 a3, .int .u8 a4, .int .u8 a5, .int .i64 a6, .string a7, .int .u8 a8, .int .i64 a9, .string a10, .int .i64 a11, .int .i64 a12, .int .u32 a13, .int .u8 a14, .int .u64 a15, .int .u64 a16]).run Try.prog w = .ok () (w.setRow g #[.int .u8 a0, .int .u64 a1, .int .u64 a2, .int .u8 a3, .int .u8 a4, .int .u8 a5, .int .i64 a6, .string a7, .int .u8 a8, .int .i64 a9, .string a10, .int .i64 a11, .int .i64 a12, .int .u32 a13, .int .u8 a14, .int .u64 a15, .int .u64 a16]) := by
  unfold storeAll_req
  unfold is_req at hg
  split at hg
  · rename_i cur t fr he
    simp only [Bool.and_eq_true, beq_iff_eq] at hg
    obtain ⟨⟨rfl, rfl⟩, hc⟩ := hg
    have h := run_storeCells_from (P := Try.prog) g _ [.int .u8 a0, .int .u64 a1, .int .u64 a2, .int .u8 a3, .int .u8 a4, .int .u8 a5, .int .i64 a6, .string a7, .int .u8 a8, .int .i64 a9, .string a10, .int .i64 a11, .int .i64 a12, .int .u32 a13, .int .u8 a14, .int .u64 a15, .int .u64 a16] 0 cur w he (by simp [hc]) (by simp [Value.oneCell'])
    simpa [hc, List.drop_eq_nil_of_le] using h
  · cases hg
/-- A block of this type's cells. -/
def is_ref (w : World) (g : Nat) : Bool := match w.heap[g]? with
  | some (.cells cur t fr) => t == 110 && fr == (0, 0) && cur.size == 17
  | _ => false
theorem is_ref_of {w : World} {g : Nat} {cs : Array Value} (h : w.heap[g]? = some (.cells cs 110 (0, 0))) (hc : cs.size = 17) : is_ref w g = true := by
  unfold is_ref; rw [h]; simp [hc]
@[local go_sem] theorem is_ref_new (w : World) (a0 : Int) (a1 : Int) (a2 : Int) (a3 : Int) (a4 : Int) (a5 : Int) (a6 : Int) (a7 : ByteArray) (a8 : Int) (a9 : Int) (a10 : ByteArray) (a11 : Int) (a12 : Int) (a13 : Int) (a14 : Int) (a15 : Int) (a16 : Int) : is_ref (w.alloc (.cells #[.int .u8 a0, .int .u64 a1, .int .u64 a2, .int .u8 a3, .int .u8 a4, .int .u8 a5, .int .i64 a6, .string a7, .int .u8 a8, .int .i64 a9, .string a10, .int .i64 a11, .int .i64 a12, .int .u32 a13, .int .u8 a14, .int .u64 a15, .int .u64 a16] 110)) w.heap.size = true := is_ref_of (blk_new w _) rfl
theorem info_ref : (Try.prog.info? 110).map (·.size) = some 17 := by kernel_rfl
def storeAll_ref (a : Addr) (cs : Array Value) : Sem Unit := storeCells a cs.toList 0
theorem all_ref (a : Addr) (a0 : Int) (a1 : Int) (a2 : Int) (a3 : Int) (a4 : Int) (a5 : Int) (a6 : Int) (a7 : ByteArray) (a8 : Int) (a9 : Int) (a10 : ByteArray) (a11 : Int) (a12 : Int) (a13 : Int) (a14 : Int) (a15 : Int) (a16 : Int) : storeCells a [.int .u8 a0, .int .u64 a1, .int .u64 a2, .int .u8 a3, .int .u8 a4, .int .u8 a5, .int .i64 a6, .string a7, .int .u8 a8, .int .i64 a9, .string a10, .int .i64 a11, .int .i64 a12, .int .u32 a13, .int .u8 a14, .int .u64 a15, .int .u64 a16] 0 = storeAll_ref a #[.int .u8 a0, .int .u64 a1, .int .u64 a2, .int .u8 a3, .int .u8 a4, .int .u8 a5, .int .i64 a6, .string a7, .int .u8 a8, .int .i64 a9, .string a10, .int .i64 a11, .int .i64 a12, .int .u32 a13, .int .u8 a14, .int .u64 a15, .int .u64 a16] := rfl
theorem store_ref (w : World) (g : Nat) (a0 : Int) (a1 : Int) (a2 : Int) (a3 : Int) (a4 : Int) (a5 : Int) (a6 : Int) (a7 : ByteArray) (a8 : Int) (a9 : Int) (a10 : ByteArray) (a11 : Int) (a12 : Int) (a13 : Int) (a14 : Int) (a15 : Int) (a16 : Int) (hg : is_ref w g = true) :
    (storeAll_ref ⟨g, 0, none⟩ #[.int .u8 a0, .int .u64 a1, .int .u64 a2, .int .u8 a3, .int .u8 a4, .int .u8 a5, .int .i64 a6, .string a7, .int .u8 a8, .int .i64 a9, .string a10, .int .i64 a11, .int .i64 a12, .int .u32 a13, .int .u8 a14, .int .u64 a15, .int .u64 a16]).run Try.prog w = .ok () (w.setRow g #[.int .u8 a0, .int .u64 a1, .int .u64 a2, .int .u8 a3, .int .u8 a4, .int .u8 a5, .int .i64 a6, .string a7, .int .u8 a8, .int .i64 a9, .string a10, .int .i64 a11, .int .i64 a12, .int .u32 a13, .int .u8 a14, .int .u64 a15, .int .u64 a16]) := by
  unfold storeAll_ref
  unfold is_ref at hg
  split at hg
  · rename_i cur t fr he
    simp only [Bool.and_eq_true, beq_iff_eq] at hg
    obtain ⟨⟨rfl, rfl⟩, hc⟩ := hg
    have h := run_storeCells_from (P := Try.prog) g _ [.int .u8 a0, .int .u64 a1, .int .u64 a2, .int .u8 a3, .int .u8 a4, .int .u8 a5, .int .i64 a6, .string a7, .int .u8 a8, .int .i64 a9, .string a10, .int .i64 a11, .int .i64 a12, .int .u32 a13, .int .u8 a14, .int .u64 a15, .int .u64 a16] 0 cur w he (by simp [hc]) (by simp [Value.oneCell'])
    simpa [hc, List.drop_eq_nil_of_le] using h
  · cases hg
/-- A row of seventeen cells, loaded at once. -/
def loadAll (a : Addr) : Sem (Array Value) := loadCellsFrom a 0 17 #[]
theorem all_load (a : Addr) : loadCellsFrom a 0 17 #[] = loadAll a := rfl
def rowOf (w : World) (g : Nat) : Option (Array Value) := match w.heap[g]? with
  | some (.cells cur _ _) => if cur.size = 17 then some cur else none
  | _ => none
def loadOne (a : Addr) : Sem (Array Value) := loadCellsFrom a 0 17 #[]
def ofRow (r : Option (Array Value)) (x : Result (Array Value)) (w : World) : Result (Array Value) := match r with
  | some cs => .ok cs w
  | none => x
theorem ofRow_some (cs : Array Value) (x : Result (Array Value)) (w : World) : ofRow (some cs) x w = .ok cs w := rfl
theorem rowOf_of {w : World} {g : Nat} {cs : Array Value} {t : TypeId} (h : w.heap[g]? = some (.cells cs t (0, 0))) (hc : cs.size = 17) : rowOf w g = some cs := by
  unfold rowOf; rw [h]; simp [hc]
theorem run_loadAll (w : World) (g : Nat) : (loadAll ⟨g, 0, none⟩).run Try.prog w = ofRow (rowOf w g) ((loadOne ⟨g, 0, none⟩).run Try.prog w) w := by
  cases h : rowOf w g with
  | none => rfl
  | some cs =>
    unfold rowOf at h
    split at h
    · rename_i cur t fr he
      split at h
      · rename_i hc
        obtain rfl := Option.some.inj h
        have := run_loadCells_list (P := Try.prog) w ⟨g, 0, none⟩ cur.toList (fun j v hv => by
          have hadd : (⟨g, 0, none⟩ : Addr).add j = ⟨g, j, none⟩ := by unfold Addr.add; split <;> simp_all
          rw [hadd, cell_of_row _ _ j cur t fr he]
          simpa using hv)
        have h2 : loadAll ⟨g, 0, none⟩ = loadCells ⟨g, 0, none⟩ cur.toList.length := by rw [Array.length_toList, hc]; rfl
        rw [h2, this]
        simp [ofRow]
      · cases h
    · cases h
theorem rowOf_alloc (w : World) (o : Obj) (g : Nat) (h : g < w.heap.size) : rowOf (w.alloc o) g = rowOf w g := by
  unfold rowOf
  have : (w.alloc o).heap[g]? = w.heap[g]? := by
    show (w.heap.push o)[g]? = _
    rw [Array.getElem?_push]
    simp [Nat.ne_of_lt h]
  rw [this]
theorem rowOf_drew (w : World) (g : Nat) : rowOf w.drew g = rowOf w g := rfl
theorem rowOf_new (w : World) (a0 : Int) (a1 : Int) (a2 : Int) (a3 : Int) (a4 : Int) (a5 : Int) (a6 : Int) (a7 : ByteArray) (a8 : Int) (a9 : Int) (a10 : ByteArray) (a11 : Int) (a12 : Int) (a13 : Int) (a14 : Int) (a15 : Int) (a16 : Int) (t : TypeId) : rowOf (w.alloc (.cells #[.int .u8 a0, .int .u64 a1, .int .u64 a2, .int .u8 a3, .int .u8 a4, .int .u8 a5, .int .i64 a6, .string a7, .int .u8 a8, .int .i64 a9, .string a10, .int .i64 a11, .int .i64 a12, .int .u32 a13, .int .u8 a14, .int .u64 a15, .int .u64 a16] t)) w.heap.size = some #[.int .u8 a0, .int .u64 a1, .int .u64 a2, .int .u8 a3, .int .u8 a4, .int .u8 a5, .int .i64 a6, .string a7, .int .u8 a8, .int .i64 a9, .string a10, .int .i64 a11, .int .i64 a12, .int .u32 a13, .int .u8 a14, .int .u64 a15, .int .u64 a16] := rowOf_of (blk_new w _) rfl
attribute [local go_sem] World.setRow_alloc_new
end Go.Proofs.Ytaoacibahdbdkaa.Req
