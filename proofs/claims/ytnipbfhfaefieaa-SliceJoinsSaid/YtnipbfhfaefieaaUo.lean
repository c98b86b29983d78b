/- Texts of this claim, laid together: PvW, PvX, PvY, PvZ, PwA, PwB, PwC. -/
import Derived.Test.YtnipbfhfaefieaaUn
/-! pvec: the first value; without room, and too long. -/
namespace Go.Proofs.Ytnipbfhfaefieaa.Pv
open Go.RowKit Go Go.Proofs.YtnipbfhfaefieaaW.PrintWords Go.Proofs.YtnipbfhfaefieaaW.PrintMore Go.Proofs.YtnipbfhfaefieaaW.PrintLast Go.Proofs.Ytnipbfhfaefieaa.Bts Go.Proofs.Ytnipbfhfaefieaa.Fra Go.Proofs.Ytnipbfhfaefieaa.ArnP Go.Proofs.Ytnipbfhfaefieaa.Arn Go.Proofs.Ytnipbfhfaefieaa.Ao
section
variable {O : Nat → Prop} {a : Nat} {f : Nat → Cell} {live most : Int} {ext rest : Nat → Nat}
theorem row_val1R (w : World) (q m : Int) (s : ByteArray) : RowIn kVal (w.alloc (.cells #[.int .u8 q, .int .i64 m, .string s] 66)) (fun j => w.heap.size ≤ j) (.slice (some ⟨w.heap.size, 0, none⟩) 1 1) [(q, m, s)] := RowIn.of_R (row_val1 w q m s)
theorem row_val2 (w : World) (ob : Obj) (q m : Int) (s : ByteArray) : RowIn kVal ((w.alloc ob).alloc (.cells #[.int .u8 q, .int .i64 m, .string s] 66)) (fun j => w.heap.size ≤ j) (.slice (some ⟨w.heap.size + 1, 0, none⟩) 1 1) [(q, m, s)] := by
  have := row_val1R (w.alloc ob) q m s
  rw [World.size_alloc] at this
  exact this.mono (fun j hj => by omega)
theorem row_noneK (w : World) (Q : Nat → Prop) : RowIn (Kd.int .i64) w Q (.slice none 0 0) [] := row_none _ _ _
set_option maxHeartbeats 4000000 in
set_option maxRecDepth 100000 in
theorem push_first (o : Int) (q m : Int) (s : ByteArray) (w : World) (h : AO w O a f live most (fun z => rest z + vx 0 0 z) nop) (he : ∀ x, rest x ≤ 50000000000) (hful : ¬ most - live < 3) :
    Calls Try.prog 33 #[.pointer (some ⟨a, 0, none⟩), vecV 0 0 0, valV q m s, .int .u32 o] w fun e w' => ∃ (r' t' : Nat) (O' : Nat → Prop) (f' : Nat → Cell) (live' : Int), e = .returned (.tuple #[vecV 1 r' t', .int .i64 0]) ∧ AO w' O' a f' live' most (fun z => RR rest o 0 0 z + vx r' t' z) nop ∧ live' ≤ live + 2 ∧ VRep f' (1) r' t' [(q, m, s)] ∧ KeepR (RR rest o 0 0) nop f f' ∧ (∀ j, O' j → O j ∨ w.heap.size ≤ j) ∧ Fr O w w' := by
  have hlt := h.lt
  have hbx := below_alloc (below_alloc (below_alloc (Below.refl w.heap.size w) (.cells #[.int .i64 0, .int .i64 0, .int .i64 0] 61)) (.cells #[.int .u8 q, .int .i64 m, .string s] 66)) (.cells #[.int .i64 0, .int .i64 0, .int .i64 0] 61)
  have hk0 := blk_alloc (blk_alloc (blk_new w (.cells #[.int .i64 0, .int .i64 0, .int .i64 0] 61)) (.cells #[.int .u8 q, .int .i64 m, .string s] 66)) (.cells #[.int .i64 0, .int .i64 0, .int .i64 0] 61)
  have hk1 := blk_alloc (new1 w (.cells #[.int .i64 0, .int .i64 0, .int .i64 0] 61) (.cells #[.int .u8 q, .int .i64 m, .string s] 66)) (.cells #[.int .i64 0, .int .i64 0, .int .i64 0] 61)
  have hk2 := new2 w (.cells #[.int .i64 0, .int .i64 0, .int .i64 0] 61) (.cells #[.int .u8 q, .int .i64 m, .string s] 66) (.cells #[.int .i64 0, .int .i64 0, .int .i64 0] 61)
  have hbg := begin_ok o 0 0 0 _ (h.below hbx) (by omega) he hful
  have hlm : live < most := by omega
  have HB := Lib.hid hbx
  have HK := Lib.hid (And.intro hk0 (And.intro hk1 hk2))
  have HN := Lib.hid (show ∀ j, w.heap.size ≤ j → ¬ O j from fun j hj e => by have := hlt j e; omega)
  have HE := Lib.hid he
  have e0 : (fun z => RR rest o 0 0 z + vx 0 0 z) = fun z => RR rest o 0 0 z + kc [] z := by
    funext z
    rfl
  obtain ⟨RW, hRW⟩ : ∃ RW, RR rest o 0 0 = RW := ⟨_, rfl⟩
  rw [hRW] at hbg e0 ⊢
  have HBG := Lib.hid hbg
  clear h hbx hk0 hk1 hk2 hbg hlt hful he
  go_enter Try.func33, Try.ntmps33
  go_wp2_with (first
    | (go_at_call 82; go_loud (refine (make_nil (Q := fun j => w5.heap.size ≤ j) (rest := RW) o 0 0 0 _ _ [(q, m, s)] [] _ (HA5.out.below (below_alloc (Below.refl _ _) (.cells #[.int .u8 q, .int .i64 m, .string s] 66))) (row_val2 _ _ q m s) (row_noneK _ _) (fun j hj hj2 => (by have := HN.out j (by have := HF5.out.size; have := HB.out.size; omega); exact this hj2)) (by intro z hz; cases hz) (by omega) (by simp) (by simp) (fun z hz => by cases hz)).mono ?_; rintro e w6 ⟨i, O6, rfl, hA6, hi0, hri, _, hK6, hO6, hF6⟩; have HA6 := Lib.hid hA6; have HF6 := Lib.hid hF6; have HK6 := Lib.hid hK6; have b0 := hF6.blk (blk_alloc HK5.out.1 (.cells #[.int .u8 q, .int .i64 m, .string s] 66)) (HN.out _ (by omega)); have b2 := hF6.blk (blk_alloc HK5.out.2.2.1 (.cells #[.int .u8 q, .int .i64 m, .string s] 66)) (HN.out _ (by omega)); have u0 := blk_cell b0 0; have u1 := blk_cell b0 1; have u2 := blk_cell b0 2; have y0 := blk_frozen b0 0; have y1 := blk_frozen b0 1; have y2 := blk_frozen b0 2; have v0 := blk_cell b2 0; have v1 := blk_cell b2 1; have v2 := blk_cell b2 2; have z0 := blk_frozen b2 0; have z1 := blk_frozen b2 1; have z2 := blk_frozen b2 2; have HB6 := Lib.hid (And.intro b0 b2); clear b0 b2 hA6 hK6 hF6))
    | (go_at_call 77; go_loud (refine HBG.out.mono ?_; rintro e w5 ⟨rfl, f5, hA5, hO5, hk5, hF5⟩; have HKP := Lib.hid hk5; clear hk5; have hA5 := hA5.below (below_alloc (Below.refl _ _) (.cells #[.pointer (some ⟨a, 0, none⟩), .int .u32 o] 133)); rw [e0] at hA5; have HA5 := Lib.hid hA5; have HO5 := Lib.hid hO5; have HF5 := Lib.hid hF5; have b0 := hF5.blk HK.out.1 (HN.out _ (by omega)); have b1 := hF5.blk HK.out.2.1 (HN.out _ (by omega)); have b2 := hF5.blk HK.out.2.2 (HN.out _ (by omega)); have c0 := blk_alloc b0 (.cells #[.pointer (some ⟨a, 0, none⟩), .int .u32 o] 133); have c1 := blk_alloc b1 (.cells #[.pointer (some ⟨a, 0, none⟩), .int .u32 o] 133); have c2 := blk_alloc b2 (.cells #[.pointer (some ⟨a, 0, none⟩), .int .u32 o] 133); have c3 := blk_new w5 (.cells #[.pointer (some ⟨a, 0, none⟩), .int .u32 o] 133); have s0 := blk_cell c0 0; have s1 := blk_cell c0 1; have s2 := blk_cell c0 2; have p0 := blk_cell c1 0; have p1 := blk_cell c1 1; have p2 := blk_cell c1 2; have k0 := blk_cell c3 0; have k1 := blk_cell c3 1; have HK5 := Lib.hid (And.intro c0 (And.intro c1 (And.intro c2 c3))); clear b0 b1 b2 c0 c1 c2 c3 hA5 hO5 hF5)))
  refine bodyPost_ret (results_ct rfl _ _ (w.heap.size + 1 + 1) 61 #[.int .i64 1, .int .i64 0, .int .i64 i] (0, 0) _ rfl (ret3 ((Fr.put (Fr.put (Fr.refl (fun j => j = w.heap.size) w6) (p := ⟨w.heap.size, 2, none⟩) (.inl rfl) _) (p := ⟨w.heap.size, 0, none⟩) (.inl rfl) _).blk HB6.out.2 (by omega)) _ _ _) Try.underlying61 rfl (by kernel_rfl)) rfl ?_
  have hs5 := blk_lt HK5.out.2.2.1
  have hsw := HF5.out.size
  have hsb := HB.out.size
  simp only [World.size_alloc] at hs5 hsw hsb
  have hF9 := fr_two w6 w.heap.size (w.heap.size + 1 + 1) (.int .i64 i) (.int .i64 1) (.int .i64 1) (.int .i64 0) (.int .i64 i)
  have hA9 := HA6.out
  have e9 : (fun z => RW z + one i z) = fun z => RW z + vx 0 i z := by
    funext z
    unfold vx
    rw [hold_pos hi0, hold_zero]
    show _ = RW z + (0 + one i z)
    omega
  rw [e9] at hA9
  have hA10 := hA9.move hF9 (fun k hk e => by
    rcases hO6 k hk with q | q
    · rcases e with e | e
      · exact HN.out k (by omega) q
      · exact HN.out k (by omega) q
    · try simp only [World.size_alloc] at q
      rcases e with e | e <;> omega)
  refine ⟨0, i, O6, _, _, rfl, hA10, by omega, VRep.first ⟨hi0, by rw [upd_eq], by rw [upd_eq]⟩, (HKP.out.mono (fun j hj => by show 0 < RW j + vx 0 0 j; omega)).trans HK6.out, fun j hj => ?_, ?_⟩
  · refine (hO6 j hj).imp id (fun q => ?_)
    try simp only [World.size_alloc] at q
    omega
  · exact (((Fr.of_new HB.out).trans (HF5.out.then_ (Fr.of_new (S := O) (below_alloc (below_alloc (Below.refl _ _) (.cells #[.pointer (some ⟨a, 0, none⟩), .int .u32 o] 133)) (.cells #[.int .u8 q, .int .i64 m, .string s] 66))) (fun j hj => .inl hj))).trans HF6.out).then_ hF9 (fun j hj => .inr (by rcases hj with e | e <;> omega))
end
end Go.Proofs.Ytnipbfhfaefieaa.Pv
/-! pvec: the tail becomes a leaf, and another one is begun. -/
namespace Go.Proofs.Ytnipbfhfaefieaa.Pv
open Go.RowKit Go Go.Proofs.YtnipbfhfaefieaaW.PrintWords Go.Proofs.YtnipbfhfaefieaaW.PrintMore Go.Proofs.YtnipbfhfaefieaaW.PrintLast Go.Proofs.Ytnipbfhfaefieaa.Bts Go.Proofs.Ytnipbfhfaefieaa.Fra Go.Proofs.Ytnipbfhfaefieaa.ArnP Go.Proofs.Ytnipbfhfaefieaa.Arn Go.Proofs.Ytnipbfhfaefieaa.Ao
section
variable {O : Nat → Prop} {a : Nat} {f : Nat → Cell} {live most : Int} {ext rest : Nat → Nat}
theorem row_val3 (w : World) (p : Addr) (x : Value) (q m : Int) (s : ByteArray) : RowIn kVal ((w.setCell p x).alloc (.cells #[.int .u8 q, .int .i64 m, .string s] 66)) (fun j => w.heap.size ≤ j) (.slice (some ⟨w.heap.size, 0, none⟩) 1 1) [(q, m, s)] := by
  have := row_val1R (w.setCell p x) q m s
  rw [World.size_setCell] at this
  exact this
theorem KeepR.same {R : Nat → Nat} {f f' : Nat → Cell} (h : KeepR R nop f f') {j : Nat} (h0 : 0 < j) (hr : 0 < R j) : Same f f' j := (h j h0 hr).2 rfl
theorem kc_nil (R : Nat → Nat) : (fun z => R z) = fun z => R z + kc [] z := by
  funext z
  rfl
set_option maxHeartbeats 4000000 in
set_option maxRecDepth 100000 in
theorem push_leaf (o : Int) (n r t : Nat) (l : List V3) (q m : Int) (s : ByteArray) (w : World) (h : AO w O a f live most (fun z => rest z + vx r t z) nop) (hv : VRep f n r t l) (hn : n < 1024) (hn2 : n % 32 = 0) (h0 : 0 < n) (he : ∀ x, rest x ≤ 50000000000) (hful : ¬ most - live < (lev (lvs n + 1) : Int) + 3) :
    Calls Try.prog 33 #[.pointer (some ⟨a, 0, none⟩), vecV n r t, valV q m s, .int .u32 o] w fun e w' => ∃ (r' t' : Nat) (O' : Nat → Prop) (f' : Nat → Cell) (live' : Int), e = .returned (.tuple #[vecV ((n : Int) + 1) r' t', .int .i64 0]) ∧ AO w' O' a f' live' most (fun z => RR rest o r t z + vx r' t' z) nop ∧ live' ≤ live + 2 ∧ VRep f' (n + 1) r' t' (l ++ [(q, m, s)]) ∧ KeepR (RR rest o r t) nop f f' ∧ (∀ j, O' j → O j ∨ w.heap.size ≤ j) ∧ Fr O w w' := by
  have hlt := h.lt
  have hv' := hv
  obtain ⟨hl, _, hv2⟩ := hv'
  rcases hv2 with ⟨q0, _⟩ | ⟨_, hT, hR⟩
  · omega
  have hbx := below_alloc (below_alloc (below_alloc (Below.refl w.heap.size w) (.cells #[.int .i64 n, .int .i64 r, .int .i64 t] 61)) (.cells #[.int .u8 q, .int .i64 m, .string s] 66)) (.cells #[.int .i64 0, .int .i64 0, .int .i64 0] 61)
  have hk0 := blk_alloc (blk_alloc (blk_new w (.cells #[.int .i64 n, .int .i64 r, .int .i64 t] 61)) (.cells #[.int .u8 q, .int .i64 m, .string s] 66)) (.cells #[.int .i64 0, .int .i64 0, .int .i64 0] 61)
  have hk1 := blk_alloc (new1 w (.cells #[.int .i64 n, .int .i64 r, .int .i64 t] 61) (.cells #[.int .u8 q, .int .i64 m, .string s] 66)) (.cells #[.int .i64 0, .int .i64 0, .int .i64 0] 61)
  have hk2 := new2 w (.cells #[.int .i64 n, .int .i64 r, .int .i64 t] 61) (.cells #[.int .u8 q, .int .i64 m, .string s] 66) (.cells #[.int .i64 0, .int .i64 0, .int .i64 0] 61)
  have hbg := begin_ok o n r t _ (h.below hbx) (by omega) he hful
  have hlc := leaves_calls n (r : Int) (t : Int) (by omega)
  have hlm : live + 2 < most := by omega
  have hmd : (n : Int).tmod 32 = 0 := by rw [Int.tmod_eq_emod_of_nonneg (by omega)]; omega
  have hmd2 : (n : Int) % 32 = 0 := by omega
  have hlong : ¬ (1024 : Int) ≤ (n : Int) := by omega
  have hn9 : (n : Int) ≤ 1023 := by omega
  have hpos : (0 : Int) < (n : Int) := by omega
  have ht0 := hT.1
  have hm32 : lvs n < 32 := by unfold lvs; omega
  obtain ⟨RW, hRW⟩ : ∃ RW, RR rest o r t = RW := ⟨_, rfl⟩
  have hrw : ∀ x, RW x ≤ 60000000000 := fun x => by rw [← hRW]; have := RR_le (o := o) (r := r) (t := t) he x; omega
  rw [hRW] at hbg ⊢
  obtain ⟨lv, hlv⟩ : ∃ lv, lvs n = lv := ⟨_, rfl⟩
  rw [hlv] at hlc hm32 hT hR
  have HLC := Lib.hid hlc
  have HBG := Lib.hid hbg
  have HB := Lib.hid hbx
  have HK := Lib.hid (And.intro hk0 (And.intro hk1 hk2))
  have HN := Lib.hid (show ∀ j, w.heap.size ≤ j → ¬ O j from fun j hj e => by have := hlt j e; omega)
  have HV := Lib.hid hv
  have HT := Lib.hid hT
  have HRT := Lib.hid hR
  have HLV := Lib.hid hlv
  have HRW := Lib.hid hRW
  have HL := Lib.hid hl
  have HN2 := Lib.hid (And.intro hn hn2)
  clear h hbx hk0 hk1 hk2 hbg hlt hv hT hR hful he hl hlc hlv hRW hn2
  go_enter Try.func33, Try.ntmps33
  go_wp2_with (go_at_call 77; go_loud (refine HBG.out.mono ?_; rintro e w5 ⟨rfl, f5, hA5, hO5, hk5, hF5⟩; have HKP := Lib.hid hk5; clear hk5; have hA5 := hA5.below (below_alloc (Below.refl _ _) (.cells #[.pointer (some ⟨a, 0, none⟩), .int .u32 o] 133)); rw [vx_split _ r ht0] at hA5; have HA5 := Lib.hid hA5; have HO5 := Lib.hid hO5; have HF5 := Lib.hid hF5; have b0 := hF5.blk HK.out.1 (HN.out _ (by omega)); have b1 := hF5.blk HK.out.2.1 (HN.out _ (by omega)); have b2 := hF5.blk HK.out.2.2 (HN.out _ (by omega)); have c0 := blk_alloc b0 (.cells #[.pointer (some ⟨a, 0, none⟩), .int .u32 o] 133); have c1 := blk_alloc b1 (.cells #[.pointer (some ⟨a, 0, none⟩), .int .u32 o] 133); have c2 := blk_alloc b2 (.cells #[.pointer (some ⟨a, 0, none⟩), .int .u32 o] 133); have c3 := blk_new w5 (.cells #[.pointer (some ⟨a, 0, none⟩), .int .u32 o] 133); have s0 := blk_cell c0 0; have s1 := blk_cell c0 1; have s2 := blk_cell c0 2; have p0 := blk_cell c1 0; have p1 := blk_cell c1 1; have p2 := blk_cell c1 2; have k0 := blk_cell c3 0; have k1 := blk_cell c3 1; have HK5 := Lib.hid (And.intro c0 (And.intro c1 (And.intro c2 c3))); clear b0 b1 b2 c0 c1 c2 c3 hA5 hO5 hF5))
  obtain ⟨V, hV⟩ : ∃ V, (w5.alloc (.cells #[.pointer (some ⟨a, 0, none⟩), .int .u32 o] 133)).drew = V := ⟨_, rfl⟩
  have hd : Below (w5.alloc (.cells #[.pointer (some ⟨a, 0, none⟩), .int .u32 o] 133)).heap.size (w5.alloc (.cells #[.pointer (some ⟨a, 0, none⟩), .int .u32 o] 133)) V := by rw [← hV]; exact below_drew1 (Below.refl _ _)
  have d0 := blk_below HK5.out.1 hd
  have d1 := blk_below HK5.out.2.1 hd
  have d2 := blk_below HK5.out.2.2.1 hd
  have d3 := blk_below HK5.out.2.2.2 hd
  have q0 := blk_cell d0 0
  have q1 := blk_cell d0 1
  have q2 := blk_cell d0 2
  have q3 := blk_cell d3 0
  have q4 := blk_cell d3 1
  have HAV := Lib.hid (HA5.out.below hd)
  have HKV := Lib.hid (And.intro d0 (And.intro d1 (And.intro d2 d3)))
  have HD := Lib.hid hd
  have hszv := hd.size
  have hn5 : ∀ j, w.heap.size ≤ j → ¬ O j := HN.out
  have HN5 := Lib.hid hn5
  clear d0 d1 d2 d3 hd hn5
  refine start_ (n := 10) (S := fun w' => w'.cell? ⟨w.heap.size, 0, none⟩ = some (.int .i64 (n : Int)) ∧ w'.cell? ⟨w.heap.size, 1, none⟩ = some (.int .i64 (r : Int)) ∧ w'.cell? ⟨w.heap.size, 2, none⟩ = some (.int .i64 (t : Int)) ∧ w'.cell? ⟨w5.heap.size, 0, none⟩ = some (.pointer (some ⟨a, 0, none⟩)) ∧ w'.cell? ⟨w5.heap.size, 1, none⟩ = some (.int .u32 o)) (ds := [9]) #[false, false, false, false, false, false, false, false, false, false] (by kernel_rfl) rfl rfl ⟨(by rw [hV]; exact q0), (by rw [hV]; exact q1), (by rw [hV]; exact q2), (by rw [hV]; exact q3), (by rw [hV]; exact q4)⟩ (fun hHeld => ?_)
  refine pure_ (i := 1) (N := some 31) (v := ?_) (a' := ?_) #[false, true, false, false, false, false, false, false, false, false] rfl rfl (by kernel_rfl) (fun _ _ _ h => h) (Or.inl ⟨by rfl, ?_⟩) ?_ ?_
  rotate_left
  · intro w'
    go_simp
    with_reducible rfl
  rotate_left
  · simp only [Act.put, List.setIfInBounds_toArray, List.set_cons_zero, List.set_cons_succ, i64_w, i32_w]
    rfl
  refine pure_ (i := 5) (N := some 35) (v := ?_) (a' := ?_) #[false, true, false, false, false, true, false, false, false, false] rfl rfl (by kernel_rfl) (fun _ _ _ h => h) (Or.inl ⟨by rfl, ?_⟩) ?_ ?_
  rotate_left
  · intro w'
    go_simp
    with_reducible rfl
  rotate_left
  · simp only [Act.put, List.setIfInBounds_toArray, List.set_cons_zero, List.set_cons_succ, i64_w, i32_w]
    rfl
  refine take_ (i := 0) (N := some 30) (v := ?_) (a' := ?_) #[true, true, false, false, false, true, false, false, false, false] rfl rfl (by kernel_rfl) (fun _ _ _ h => h) (Or.inl ⟨by rfl, ?_⟩) hHeld ?_ ?_
  rotate_left
  · rintro w' ⟨s0, s1, s2, s3, s4⟩
    go_simp
    with_reducible rfl
  rotate_left
  · simp only [Act.put, List.setIfInBounds_toArray, List.set_cons_zero, List.set_cons_succ, i64_w, i32_w]
    rfl
  refine take_ (i := 2) (N := some 32) (v := ?_) (a' := ?_) #[true, true, true, false, false, true, false, false, false, false] rfl rfl (by kernel_rfl) (fun _ _ _ h => h) (Or.inl ⟨by rfl, ?_⟩) hHeld ?_ ?_
  rotate_left
  · rintro w' ⟨s0, s1, s2, s3, s4⟩
    go_simp
    with_reducible rfl
  rotate_left
  · simp only [Act.put, List.setIfInBounds_toArray, List.set_cons_zero, List.set_cons_succ, i64_w, i32_w]
    rfl
  refine take_ (i := 3) (N := some 33) (v := ?_) (a' := ?_) #[true, true, true, true, false, true, false, false, false, false] rfl rfl (by kernel_rfl) (fun _ _ _ h => h) (Or.inl ⟨by rfl, ?_⟩) hHeld ?_ ?_
  rotate_left
  · rintro w' ⟨s0, s1, s2, s3, s4⟩
    go_simp
    with_reducible rfl
  rotate_left
  · simp only [Act.put, List.setIfInBounds_toArray, List.set_cons_zero, List.set_cons_succ, i64_w, i32_w]
    rfl
  refine take_ (i := 6) (N := some 36) (v := ?_) (a' := ?_) #[true, true, true, true, false, true, true, false, false, false] rfl rfl (by kernel_rfl) (fun _ _ _ h => h) (Or.inl ⟨by rfl, ?_⟩) hHeld ?_ ?_
  rotate_left
  · rintro w' ⟨s0, s1, s2, s3, s4⟩
    go_simp
    with_reducible rfl
  rotate_left
  · simp only [Act.put, List.setIfInBounds_toArray, List.set_cons_zero, List.set_cons_succ, i64_w, i32_w]
    rfl
  refine one_ (i := 4) (N := some 34) #[true, true, true, true, true, true, true, false, false, false] rfl rfl (by kernel_rfl) (by decide) (fun K hK => ?_)
  refine goes_ Try.func81 (by kernel_rfl) rfl #[vecV n r t] (by rfl) rfl rfl (by simp only [List.map_toArray, List.map_cons, List.map_nil]; rfl) ?_
  with_reducible refine (HLC.out _).mono ?_
  rintro e w6 ⟨rfl, hB6⟩
  refine ⟨_, rfl, ?_⟩
  have hB6 : Below V.heap.size V w6 := hV ▸ hB6
  have HB6 := Lib.hid hB6
  have HBV := Lib.hid hB6
  have HA6 := Lib.hid (HAV.out.below hB6)
  refine hK.out _ _ ⟨(blk_cell (blk_below HKV.out.1 HB6.out) 0), (blk_cell (blk_below HKV.out.1 HB6.out) 1), (blk_cell (blk_below HKV.out.1 HB6.out) 2), (blk_cell (blk_below HKV.out.2.2.2 HB6.out) 0), (blk_cell (blk_below HKV.out.2.2.2 HB6.out) 1)⟩ (fun hHeld => ?_)
  clear hK K
  refine norm_ (a' := ?_) ?_ ?_
  rotate_left
  · show Act.put _ (some 34) _ = _
    simp only [Act.put, List.setIfInBounds_toArray, List.set_cons_zero, List.set_cons_succ, i64_w, i32_w]
    rfl
  refine one_ (i := 7) (N := some 37) #[true, true, true, true, true, true, true, true, false, false] rfl rfl (by kernel_rfl) (by decide) (fun K hK => ?_)
  refine goes_ Try.func80 (by kernel_rfl) rfl #[workV a o, .int .i64 r, .int .i64 lv, .int .i64 t] (by rfl) rfl rfl (by simp only [List.map_toArray, List.map_cons, List.map_nil]; rfl) ?_
  with_reducible refine (growT (rest := RW) o lv r t (leafs l) (l.drop (32 * lv)) _ HA6.out (HRT.out.same (fun hr => KeepR.same HKP.out hr (by have := vx_r (t := t) hr; show 0 < RW r + vx r t r; omega))) (HT.out.same (KeepR.same HKP.out ht0 (by have := vx_t (r := r) ht0; show 0 < RW t + vx r t t; omega))) hrw hm32 (by omega)).mono ?_
  rintro e w7 ⟨r', O7, f7, live7, rfl, hA7, hll7, hr7, hT7, hK7, hO7, hF7⟩
  refine ⟨_, rfl, ?_⟩
  have HA7 := Lib.hid hA7
  have HT7 := Lib.hid hT7
  have HK7 := Lib.hid hK7
  have HF7 := Lib.hid hF7
  have g0 := hF7.blk (blk_below HKV.out.1 HB6.out) (HN.out _ (by omega))
  have g1 := hF7.blk (blk_below HKV.out.2.1 HB6.out) (HN.out _ (by omega))
  have g2 := hF7.blk (blk_below HKV.out.2.2.1 HB6.out) (HN.out _ (by omega))
  have g3 := hF7.blk (blk_below HKV.out.2.2.2 HB6.out) (HN.out _ (by have := HF5.out.size; have := HB.out.size; omega))
  have fz := blk_frozen g0 1
  have HG := Lib.hid (And.intro g0 (And.intro g1 (And.intro g2 g3)))
  clear hA7 hT7 hK7 hF7 g0 g1 g2 g3
  refine hK.out _ _ ⟨(blk_cell HG.out.1 0), (blk_cell HG.out.1 1), (blk_cell HG.out.1 2), (blk_cell HG.out.2.2.2 0), (blk_cell HG.out.2.2.2 1)⟩ (fun hHeld => ?_)
  clear hK K
  refine norm_ (a' := ?_) ?_ ?_
  rotate_left
  · show Act.put _ (some 37) _ = _
    simp only [Act.put, List.setIfInBounds_toArray, List.set_cons_zero, List.set_cons_succ, i64_w, i32_w]
    rfl
  refine pure_ (i := 8) (N := some 38) (v := ?_) (a' := ?_) #[true, true, true, true, true, true, true, true, true, false] rfl rfl (by kernel_rfl) (fun _ _ _ h => h) (Or.inl ⟨by rfl, ?_⟩) ?_ ?_
  rotate_left
  · intro w'
    go_simp
    with_reducible rfl
  rotate_left
  · simp only [Act.put, List.setIfInBounds_toArray, List.set_cons_zero, List.set_cons_succ, i64_w, i32_w]
    rfl
  refine last_ (i := 9) (N := none) #[true, true, true, true, true, true, true, true, true, true] rfl rfl (by kernel_rfl) (by decide) (fun K hK => ?_)
  refine skip_ (w1 := ?_) (by rfl) rfl ?_ ?_
  rotate_left
  · go_simp
    rfl
  refine hK.out _ _ ?_
  clear hK K
  refine done_ (by kernel_rfl) ?_

  have e0 := HG.out
  have hs7 : Fr (fun j => j = w.heap.size) w7 (w7.setCell ⟨w.heap.size, 1, none⟩ (.int .i64 r')) := Fr.set _ _ _
  have hlt7 := HA7.out.lt
  have g0 := blk_put HG.out.1 1 (.int .i64 r') rfl
  have g1 := hs7.blk HG.out.2.1 (by omega)
  have g2 := hs7.blk HG.out.2.2.1 (by omega)
  have hsw := HF5.out.size
  have hsb := HB.out.size
  have hs6 := HB6.out.size
  have hsd := HD.out.size
  simp only [World.size_alloc] at hsw hsb hsd
  have g3 := hs7.blk HG.out.2.2.2 (by omega)
  have hO7n : ∀ j, w.heap.size ≤ j → j < w5.heap.size + 1 → ¬ O7 j := fun j h1 h2 h3 => by
    rcases hO7 j h3 with q | q
    · exact HN.out j h1 q
    · omega
  have hA8 := HA7.out.move hs7 (fun k hk e => hO7n k (by omega) (by omega) hk)
  rw [kc_nil (fun z => RW z + one r' z)] at hA8
  have p0 := blk_cell g1 0
  have p1 := blk_cell g1 1
  have p2 := blk_cell g1 2
  have k0 := blk_cell g3 0
  have k1 := blk_cell g3 1
  have HA8 := Lib.hid hA8
  have HLT7 := Lib.hid hlt7
  have HON := Lib.hid hO7n
  have HG8 := Lib.hid (And.intro g0 (And.intro g1 (And.intro g2 g3)))
  have HS7 := Lib.hid hs7
  clear e0 hs7 g0 g1 g2 g3 hA8 hlt7 hO7n q0 q1 q2 q3 q4
  go_wp2_with (go_at_call 82; go_loud (refine (make_nil (Q := fun j => w7.heap.size ≤ j) (rest := fun z => RW z + one r' z) o 0 0 0 _ _ [(q, m, s)] [] _ (HA8.out.below (below_alloc (Below.refl _ _) (.cells #[.int .u8 q, .int .i64 m, .string s] 66))) (row_val3 _ _ _ q m s) (row_noneK _ _) (fun j hj hj2 => by have := HLT7.out j hj2; omega) (by intro z hz; cases hz) (by omega) (by simp) (by simp) (fun z hz => by cases hz)).mono ?_; rintro e w6 ⟨i, O6, rfl, hA6, hi0, hri, _, hK6, hO6, hF6⟩; have HA6 := Lib.hid hA6; have HF6 := Lib.hid hF6; have HK6 := Lib.hid hK6; have b0 := hF6.blk (blk_alloc HG8.out.1 (.cells #[.int .u8 q, .int .i64 m, .string s] 66)) (HON.out _ (by omega) (by omega)); have b2 := hF6.blk (blk_alloc HG8.out.2.2.1 (.cells #[.int .u8 q, .int .i64 m, .string s] 66)) (HON.out _ (by omega) (by omega)); have u0 := blk_cell b0 0; have u1 := blk_cell b0 1; have u2 := blk_cell b0 2; have y0 := blk_frozen b0 0; have y1 := blk_frozen b0 1; have y2 := blk_frozen b0 2; have v0 := blk_cell b2 0; have v1 := blk_cell b2 1; have v2 := blk_cell b2 2; have z0 := blk_frozen b2 0; have z1 := blk_frozen b2 1; have z2 := blk_frozen b2 2; have HB6 := Lib.hid (And.intro b0 b2); clear b0 b2 hA6 hK6 hF6))
  refine bodyPost_ret (results_ct rfl _ _ (w.heap.size + 1 + 1) 61 #[.int .i64 ((n : Int) + 1), .int .i64 r', .int .i64 i] (0, 0) _ rfl (ret3 ((Fr.put (Fr.put (Fr.refl (fun j => j = w.heap.size) w6) (p := ⟨w.heap.size, 2, none⟩) (.inl rfl) _) (p := ⟨w.heap.size, 0, none⟩) (.inl rfl) _).blk HB6.out.2 (by omega)) _ _ _) Try.underlying61 rfl (by kernel_rfl)) rfl ?_
  have hsz7 := HF7.out.size
  have hO6 : ∀ j, O6 j → O j ∨ w5.heap.size ≤ j := fun j hj => by
    rcases hO6 j hj with q | q
    · exact (hO7 j q).imp id (fun q => by omega)
    · simp only [World.size_alloc, World.size_setCell] at q
      exact .inr (by omega)
  have hF9 := fr_two w6 w.heap.size (w.heap.size + 1 + 1) (.int .i64 i) (.int .i64 ((n : Int) + 1)) (.int .i64 ((n : Int) + 1)) (.int .i64 r') (.int .i64 i)
  have hA9 := HA6.out
  have e9 : (fun z => RW z + one r' z + one i z) = fun z => RW z + vx r' i z := by
    funext z
    unfold vx
    rw [hold_pos hi0, hold_pos hr7]
    omega
  rw [e9] at hA9
  have hA10 := hA9.move hF9 (fun k hk e => by
    rcases hO6 k hk with q | q
    · rcases e with e | e
      · exact HN.out k (by omega) q
      · exact HN.out k (by omega) q
    · try simp only [World.size_alloc] at q
      rcases e with e | e <;> omega)
  refine ⟨r', i, O6, _, _, rfl, hA10, by omega, VRep.leaf HV.out h0 HN2.out.2 HN2.out.1 (by rw [HLV.out]; exact HT7.out.same (fun _ => KeepR.same HK6.out hr7 (by have h1 : one r' r' = 1 := if_pos rfl; show 0 < RW r' + one r' r'; omega))) ⟨hi0, by rw [upd_eq], by rw [upd_eq]⟩, ((HKP.out.mono (fun j hj => by show 0 < RW j + vx r t j; omega)).trans HK7.out).trans (HK6.out.mono (fun j hj => by show 0 < RW j + one r' j; omega)), fun j hj => ?_, ?_⟩
  · refine (hO6 j hj).imp id (fun q => ?_)
    try simp only [World.size_alloc] at q
    omega
  · exact (((((((Fr.of_new HB.out).trans HF5.out).more (below_alloc (Below.refl _ _) (.cells #[.pointer (some ⟨a, 0, none⟩), .int .u32 o] 133))).more HD.out).more HBV.out).trans HF7.out).then_ HS7.out (fun j hj => .inr (by omega)) |>.more (below_alloc (Below.refl _ _) (.cells #[.int .u8 q, .int .i64 m, .string s] 66)) |>.then_ HF6.out (fun j hj => (hO7 j hj).imp id (fun q => by omega))).then_ hF9 (fun j hj => .inr (by rcases hj with e | e <;> omega))
end
end Go.Proofs.Ytnipbfhfaefieaa.Pv
/-! pvec: a value in a trunk is set, as a whole. -/
namespace Go.Proofs.Ytnipbfhfaefieaa.Pv
open Go.RowKit Go Go.Proofs.YtnipbfhfaefieaaW.PrintWords Go.Proofs.YtnipbfhfaefieaaW.PrintMore Go.Proofs.YtnipbfhfaefieaaW.PrintLast Go.Proofs.Ytnipbfhfaefieaa.Bts Go.Proofs.Ytnipbfhfaefieaa.Fra Go.Proofs.Ytnipbfhfaefieaa.ArnP Go.Proofs.Ytnipbfhfaefieaa.Arn Go.Proofs.Ytnipbfhfaefieaa.Ao
section
variable {O : Nat → Prop} {a : Nat} {f : Nat → Cell} {live most : Int} {ext rest : Nat → Nat}
end
end Go.Proofs.Ytnipbfhfaefieaa.Pv
/-! pvec: a value of a vector is set. -/
namespace Go.Proofs.Ytnipbfhfaefieaa.Pv
open Go.RowKit Go Go.Proofs.YtnipbfhfaefieaaW.PrintWords Go.Proofs.YtnipbfhfaefieaaW.PrintMore Go.Proofs.YtnipbfhfaefieaaW.PrintLast Go.Proofs.Ytnipbfhfaefieaa.Bts Go.Proofs.Ytnipbfhfaefieaa.Fra Go.Proofs.Ytnipbfhfaefieaa.ArnP Go.Proofs.Ytnipbfhfaefieaa.Arn Go.Proofs.Ytnipbfhfaefieaa.Ao
section
variable {O : Nat → Prop} {a : Nat} {f : Nat → Cell} {live most : Int} {ext rest : Nat → Nat}
end
end Go.Proofs.Ytnipbfhfaefieaa.Pv
/-! pvec: changes that are refused. -/
namespace Go.Proofs.Ytnipbfhfaefieaa.Pv
open Go.RowKit Go Go.Proofs.YtnipbfhfaefieaaW.PrintWords Go.Proofs.YtnipbfhfaefieaaW.PrintMore Go.Proofs.YtnipbfhfaefieaaW.PrintLast Go.Proofs.Ytnipbfhfaefieaa.Bts Go.Proofs.Ytnipbfhfaefieaa.Fra Go.Proofs.Ytnipbfhfaefieaa.ArnP Go.Proofs.Ytnipbfhfaefieaa.Arn Go.Proofs.Ytnipbfhfaefieaa.Ao
section
variable {O : Nat → Prop} {a : Nat} {f : Nat → Cell} {live most : Int} {ext rest : Nat → Nat}
set_option maxHeartbeats 4000000 in
set_option maxRecDepth 100000 in
theorem push_full (o : Int) (n r t : Nat) (q m : Int) (s : ByteArray) (w : World) (h : AO w O a f live most (fun z => rest z + vx r t z) nop) (hn : n ≤ 1024) (hn2 : n < 1024) (he : ∀ x, rest x ≤ 50000000000) (hful : most - live < (lev (lvs n + 1) : Int) + 3) :
    Calls Try.prog 33 #[.pointer (some ⟨a, 0, none⟩), vecV n r t, valV q m s, .int .u32 o] w fun e w' => e = .returned (.tuple #[vecV 0 0 0, .int .i64 5]) ∧ Below w.heap.size w w' := by
  have hbx := below_alloc (below_alloc (below_alloc (Below.refl w.heap.size w) (.cells #[.int .i64 n, .int .i64 r, .int .i64 t] 61)) (.cells #[.int .u8 q, .int .i64 m, .string s] 66)) (.cells #[.int .i64 0, .int .i64 0, .int .i64 0] 61)
  have hk0 := blk_alloc (blk_alloc (blk_new w (.cells #[.int .i64 n, .int .i64 r, .int .i64 t] 61)) (.cells #[.int .u8 q, .int .i64 m, .string s] 66)) (.cells #[.int .i64 0, .int .i64 0, .int .i64 0] 61)
  have hk1 := blk_alloc (new1 w (.cells #[.int .i64 n, .int .i64 r, .int .i64 t] 61) (.cells #[.int .u8 q, .int .i64 m, .string s] 66)) (.cells #[.int .i64 0, .int .i64 0, .int .i64 0] 61)
  have hk2 := new2 w (.cells #[.int .i64 n, .int .i64 r, .int .i64 t] 61) (.cells #[.int .u8 q, .int .i64 m, .string s] 66) (.cells #[.int .i64 0, .int .i64 0, .int .i64 0] 61)
  have hbg := begin_full o n r t _ (h.below hbx) hn he hful
  have hlong : ¬ (1024 : Int) ≤ (n : Int) := by omega
  have HBG := Lib.hid hbg
  have HB := Lib.hid hbx
  have HK := Lib.hid (And.intro hk0 (And.intro hk1 hk2))
  clear h hbx hk0 hk1 hk2 hbg hful he
  go_enter Try.func33, Try.ntmps33
  go_wp2_with (go_at_call 77; go_loud (refine HBG.out.mono ?_; rintro e w5 ⟨rfl, hB5⟩; have b2 := blk_alloc (blk_below HK.out.2.2 hB5) (.cells #[.pointer none, .int .u32 0] 133); have v0 := blk_cell b2 0; have v1 := blk_cell b2 1; have v2 := blk_cell b2 2; have z0 := blk_frozen b2 0; have z1 := blk_frozen b2 1; have z2 := blk_frozen b2 2; have HK5 := Lib.hid b2; have HB5 := Lib.hid hB5; clear b2 hB5))
  refine bodyPost_ret (results_ct rfl _ _ (w.heap.size + 1 + 1) 61 #[.int .i64 0, .int .i64 0, .int .i64 0] (0, 0) _ rfl (ret3 HK5.out _ _ _) Try.underlying61 rfl (by kernel_rfl)) rfl ?_
  exact ⟨rfl, Below.setCell (Below.setCell (Below.setCell (below_alloc (HB.out.trans (HB5.out.mono HB.out.size)) _) (show w.heap.size ≤ w.heap.size + 1 + 1 by omega) _) (show w.heap.size ≤ w.heap.size + 1 + 1 by omega) _) (show w.heap.size ≤ w.heap.size + 1 + 1 by omega) _⟩
set_option maxHeartbeats 4000000 in
set_option maxRecDepth 100000 in
theorem push_long (n r t o q m : Int) (s : ByteArray) (w : World) (hc : 1024 ≤ n) :
    Calls Try.prog 33 #[.pointer (some ⟨a, 0, none⟩), vecV n r t, valV q m s, .int .u32 o] w fun e w' => e = .returned (.tuple #[vecV 0 0 0, .int .i64 12]) ∧ Below w.heap.size w w' := by
  have hbx := below_alloc (below_alloc (below_alloc (Below.refl w.heap.size w) (.cells #[.int .i64 n, .int .i64 r, .int .i64 t] 61)) (.cells #[.int .u8 q, .int .i64 m, .string s] 66)) (.cells #[.int .i64 0, .int .i64 0, .int .i64 0] 61)
  have hk0 := blk_alloc (blk_alloc (blk_new w (.cells #[.int .i64 n, .int .i64 r, .int .i64 t] 61)) (.cells #[.int .u8 q, .int .i64 m, .string s] 66)) (.cells #[.int .i64 0, .int .i64 0, .int .i64 0] 61)
  have hk1 := blk_alloc (new1 w (.cells #[.int .i64 n, .int .i64 r, .int .i64 t] 61) (.cells #[.int .u8 q, .int .i64 m, .string s] 66)) (.cells #[.int .i64 0, .int .i64 0, .int .i64 0] 61)
  have hk2 := new2 w (.cells #[.int .i64 n, .int .i64 r, .int .i64 t] 61) (.cells #[.int .u8 q, .int .i64 m, .string s] 66) (.cells #[.int .i64 0, .int .i64 0, .int .i64 0] 61)
  have v0 := blk_cell hk2 0
  have v1 := blk_cell hk2 1
  have v2 := blk_cell hk2 2
  have z0 := blk_frozen hk2 0
  have z1 := blk_frozen hk2 1
  have z2 := blk_frozen hk2 2
  have HB := Lib.hid hbx
  have HK := Lib.hid hk2
  clear hbx hk0 hk1 hk2
  go_enter Try.func33, Try.ntmps33
  go_wp2
  refine bodyPost_ret (results_ct rfl _ _ (w.heap.size + 1 + 1) 61 #[.int .i64 0, .int .i64 0, .int .i64 0] (0, 0) _ rfl HK.out Try.underlying61 rfl (by kernel_rfl)) rfl ?_
  exact ⟨rfl, HB.out⟩
end
end Go.Proofs.Ytnipbfhfaefieaa.Pv
/-! pvec: the chapter's example. -/
namespace Go.Proofs.Ytnipbfhfaefieaa.Pv
open Go.RowKit Go Go.Proofs.YtnipbfhfaefieaaW.PrintWords Go.Proofs.YtnipbfhfaefieaaW.PrintMore Go.Proofs.YtnipbfhfaefieaaW.PrintLast Go.Proofs.Ytnipbfhfaefieaa.Bts Go.Proofs.Ytnipbfhfaefieaa.Fra Go.Proofs.Ytnipbfhfaefieaa.ArnP Go.Proofs.Ytnipbfhfaefieaa.Arn Go.Proofs.Ytnipbfhfaefieaa.Ao
theorem number_calls (x : Int) (w : World) : Calls Try.prog 34 #[.int .i64 x] w fun e w' => e = .returned (valV 2 x ⟨#[]⟩) ∧ Below w.heap.size w w' := by
  go_enter Try.func34, Try.ntmps34
  go_wp2
  refine bodyPost_ret (results_cell_row rfl _ _ w.heap.size 66 #[.int .u8 2, .int .i64 x, .string ⟨#[]⟩] (0, 0) _ rfl (blk_new w _) Try.underlying66 rfl (by kernel_rfl)) rfl ?_
  exact ⟨rfl, below_alloc (Below.refl _ _) _⟩
def f0 : Nat → Cell := fn [nobC]
theorem f0_r (i : Nat) : (f0 i).r = 0 := by
  unfold f0 fn
  rcases i with _ | i
  · rfl
  · rfl
abbrev no0 : Nat → Nat := fun _ => 0
theorem new_AO (n : Int) (w : World) (h1 : 1 ≤ n) (h2 : n ≤ 1048576) : Calls Try.prog 20 #[.int .i64 n] w fun e w' => ∃ a O, e = .returned (.tuple #[.pointer (some ⟨a, 0, none⟩), .int .i64 0]) ∧ AO w' O a f0 0 n (fun z => no0 z + vx 0 0 z) nop ∧ (∀ j, O j → w.heap.size ≤ j) ∧ Below w.heap.size w w' := by
  refine (new_AR n w h1 h2).mono ?_
  rintro e w' ⟨a, O, rfl, hA, hO, hB⟩
  refine ⟨a, O, rfl, AO.of_AR hA ⟨fun _ => 0, fun i hi => ?_⟩, hO, hB⟩
  have := f0_r i
  have e1 : (fn [nobC] i).r = 0 := this
  omega
section
variable {W W' : World} {O O' : Nat → Prop} {a : Nat} {f : Nat → Cell} {live most : Int} {ext rest : Nat → Nat} {op : Nat → Bool}
theorem AO.live_pos (h : AO W O a f live most ext op) {j : Nat} (h0 : 0 < j) (hr : 0 < (f j).r) : 0 < live := by
  obtain ⟨l, _, h2, rfl⟩ := h.all
  have := List.length_pos_of_mem ((h2 j).2 ⟨h0, hr⟩)
  omega
end
theorem VRep.tail_pos {f : Nat → Cell} {n r t : Nat} {l : List V3} (h : VRep f (n + 1) r t l) : 0 < t := by
  rcases h.2.2 with ⟨q, _⟩ | ⟨_, q, _⟩
  · omega
  · exact q.1
theorem RR_no0 (o : Int) : RR no0 o 0 0 = no0 := by
  funext z
  unfold RR
  split <;> rfl
set_option maxHeartbeats 4000000 in
set_option maxRecDepth 100000 in
theorem lives_calls (w : World) : Calls Try.prog 32 #[] w fun e w' => e = .returned (.bool true) ∧ Below w.heap.size w w' := by
  go_enter Try.func32, Try.ntmps32
  go_wp2_with (first
    | (go_at_call 37; go_loud (refine (vdrop_calls (rest := no0) 1 r t _ HA5.out).mono ?_; rintro e w6 ⟨rfl, O6, f6, live6, hA6, _, _, _, hF6⟩; have hz := hA6.none_live (fun _ _ => rfl); subst hz; have HA6 := Lib.hid hA6; have HF6 := Lib.hid hF6; clear hA6 hF6))
    | (go_at_call 22; go_loud (refine (live_AO _ HA5.out).mono ?_; rintro e w7 ⟨rfl, rfl⟩))
    | (go_at_call 36; go_loud (refine (HG.out _ HA4.out).mono ?_; rintro e w5 ⟨rfl, hB5⟩; have HA5 := Lib.hid ((HA4.out.below hB5).below (below_alloc (Below.refl _ _) (.cells #[.int .u8 2, .int .i64 1, .string ⟨#[]⟩] 66))); have HLT := Lib.hid ((HA4.out.below hB5).lt); have hv5 := blk_alloc (blk_below (blk_new w4 (.cells #[.int .i64 1, .int .i64 r, .int .i64 t] 61)) hB5) (.cells #[.int .u8 2, .int .i64 1, .string ⟨#[]⟩] 66); have s0 := blk_cell hv5 0; have s1 := blk_cell hv5 1; have s2 := blk_cell hv5 2; have HB5 := Lib.hid hB5; clear hB5))
    | (go_at_call 33; go_loud (refine (push_first (rest := no0) 0 2 1 ⟨#[]⟩ _ HA2.out (fun _ => Nat.zero_le _) (by decide)).mono ?_; rintro e w4 ⟨r, t, O4, f4, live4, rfl, hA4, _, hV4, _, hO4, hF4⟩; rw [RR_no0] at hA4; have hlp := AO.live_pos hA4 hV4.tail_pos (hA4.ext_lv hV4.tail_pos (by have := vx_t (r := r) hV4.tail_pos; show 0 < 0 + vx r t t; omega)); have hg : ∀ w, AO w O4 a f4 live4 50 (fun z => no0 z + vx r t z) nop → Calls Try.prog 36 #[.pointer (some ⟨a, 0, none⟩), vecV 1 r t, .int .i64 0] w fun e w' => e = .returned (.tuple #[valV 2 1 ⟨#[]⟩, .int .i64 0]) ∧ Below w.heap.size w w' := (fun w h => get_calls 1 r t 0 [(2, 1, ⟨#[]⟩)] 2 1 ⟨#[]⟩ w h hV4 (fun x => Nat.le_add_left _ _) rfl); have HG := Lib.hid hg; have HA4 := Lib.hid (hA4.below (below_alloc (Below.refl _ _) (.cells #[.int .i64 1, .int .i64 r, .int .i64 t] 61))); have HF4 := Lib.hid hF4; have HO4 := Lib.hid hO4; clear hg hA4 hV4 hO4 hF4))
    | (go_at_call 34; go_loud (refine (number_calls 1 _).mono ?_; rintro e w2 ⟨rfl, hB2⟩; have HB2 := Lib.hid (HB1.out.trans (hB2.mono HB1.out.size)); have HA2 := Lib.hid (HA1.out.below hB2); clear hB2))
    | (go_at_call 20; go_loud (refine (new_AO 50 _ (by decide) (by decide)).mono ?_; rintro e w1 ⟨a, O, rfl, hA1, hO1, hB1⟩; have HA1 := Lib.hid hA1; have HO1 := Lib.hid hO1; have HB1 := Lib.hid hB1; clear hA1 hO1 hB1)))
  have hx6 := HF6.out.blk (blk_new w5 (.cells #[.int .u8 2, .int .i64 1, .string ⟨#[]⟩] 66)) (fun q => by have := HLT.out _ q; omega)
  obtain ⟨V, hV⟩ : ∃ V, w6.drew = V := ⟨_, rfl⟩
  have hd : Below w6.heap.size w6 V := by rw [← hV]; exact below_drew1 (Below.refl _ _)
  have hx := blk_below hx6 hd
  have x0 := blk_cell hx 0
  have x1 := blk_cell hx 1
  have x2 := blk_cell hx 2
  have HX := Lib.hid hx
  have HA7 := Lib.hid (HA6.out.below hd)
  have HD := Lib.hid hd
  clear hx6 hd hx
  refine start_ (n := 25) (S := fun w' => w'.cell? ⟨w5.heap.size, 0, none⟩ = some (.int .u8 2) ∧ w'.cell? ⟨w5.heap.size, 1, none⟩ = some (.int .i64 1) ∧ w'.cell? ⟨w5.heap.size, 2, none⟩ = some (.string ⟨#[]⟩)) (ds := []) #[false, false, false, false, false, false, false, false, false, false, false, false, false, false, false, false, false, false, false, false, false, false, false, false, false] (by kernel_rfl) rfl rfl ⟨(by rw [hV]; exact x0), (by rw [hV]; exact x1), (by rw [hV]; exact x2)⟩ (fun hHeld => ?_)
  refine pure_ (i := 0) (N := some 30) (v := ?_) (a' := ?_) #[true, false, false, false, false, false, false, false, false, false, false, false, false, false, false, false, false, false, false, false, false, false, false, false, false] rfl rfl (by kernel_rfl) (fun _ _ _ h => h) (Or.inl ⟨by rfl, ?_⟩) ?_ ?_
  rotate_left
  · intro w'
    go_simp
    with_reducible rfl
  rotate_left
  · simp only [Act.put, List.setIfInBounds_toArray, List.set_cons_zero, List.set_cons_succ, i64_w, i32_w]
    rfl
  refine pure_ (i := 1) (N := some 31) (v := ?_) (a' := ?_) #[true, true, false, false, false, false, false, false, false, false, false, false, false, false, false, false, false, false, false, false, false, false, false, false, false] rfl rfl (by kernel_rfl) (fun _ _ _ h => h) (Or.inl ⟨by rfl, ?_⟩) ?_ ?_
  rotate_left
  · intro w'
    go_simp
    with_reducible rfl
  rotate_left
  · simp only [Act.put, List.setIfInBounds_toArray, List.set_cons_zero, List.set_cons_succ, i64_w, i32_w]
    rfl
  refine pure_ (i := 2) (N := some 32) (v := ?_) (a' := ?_) #[true, true, true, false, false, false, false, false, false, false, false, false, false, false, false, false, false, false, false, false, false, false, false, false, false] rfl rfl (by kernel_rfl) (fun _ _ _ h => h) (Or.inl ⟨by rfl, ?_⟩) ?_ ?_
  rotate_left
  · intro w'
    go_simp
    with_reducible rfl
  rotate_left
  · simp only [Act.put, List.setIfInBounds_toArray, List.set_cons_zero, List.set_cons_succ, i64_w, i32_w]
    rfl
  refine pure_ (i := 3) (N := some 33) (v := ?_) (a' := ?_) #[true, true, true, true, false, false, false, false, false, false, false, false, false, false, false, false, false, false, false, false, false, false, false, false, false] rfl rfl (by kernel_rfl) (fun _ _ _ h => h) (Or.inl ⟨by rfl, ?_⟩) ?_ ?_
  rotate_left
  · intro w'
    go_simp
    with_reducible rfl
  rotate_left
  · simp only [Act.put, List.setIfInBounds_toArray, List.set_cons_zero, List.set_cons_succ, i64_w, i32_w]
    rfl
  refine pure_ (i := 4) (N := some 34) (v := ?_) (a' := ?_) #[true, true, true, true, true, false, false, false, false, false, false, false, false, false, false, false, false, false, false, false, false, false, false, false, false] rfl rfl (by kernel_rfl) (fun _ _ _ h => h) (Or.inl ⟨by rfl, ?_⟩) ?_ ?_
  rotate_left
  · intro w'
    go_simp
    with_reducible rfl
  rotate_left
  · simp only [Act.put, List.setIfInBounds_toArray, List.set_cons_zero, List.set_cons_succ, i64_w, i32_w]
    rfl
  refine pure_ (i := 5) (N := some 35) (v := ?_) (a' := ?_) #[true, true, true, true, true, true, false, false, false, false, false, false, false, false, false, false, false, false, false, false, false, false, false, false, false] rfl rfl (by kernel_rfl) (fun _ _ _ h => h) (Or.inl ⟨by rfl, ?_⟩) ?_ ?_
  rotate_left
  · intro w'
    go_simp
    with_reducible rfl
  rotate_left
  · simp only [Act.put, List.setIfInBounds_toArray, List.set_cons_zero, List.set_cons_succ, i64_w, i32_w]
    rfl
  refine pure_ (i := 6) (N := some 36) (v := ?_) (a' := ?_) #[true, true, true, true, true, true, true, false, false, false, false, false, false, false, false, false, false, false, false, false, false, false, false, false, false] rfl rfl (by kernel_rfl) (fun _ _ _ h => h) (Or.inl ⟨by rfl, ?_⟩) ?_ ?_
  rotate_left
  · intro w'
    go_simp
    with_reducible rfl
  rotate_left
  · simp only [Act.put, List.setIfInBounds_toArray, List.set_cons_zero, List.set_cons_succ, i64_w, i32_w]
    rfl
  refine pure_ (i := 7) (N := some 37) (v := ?_) (a' := ?_) #[true, true, true, true, true, true, true, true, false, false, false, false, false, false, false, false, false, false, false, false, false, false, false, false, false] rfl rfl (by kernel_rfl) (fun _ _ _ h => h) (Or.inl ⟨by rfl, ?_⟩) ?_ ?_
  rotate_left
  · intro w'
    go_simp
    with_reducible rfl
  rotate_left
  · simp only [Act.put, List.setIfInBounds_toArray, List.set_cons_zero, List.set_cons_succ, i64_w, i32_w]
    rfl
  refine pure_ (i := 8) (N := some 38) (v := ?_) (a' := ?_) #[true, true, true, true, true, true, true, true, true, false, false, false, false, false, false, false, false, false, false, false, false, false, false, false, false] rfl rfl (by kernel_rfl) (fun _ _ _ h => h) (Or.inl ⟨by rfl, ?_⟩) ?_ ?_
  rotate_left
  · intro w'
    go_simp
    with_reducible rfl
  rotate_left
  · simp only [Act.put, List.setIfInBounds_toArray, List.set_cons_zero, List.set_cons_succ, i64_w, i32_w]
    rfl
  refine pure_ (i := 9) (N := some 39) (v := ?_) (a' := ?_) #[true, true, true, true, true, true, true, true, true, true, false, false, false, false, false, false, false, false, false, false, false, false, false, false, false] rfl rfl (by kernel_rfl) (fun _ _ _ h => h) (Or.inl ⟨by rfl, ?_⟩) ?_ ?_
  rotate_left
  · intro w'
    go_simp
    with_reducible rfl
  rotate_left
  · simp only [Act.put, List.setIfInBounds_toArray, List.set_cons_zero, List.set_cons_succ, i64_w, i32_w]
    rfl
  refine pure_ (i := 10) (N := some 40) (v := ?_) (a' := ?_) #[true, true, true, true, true, true, true, true, true, true, true, false, false, false, false, false, false, false, false, false, false, false, false, false, false] rfl rfl (by kernel_rfl) (fun _ _ _ h => h) (Or.inl ⟨by rfl, ?_⟩) ?_ ?_
  rotate_left
  · intro w'
    go_simp
    with_reducible rfl
  rotate_left
  · simp only [Act.put, List.setIfInBounds_toArray, List.set_cons_zero, List.set_cons_succ, i64_w, i32_w]
    rfl
  refine take_ (i := 11) (N := some 41) (v := ?_) (a' := ?_) #[true, true, true, true, true, true, true, true, true, true, true, true, false, false, false, false, false, false, false, false, false, false, false, false, false] rfl rfl (by kernel_rfl) (fun _ _ _ h => h) (Or.inl ⟨by rfl, ?_⟩) hHeld ?_ ?_
  rotate_left
  · rintro w' ⟨s0, s1, s2⟩
    go_simp
    with_reducible rfl
  rotate_left
  · simp only [Act.put, List.setIfInBounds_toArray, List.set_cons_zero, List.set_cons_succ, i64_w, i32_w]
    rfl
  refine one_ (i := 12) (N := some 42) #[true, true, true, true, true, true, true, true, true, true, true, true, true, false, false, false, false, false, false, false, false, false, false, false, false] rfl rfl (by kernel_rfl) (by decide) (fun K hK => ?_)
  refine goes_ Try.func34 (by kernel_rfl) rfl #[.int .i64 1] (by rfl) rfl rfl (by simp only [List.map_toArray, List.map_cons, List.map_nil]; rfl) ?_
  with_reducible refine (number_calls 1 _).mono ?_
  rintro e w8 ⟨rfl, hB8⟩
  refine ⟨_, rfl, ?_⟩
  have HB8 := Lib.hid (hV ▸ hB8 : Below V.heap.size V w8)
  refine hK.out _ _ ⟨(blk_cell (blk_below HX.out HB8.out) 0), (blk_cell (blk_below HX.out HB8.out) 1), (blk_cell (blk_below HX.out HB8.out) 2)⟩ (fun hHeld => ?_)
  clear hK K
  refine norm_ (a' := ?_) ?_ ?_
  rotate_left
  · show Act.put _ (some 42) _ = _
    simp only [Act.put, List.setIfInBounds_toArray, List.set_cons_zero, List.set_cons_succ, i64_w, i32_w]
    rfl
  refine pure_ (i := 13) (N := some 43) (v := ?_) (a' := ?_) #[true, true, true, true, true, true, true, true, true, true, true, true, true, true, false, false, false, false, false, false, false, false, false, false, false] rfl rfl (by kernel_rfl) (fun _ _ _ h => h) (Or.inl ⟨by rfl, ?_⟩) ?_ ?_
  rotate_left
  · intro w'
    go_simp
    with_reducible rfl
  rotate_left
  · simp only [Act.put, List.setIfInBounds_toArray, List.set_cons_zero, List.set_cons_succ, i64_w, i32_w]
    rfl
  refine pure_ (i := 14) (N := some 44) (v := ?_) (a' := ?_) #[true, true, true, true, true, true, true, true, true, true, true, true, true, true, true, false, false, false, false, false, false, false, false, false, false] rfl rfl (by kernel_rfl) (fun _ _ _ h => h) (Or.inl ⟨by rfl, ?_⟩) ?_ ?_
  rotate_left
  · intro w'
    go_simp
    with_reducible rfl
  rotate_left
  · simp only [Act.put, List.setIfInBounds_toArray, List.set_cons_zero, List.set_cons_succ, i64_w, i32_w]
    rfl
  refine pure_ (i := 15) (N := some 45) (v := ?_) (a' := ?_) #[true, true, true, true, true, true, true, true, true, true, true, true, true, true, true, true, false, false, false, false, false, false, false, false, false] rfl rfl (by kernel_rfl) (fun _ _ _ h => h) (Or.inl ⟨by rfl, ?_⟩) ?_ ?_
  rotate_left
  · intro w'
    go_simp
    with_reducible rfl
  rotate_left
  · simp only [Act.put, List.setIfInBounds_toArray, List.set_cons_zero, List.set_cons_succ, i64_w, i32_w]
    rfl
  refine pure_ (i := 16) (N := some 46) (v := ?_) (a' := ?_) #[true, true, true, true, true, true, true, true, true, true, true, true, true, true, true, true, true, false, false, false, false, false, false, false, false] rfl rfl (by kernel_rfl) (fun _ _ _ h => h) (Or.inl ⟨by rfl, ?_⟩) ?_ ?_
  rotate_left
  · intro w'
    go_simp
    with_reducible rfl
  rotate_left
  · simp only [Act.put, List.setIfInBounds_toArray, List.set_cons_zero, List.set_cons_succ, i64_w, i32_w]
    rfl
  refine pure_ (i := 17) (N := some 47) (v := ?_) (a' := ?_) #[true, true, true, true, true, true, true, true, true, true, true, true, true, true, true, true, true, true, false, false, false, false, false, false, false] rfl rfl (by kernel_rfl) (fun _ _ _ h => h) (Or.inl ⟨by rfl, ?_⟩) ?_ ?_
  rotate_left
  · intro w'
    go_simp
    with_reducible rfl
  rotate_left
  · simp only [Act.put, List.setIfInBounds_toArray, List.set_cons_zero, List.set_cons_succ, i64_w, i32_w]
    rfl
  refine pure_ (i := 18) (N := some 48) (v := ?_) (a' := ?_) #[true, true, true, true, true, true, true, true, true, true, true, true, true, true, true, true, true, true, true, false, false, false, false, false, false] rfl rfl (by kernel_rfl) (fun _ _ _ h => h) (Or.inl ⟨by rfl, ?_⟩) ?_ ?_
  rotate_left
  · intro w'
    go_simp
    with_reducible rfl
  rotate_left
  · simp only [Act.put, List.setIfInBounds_toArray, List.set_cons_zero, List.set_cons_succ, i64_w, i32_w]
    rfl
  refine pure_ (i := 19) (N := some 49) (v := ?_) (a' := ?_) #[true, true, true, true, true, true, true, true, true, true, true, true, true, true, true, true, true, true, true, true, false, false, false, false, false] rfl rfl (by kernel_rfl) (fun _ _ _ h => h) (Or.inl ⟨by rfl, ?_⟩) ?_ ?_
  rotate_left
  · intro w'
    go_simp
    with_reducible rfl
  rotate_left
  · simp only [Act.put, List.setIfInBounds_toArray, List.set_cons_zero, List.set_cons_succ, i64_w, i32_w]
    rfl
  refine pure_ (i := 20) (N := some 50) (v := ?_) (a' := ?_) #[true, true, true, true, true, true, true, true, true, true, true, true, true, true, true, true, true, true, true, true, true, false, false, false, false] rfl rfl (by kernel_rfl) (fun _ _ _ h => h) (Or.inl ⟨by rfl, ?_⟩) ?_ ?_
  rotate_left
  · intro w'
    go_simp
    with_reducible rfl
  rotate_left
  · simp only [Act.put, List.setIfInBounds_toArray, List.set_cons_zero, List.set_cons_succ, i64_w, i32_w]
    rfl
  refine one_ (i := 21) (N := some 51) #[true, true, true, true, true, true, true, true, true, true, true, true, true, true, true, true, true, true, true, true, true, true, false, false, false] rfl rfl (by kernel_rfl) (by decide) (fun K hK => ?_)
  refine goes_ Try.func22 (by kernel_rfl) rfl #[.pointer (some ⟨a, 0, none⟩)] (by rfl) rfl rfl (by simp only [List.map_toArray, List.map_cons, List.map_nil]; rfl) ?_
  with_reducible refine (live_AO _ (HA7.out.below HB8.out)).mono ?_
  rintro e w9 ⟨rfl, hw9⟩
  refine ⟨_, rfl, ?_⟩
  subst hw9
  refine hK.out _ _ ⟨(blk_cell (blk_below HX.out HB8.out) 0), (blk_cell (blk_below HX.out HB8.out) 1), (blk_cell (blk_below HX.out HB8.out) 2)⟩ (fun hHeld => ?_)
  clear hK K
  refine norm_ (a' := ?_) ?_ ?_
  rotate_left
  · show Act.put _ (some 51) _ = _
    simp only [Act.put, List.setIfInBounds_toArray, List.set_cons_zero, List.set_cons_succ, i64_w, i32_w]
    rfl
  refine pure_ (i := 22) (N := some 52) (v := ?_) (a' := ?_) #[true, true, true, true, true, true, true, true, true, true, true, true, true, true, true, true, true, true, true, true, true, true, true, false, false] rfl rfl (by kernel_rfl) (fun _ _ _ h => h) (Or.inl ⟨by rfl, ?_⟩) ?_ ?_
  rotate_left
  · intro w'
    go_simp
    with_reducible rfl
  rotate_left
  · simp only [Act.put, List.setIfInBounds_toArray, List.set_cons_zero, List.set_cons_succ, i64_w, i32_w]
    rfl
  refine pure_ (i := 23) (N := some 53) (v := ?_) (a' := ?_) #[true, true, true, true, true, true, true, true, true, true, true, true, true, true, true, true, true, true, true, true, true, true, true, true, false] rfl rfl (by kernel_rfl) (fun _ _ _ h => h) (Or.inl ⟨by rfl, ?_⟩) ?_ ?_
  rotate_left
  · intro w'
    go_simp
    with_reducible rfl
  rotate_left
  · simp only [Act.put, List.setIfInBounds_toArray, List.set_cons_zero, List.set_cons_succ, i64_w, i32_w]
    rfl
  refine pure_ (i := 24) (N := some 0) (v := ?_) (a' := ?_) #[true, true, true, true, true, true, true, true, true, true, true, true, true, true, true, true, true, true, true, true, true, true, true, true, true] rfl rfl (by kernel_rfl) (fun _ _ _ h => h) (Or.inl ⟨by rfl, ?_⟩) ?_ ?_
  rotate_left
  · intro w'
    go_simp
    with_reducible rfl
  rotate_left
  · simp only [Act.put, List.setIfInBounds_toArray, List.set_cons_zero, List.set_cons_succ, i64_w, i32_w]
    rfl
  refine done_ (by kernel_rfl) ?_

  go_wp2
  go_ret
  have hF := (((((((Fr.of_new (S := fun _ => False) HB2.out).then_ HF4.out (fun j hj => .inr (HO1.out j hj))).more (below_alloc (Below.refl _ _) (.cells #[.int .i64 1, .int .i64 r, .int .i64 t] 61))).more HB5.out).more (below_alloc (Below.refl _ _) (.cells #[.int .u8 2, .int .i64 1, .string ⟨#[]⟩] 66))).then_ HF6.out (fun j hj => .inr (by
    rcases HO4.out j hj with q | q
    · exact HO1.out j q
    · have := HB2.out.size
      omega))).more HD.out).more HB8.out
  exact ⟨rfl, hF.below (fun _ h => h.elim) (Nat.le_refl _)⟩
end Go.Proofs.Ytnipbfhfaefieaa.Pv
/-! pvec: Push, Set as wholes; how many cells a vector has. -/
namespace Go.Proofs.Ytnipbfhfaefieaa.Pv
open Go.RowKit Go Go.Proofs.YtnipbfhfaefieaaW.PrintWords Go.Proofs.YtnipbfhfaefieaaW.PrintMore Go.Proofs.YtnipbfhfaefieaaW.PrintLast Go.Proofs.Ytnipbfhfaefieaa.Bts Go.Proofs.Ytnipbfhfaefieaa.Fra Go.Proofs.Ytnipbfhfaefieaa.ArnP Go.Proofs.Ytnipbfhfaefieaa.Arn Go.Proofs.Ytnipbfhfaefieaa.Ao
section
variable {W : World} {O : Nat → Prop} {a : Nat} {f : Nat → Cell} {live most : Int} {ext rest : Nat → Nat}
theorem push_ok (o : Int) (n r t : Nat) (l : List V3) (q m : Int) (s : ByteArray) (w : World) (h : AO w O a f live most (fun z => rest z + vx r t z) nop) (hv : VRep f n r t l) (hn : n < 1024) (he : ∀ x, rest x ≤ 50000000000) (hful : ¬ most - live < (lev (lvs n + 1) : Int) + 3) :
    Calls Try.prog 33 #[.pointer (some ⟨a, 0, none⟩), vecV n r t, valV q m s, .int .u32 o] w fun e w' => ∃ (r' t' : Nat) (O' : Nat → Prop) (f' : Nat → Cell) (live' : Int), e = .returned (.tuple #[vecV ((n : Int) + 1) r' t', .int .i64 0]) ∧ AO w' O' a f' live' most (fun z => RR rest o r t z + vx r' t' z) nop ∧ live' ≤ live + 2 ∧ VRep f' (n + 1) r' t' (l ++ [(q, m, s)]) ∧ KeepR (RR rest o r t) nop f f' ∧ (∀ j, O' j → O j ∨ w.heap.size ≤ j) ∧ Fr O w w' := by
  by_cases h0 : n = 0
  · subst h0
    have hl : l = [] := List.length_eq_zero_iff.1 hv.1.symm
    rcases hv.2.2 with ⟨_, rfl, rfl⟩ | ⟨q0, _⟩
    · rw [hl]
      have e3 : (lev (lvs 0 + 1) : Int) + 3 = 3 := rfl
      rw [e3] at hful
      exact push_first o q m s w h he hful
    · omega
  · by_cases h1 : n % 32 = 0
    · exact push_leaf o n r t l q m s w h hv hn h1 (by omega) he hful
    · exact push_tail o n r t l q m s w h hv hn h1 he hful
theorem vx_cases {r t j : Nat} (h0 : 0 < j) (h : 0 < vx r t j) : (j = r ∧ 0 < r) ∨ (j = t ∧ 0 < t) := by
  unfold vx hold one at h
  by_cases e1 : j = r
  · exact .inl ⟨e1, by omega⟩
  · by_cases e2 : j = t
    · exact .inr ⟨e2, by omega⟩
    · rw [if_neg e1, if_neg e2] at h
      split at h <;> split at h <;> omega
end
end Go.Proofs.Ytnipbfhfaefieaa.Pv
