/- draws: the law DrawsActs, its parts. -/
import Derived.Test.YtcpcnnpdbognlaaDrawsA
import Derived.Test.YtcpcnnpdbognlaaOpen
namespace Go.Proofs.Ytcpcnnpdbognlaa.Drw
open Go.RowKit Go Go.Proofs.YtcpcnnpdbognlaaW.PrintWords Go.Proofs.YtcpcnnpdbognlaaW.PrintMore Go.Proofs.YtcpcnnpdbognlaaW.PrintLast Go.Proofs.Ytcpcnnpdbognlaa.Bts Go.Proofs.Ytcpcnnpdbognlaa.Fra
attribute [local go_sem high] eqH
abbrev kAct : Kd (Int × List (Int × Int) × List Int) := Kd.pair (Kd.int .u8) (Kd.pair (Kd.slice 62 (Kd.pair (Kd.int .u64) (Kd.int .u64))) (Kd.slice 55 (Kd.int .u64)))
theorem at_act {w : World} {A : Option Addr} {n : Nat} {l : List (Int × List (Int × Int) × List Int)} (h : kAct.C w A n l) (i : Nat) (h1 : i < n) (hl : l.length = n) (k : Int) (tk : List (Int × Int)) (mo : List Int) (hx : l.getD i (0, [], []) = (k, tk, mo)) :
    ∃ ad A2 c2 A3 c3, A = some ad ∧ w.cell? (ad.add (i * 3)) = some (.int .u8 k) ∧ w.cell? ⟨(ad.add (i * 3)).block, (ad.add (i * 3)).off + 1, none⟩ = some (.slice A2 tk.length c2) ∧
      w.cell? ⟨(ad.add (i * 3)).block, (ad.add (i * 3)).off + 2, none⟩ = some (.slice A3 mo.length c3) ∧ kH.C w A2 tk.length tk ∧ tk.length ≤ c2 ∧ (Kd.int .u64).C w A3 mo.length mo ∧ mo.length ≤ c3 := by
  obtain ⟨ad, c, e, _, hK, hc⟩ := Kd.C_get h (0, [], []) (i : Int) (by omega) (by omega)
  rw [Int.toNat_natCast] at hK hc
  rw [hx] at hK
  obtain ⟨_, _, rfl, rfl, _, _, rfl, ⟨A2, c2, rfl, l2, C2⟩, ⟨A3, c3, rfl, l3, C3⟩⟩ := hK
  have hc : ∀ j u, [Value.int .u8 k, Value.slice A2 tk.length c2, Value.slice A3 mo.length c3][j]? = some u → w.cell? (ad.add (i * 3 + j)) = some u := hc
  exact ⟨ad, A2, c2, A3, c3, e, hc 0 _ rfl, by rw [← add_field _ _ 1 (by omega)]; exact hc 1 _ rfl, by rw [← add_field _ _ 2 (by omega)]; exact hc 2 _ rfl, C2, l2, C3, l3⟩
/-- What holds at the head of each call: the draws us, n of them drawn; the rest. -/
def ActRel (W : World) (g j : Nat) (v8 v9 : Value) (wr : World) : Prop :=
  ∃ us n, Dr wr (fun k => W.heap.size ≤ k ∧ k < wr.heap.size) g us n ∧ SlR wr 1 v8 (us.length - n) (nums .u64 (us.drop n)) ∧ (∀ k, v8.ownBlock = some k → ¬ k = g) ∧ Below W.heap.size W wr ∧ us.length ≤ 200 + 20 * j ∧ v9 = .int .i64 n
theorem Act_next {W wr w2 : World} {g j : Nat} {us : List Int} {n m : Nat} {v8 : Value} (hD : Dr w2 (fun k => W.heap.size ≤ k ∧ k < w2.heap.size) g us n) (hS : SlR w2 1 v8 m (nums .u64 (us.drop n))) (hv : ∀ k, v8.ownBlock = some k → ¬ k = g) (hB : Below W.heap.size W w2) (hul : us.length ≤ 200 + 20 * (j + 1)) (hm : us.length - n = m) :
    ActRel W g (j + 1) v8 (.int .i64 n) w2 := ⟨us, n, hD, by rw [hm]; exact hS, hv, hB, hul, rfl⟩
theorem left_m (F : Nat → Prop) (g n m : Nat) (us : List Int) (w : World) (h : Dr w F g us n) (hm : us.length - n = m) :
    Calls Try.prog 38 #[.pointer (some ⟨g, 0, none⟩)] w fun e w' => e = .returned (.int .i64 m) ∧ Below w.heap.size w w' := by
  rw [← hm]
  refine (left_calls F g n us w h).mono ?_
  rintro e w' ⟨rfl, q, rfl⟩
  exact ⟨rfl, pw_below_drewN (Below.refl _ _) _⟩
theorem more_calls (F : Nat → Prop) (g n : Nat) (us ys : List Int) (A : Option Addr) (c : Nat) (w : World) (h : Dr w F g us n) (hC : (Kd.int .u64).C w A ys.length ys) (hc : ys.length ≤ c) (hl : us.length + ys.length ≤ 1000000) :
    Calls Try.prog 37 #[.pointer (some ⟨g, 0, none⟩), .slice A ys.length c] w fun e w' => e = .returned (.tuple #[]) ∧ Dr w' (fun k => F k ∨ w.heap.size ≤ k ∧ k < w'.heap.size) g (us ++ ys) n ∧ Fr (· = g) w w' := by
  rcases Nat.eq_zero_or_pos ys.length with h0 | h0
  · obtain rfl := List.eq_nil_of_length_eq_zero h0
    refine (more_none F g n us A c w h).mono ?_
    rintro e w' ⟨rfl, hD, hF⟩
    rw [List.append_nil]
    exact ⟨rfl, hD.mono (fun k hk => .inl hk), hF⟩
  · refine more_some F g n us ys _ w h (SlR.of_C hC hc ?_) hl h0
    intro hA
    obtain ⟨_, h, _⟩ := Kd.at_int hC 0 (by omega) (by omega)
    rw [hA] at h; cases h
theorem clos_calls (b11 : Nat) (k : Int) (A2 A3 : Option Addr) (tk : List (Int × Int)) (c2 n3 c3 : Nat) (a b : Int) (w : World) (hv : w.heap[b11]? = some (.cells #[.int .u8 k, .slice A2 tk.length c2, .slice A3 n3 c3] 58 (0, 0))) (C2 : kH.C w A2 tk.length tk) (hl : tk.length ≤ 1000) :
    Calls Try.prog 35 (#[.agg #[.int .u64 a, .int .u64 b]] ++ #[.pointer (some ⟨b11, 0, none⟩)]) w fun e w' => e = .returned (.bool (hasH tk a b)) ∧ Below w.heap.size w w' := by
  have hlt := blk_lt hv
  have v1 : w.cell? ⟨b11, 1, none⟩ = some (.slice A2 tk.length c2) := blk_cell hv 1
  have HC2 := Lib.hid (Kd.C_below C2 (below_alloc (Below.refl _ _) (.cells #[.int .u64 a, .int .u64 b] 62)))
  clear hv C2
  go_enter Try.func35, Try.ntmps35
  go_wp2_with (go_at_call 36; go_loud (refine (has_calls A2 c2 tk a b _ HC2.out (by omega)).mono ?_; rintro e w1 ⟨rfl, hB1⟩))
  go_ret
  exact ⟨rfl, below_step (below_alloc (Below.refl _ _) _) hB1⟩
/-- How the search for a handle stands: p draws are behind; what is found (0, 0: nothing). -/
def Hunt (T : Int → Int → Bool) (us : List Int) (n p : Nat) (d1 d2 : Int) : Prop :=
  ((d1 == 0 && d2 == 0) = true ∧ hand T (us.drop n) = ((hand T (us.drop p)).1 + (p - n), (hand T (us.drop p)).2)) ∨ ((d1 == 0 && d2 == 0) = false ∧ hand T (us.drop n) = (p - n, some (d1, d2)))
theorem Hunt.step {T : Int → Int → Bool} {us : List Int} {n p : Nat} {d1 d2 a b e1 e2 : Int} (h : Hunt T us n p d1 d2) (hz : (d1 == 0 && d2 == 0) = true) (hnp : n ≤ p) (he : us.drop p = a :: b :: us.drop (p + 2))
    (hT : T a b = true ∧ e1 = d1 ∧ e2 = d2 ∨ T a b = false ∧ e1 = a ∧ e2 = b) : Hunt T us n (p + 2) e1 e2 := by
  rcases h with ⟨_, h⟩ | ⟨h, _⟩
  · have skip : ((a == 0 && b == 0) || T a b) = true → hand T (us.drop n) = ((hand T (us.drop (p + 2))).1 + (p + 2 - n), (hand T (us.drop (p + 2))).2) := by
      intro hs
      rw [h, hand_skip T he hs]
      simp only [Prod.mk.injEq, and_true]
      omega
    rcases hT with ⟨ht, rfl, rfl⟩ | ⟨ht, rfl, rfl⟩
    · exact .inl ⟨hz, skip (by rw [ht]; simp)⟩
    · cases hab : (e1 == 0 && e2 == 0)
      · refine .inr ⟨hab, ?_⟩
        rw [h, hand_take T he (by rw [hab, ht]; rfl)]
        simp only [Prod.mk.injEq, and_true]
        omega
      · exact .inl ⟨hab, skip (by rw [hab]; rfl)⟩
  · rw [hz] at h; cases h
theorem Hunt.done {T : Int → Int → Bool} {us : List Int} {n p : Nat} {d1 d2 : Int} (h : Hunt T us n p d1 d2) (hd : us.length - p < 2 ∨ (d1 == 0 && d2 == 0) = false) :
    ((d1 == 0 && d2 == 0) = true ∧ hand T (us.drop n) = (p - n, none)) ∨ ((d1 == 0 && d2 == 0) = false ∧ hand T (us.drop n) = (p - n, some (d1, d2))) := by
  rcases h with ⟨hz, h⟩ | h
  · rcases hd with hd | hd
    · refine .inl ⟨hz, ?_⟩
      rw [h, hand_short T _ (by rw [List.length_drop]; exact hd)]
      simp
    · rw [hz] at hd; cases hd
  · exact .inr h
theorem hand_nz (T : Int → Int → Bool) : ∀ (l : List Int) (a b : Int), (hand T l).2 = some (a, b) → (a == 0 && b == 0) = false
  | [], a, b, h => by simp [hand] at h
  | [_], a, b, h => by simp [hand] at h
  | x :: y :: l, a, b, h => by
    unfold hand at h
    cases hs : ((x == 0 && y == 0) || T x y)
    · rw [hs] at h
      simp only [Bool.false_eq_true, if_false, Option.some.injEq, Prod.mk.injEq] at h
      obtain ⟨rfl, rfl⟩ := h
      exact (Bool.or_eq_false_iff.1 hs).1
    · rw [hs] at h
      simp only [if_true] at h
      exact hand_nz T l a b h
theorem handV_form (o : Option (Int × Int)) (h : ∀ a b, o = some (a, b) → (a == 0 && b == 0) = false) : ∃ p1 p2 er : Int, handV o = .tuple #[.agg #[.int .u64 p1, .int .u64 p2], .int .i64 er] ∧ ((o = none ∧ p1 = 0 ∧ p2 = 0 ∧ er = 13) ∨ (o = some (p1, p2) ∧ er = 0 ∧ (p1 == 0 && p2 == 0) = false)) := by
  cases o with
  | none => exact ⟨0, 0, 13, rfl, .inl ⟨rfl, rfl, rfl, rfl⟩⟩
  | some o => obtain ⟨a, b⟩ := o; exact ⟨a, b, 0, rfl, .inr ⟨rfl, rfl, h a b rfl⟩⟩
theorem blk_new1 (w : World) (o1 o2 : Obj) : ((w.alloc o1).alloc o2).heap[w.heap.size + 1]? = some o2 := by
  have h := blk_new (w.alloc o1) o2
  have e : (w.alloc o1).heap.size = w.heap.size + 1 := by simp
  rwa [e] at h
theorem used_m (F : Nat → Prop) (g n : Nat) (k : Int) (us : List Int) (w : World) (h : Dr w F g us n) (hk : (n : Int) = k) :
    Calls Try.prog 39 #[.pointer (some ⟨g, 0, none⟩)] w fun e w' => e = .returned (.int .i64 k) ∧ w = w' := by
  rw [← hk]; exact used_calls F g n us w h
theorem next_none_b (F : Nat → Prop) (g : Nat) (us : List Int) (w : World) (h : Dr w F g us us.length) :
    Calls Try.prog 33 #[.pointer (some ⟨g, 0, none⟩)] w fun e w' => e = .returned (.tuple #[.int .u64 0, .int .i64 13]) ∧ Below w.heap.size w w' := by
  refine (next_none F g us w h).mono ?_
  rintro e w' ⟨rfl, q, rfl⟩
  exact ⟨rfl, pw_below_drewN (Below.refl _ _) _⟩
theorem reads_C {w : World} {k : IntKind} {A : Option Addr} {n : Nat} {xs : List Int} (h : (Kd.int k).C w A n xs) : ReadsInt w k A n xs := readsInt_of.2 (Kd.reads_of_C (enc := Value.int k) (d := (0 : Int)) (h1 := fun _ => rfl) h)
theorem own_lt {w : World} {b n sz : Nat} {e : TypeId} {v : Value} {cs : List Value} (h : w.ownsRow b e sz v n cs) (k : Nat) (hk : v.ownBlock = some k) : k < w.heap.size := by
  obtain ⟨_, h2⟩ := h
  rcases h2 with ⟨rfl, _⟩ | ⟨g, cap, cur, rfl, hg, hh, _⟩
  · cases hk
  · cases hk; exact blk_lt hh
set_option maxHeartbeats 4000000 in
set_option maxRecDepth 100000 in
theorem acts_main (A0 : Option Addr) (c0 : Nat) (x0 : List Int) (A1 : Option Addr) (c1 : Nat) (x1 : List (Int × List (Int × Int) × List Int)) (W : World) (l0 : x0.length ≤ c0) (C0 : (Kd.int .u64).C W A0 x0.length x0)
    (C1 : kAct.C W A1 x1.length x1) (h0 : x0.length ≤ 200) (h1 : x1.length ≤ 60) (hk : ∀ x ∈ x1, 0 ≤ x.1 ∧ x.1 ≤ 255) :
    Calls Try.prog 7 #[.slice A0 x0.length c0, .slice A1 x1.length c1] W fun e W' => e = .returned (.bool true) ∧ Below W.heap.size W W' := by
  have HC0 := Lib.hid C0
  have HC1 := Lib.hid C1
  have HK := Lib.hid hk
  have HB := Lib.hid (Below.refl W.heap.size W)
  have e0 : (W.alloc (.cells #[] 55)).ownsRow W.heap.size 55 1 (.slice (some ⟨W.heap.size, 0, none⟩) 0 0) 0 [] := own_lit W W.heap.size 55 .u64 [] (Nat.le_refl _) (by simp)
  have E0 := Lib.hid e0
  have b1 : ¬ (200 : Int) < (x0.length : Int) := by omega
  have b2 : ¬ (60 : Int) < (x1.length : Int) := by omega
  clear C0 C1 hk e0
  go_enter Try.func7, Try.ntmps7
  go_wp2_with (first
    | (go_at_call 31; go_loud (refine (lives_calls _).mono ?_; rintro e w1 ⟨rfl, hB1⟩; have HBn := Lib.hid (below_step (by repeat (first | (with_reducible first | exact HB.out | apply below_alloc | apply pw_below_drewN | apply below_drew1) | exact HB.out)) hB1); clear HB; have HB := HBn; clear HBn))
    | (at_builtin; go_loud (refine print_append_row (w0 := w1) w1.heap.size rfl (.tmp 31) (.tmp 32) 51 55 .u64 8 rfl Try.underlying51 infoWord (by decide) _ [] x0 A0 x0.length c0 rfl rfl (own_lit w1 w1.heap.size 55 .u64 [] (Nat.le_refl _) (by simp)) (reads_C (Kd.C_below HC0.out (below_alloc HB.out _))) (below_alloc (Below.refl _ _) _) (by simp) (by simp; omega) ?_; intro v5 w5 hown5 hB5 hg5 _; rw [List.nil_append] at hown5; have HL5 := Lib.hid (own_lt hown5); obtain ⟨A5, c5, rfl⟩ := own_slice hown5; have HO5 := Lib.hid hown5; have HBn := Lib.hid (below_step (by repeat (first | (with_reducible first | exact HB.out | apply below_alloc | apply pw_below_drewN | apply below_drew1) | exact HB.out)) hB5); clear HB; have HB := HBn; clear HBn; clear hown5 hg5))
    | (go_at_call 32; go_loud (refine (new_calls _ x0 _ (SlR.of_own HO5.out) (by omega)).mono ?_; rintro e w6 ⟨g, rfl, hD, hB6⟩; have HD6 := Lib.hid hD; have HO6 := Lib.hid (pw_own_below HO5.out hB6); have HBn := Lib.hid (below_step (by repeat (first | (with_reducible first | exact HB.out | apply below_alloc | apply pw_below_drewN | apply below_drew1) | exact HB.out)) hB6); clear HB; have HB := HBn; clear HBn; clear hD)))
  have hw16 : W.heap.size ≤ w1.heap.size := hB1.size
  have hw56 : W.heap.size ≤ w5.heap.size := by have := hB5.size; omega
  go_loopw [38] (fun i wr => ∃ (j : Nat) (ys : List Int), j ≤ x0.length ∧ i = .int .i64 j ∧ ys.length = x0.length ∧ wr.ownsRow w1.heap.size 55 1 (.slice A5 x0.length c5) x0.length (nums .u64 ys) ∧ Dr wr (fun k => w5.heap.size ≤ k ∧ k < w6.heap.size) g x0 0 ∧ Below W.heap.size W wr ∧ w6.heap.size ≤ wr.heap.size) (fun i _ => x0.length - (intOf i).toNat)
  case atStart => exact ⟨0, x0, by omega, rfl, rfl, HO6.out, HD6.out, HB.out, Nat.le_refl _⟩
  case round =>
    clear HB
    obtain ⟨j, ys, hj, rfl, hys, hO, hD, hB, hsz⟩ := hrel
    have HB := Lib.hid hB
    have HO := Lib.hid hO
    have HD := Lib.hid hD
    have HYS := Lib.hid hys
    clear hB hO hD hys
    by_cases hlt : j < x0.length
    · obtain ⟨g5, cap, e5, hgb, hgl⟩ := HO.out.form (by omega)
      obtain ⟨rfl, rfl⟩ : A5 = some ⟨g5, 0, none⟩ ∧ c5 = cap := by
        injection e5 with e1 e2 e3
        exact ⟨e1, e3⟩
      have hat := own_at HO.out (j : Int) (by omega) (by omega)
      rw [Int.toNat_natCast] at hat
      obtain ⟨hx, hfz⟩ := hat
      have HL := HL5.out g5 rfl
      go_wp2
      go_roundw
      case rel =>
        have hst := own_store HO.out (j : Int) (IntKind.u64.wrap (rd ys (j : Int) + 1))
        rw [Int.toNat_natCast] at hst
        refine ⟨j + 1, _, by omega, by simp, by rw [List.length_set]; exact HYS.out, hst.1, HD.out.far (fun k hk (e : k = g5) => by have := hk.1; omega) _, HB.out.setCell (Nat.le_trans hw16 hgb) _, by simp [World.setCell]; omega⟩
      case measure => simp [intOf]; omega
    · clear HO HYS HL5
      go_wp2_with (first
        | (at_builtin; go_loud (refine print_append_row (w0 := wr) wr.heap.size rfl (.tmp 48) (.tmp 49) 51 55 .u64 8 rfl Try.underlying51 infoWord (by decide) _ [] x0 A0 x0.length c0 rfl rfl (own_lit wr wr.heap.size 55 .u64 [] (Nat.le_refl _) (by simp)) (reads_C (Kd.C_below HC0.out (below_alloc HB.out _))) (below_alloc (Below.refl _ _) _) (by simp) (by simp; omega) ?_; intro v8 w8 hown8 hB8 hg8 _; rw [List.nil_append] at hown8; have HL8 := Lib.hid (own_base hown8); have HO8 := Lib.hid (SlR.of_own hown8); have HD8 := Lib.hid (HD.out.below hB8); have HBn := Lib.hid (below_step (by repeat (first | (with_reducible first | exact HB.out | apply below_alloc | apply pw_below_drewN | apply below_drew1) | exact HB.out)) hB8); clear HB; have HB := HBn; clear HBn; have hs8 := hB8.size; clear hown8 hg8)))
      go_loopw [8, 9, 53] (fun v8 v9 i wr => ∃ j : Nat, j ≤ x1.length ∧ i = .int .i64 j ∧ ActRel W g j v8 v9 wr) (fun _ _ i _ => x1.length - (intOf i).toNat)
      case atStart =>
        refine ⟨0, by omega, rfl, x0, 0, HD8.out.mono (fun k hk => ⟨by have := hk.1; omega, by have := hk.2; omega⟩), HO8.out, ?_, HB.out, by omega, rfl⟩
        intro k hk e
        subst e
        have h1 := HL8.out _ hk
        have h2 := HD.out.lt
        omega
      case round =>
        clear HB HD HO8 HD8 HL8
        obtain ⟨j, hj, rfl, us, n, hD, hS, hv8, hB, hul, rfl⟩ := hrel
        have HB := Lib.hid hB
        have HD := Lib.hid hD
        have HS := Lib.hid hS
        have HV := Lib.hid hv8
        have HGW := Lib.hid (show W.heap.size ≤ g by obtain ⟨_, _, _, _, h, _⟩ := hD; exact h.1)
        clear hB hD hS hv8
        by_cases hlt : j < x1.length
        · obtain ⟨x, hx⟩ : ∃ x, x1.getD j (0, [], []) = x := ⟨_, rfl⟩
          obtain ⟨k, tk, mo⟩ := x
          obtain ⟨ad, A2, c2, A3, c3, rfl, y0', y1', y2', C2, l2, C3, l3⟩ := at_act HC1.out j hlt rfl k tk mo hx
          have y0 := pw_cell_below HB.out y0'
          have y1 := pw_cell_below HB.out y1'
          have y2 := pw_cell_below HB.out y2'
          have hkk : 0 ≤ k ∧ k ≤ 255 := by
            have e : x1.getD j (0, [], []) = x1[j] := by simp [List.getD, hlt]
            have := HK.out x1[j] (List.getElem_mem hlt)
            rw [← e, hx] at this
            exact this
          obtain ⟨m, hm⟩ : ∃ m, us.length - n = m := ⟨_, rfl⟩
          rw [hm] at HS
          have HS := Lib.hid HS.out
          have HM := Lib.hid hm
          have hk0 := hkk.1
          have HC2 := Lib.hid C2
          have HC3 := Lib.hid C3
          clear hkk hx C2 C3 hm y0' y1' y2'
          obtain ⟨_, A8, c8, rfl, hc8, _, _⟩ := id HS.out
          have HV := Lib.hid HV.out
          by_cases ht : 20 < tk.length
          · have t1 : decide ((20 : Int) < (tk.length : Int)) = true := by simp; omega
            go_wp2
            go_ret
            exact ⟨rfl, below_alloc HB.out _⟩
          have t1 : decide ((20 : Int) < (tk.length : Int)) = false := by simp; omega
          by_cases hmo : 20 < mo.length
          · have t2 : decide ((20 : Int) < (mo.length : Int)) = true := by simp; omega
            go_wp2
            go_ret
            exact ⟨rfl, below_alloc HB.out _⟩
          have t2 : decide ((20 : Int) < (mo.length : Int)) = false := by simp; omega
          have hmod : k % 3 = 0 ∨ k % 3 = 1 ∨ k % 3 = 2 := by omega
          rcases hmod with h3 | h3 | h3
          · by_cases hm0 : m = 0
            · subst hm0
              have hn : n = us.length := by have := HM.out; have := HD.out.le; omega
              subst hn
              go_wp2_with (first
                | (go_at_call 33; go_loud (refine (next_none_b _ g us _ (HD.out.below (below_alloc (Below.refl _ _) _))).mono ?_; rintro e w1 ⟨rfl, hB1⟩; have HE1 := Lib.hid (below_step (below_alloc (Below.refl _ _) _) hB1); have HD1 := Lib.hid (HD.out.below HE1.out)))
                | (go_at_call 38; go_loud (refine (left_m _ g us.length 0 us _ HD1.out HM.out).mono ?_; rintro e w2 ⟨rfl, hB2⟩; have HE2 := Lib.hid (below_step HE1.out hB2); have HD2 := Lib.hid (HD.out.below HE2.out)))
                | (go_at_call 39; go_loud (refine (used_calls _ g us.length us _ HD2.out).mono ?_; rintro e w3 ⟨rfl, rfl⟩)))
              go_roundw
              case rel =>
                refine ⟨j + 1, by omega, by simp, Act_next (wr := wr) (m := 0) ?_ ?_ HV.out ?_ (by omega) HM.out⟩
                · exact HD2.out.mono (fun k hk => ⟨hk.1, by have := hk.2; have := HE2.out.size; omega⟩)
                · exact SlR.below HS.out HE2.out
                · exact below_step HB.out HE2.out
              case measure => simp [intOf]; omega
            · have hn : n < us.length := by have := HM.out; omega
              obtain ⟨x, hxx⟩ : ∃ x, us.getD n 0 = x := ⟨_, rfl⟩
              have hdr : (us.drop n)[0]? = some x := by
                rw [List.getElem?_drop, Nat.add_zero, List.getElem?_eq_getElem hn, ← hxx]
                simp [List.getD, List.getElem?_eq_getElem hn]
              obtain ⟨ad8, c8', e8, _, hat8⟩ := SlR.at_ HS.out 0 (by omega)
              obtain ⟨rfl, rfl⟩ : A8 = some ad8 ∧ c8 = c8' := by
                injection e8 with e1 e2 e3
                exact ⟨e1, e3⟩
              have hx8 : wr.cell? ad8 = some (.int .u64 x) := by
                rw [← Addr.add_zero' ad8]
                exact hat8 _ (by simp [nums, hdr]; simpa using hdr)
              have hg8 := HV.out _ (show (Value.slice (some ad8) m c8).ownBlock = some ad8.block from rfl)
              have HX8 := Lib.hid hx8
              have HXX := Lib.hid hxx
              have hm1 : (m : Int) ≠ 0 := by omega
              have hm2 : ((m : Int) == 0) = false := by simp; omega
              have hm3 : (1 : Int) ≤ (m : Int) := by omega
              have hm4 : (m : Int) ≤ (c8 : Int) := by omega
              have hm5 : (0 : Int) < (m : Int) := by omega
              clear hx8 hxx hat8 e8 hdr
              go_wp2_with (first
                | (go_at_call 33; go_loud (refine (next_some _ g n us x _ (HD.out.below (below_alloc (Below.refl _ _) _)) hn HXX.out).mono ?_; rintro e w1 ⟨rfl, hD1, hF1⟩; have HD1 := Lib.hid hD1; have HE1 := Lib.hid ((Fr.alloc (S := (· = g)) _).trans hF1); have hx1 : w1.cell? ad8 = some (.int .u64 x) := HE1.out.cell HX8.out hg8; clear hD1 hF1))
                | (go_at_call 38; go_loud (refine (left_m _ g (n + 1) (m - 1) us _ HD1.out (by have := HM.out; omega)).mono ?_; rintro e w2 ⟨rfl, hB2⟩; have HE2 := Lib.hid (HE1.out.more hB2); have HD2 := Lib.hid (HD1.out.below hB2)))
                | (go_at_call 39; go_loud (refine (used_m _ g (n + 1) ((n : Int) + 1) us _ HD2.out (by omega)).mono ?_; rintro e w3 ⟨rfl, rfl⟩)))
              all_goals
                go_roundw
                case rel =>
                  have hS2 := (SlR.kept HS.out HE2.out.kept HV.out).drop_ 1 (by omega)
                  have e1 : ((n : Int) + 1) = ((n + 1 : Nat) : Int) := by omega
                  have e2 : nums .u64 (us.drop (n + 1)) = (nums .u64 (us.drop n)).drop (1 * 1) := by rw [← nums_drop, List.drop_drop]
                  rw [e1]
                  refine ⟨j + 1, by omega, by simp, Act_next (wr := wr) (m := m - 1) (HD2.out.mono (fun k hk => ⟨hk.1, by have := hk.2; have := HE2.out.size; omega⟩)) ?_ ?_ ?_ (by omega) (by have := HM.out; omega)⟩
                  · rw [e2]; exact hS2
                  · intro k hk
                    split at hk <;> (cases hk; exact hg8)
                  · exact HB.out.trans (HE2.out.below (fun k hk => by subst hk; exact HGW.out) HB.out.size)
                case measure => simp [intOf]; omega
          · have hgw : ¬ wr.heap.size = g := by have := HD.out.lt; omega
            have hk31 : ¬ k % 3 = 0 := by omega
            have hcf := fun (args : Array Value) (W : World) => enters_ Try.func35 (by kernel_rfl) rfl args W
            have HCF := Lib.hid hcf
            have hmf : ∀ (fn : Fn) (first cap : Array Value) (w : World), (Instr.makeFunc fn first cap).run Try.prog w = .ok (.func fn first cap) w := fun _ _ _ _ => rfl
            clear hcf
            have hT : ∀ W', Fr (· = g) (wr.alloc (.cells #[.int .u8 k, .slice A2 tk.length c2, .slice A3 mo.length c3] 58)) W' → ∀ a b : Int, Calls Try.prog 35 (#[.agg #[.int .u64 a, .int .u64 b]] ++ #[.pointer (some ⟨wr.heap.size, 0, none⟩)]) W' fun e w' => e = .returned (.bool (hasH tk a b)) ∧ Below W'.heap.size W' w' := by
              intro W' hF a b
              refine clos_calls wr.heap.size k A2 A3 tk c2 mo.length c3 a b W' (hF.blk (blk_new wr _) hgw) (Kd.C_below HC2.out ?_) (by omega)
              exact (below_alloc HB.out _).trans (hF.below (fun k hk => by subst hk; exact HGW.out) (by have := HB.out.size; simp; omega))
            have HT := Lib.hid hT
            clear hT
            obtain ⟨T, hTd⟩ : ∃ T, T = hasH tk := ⟨_, rfl⟩
            have HTD := Lib.hid hTd
            obtain ⟨r, hr⟩ : ∃ r, hand (hasH tk) (us.drop n) = r := ⟨_, rfl⟩
            obtain ⟨q, o⟩ := r
            have hnz : ∀ a b, o = some (a, b) → (a == 0 && b == 0) = false := fun a b h => hand_nz (hasH tk) (us.drop n) a b (by rw [hr]; exact h)
            obtain ⟨p1, p2, er, hV, hpe⟩ := handV_form o hnz
            have HR := Lib.hid hr
            have HVV := Lib.hid hV
            have HPE := Lib.hid hpe
            clear hr hTd hnz hV hpe
            obtain ⟨wo, rfl⟩ : ∃ wo : World, wo = wr := ⟨_, rfl⟩
            go_wp2_with (first
                | (go_at_call 34; go_loud (refine (handle_calls _ g n us 35 #[.pointer (some ⟨wo.heap.size, 0, none⟩)] (hasH tk) _ (HD.out.below (below_alloc (Below.refl _ _) _)) (fun k hk => by have := hk.2; simp; omega) HCF.out HT.out).mono ?_; rintro e w1 ⟨he, hD1, hF1⟩; rw [HR.out] at he hD1; obtain rfl : e = .returned (.tuple #[.agg #[.int .u64 p1, .int .u64 p2], .int .i64 er]) := (by rw [he]; exact congrArg _ HVV.out); have HD1 := Lib.hid hD1; have HF1 := Lib.hid hF1; clear hD1 hF1 he)))
            have hv1 := HF1.out.blk (blk_new wo _) hgw
            have HVb := Lib.hid hv1
            have HS1 := Lib.hid (SlR.kept HS.out ((Fr.alloc (S := (· = g)) _).trans HF1.out).kept HV.out)
            have HB1 := Lib.hid ((below_alloc HB.out _).trans (HF1.out.below (fun k hk => by subst hk; exact HGW.out) (by have := HB.out.size; simp; omega)))
            have hs1 : wo.heap.size < w1.heap.size := blk_lt hv1
            have hgl1 : g < w1.heap.size := HD1.out.lt
            clear hv1
            go_loopw [8, 9] (fun v8 v9 wx => ∃ (p : Nat) (d1 d2 : Int), n ≤ p ∧ p ≤ us.length ∧ v9 = .int .i64 p ∧ SlR w1 1 v8 (us.length - p) (nums .u64 (us.drop p)) ∧ (∀ k, v8.ownBlock = some k → ¬ k = g) ∧ wx.heap[w1.heap.size]? = some (.cells #[.int .u64 p1, .int .u64 p2] 62 (0, 0)) ∧ wx.heap[w1.heap.size + 1]? = some (.cells #[.int .u64 d1, .int .u64 d2] 62 (0, 0)) ∧ Below w1.heap.size w1 wx ∧ Hunt (hasH tk) us n p d1 d2) (fun _ v9 _ => us.length - (intOf v9).toNat)
            case atStart =>
              refine ⟨n, 0, 0, Nat.le_refl _, HD.out.le.1, rfl, by rw [HM.out]; exact HS1.out, HV.out, blk_alloc (blk_new _ _) _, ?_, below_alloc (below_alloc (Below.refl _ _) _) _, ?_⟩
              · exact blk_new1 _ _ _
              · exact .inl ⟨rfl, by rw [Nat.sub_self]; rfl⟩
            case round =>
              obtain ⟨p, d1, d2, hnp, hpl, rfl, hS2, hv2, hb14, hb16, hBx, hH⟩ := hrel
              obtain ⟨m2, hm2⟩ : ∃ m2, us.length - p = m2 := ⟨_, rfl⟩
              rw [hm2] at hS2
              have hx16 := blk_lt hb16
              have hm2b : m2 ≤ 5000 := by omega
              obtain ⟨_, A9, c9, rfl, hc9, _, _⟩ := id hS2
              have HS2 := Lib.hid hS2
              have HV2 := Lib.hid hv2
              have HB14 := Lib.hid hb14
              have HB16 := Lib.hid hb16
              have HBX := Lib.hid hBx
              have HH := Lib.hid hH
              have HM2 := Lib.hid hm2
              have z0 : wr.cell? ⟨w1.heap.size + 1, 0, none⟩ = some (.int .u64 d1) := blk_cell hb16 0
              have z1 : wr.cell? ⟨w1.heap.size + 1, 1, none⟩ = some (.int .u64 d2) := blk_cell hb16 1
              have f0 : wr.frozen? ⟨w1.heap.size + 1, 0, none⟩ = false := blk_frozen hb16 0
              have f1 : wr.frozen? ⟨w1.heap.size + 1, 1, none⟩ = false := blk_frozen hb16 1
              have q0 : wr.cell? ⟨w1.heap.size, 0, none⟩ = some (.int .u64 p1) := blk_cell hb14 0
              have q1 : wr.cell? ⟨w1.heap.size, 1, none⟩ = some (.int .u64 p2) := blk_cell hb14 1
              clear hS2 hv2 hb14 hb16 hBx hH hm2
              by_cases hex : 2 ≤ m2 ∧ (d1 == 0 && d2 == 0) = true
              · obtain ⟨hge, hz⟩ := hex
                have hge' : (2 : Int) ≤ (m2 : Int) := by omega
                obtain ⟨a, ha⟩ : ∃ a, us.getD p 0 = a := ⟨_, rfl⟩
                obtain ⟨b, hb⟩ : ∃ b, us.getD (p + 1) 0 = b := ⟨_, rfl⟩
                have hde := drop_two us p (by have := HM2.out; omega)
                rw [ha, hb] at hde
                obtain ⟨ad9, c9', e9, _, hat9⟩ := SlR.at_ (SlR.below HS2.out HBX.out) 0 (by omega)
                obtain ⟨ad9', c9'', e9', _, hat9'⟩ := SlR.at_ (SlR.below HS2.out HBX.out) 1 (by omega)
                obtain ⟨rfl, rfl⟩ : A9 = some ad9 ∧ c9 = c9' := by
                  injection e9 with e1 e2 e3
                  exact ⟨e1, e3⟩
                obtain rfl : ad9 = ad9' := by
                  injection e9' with e1 e2 e3
                  injection e1
                have x0' : wr.cell? ad9 = some (.int .u64 a) := by
                  rw [← Addr.add_zero' ad9]
                  exact hat9 _ (by rw [hde]; rfl)
                have x1' : wr.cell? ⟨ad9.block, ad9.off + 1, none⟩ = some (.int .u64 b) := hat9' _ (by rw [hde]; rfl)
                have HDE := Lib.hid hde
                clear hat9 hat9' e9 e9' ha hb hde
                have hge1 : (1 : Int) ≤ (m2 : Int) := by omega
                have hgt0 : (0 : Int) < (m2 : Int) := by omega
                have hgt1 : (1 : Int) < (m2 : Int) := by omega
                have hcc : (m2 : Int) ≤ (c9 : Int) := by omega
                have hgn0 : 0 < m2 := by omega
                have hgn1 : 1 < m2 := by omega
                have HBW := Lib.hid (below_step HB1.out HBX.out)
                have hv11 := blk_below HVb.out HBX.out
                have t1' : wr.cell? ⟨wo.heap.size, 1, none⟩ = some (.slice A2 tk.length c2) := blk_cell hv11 1
                have hl11 := blk_lt hv11
                have HB16' := Lib.hid (blk_drew (blk_alloc HB16.out (.cells #[.int .u64 a, .int .u64 b] 62)))
                have HB14' := Lib.hid (blk_drew (blk_alloc HB14.out (.cells #[.int .u64 a, .int .u64 b] 62)))
                clear hv11
                go_wp2
                refine start_ (n := 9) (S := fun w' => w'.cell? ad9 = some (.int .u64 a) ∧ w'.cell? ⟨ad9.block, ad9.off + 1, none⟩ = some (.int .u64 b)) (ds := [8]) #[false, false, false, false, false, false, false, false, false] (by kernel_rfl) rfl rfl ⟨x0', x1'⟩ (fun hHeld => ?_)
                refine pure_ (i := 0) (N := some 126) (v := ?_) (a' := ?_) #[true, false, false, false, false, false, false, false, false] rfl rfl (by kernel_rfl) (fun _ _ _ h => h) (Or.inl ⟨by rfl, ?_⟩) ?_ ?_
                rotate_left
                · intro w'
                  go_simp
                  with_reducible rfl
                rotate_left
                · simp only [Act.put, List.setIfInBounds_toArray, List.set_cons_zero, List.set_cons_succ, i64_w, i32_w]
                  rfl
                refine pure_ (i := 1) (N := some 127) (v := ?_) (a' := ?_) #[true, true, false, false, false, false, false, false, false] rfl rfl (by kernel_rfl) (fun _ _ _ h => h) (Or.inl ⟨by rfl, ?_⟩) ?_ ?_
                rotate_left
                · intro w'
                  go_simp
                  with_reducible rfl
                rotate_left
                · simp only [Act.put, List.setIfInBounds_toArray, List.set_cons_zero, List.set_cons_succ, i64_w, i32_w]
                  rfl
                refine pure_ (i := 3) (N := some 129) (v := ?_) (a' := ?_) #[true, true, false, true, false, false, false, false, false] rfl rfl (by kernel_rfl) (fun _ _ _ h => h) (Or.inl ⟨by rfl, ?_⟩) ?_ ?_
                rotate_left
                · intro w'
                  go_simp
                  with_reducible rfl
                rotate_left
                · simp only [Act.put, List.setIfInBounds_toArray, List.set_cons_zero, List.set_cons_succ, i64_w, i32_w]
                  rfl
                refine pure_ (i := 4) (N := some 130) (v := ?_) (a' := ?_) #[true, true, false, true, true, false, false, false, false] rfl rfl (by kernel_rfl) (fun _ _ _ h => h) (Or.inl ⟨by rfl, ?_⟩) ?_ ?_
                rotate_left
                · intro w'
                  go_simp
                  with_reducible rfl
                rotate_left
                · simp only [Act.put, List.setIfInBounds_toArray, List.set_cons_zero, List.set_cons_succ, i64_w, i32_w]
                  rfl
                refine take_ (i := 2) (N := some 128) (v := ?_) (a' := ?_) #[true, true, true, true, true, false, false, false, false] rfl rfl (by kernel_rfl) (fun _ _ _ h => h) (Or.inl ⟨by rfl, ?_⟩) hHeld ?_ ?_
                rotate_left
                · rintro w' ⟨s0, s1⟩
                  go_simp
                  with_reducible rfl
                rotate_left
                · simp only [Act.put, List.setIfInBounds_toArray, List.set_cons_zero, List.set_cons_succ, i64_w, i32_w]
                  rfl
                refine take_ (i := 5) (N := some 131) (v := ?_) (a' := ?_) #[true, true, true, true, true, true, false, false, false] rfl rfl (by kernel_rfl) (fun _ _ _ h => h) (Or.inl ⟨by rfl, ?_⟩) hHeld ?_ ?_
                rotate_left
                · rintro w' ⟨s0, s1⟩
                  go_simp
                  with_reducible rfl
                rotate_left
                · simp only [Act.put, List.setIfInBounds_toArray, List.set_cons_zero, List.set_cons_succ, i64_w, i32_w]
                  rfl
                refine pure_ (i := 6) (N := some 132) (v := ?_) (a' := ?_) #[true, true, true, true, true, true, true, false, false] rfl rfl (by kernel_rfl) (fun _ _ _ h => h) (Or.inl ⟨by rfl, ?_⟩) ?_ ?_
                rotate_left
                · intro w'
                  go_simp
                  with_reducible rfl
                rotate_left
                · simp only [Act.put, List.setIfInBounds_toArray, List.set_cons_zero, List.set_cons_succ, i64_w, i32_w]
                  rfl
                refine one_ (i := 7) (N := some 17) #[true, true, true, true, true, true, true, true, false] rfl rfl (by kernel_rfl) (by decide) (fun K hK => ?_)
                refine value_ (w1 := ?_) (v := ?_) (by rfl) rfl ?_ ?_
                rotate_left 2
                · go_simp
                  constructor
                  · rfl
                  · rfl
                refine hK.out _ _ ⟨(pw_cell_below (below_alloc (Below.refl wr.drew.heap.size wr.drew) _) x0'), (pw_cell_below (below_alloc (Below.refl wr.drew.heap.size wr.drew) _) x1')⟩ (fun hHeld => ?_)
                clear hK K
                refine norm_ (a' := ?_) ?_ ?_
                rotate_left
                · show Act.put _ (some 17) _ = _
                  simp only [Act.put, List.setIfInBounds_toArray, List.set_cons_zero, List.set_cons_succ, i64_w, i32_w]
                  rfl
                refine last_ (i := 8) (N := none) #[true, true, true, true, true, true, true, true, true] rfl rfl (by kernel_rfl) (by decide) (fun K hK => ?_)
                refine skip_ (w1 := ?_) (by rfl) rfl ?_ ?_
                rotate_left
                · go_simp
                  rfl
                refine hK.out _ _ ?_
                clear hK K
                refine done_ (by kernel_rfl) ?_

                have hS3 := SlR.drop_ HS2.out 2 (by omega)
                have HS3 := Lib.hid hS3
                clear hS3
                cases ht : hasH tk a b
                · go_wp2_with (go_at_call 36; go_loud (refine (has_calls A2 c2 tk a b _ (Kd.C_below HC2.out (by repeat (first | (with_reducible first | exact HBW.out | apply below_alloc | apply pw_below_drewN | apply below_drew1) | exact HBW.out))) (by omega)).mono ?_; rintro e w3 ⟨rfl, hB3⟩; have hu := blk_below (g := wr.heap.size) (o := .cells #[.int .u64 a, .int .u64 b] 62 (0, 0)) (by (with_reducible repeat (first | refine blk_drewN ?_ _ | refine blk_drew ?_)); exact blk_new _ _) hB3; have hu0 : w3.cell? ⟨wr.heap.size, 0, none⟩ = some (.int .u64 a) := blk_cell hu 0; have hu1 : w3.cell? ⟨wr.heap.size, 1, none⟩ = some (.int .u64 b) := blk_cell hu 1; have h16 := blk_below (g := w1.heap.size + 1) (o := .cells #[.int .u64 d1, .int .u64 d2] 62 (0, 0)) (by (with_reducible repeat (first | refine blk_drewN ?_ _ | refine blk_drew ?_ | refine blk_alloc ?_ _)); exact HB16.out) hB3; have g0 := blk_frozen h16 0; have g1 := blk_frozen h16 1; have g2 : w3.cell? ⟨w1.heap.size + 1, 0, none⟩ = some (.int .u64 d1) := blk_cell h16 0; have g3 : w3.cell? ⟨w1.heap.size + 1, 1, none⟩ = some (.int .u64 d2) := blk_cell h16 1; have H14 := Lib.hid (blk_below (g := w1.heap.size) (o := .cells #[.int .u64 p1, .int .u64 p2] 62 (0, 0)) (by (with_reducible repeat (first | refine blk_drewN ?_ _ | refine blk_drew ?_ | refine blk_alloc ?_ _)); exact HB14.out) hB3); have H16 := Lib.hid h16; have HB3 := Lib.hid (below_step (w := wr) (by repeat (first | (with_reducible first | exact Below.refl _ _ | apply below_alloc | apply pw_below_drewN | apply below_drew1))) hB3); clear hu h16 hB3))
                  go_roundw
                  case rel =>
                    have e1 : ((p : Int) + 2) = ((p + 2 : Nat) : Int) := by omega
                    have e2 : nums .u64 (us.drop (p + 2)) = (nums .u64 (us.drop p)).drop (2 * 1) := by rw [← nums_drop, List.drop_drop]
                    have e3 : us.length - (p + 2) = m2 - 2 := by have := HM2.out; omega
                    rw [e1]
                    refine ⟨p + 2, a, b, by omega, by have := HM2.out; omega, rfl, ?_, ?_, ?_, blk_put (blk_put H16.out 0 _ rfl) 1 _ rfl, ((HBX.out.trans (HB3.out.mono HBX.out.size)).setCell (by simp) _).setCell (by simp) _, HH.out.step hz hnp HDE.out (.inr ⟨ht, rfl, rfl⟩)⟩
                    · rw [e3, e2]; exact HS3.out
                    · intro k hk
                      split at hk <;> (cases hk; exact HV2.out _ rfl)
                    · exact blk_far (blk_far H14.out (p := ⟨w1.heap.size + 1, 0, none⟩) (by simp) _) (p := ⟨w1.heap.size + 1, 1, none⟩) (by simp) _
                  case measure => have := HM2.out; simp [intOf]; omega
                · go_wp2_with (go_at_call 36; go_loud (refine (has_calls A2 c2 tk a b _ (Kd.C_below HC2.out (by repeat (first | (with_reducible first | exact HBW.out | apply below_alloc | apply pw_below_drewN | apply below_drew1) | exact HBW.out))) (by omega)).mono ?_; rintro e w3 ⟨rfl, hB3⟩; have hu := blk_below (g := wr.heap.size) (o := .cells #[.int .u64 a, .int .u64 b] 62 (0, 0)) (by (with_reducible repeat (first | refine blk_drewN ?_ _ | refine blk_drew ?_)); exact blk_new _ _) hB3; have hu0 : w3.cell? ⟨wr.heap.size, 0, none⟩ = some (.int .u64 a) := blk_cell hu 0; have hu1 : w3.cell? ⟨wr.heap.size, 1, none⟩ = some (.int .u64 b) := blk_cell hu 1; have h16 := blk_below (g := w1.heap.size + 1) (o := .cells #[.int .u64 d1, .int .u64 d2] 62 (0, 0)) (by (with_reducible repeat (first | refine blk_drewN ?_ _ | refine blk_drew ?_ | refine blk_alloc ?_ _)); exact HB16.out) hB3; have g0 := blk_frozen h16 0; have g1 := blk_frozen h16 1; have g2 : w3.cell? ⟨w1.heap.size + 1, 0, none⟩ = some (.int .u64 d1) := blk_cell h16 0; have g3 : w3.cell? ⟨w1.heap.size + 1, 1, none⟩ = some (.int .u64 d2) := blk_cell h16 1; have H14 := Lib.hid (blk_below (g := w1.heap.size) (o := .cells #[.int .u64 p1, .int .u64 p2] 62 (0, 0)) (by (with_reducible repeat (first | refine blk_drewN ?_ _ | refine blk_drew ?_ | refine blk_alloc ?_ _)); exact HB14.out) hB3); have H16 := Lib.hid h16; have HB3 := Lib.hid (below_step (w := wr) (by repeat (first | (with_reducible first | exact Below.refl _ _ | apply below_alloc | apply pw_below_drewN | apply below_drew1))) hB3); clear hu h16 hB3))
                  go_roundw
                  case rel =>
                    have e1 : ((p : Int) + 2) = ((p + 2 : Nat) : Int) := by omega
                    have e2 : nums .u64 (us.drop (p + 2)) = (nums .u64 (us.drop p)).drop (2 * 1) := by rw [← nums_drop, List.drop_drop]
                    have e3 : us.length - (p + 2) = m2 - 2 := by have := HM2.out; omega
                    rw [e1]
                    refine ⟨p + 2, d1, d2, by omega, by have := HM2.out; omega, rfl, ?_, ?_, H14.out, H16.out, below_step HBX.out HB3.out, HH.out.step hz hnp HDE.out (.inl ⟨ht, rfl, rfl⟩)⟩
                    · rw [e3, e2]; exact HS3.out
                    · intro k hk
                      split at hk <;> (cases hk; exact HV2.out _ rfl)
                  case measure => have := HM2.out; simp [intOf]; omega
              · have hd : us.length - p < 2 ∨ (d1 == 0 && d2 == 0) = false := by
                  by_cases h : 2 ≤ m2
                  · right
                    cases hz : (d1 == 0 && d2 == 0)
                    · rfl
                    · exact absurd ⟨h, hz⟩ hex
                  · left; have := HM2.out; omega
                have hdone := HH.out.done hd
                rw [HR.out] at hdone
                have hcases : n + q = p ∧ (p1 == d1 && p2 == d2) = true ∧ ((d1 = 0 ∧ d2 = 0 ∧ er = 13) ∨ ((d1 == 0 && d2 == 0) = false ∧ er = 0)) := by
                  rcases hdone with ⟨hz, h⟩ | ⟨hz, h⟩
                  · rw [Prod.mk.injEq] at h
                    rw [Bool.and_eq_true, beq_iff_eq, beq_iff_eq] at hz
                    obtain ⟨h3, h4⟩ := hz
                    obtain ⟨h1, h2⟩ := h
                    rcases HPE.out with ⟨_, h5, h6, h7⟩ | ⟨h5, _⟩
                    · refine ⟨by omega, by rw [h5, h6, h3, h4]; rfl, .inl ⟨h3, h4, h7⟩⟩
                    · rw [h2] at h5; cases h5
                  · rw [Prod.mk.injEq] at h
                    obtain ⟨h1, h2⟩ := h
                    rcases HPE.out with ⟨h5, _⟩ | ⟨h5, h6, _⟩
                    · rw [h2] at h5; cases h5
                    · rw [h2] at h5
                      injection h5 with h5
                      injection h5 with h7 h8
                      refine ⟨by omega, by rw [h7, h8]; simp, .inr ⟨hz, h6⟩⟩
                obtain ⟨hqp, heq, hcs⟩ := hcases
                have HDX := Lib.hid (HD1.out.below HBX.out)
                have hne : (p1 != d1 || p2 != d2) = false := by
                  rw [Bool.and_eq_true, beq_iff_eq, beq_iff_eq] at heq
                  rw [heq.1, heq.2]; simp
                clear hdone hd
                have HQP := Lib.hid hqp
                by_cases h2m : 2 ≤ m2
                · have g1 : (2 : Int) ≤ (m2 : Int) := by omega
                  have hzf : (d1 == 0 && d2 == 0) = false := by
                    cases hz : (d1 == 0 && d2 == 0)
                    · rfl
                    · exact absurd ⟨h2m, hz⟩ hex
                  have her : er = 0 := by
                    rcases hcs with ⟨h3, h4, _⟩ | ⟨_, h⟩
                    · rw [h3, h4] at hzf; cases hzf
                    · exact h
                  clear hcs hex
                  subst her
                  go_wp2_with (first
                    | (go_at_call 38; go_loud (refine (left_m _ g (n + q) m2 us _ HDX.out (by rw [hqp]; exact HM2.out)).mono ?_; rintro e w2 ⟨rfl, hB2⟩; have HB2 := Lib.hid hB2; have HDY := Lib.hid (HDX.out.below hB2); clear hB2))
                    | (go_at_call 39; go_loud (refine (used_m _ g (n + q) (p : Int) us _ HDY.out (by rw [hqp])).mono ?_; rintro e w3 ⟨rfl, rfl⟩)))
                  go_roundw
                  case rel =>
                    have hb2 := below_step (below_step HB1.out HBX.out) HB2.out
                    refine ⟨j + 1, by omega, by simp, Act_next (wr := wr) (us := us) (n := p) (m := m2) ?_ (SlR.below (SlR.below HS2.out HBX.out) HB2.out) HV2.out hb2 (by omega) HM2.out⟩
                    have h5 := HDY.out
                    rw [hqp] at h5
                    exact h5.mono (fun k hk => ⟨hk.1, by have := hk.2; have := hs1; have := HBX.out.size; have := HB2.out.size; omega⟩)
                  case measure => simp [intOf]; omega
                · have g1 : decide ((2 : Int) ≤ (m2 : Int)) = false := by simp; omega
                  have g2 : ¬ (2 : Int) ≤ (m2 : Int) := by omega
                  rcases hcs with ⟨rfl, rfl, rfl⟩ | ⟨hzf, rfl⟩
                  · clear hex
                    go_wp2_with (first
                      | (go_at_call 38; go_loud (refine (left_m _ g (n + q) m2 us _ HDX.out (by rw [hqp]; exact HM2.out)).mono ?_; rintro e w2 ⟨rfl, hB2⟩; have HB2 := Lib.hid hB2; have HDY := Lib.hid (HDX.out.below hB2); clear hB2))
                      | (go_at_call 39; go_loud (refine (used_m _ g (n + q) (p : Int) us _ HDY.out (by rw [hqp])).mono ?_; rintro e w3 ⟨rfl, rfl⟩)))
                    go_roundw
                    case rel =>
                      have hb2 := below_step (below_step HB1.out HBX.out) HB2.out
                      refine ⟨j + 1, by omega, by simp, Act_next (wr := wr) (us := us) (n := p) (m := m2) ?_ (SlR.below (SlR.below HS2.out HBX.out) HB2.out) HV2.out hb2 (by omega) HM2.out⟩
                      have h5 := HDY.out
                      rw [hqp] at h5
                      exact h5.mono (fun k hk => ⟨hk.1, by have := hk.2; have := hs1; have := HBX.out.size; have := HB2.out.size; omega⟩)
                    case measure => simp [intOf]; omega
                  · clear hex
                    go_wp2_with (first
                      | (go_at_call 38; go_loud (refine (left_m _ g (n + q) m2 us _ HDX.out (by rw [hqp]; exact HM2.out)).mono ?_; rintro e w2 ⟨rfl, hB2⟩; have HB2 := Lib.hid hB2; have HDY := Lib.hid (HDX.out.below hB2); clear hB2))
                      | (go_at_call 39; go_loud (refine (used_m _ g (n + q) (p : Int) us _ HDY.out (by rw [hqp])).mono ?_; rintro e w3 ⟨rfl, rfl⟩)))
                    go_roundw
                    case rel =>
                      have hb2 := below_step (below_step HB1.out HBX.out) HB2.out
                      refine ⟨j + 1, by omega, by simp, Act_next (wr := wr) (us := us) (n := p) (m := m2) ?_ (SlR.below (SlR.below HS2.out HBX.out) HB2.out) HV2.out hb2 (by omega) HM2.out⟩
                      have h5 := HDY.out
                      rw [hqp] at h5
                      exact h5.mono (fun k hk => ⟨hk.1, by have := hk.2; have := hs1; have := HBX.out.size; have := HB2.out.size; omega⟩)
                    case measure => simp [intOf]; omega
          · have HY3 := Lib.hid (Kd.C_below HC3.out (below_alloc HB.out (.cells #[.int .u8 k, .slice A2 tk.length c2, .slice A3 mo.length c3] 58)))
            have hgw : ¬ wr.heap.size = g := by have := HD.out.lt; omega
            have hk31 : ¬ k % 3 = 0 := by omega
            have hk32 : ¬ k % 3 = 1 := by omega
            go_wp2_with (first
              | (go_at_call 37; go_loud (refine (more_calls _ g n us mo A3 c3 _ (HD.out.below (below_alloc (Below.refl _ _) _)) HY3.out l3 (by omega)).mono ?_; rintro e w1 ⟨rfl, hD1, hF1⟩; have HD1 := Lib.hid hD1; have HE1 := Lib.hid ((Fr.alloc (S := (· = g)) _).trans hF1); have hv := hF1.blk (blk_new wr _) hgw; have hs1 := hF1.size; have HF1 := Lib.hid hF1; have z2 : w1.cell? ⟨wr.heap.size, 2, none⟩ = some (.slice A3 mo.length c3) := blk_cell hv 2; clear hD1 hF1 hv)))
            have hB1' : Below W.heap.size W w1 := HB.out.trans (HE1.out.below (fun k hk => by subst hk; exact HGW.out) HB.out.size)
            have HB1' := Lib.hid hB1'
            have hC3w : (Kd.int .u64).C w1 A3 mo.length mo := Kd.C_below HC3.out hB1'
            have hS1 := SlR.kept HS.out HE1.out.kept HV.out
            have hmb : m ≤ 2000 := by have := HM.out; omega
            have hmm : m = (us.drop n).length := by rw [List.length_drop]; exact HM.out.symm
            have hC8 : (Kd.int .u64).C w1 A8 (us.drop n).length (us.drop n) := by
              have hS1' : SlR w1 1 (.slice A8 m c8) (us.drop n).length (nums .u64 (us.drop n)) := by rw [← hmm]; exact hS1
              obtain ⟨A', c', e, _, _, hC⟩ := hS1'.C (by rw [← hmm]; omega)
              injection e with e1 e2 e3
              rw [e1]; exact hC
            have HC8 := Lib.hid hC8
            have HC3w := Lib.hid hC3w
            obtain ⟨L, hL⟩ : ∃ L, ([] ++ us.drop n ++ mo).length = L := ⟨_, rfl⟩
            have hLL : (us ++ mo).length - n = L := by
              rw [← hL]
              have := HM.out
              simp only [List.nil_append, List.length_append, List.length_drop]
              have := HD.out.le
              omega
            have HL := Lib.hid hL
            have HLL := Lib.hid hLL
            clear hC8 hC3w hS1 hL hLL
            have HMM := Lib.hid hmm
            clear hmm hB1'
            refine start_ (n := 7) (S := fun w' => w'.cell? ⟨wr.heap.size, 2, none⟩ = some (.slice A3 mo.length c3)) (ds := []) #[false, false, false, false, false, false, false] (by kernel_rfl) rfl rfl (z2) (fun hHeld => ?_)
            refine pure_ (i := 1) (N := some 75) (v := ?_) (a' := ?_) #[false, true, false, false, false, false, false] rfl rfl (by kernel_rfl) (fun _ _ _ h => h) (Or.inl ⟨by rfl, ?_⟩) ?_ ?_
            rotate_left
            · intro w'
              go_simp
              with_reducible rfl
            rotate_left
            · simp only [Act.put, List.setIfInBounds_toArray, List.set_cons_zero, List.set_cons_succ, i64_w, i32_w]
              rfl
            refine pure_ (i := 3) (N := some 77) (v := ?_) (a' := ?_) #[false, true, false, true, false, false, false] rfl rfl (by kernel_rfl) (fun _ _ _ h => h) (Or.inl ⟨by rfl, ?_⟩) ?_ ?_
            rotate_left
            · intro w'
              go_simp
              with_reducible rfl
            rotate_left
            · simp only [Act.put, List.setIfInBounds_toArray, List.set_cons_zero, List.set_cons_succ, i64_w, i32_w]
              rfl
            refine take_ (i := 4) (N := some 78) (v := ?_) (a' := ?_) #[false, true, false, true, true, false, false] rfl rfl (by kernel_rfl) (fun _ _ _ h => h) (Or.inl ⟨by rfl, ?_⟩) hHeld ?_ ?_
            rotate_left
            · intro w' s0
              go_simp
              with_reducible rfl
            rotate_left
            · simp only [Act.put, List.setIfInBounds_toArray, List.set_cons_zero, List.set_cons_succ, i64_w, i32_w]
              rfl
            refine one_ (i := 0) (N := some 74) #[true, true, false, true, true, false, false] rfl rfl (by kernel_rfl) (by decide) (fun K hK => ?_)
            refine value_ (w1 := ?_) (v := ?_) (by rfl) rfl ?_ ?_
            rotate_left 2
            · go_simp
              constructor
              · rfl
              · rfl
            refine hK.out _ _ ((pw_cell_below (below_alloc (Below.refl w1.drew.heap.size w1.drew) _) z2)) (fun hHeld => ?_)
            clear hK K
            refine norm_ (a' := ?_) ?_ ?_
            rotate_left
            · show Act.put _ (some 74) _ = _
              simp only [Act.put, List.setIfInBounds_toArray, List.set_cons_zero, List.set_cons_succ, i64_w, i32_w]
              rfl
            refine one_ (i := 2) (N := some 76) #[true, true, true, true, true, false, false] rfl rfl (by kernel_rfl) (by decide) (fun K hK => ?_)
            refine Kd.R_append_rows_step (Kd.int .u64) (Rr := (Kd.int .u64).K w1) (w0 := w1) w1.heap.size (by rfl) (.tmp 74) (.tmp 75) 51 55 (.int .u64 0) 8 rfl Try.underlying51 infoWord rfl (by decide) (by decide) (.slice (some ⟨w1.heap.size, 0, none⟩) 0 0) [] (us.drop n) A8 m c8 (fun _ => True) (fun _ => False) rfl rfl (ClU.R_empty w1.drew) ?r1 (fun _ _ h => h) (fun _ h => h.elim) (fun _ _ => trivial) (below_alloc (below_drew1 (Below.refl _ _)) _) (by simp) (by simp; omega) ?_
            · rw [HMM.out]; exact Kd.C_below HC8.out (below_alloc (below_drew1 (Below.refl _ _)) _)
            intro v76 w76 hR76 hB76 _ _
            refine hK.out _ _ ((pw_cell_below hB76 z2)) (fun hHeld => ?_)
            clear hK K
            refine norm_ (a' := ?_) ?_ ?_
            rotate_left
            · show Act.put _ (some 76) _ = _
              simp only [Act.put, List.setIfInBounds_toArray, List.set_cons_zero, List.set_cons_succ, i64_w, i32_w]
              rfl
            refine one_ (i := 5) (N := some 79) #[true, true, true, true, true, true, false] rfl rfl (by kernel_rfl) (by decide) (fun K hK => ?_)
            refine Kd.R_append_rows_step (Kd.int .u64) (Rr := (Kd.int .u64).K w1) (w0 := w1) w1.heap.size (by rfl) (.tmp 76) (.tmp 78) 51 55 (.int .u64 0) 8 rfl Try.underlying51 infoWord rfl (by decide) (by decide) v76 ([] ++ us.drop n) mo A3 mo.length c3 (fun _ => True) (fun _ => False) rfl rfl hR76 ?r2 (fun _ _ h => h) (fun _ h => h.elim) (fun _ _ => trivial) hB76 hB76.size (by rw [List.nil_append, ← HMM.out]; omega) ?_
            · exact Kd.C_below HC3w.out hB76
            intro v79 w79 hR79 hB79 _ _
            have hO79 := ClU.own_of_R hR79
            rw [HL.out] at hO79
            obtain ⟨A9, c9, rfl⟩ := own_slice hO79
            refine hK.out _ _ ((pw_cell_below hB79 z2)) (fun hHeld => ?_)
            clear hK K
            refine norm_ (a' := ?_) ?_ ?_
            rotate_left
            · show Act.put _ (some 79) _ = _
              simp only [Act.put, List.setIfInBounds_toArray, List.set_cons_zero, List.set_cons_succ, i64_w, i32_w]
              rfl
            refine pure_ (i := 6) (N := some 8) (v := ?_) (a' := ?_) #[true, true, true, true, true, true, true] rfl rfl (by kernel_rfl) (fun _ _ _ h => h) (Or.inl ⟨by rfl, ?_⟩) ?_ ?_
            rotate_left
            · intro w'
              go_simp
              with_reducible rfl
            rotate_left
            · simp only [Act.put, List.setIfInBounds_toArray, List.set_cons_zero, List.set_cons_succ, i64_w, i32_w]
              rfl
            refine done_ (by kernel_rfl) ?_

            have HO := Lib.hid hO79
            have HB79 := Lib.hid hB79
            have HD79 := Lib.hid (HD1.out.below hB79)
            clear hO79 hB79 hR79 hR76 hB76 z2 hHeld
            go_wp2_with (first
              | (go_at_call 38; go_loud (refine (left_m _ g n L (us ++ mo) _ HD79.out HLL.out).mono ?_; rintro e w2 ⟨rfl, hB2⟩; have HB2 := Lib.hid hB2; have HD2 := Lib.hid (HD79.out.below hB2); clear hB2))
              | (go_at_call 39; go_loud (refine (used_m _ g n (n : Int) (us ++ mo) _ HD2.out rfl).mono ?_; rintro e w3 ⟨rfl, rfl⟩)))
            go_roundw
            case rel =>
              have hle := HD.out.le
              have hdr : (us ++ mo).drop n = [] ++ us.drop n ++ mo := by rw [List.nil_append, List.drop_append_of_le_length hle.1]
              have hb := below_step (below_step HB1'.out HB79.out) HB2.out
              refine ⟨j + 1, by omega, by simp, Act_next (wr := wr) (us := us ++ mo) (n := n) (m := L) (HD2.out.mono ?_) ?_ ?_ hb (by rw [List.length_append]; omega) HLL.out⟩
              · intro k hk
                have h1 := HB79.out.size
                have h2 := HB2.out.size
                have h3 := HB.out.size
                have h4 := HE1.out.size
                rcases hk with hk | hk
                · exact ⟨hk.1, by have := hk.2; omega⟩
                · exact ⟨by have := hk.1; simp at this; omega, by have := hk.2; omega⟩
              · rw [hdr]; exact (SlR.of_own HO.out).below HB2.out
              · intro k hk e
                have h1 := own_base HO.out k hk
                have h2 := HD.out.lt
                have h4 := HE1.out.size
                omega
            case measure => simp [intOf]; omega
        · go_wp2
          go_ret
          exact ⟨rfl, HB.out⟩
end Go.Proofs.Ytcpcnnpdbognlaa.Drw
