/- Texts of this claim, laid together: SlF, SlG, SlH. -/
import Derived.Test.YtnipbfhfaefieaaUs
/-! slice.Page. -/
namespace Go.Proofs.Ytnipbfhfaefieaa.Pv
open Go.RowKit Go Go.Proofs.YtnipbfhfaefieaaW.PrintWords Go.Proofs.YtnipbfhfaefieaaW.PrintMore Go.Proofs.YtnipbfhfaefieaaW.PrintLast Go.Proofs.Ytnipbfhfaefieaa.Bts Go.Proofs.Ytnipbfhfaefieaa.Fra Go.Proofs.Ytnipbfhfaefieaa.ArnP Go.Proofs.Ytnipbfhfaefieaa.Arn Go.Proofs.Ytnipbfhfaefieaa.Ao
section
variable {O : Nat → Prop} {a : Nat} {f : Nat → Cell} {live most : Int} {ext rest : Nat → Nat}
set_option maxHeartbeats 4000000 in
set_option maxRecDepth 100000 in
theorem page_calls (n r t p q : Nat) (l : List V3) (w : World) (h : AO w O a f live most ext nop) (hv : VRep f n r t l) (he : ∀ x, vx r t x ≤ ext x) (hp : p ≤ n) (hq : q ≤ 64) :
    Calls Try.prog 44 #[.pointer (some ⟨a, 0, none⟩), vecV n r t, .int .i64 p, .int .i64 q] w fun e w' => ∃ v, e = .returned (.tuple #[v, .int .i64 0]) ∧ VR w' w.heap.size v ((l.drop p).take q) ∧ Below w.heap.size w w' := by
  have hb0 := below_alloc (Below.refl w.heap.size w) (.cells #[.int .i64 n, .int .i64 r, .int .i64 t] 61)
  have hbk := blk_new w (.cells #[.int .i64 n, .int .i64 r, .int .i64 t] 61)
  obtain ⟨W1, hW1⟩ : ∃ W1, w.alloc (.cells #[.int .i64 n, .int .i64 r, .int .i64 t] 61) = W1 := ⟨_, rfl⟩
  have hsz : W1.heap.size = w.heap.size + 1 := by rw [← hW1]; simp
  have hA := h.below hb0
  rw [hW1] at hb0 hbk hA
  have hn : n ≤ 1024 := hv.2.1
  have hln := hv.1
  have HA := Lib.hid hA
  have HB := Lib.hid hb0
  have HK := Lib.hid hbk
  have HV := Lib.hid hv
  have HE := Lib.hid he
  have HS := Lib.hid hsz
  have HW := Lib.hid hW1
  have HL := Lib.hid hln
  have hn' : (n : Int) ≤ 1024 := by omega
  have g1 : ¬ (q : Int) < 0 := by omega
  have g2 : ¬ (64 : Int) < (q : Int) := by omega
  have g3 : ¬ (p : Int) < 0 := by omega
  have g4 : ¬ (n : Int) < (p : Int) := by omega
  clear h hb0 hbk hA hv he hsz hW1 hln
  go_enter Try.func44, Try.ntmps44
  go_wp2
  go_loopg [10, 11] (min q (n - p)) (fun g v i wr => ∃ j : Nat, g + j = min q (n - p) ∧ i = .int .i64 ((p : Int) + (j : Int)) ∧ VR wr W1.heap.size v ((l.drop p).take j) ∧ Below W1.heap.size W1 wr)
  case atStart => exact ⟨0, rfl, by simp, VR.none _ _, by rw [HW.out]; exact Below.refl _ _⟩
  case round =>
    obtain ⟨j, hg, rfl, hR, hBw⟩ := hrel
    have HR := Lib.hid hR
    have HBW := Lib.hid hBw
    have hk := blk_below HK.out hBw
    have c0 := blk_cell hk 0
    have c1 := blk_cell hk 1
    have c2 := blk_cell hk 2
    have ew : wrap64 ((j : Int)) = j := by unfold wrap64; omega
    have ew2 : wrap64 ((p : Int) + (j : Int) - p) = j := by unfold wrap64; omega
    clear hR hBw hk
    by_cases hj : j < min q (n - p)
    · have hj1 : (p : Int) + (j : Int) < (n : Int) := by omega
      have hj2 : (j : Int) < (q : Int) := by omega
      obtain ⟨x, hx⟩ : ∃ x, l[p + j]? = some x := ⟨l[p + j]'(by have := HL.out; omega), List.getElem?_eq_getElem _⟩
      obtain ⟨k, m, s⟩ := x
      have htk : (l.drop p).take (j + 1) = (l.drop p).take j ++ [(k, m, s)] := by
        have hjl : j < (l.drop p).length := by rw [List.length_drop]; have := HL.out; omega
        rw [List.take_succ_eq_append_getElem hjl]
        congr 2
        rw [List.getElem_drop]
        rw [List.getElem?_eq_getElem (by have := HL.out; omega)] at hx
        exact Option.some.inj hx
      have HX := Lib.hid hx
      have HTK := Lib.hid htk
      have hlj : ((l.drop p).take j).length ≤ 64 := by rw [List.length_take]; omega
      have hget : ∀ w, AO w O a f live most ext nop → Calls Try.prog 36 #[.pointer (some ⟨a, 0, none⟩), vecV n r t, .int .i64 ((p : Int) + (j : Int))] w fun e w' => e = .returned (.tuple #[valV k m s, .int .i64 0]) ∧ Below w.heap.size w w' := fun w h => get_calls n r t (p + j) l k m s w h HV.out HE.out HX.out
      have HG := Lib.hid hget
      clear hx htk hget
      go_wp2_with (first
        | (go_at_call 36; go_loud (refine (HG.out _ (HA.out.below HBW.out)).mono ?_; rintro e w5 ⟨rfl, hB5⟩; have hb5 := HBW.out.trans (hB5.mono HBW.out.size); have HB5 := Lib.hid (below_alloc hb5 (.cells #[.int .u8 k, .int .i64 m, .string s] 66)); have HR5 := Lib.hid (Kd.R_alloc (Kd.R_below HR.out hB5) (.cells #[.int .u8 k, .int .i64 m, .string s] 66)); clear hB5 hb5))
        | (at_builtin; go_loud (refine Kd.R_append kVal (w0 := W1) W1.heap.size rfl (.tmp 54) (.tmp 56) 41 66 (.agg #[.int .u8 0, .int .i64 0, .string (⟨#[]⟩ : ByteArray)]) 32 rfl Try.underlying41 ClV.infoVal rfl (by decide) (by decide) _ ((l.drop p).take j) (k, m, s) [.int .u8 k, .int .i64 m, .string s] (fun j => W1.heap.size ≤ j) (fun _ => False) rfl (by rw [World.size_alloc]; rfl) ⟨_, _, rfl, rfl, _, _, rfl, rfl, rfl⟩ (fun _ hk => hk.elim) (fun j hj => by have := HB5.out.size; omega) HR5.out HB5.out HB5.out.size (by omega) ?_; intro v2 w2 ho hb _ _; have HR6 := Lib.hid ho; have HB6 := Lib.hid hb; clear ho hb)))
      go_roundg (gk - 1)
      case measure => omega
      case rel => exact ⟨j + 1, by omega, by simp; omega, by rw [HTK.out]; exact HR6.out, HB6.out⟩
    · have hjm : j = min q (n - p) := by omega
      have hfin : ∀ {v : Value} {W : World}, VR W W1.heap.size v ((l.drop p).take j) → Below W1.heap.size W1 W → ∃ u, Ending.returned (.tuple #[v, .int .i64 0]) = .returned (.tuple #[u, .int .i64 0]) ∧ VR W w.heap.size u ((l.drop p).take q) ∧ Below w.heap.size w W := fun {v W} hR hB => by
        have hz := HS.out
        have hln := HL.out
        have e1 : (l.drop p).take q = (l.drop p).take j := by
          rw [hjm]
          by_cases hc : q ≤ n - p
          · rw [Nat.min_eq_left hc]
          · rw [Nat.min_eq_right (by omega), List.take_of_length_le (by rw [List.length_drop]; omega), List.take_of_length_le (by rw [List.length_drop]; omega)]
        rw [e1]
        exact ⟨_, rfl, Kd.R_lower (Kd.R_mono hR (fun j hj => by omega)) (by omega), HB.out.trans (hB.mono HB.out.size)⟩
      have HF := Lib.hid (hfin HR.out HBW.out)
      clear hfin
      by_cases hc : p + j < n
      · have hj1 : (p : Int) + (j : Int) < (n : Int) := by omega
        have hj2 : ¬ (j : Int) < (q : Int) := by omega
        clear hjm hj
        go_wp2
        go_ret2
        exact HF.out
      · have hj1 : ¬ (p : Int) + (j : Int) < (n : Int) := by omega
        clear hjm hj
        go_wp2
        go_ret2
        exact HF.out
end
end Go.Proofs.Ytnipbfhfaefieaa.Pv
/-! slice: the chapter's example. -/
namespace Go.Proofs.Ytnipbfhfaefieaa.Sl
open Go.RowKit Go Go.Proofs.YtnipbfhfaefieaaW.PrintWords Go.Proofs.YtnipbfhfaefieaaW.PrintMore Go.Proofs.YtnipbfhfaefieaaW.PrintLast Go.Proofs.Ytnipbfhfaefieaa.Bts Go.Proofs.Ytnipbfhfaefieaa.Fra Go.Proofs.Ytnipbfhfaefieaa.ArnP Go.Proofs.Ytnipbfhfaefieaa.Arn Go.Proofs.Ytnipbfhfaefieaa.Ao Go.Proofs.Ytnipbfhfaefieaa.Pv
def l3 : List V3 := [(2, 1, ⟨#[]⟩), (2, 2, ⟨#[]⟩), (2, 3, ⟨#[]⟩)]
theorem row_l3 (w : World) : VR (w.alloc (.cells #[.int .u8 2, .int .i64 1, .string ⟨#[]⟩, .int .u8 2, .int .i64 2, .string ⟨#[]⟩, .int .u8 2, .int .i64 3, .string ⟨#[]⟩] 66)) w.heap.size (.slice (some ⟨w.heap.size, 0, none⟩) 3 3) l3 := by
  have h := World.ownsRow_lit (base := w.heap.size) (e := 66) (size := 3) w #[.int .u8 2, .int .i64 1, .string ⟨#[]⟩, .int .u8 2, .int .i64 2, .string ⟨#[]⟩, .int .u8 2, .int .i64 3, .string ⟨#[]⟩] 3 (Nat.le_refl _) (by unfold maxLen; omega) rfl
  refine ⟨fun j hj => ?_, _, h, ⟨rfl, fun i x hx => ?_⟩⟩
  · have : w.heap.size = j := Option.some.inj hj
    omega
  · rcases i with _ | _ | _ | i
    · obtain rfl : (2, 1, ⟨#[]⟩) = x := Option.some.inj hx
      exact ⟨_, _, rfl, rfl, _, _, rfl, rfl, rfl⟩
    · obtain rfl : (2, 2, ⟨#[]⟩) = x := Option.some.inj hx
      exact ⟨_, _, rfl, rfl, _, _, rfl, rfl, rfl⟩
    · obtain rfl : (2, 3, ⟨#[]⟩) = x := Option.some.inj hx
      exact ⟨_, _, rfl, rfl, _, _, rfl, rfl, rfl⟩
    · cases hx
theorem no0_vx : (fun z => no0 z + vx 0 0 z) = no0 := by
  funext z
  rfl
theorem from_l3 {O Q : Nat → Prop} {a : Nat} (v : Value) (w : World) (h : AO w O a f0 0 50 no0 nop) (hl : RowIn kVal w Q v l3) (hQ : ∀ j, Q j → ¬ O j) :
    Calls Try.prog 40 #[.pointer (some ⟨a, 0, none⟩), v] w fun e w' => ∃ (r t : Nat) (O' : Nat → Prop) (f' : Nat → Cell) (live' : Int), e = .returned (.tuple #[vecV 3 r t, .int .i64 0]) ∧ AO w' O' a f' live' 50 (fun z => no0 z + vx r t z) nop ∧ VRep f' 3 r t l3 ∧ (∀ j, O' j → O j ∨ w.heap.size ≤ j) ∧ Fr O w w' := by
  refine (from_calls l3 v w h hl hQ (by decide) (fun _ => Nat.zero_le _)).mono ?_
  intro e w' hp
  unfold FromPost at hp
  rcases hp with ⟨r, t, O', f', live', rfl, hA, hV, _, hO, hF⟩ | ⟨c, O', f', live', rfl, hc, _⟩
  · exact ⟨r, t, O', f', live', rfl, hA, hV, hO, hF⟩
  · rcases hc with ⟨_, q⟩ | ⟨_, q⟩
    · exact absurd q (by decide)
    · exact absurd q (by decide)
set_option maxHeartbeats 4000000 in
set_option maxRecDepth 100000 in
theorem lives_calls (w : World) : Calls Try.prog 38 #[] w fun e w' => e = .returned (.bool true) ∧ Below w.heap.size w w' := by
  go_enter Try.func38, Try.ntmps38
  go_wp2_with (first
    | (go_at_call 44; go_loud (refine (HPG.out _ HA4.out).mono ?_; rintro e w5 ⟨v5, rfl, hV5, hB5⟩; obtain ⟨g, c, e5, hg1, hg2, t0, t1, t2⟩ := VR.get hV5 0 rfl; have e5 : v5 = .slice (some ⟨g, 0, none⟩) 2 c := e5; subst e5; have hk5 := blk_below HK4.out hB5; have HK5 := Lib.hid hk5; have HB5 := Lib.hid hB5; clear hV5 hB5 hk5))
    | (go_at_call 40; go_loud (refine (from_l3 _ _ (HA1.out.below (below_alloc (Below.refl _ _) _)) (RowIn.of_R (row_l3 _)) (fun j hj hj2 => by have := HA1.out.lt j hj2; omega)).mono ?_; rintro e w4 ⟨r, t, O4, f4, live4, rfl, hA4, hV4, hO4, hF4⟩; have hpg : ∀ w, AO w O4 a f4 live4 50 (fun z => no0 z + vx r t z) nop → Calls Try.prog 44 #[.pointer (some ⟨a, 0, none⟩), vecV 3 r t, .int .i64 1, .int .i64 9] w fun e w' => ∃ v, e = .returned (.tuple #[v, .int .i64 0]) ∧ VR w' w.heap.size v [(2, 2, ⟨#[]⟩), (2, 3, ⟨#[]⟩)] ∧ Below w.heap.size w w' := (fun w h => page_calls 3 r t 1 9 l3 w h hV4 (fun x => Nat.le_add_left _ _) (by decide) (by decide)); have HPG := Lib.hid hpg; have HA4 := Lib.hid (hA4.below (below_alloc (Below.refl _ _) (.cells #[.int .i64 3, .int .i64 r, .int .i64 t] 61))); have HK4 := Lib.hid (blk_new w4 (.cells #[.int .i64 3, .int .i64 r, .int .i64 t] 61)); have HO4 := Lib.hid hO4; have HF4 := Lib.hid hF4; have HB4 := Lib.hid HB1.out; clear hpg hA4 hV4 hO4 hF4))
    | (go_at_call 34; go_loud (refine (number_calls _ _).mono ?_; rintro e w2 ⟨rfl, hB2⟩; have HBn := Lib.hid (HB1.out.trans (hB2.mono HB1.out.size)); have HAn := Lib.hid (HA1.out.below hB2); clear HB1 HA1; have HB1 := HBn; have HA1 := HAn; clear HBn HAn hB2))
    | (go_at_call 20; go_loud (refine (new_AO 50 _ (by decide) (by decide)).mono ?_; rintro e w1 ⟨a, O, rfl, hA1, hO1, hB1⟩; rw [no0_vx] at hA1; have HA1 := Lib.hid hA1; have HO1 := Lib.hid hO1; have HB1 := Lib.hid hB1; clear hA1 hO1 hB1)))
  have hd : Below w5.heap.size w5 w5.drew := below_drew1 (Below.refl _ _)
  have hFd : Fr (fun _ => False) w5 w5.drew := Fr.of_new hd
  have d0 : w5.drew.cell? ⟨g, 0, none⟩ = some (.int .u8 2) := hFd.cell t0 (fun h => h)
  have d1 : w5.drew.cell? ⟨g, 1, none⟩ = some (.int .i64 2) := hFd.cell t1 (fun h => h)
  have d2 : w5.drew.cell? ⟨g, 2, none⟩ = some (.string ⟨#[]⟩) := hFd.cell t2 (fun h => h)
  have d3 : w5.drew.cell? ⟨w4.heap.size, 0, none⟩ = some (.int .i64 3) := blk_cell (blk_below HK5.out hd) 0
  obtain ⟨V, hV⟩ : ∃ V, w5.drew = V := ⟨_, rfl⟩
  rw [hV] at d0 d1 d2 d3 hd
  have HD := Lib.hid hd
  clear hFd t0 t1 t2 hd
  refine start_ (n := 24) (S := fun w' => w'.cell? ⟨g, 0, none⟩ = some (.int .u8 2) ∧ w'.cell? ⟨g, 1, none⟩ = some (.int .i64 2) ∧ w'.cell? ⟨g, 2, none⟩ = some (.string ⟨#[]⟩) ∧ w'.cell? ⟨w4.heap.size, 0, none⟩ = some (.int .i64 3)) (ds := []) #[false, false, false, false, false, false, false, false, false, false, false, false, false, false, false, false, false, false, false, false, false, false, false, false] (by kernel_rfl) rfl rfl ⟨(by rw [hV]; exact d0), (by rw [hV]; exact d1), (by rw [hV]; exact d2), (by rw [hV]; exact d3)⟩ (fun hHeld => ?_)
  refine pure_ (i := 0) (N := some 26) (v := ?_) (a' := ?_) #[true, false, false, false, false, false, false, false, false, false, false, false, false, false, false, false, false, false, false, false, false, false, false, false] rfl rfl (by kernel_rfl) (fun _ _ _ h => h) (Or.inl ⟨by rfl, ?_⟩) ?_ ?_
  rotate_left
  · intro w'
    go_simp
    with_reducible rfl
  rotate_left
  · simp only [Act.put, List.setIfInBounds_toArray, List.set_cons_zero, List.set_cons_succ, i64_w, i32_w]
    rfl
  refine pure_ (i := 1) (N := some 27) (v := ?_) (a' := ?_) #[true, true, false, false, false, false, false, false, false, false, false, false, false, false, false, false, false, false, false, false, false, false, false, false] rfl rfl (by kernel_rfl) (fun _ _ _ h => h) (Or.inl ⟨by rfl, ?_⟩) ?_ ?_
  rotate_left
  · intro w'
    go_simp
    with_reducible rfl
  rotate_left
  · simp only [Act.put, List.setIfInBounds_toArray, List.set_cons_zero, List.set_cons_succ, i64_w, i32_w]
    rfl
  refine pure_ (i := 2) (N := some 28) (v := ?_) (a' := ?_) #[true, true, true, false, false, false, false, false, false, false, false, false, false, false, false, false, false, false, false, false, false, false, false, false] rfl rfl (by kernel_rfl) (fun _ _ _ h => h) (Or.inl ⟨by rfl, ?_⟩) ?_ ?_
  rotate_left
  · intro w'
    go_simp
    with_reducible rfl
  rotate_left
  · simp only [Act.put, List.setIfInBounds_toArray, List.set_cons_zero, List.set_cons_succ, i64_w, i32_w]
    rfl
  refine pure_ (i := 3) (N := some 29) (v := ?_) (a' := ?_) #[true, true, true, true, false, false, false, false, false, false, false, false, false, false, false, false, false, false, false, false, false, false, false, false] rfl rfl (by kernel_rfl) (fun _ _ _ h => h) (Or.inl ⟨by rfl, ?_⟩) ?_ ?_
  rotate_left
  · intro w'
    go_simp
    with_reducible rfl
  rotate_left
  · simp only [Act.put, List.setIfInBounds_toArray, List.set_cons_zero, List.set_cons_succ, i64_w, i32_w]
    rfl
  refine pure_ (i := 4) (N := some 30) (v := ?_) (a' := ?_) #[true, true, true, true, true, false, false, false, false, false, false, false, false, false, false, false, false, false, false, false, false, false, false, false] rfl rfl (by kernel_rfl) (fun _ _ _ h => h) (Or.inl ⟨by rfl, ?_⟩) ?_ ?_
  rotate_left
  · intro w'
    go_simp
    with_reducible rfl
  rotate_left
  · simp only [Act.put, List.setIfInBounds_toArray, List.set_cons_zero, List.set_cons_succ, i64_w, i32_w]
    rfl
  refine pure_ (i := 5) (N := some 31) (v := ?_) (a' := ?_) #[true, true, true, true, true, true, false, false, false, false, false, false, false, false, false, false, false, false, false, false, false, false, false, false] rfl rfl (by kernel_rfl) (fun _ _ _ h => h) (Or.inl ⟨by rfl, ?_⟩) ?_ ?_
  rotate_left
  · intro w'
    go_simp
    with_reducible rfl
  rotate_left
  · simp only [Act.put, List.setIfInBounds_toArray, List.set_cons_zero, List.set_cons_succ, i64_w, i32_w]
    rfl
  refine pure_ (i := 6) (N := some 32) (v := ?_) (a' := ?_) #[true, true, true, true, true, true, true, false, false, false, false, false, false, false, false, false, false, false, false, false, false, false, false, false] rfl rfl (by kernel_rfl) (fun _ _ _ h => h) (Or.inl ⟨by rfl, ?_⟩) ?_ ?_
  rotate_left
  · intro w'
    go_simp
    with_reducible rfl
  rotate_left
  · simp only [Act.put, List.setIfInBounds_toArray, List.set_cons_zero, List.set_cons_succ, i64_w, i32_w]
    rfl
  refine pure_ (i := 7) (N := some 33) (v := ?_) (a' := ?_) #[true, true, true, true, true, true, true, true, false, false, false, false, false, false, false, false, false, false, false, false, false, false, false, false] rfl rfl (by kernel_rfl) (fun _ _ _ h => h) (Or.inl ⟨by rfl, ?_⟩) ?_ ?_
  rotate_left
  · intro w'
    go_simp
    with_reducible rfl
  rotate_left
  · simp only [Act.put, List.setIfInBounds_toArray, List.set_cons_zero, List.set_cons_succ, i64_w, i32_w]
    rfl
  refine pure_ (i := 8) (N := some 34) (v := ?_) (a' := ?_) #[true, true, true, true, true, true, true, true, true, false, false, false, false, false, false, false, false, false, false, false, false, false, false, false] rfl rfl (by kernel_rfl) (fun _ _ _ h => h) (Or.inl ⟨by rfl, ?_⟩) ?_ ?_
  rotate_left
  · intro w'
    go_simp
    with_reducible rfl
  rotate_left
  · simp only [Act.put, List.setIfInBounds_toArray, List.set_cons_zero, List.set_cons_succ, i64_w, i32_w]
    rfl
  refine pure_ (i := 9) (N := some 35) (v := ?_) (a' := ?_) #[true, true, true, true, true, true, true, true, true, true, false, false, false, false, false, false, false, false, false, false, false, false, false, false] rfl rfl (by kernel_rfl) (fun _ _ _ h => h) (Or.inl ⟨by rfl, ?_⟩) ?_ ?_
  rotate_left
  · intro w'
    go_simp
    with_reducible rfl
  rotate_left
  · simp only [Act.put, List.setIfInBounds_toArray, List.set_cons_zero, List.set_cons_succ, i64_w, i32_w]
    rfl
  refine pure_ (i := 10) (N := some 36) (v := ?_) (a' := ?_) #[true, true, true, true, true, true, true, true, true, true, true, false, false, false, false, false, false, false, false, false, false, false, false, false] rfl rfl (by kernel_rfl) (fun _ _ _ h => h) (Or.inl ⟨by rfl, ?_⟩) ?_ ?_
  rotate_left
  · intro w'
    go_simp
    with_reducible rfl
  rotate_left
  · simp only [Act.put, List.setIfInBounds_toArray, List.set_cons_zero, List.set_cons_succ, i64_w, i32_w]
    rfl
  refine pure_ (i := 11) (N := some 37) (v := ?_) (a' := ?_) #[true, true, true, true, true, true, true, true, true, true, true, true, false, false, false, false, false, false, false, false, false, false, false, false] rfl rfl (by kernel_rfl) (fun _ _ _ h => h) (Or.inl ⟨by rfl, ?_⟩) ?_ ?_
  rotate_left
  · intro w'
    go_simp
    with_reducible rfl
  rotate_left
  · simp only [Act.put, List.setIfInBounds_toArray, List.set_cons_zero, List.set_cons_succ, i64_w, i32_w]
    rfl
  refine pure_ (i := 12) (N := some 38) (v := ?_) (a' := ?_) #[true, true, true, true, true, true, true, true, true, true, true, true, true, false, false, false, false, false, false, false, false, false, false, false] rfl rfl (by kernel_rfl) (fun _ _ _ h => h) (Or.inl ⟨by rfl, ?_⟩) ?_ ?_
  rotate_left
  · intro w'
    go_simp
    with_reducible rfl
  rotate_left
  · simp only [Act.put, List.setIfInBounds_toArray, List.set_cons_zero, List.set_cons_succ, i64_w, i32_w]
    rfl
  refine pure_ (i := 13) (N := some 39) (v := ?_) (a' := ?_) #[true, true, true, true, true, true, true, true, true, true, true, true, true, true, false, false, false, false, false, false, false, false, false, false] rfl rfl (by kernel_rfl) (fun _ _ _ h => h) (Or.inl ⟨by rfl, ?_⟩) ?_ ?_
  rotate_left
  · intro w'
    go_simp
    with_reducible rfl
  rotate_left
  · simp only [Act.put, List.setIfInBounds_toArray, List.set_cons_zero, List.set_cons_succ, i64_w, i32_w]
    rfl
  refine take_ (i := 14) (N := some 40) (v := ?_) (a' := ?_) #[true, true, true, true, true, true, true, true, true, true, true, true, true, true, true, false, false, false, false, false, false, false, false, false] rfl rfl (by kernel_rfl) (fun _ _ _ h => h) (Or.inl ⟨by rfl, ?_⟩) hHeld ?_ ?_
  rotate_left
  · rintro w' ⟨s0, s1, s2, s3⟩
    go_simp
    with_reducible rfl
  rotate_left
  · simp only [Act.put, List.setIfInBounds_toArray, List.set_cons_zero, List.set_cons_succ, i64_w, i32_w]
    rfl
  refine one_ (i := 15) (N := some 41) #[true, true, true, true, true, true, true, true, true, true, true, true, true, true, true, true, false, false, false, false, false, false, false, false] rfl rfl (by kernel_rfl) (by decide) (fun K hK => ?_)
  refine goes_ Try.func34 (by kernel_rfl) rfl #[.int .i64 2] (by rfl) rfl rfl (by simp only [List.map_toArray, List.map_cons, List.map_nil]; rfl) ?_
  with_reducible refine (number_calls 2 _).mono ?_
  rintro e w6 ⟨rfl, hB6⟩
  refine ⟨_, rfl, ?_⟩
  have hB6 : Below V.heap.size V w6 := hV ▸ hB6
  have HB6 := Lib.hid hB6
  have hF6 : Fr (fun _ => False) V w6 := Fr.of_new hB6
  refine hK.out _ _ ⟨(hF6.cell d0 (fun h => h)), (hF6.cell d1 (fun h => h)), (hF6.cell d2 (fun h => h)), (hF6.cell d3 (fun h => h))⟩ (fun hHeld => ?_)
  clear hK K
  refine norm_ (a' := ?_) ?_ ?_
  rotate_left
  · show Act.put _ (some 41) _ = _
    simp only [Act.put, List.setIfInBounds_toArray, List.set_cons_zero, List.set_cons_succ, i64_w, i32_w]
    rfl
  refine pure_ (i := 16) (N := some 42) (v := ?_) (a' := ?_) #[true, true, true, true, true, true, true, true, true, true, true, true, true, true, true, true, true, false, false, false, false, false, false, false] rfl rfl (by kernel_rfl) (fun _ _ _ h => h) (Or.inl ⟨by rfl, ?_⟩) ?_ ?_
  rotate_left
  · intro w'
    go_simp
    with_reducible rfl
  rotate_left
  · simp only [Act.put, List.setIfInBounds_toArray, List.set_cons_zero, List.set_cons_succ, i64_w, i32_w]
    rfl
  refine pure_ (i := 17) (N := some 43) (v := ?_) (a' := ?_) #[true, true, true, true, true, true, true, true, true, true, true, true, true, true, true, true, true, true, false, false, false, false, false, false] rfl rfl (by kernel_rfl) (fun _ _ _ h => h) (Or.inl ⟨by rfl, ?_⟩) ?_ ?_
  rotate_left
  · intro w'
    go_simp
    with_reducible rfl
  rotate_left
  · simp only [Act.put, List.setIfInBounds_toArray, List.set_cons_zero, List.set_cons_succ, i64_w, i32_w]
    rfl
  refine pure_ (i := 18) (N := some 44) (v := ?_) (a' := ?_) #[true, true, true, true, true, true, true, true, true, true, true, true, true, true, true, true, true, true, true, false, false, false, false, false] rfl rfl (by kernel_rfl) (fun _ _ _ h => h) (Or.inl ⟨by rfl, ?_⟩) ?_ ?_
  rotate_left
  · intro w'
    go_simp
    with_reducible rfl
  rotate_left
  · simp only [Act.put, List.setIfInBounds_toArray, List.set_cons_zero, List.set_cons_succ, i64_w, i32_w]
    rfl
  refine pure_ (i := 19) (N := some 45) (v := ?_) (a' := ?_) #[true, true, true, true, true, true, true, true, true, true, true, true, true, true, true, true, true, true, true, true, false, false, false, false] rfl rfl (by kernel_rfl) (fun _ _ _ h => h) (Or.inl ⟨by rfl, ?_⟩) ?_ ?_
  rotate_left
  · intro w'
    go_simp
    with_reducible rfl
  rotate_left
  · simp only [Act.put, List.setIfInBounds_toArray, List.set_cons_zero, List.set_cons_succ, i64_w, i32_w]
    rfl
  refine take_ (i := 20) (N := some 46) (v := ?_) (a' := ?_) #[true, true, true, true, true, true, true, true, true, true, true, true, true, true, true, true, true, true, true, true, true, false, false, false] rfl rfl (by kernel_rfl) (fun _ _ _ h => h) (Or.inl ⟨by rfl, ?_⟩) hHeld ?_ ?_
  rotate_left
  · rintro w' ⟨s0, s1, s2, s3⟩
    go_simp
    with_reducible rfl
  rotate_left
  · simp only [Act.put, List.setIfInBounds_toArray, List.set_cons_zero, List.set_cons_succ, i64_w, i32_w]
    rfl
  refine pure_ (i := 21) (N := some 47) (v := ?_) (a' := ?_) #[true, true, true, true, true, true, true, true, true, true, true, true, true, true, true, true, true, true, true, true, true, true, false, false] rfl rfl (by kernel_rfl) (fun _ _ _ h => h) (Or.inl ⟨by rfl, ?_⟩) ?_ ?_
  rotate_left
  · intro w'
    go_simp
    with_reducible rfl
  rotate_left
  · simp only [Act.put, List.setIfInBounds_toArray, List.set_cons_zero, List.set_cons_succ, i64_w, i32_w]
    rfl
  refine pure_ (i := 22) (N := some 48) (v := ?_) (a' := ?_) #[true, true, true, true, true, true, true, true, true, true, true, true, true, true, true, true, true, true, true, true, true, true, true, false] rfl rfl (by kernel_rfl) (fun _ _ _ h => h) (Or.inl ⟨by rfl, ?_⟩) ?_ ?_
  rotate_left
  · intro w'
    go_simp
    with_reducible rfl
  rotate_left
  · simp only [Act.put, List.setIfInBounds_toArray, List.set_cons_zero, List.set_cons_succ, i64_w, i32_w]
    rfl
  refine pure_ (i := 23) (N := some 0) (v := ?_) (a' := ?_) #[true, true, true, true, true, true, true, true, true, true, true, true, true, true, true, true, true, true, true, true, true, true, true, true] rfl rfl (by kernel_rfl) (fun _ _ _ h => h) (Or.inl ⟨by rfl, ?_⟩) ?_ ?_
  rotate_left
  · intro w'
    go_simp
    with_reducible rfl
  rotate_left
  · simp only [Act.put, List.setIfInBounds_toArray, List.set_cons_zero, List.set_cons_succ, i64_w, i32_w]
    rfl
  refine done_ (by kernel_rfl) ?_

  go_wp2
  go_ret
  have hF := (((((((Fr.of_new (S := fun j => w.heap.size ≤ j) HB4.out).more (below_alloc (Below.refl _ _) (.cells #[.int .u8 2, .int .i64 1, .string ⟨#[]⟩, .int .u8 2, .int .i64 2, .string ⟨#[]⟩, .int .u8 2, .int .i64 3, .string ⟨#[]⟩] 66))).then_ HF4.out (fun i hi => .inl (HO1.out i hi))).more (below_alloc (Below.refl _ _) (.cells #[.int .i64 3, .int .i64 r, .int .i64 t] 61))).more HB5.out).more HD.out).more HB6.out)
  exact ⟨rfl, Fr.below hF (fun _ h => h) (Nat.le_refl _)⟩
end Go.Proofs.Ytnipbfhfaefieaa.Sl
/-! slice: SliceRoom. -/
namespace Go.Proofs.Ytnipbfhfaefieaa.Sl
open Go.RowKit Go Go.Proofs.YtnipbfhfaefieaaW.PrintWords Go.Proofs.YtnipbfhfaefieaaW.PrintMore Go.Proofs.YtnipbfhfaefieaaW.PrintLast Go.Proofs.Ytnipbfhfaefieaa.Bts Go.Proofs.Ytnipbfhfaefieaa.Fra Go.Proofs.Ytnipbfhfaefieaa.ArnP Go.Proofs.Ytnipbfhfaefieaa.Arn Go.Proofs.Ytnipbfhfaefieaa.Ao Go.Proofs.Ytnipbfhfaefieaa.Pv
theorem C_nil {W : World} : kVal.C W none ([] : List V3).length [] := by
  exact ⟨rfl, by simp, fun h => absurd h (by simp)⟩
theorem mod_nat (x : Int) (n : Nat) (hn : 0 < n) (hb : n ≤ 100000) : ∃ k : Nat, (IntKind.u64.wrap x).tmod (n : Int) = k ∧ k < n ∧ wrap64 (k : Int) = k := by
  have h1 : 0 ≤ IntKind.u64.wrap x := (by rw [IntKind.wrap_u64]; omega)
  have h2 : 0 ≤ (IntKind.u64.wrap x).tmod (n : Int) := Int.tmod_nonneg _ h1
  have h3 : (IntKind.u64.wrap x).tmod (n : Int) < (n : Int) := Int.tmod_lt_of_pos _ (by omega)
  obtain ⟨m, hm⟩ : ∃ m, (IntKind.u64.wrap x).tmod (n : Int) = m := ⟨_, rfl⟩
  rw [hm] at h2 h3 ⊢
  refine ⟨m.toNat, by omega, by omega, ?_⟩
  unfold wrap64
  omega
theorem from_room {O Q : Nat → Prop} {a : Nat} {most : Int} (k : Nat) (l : List V3) (v : Value) (w : World) (h : AO w O a f0 0 most no0 nop) (hl : RowIn kVal w Q v l) (hQ : ∀ j, Q j → ¬ O j) (hk : l.length = k) (hk2 : k ≤ 1024) :
    Calls Try.prog 40 #[.pointer (some ⟨a, 0, none⟩), v] w fun e w' => (∃ (r t : Nat) (O' : Nat → Prop) (f' : Nat → Cell) (live' : Int), e = .returned (.tuple #[vecV k r t, .int .i64 0]) ∧ Hid (AO w' O' a f' live' most (fun z => no0 z + vx r t z) nop) ∧ Hid (VRep f' k r t l) ∧ Hid (Fr O w w')) ∨ (∃ (O' : Nat → Prop) (f' : Nat → Cell), e = .returned (.tuple #[vecV 0 0 0, .int .i64 5]) ∧ Hid (AO w' O' a f' 0 most no0 nop) ∧ Hid (Fr O w w')) := by
  refine (from_calls l v w h hl hQ (by omega) (fun _ => Nat.zero_le _)).mono ?_
  intro e w' hp
  unfold FromPost at hp
  rw [hk] at hp
  rcases hp with ⟨r, t, O', f', live', he, hA, hV, _, hO, hF⟩ | ⟨c, O', f', live', he, hc, hA, _, hO, hF⟩
  · exact .inl ⟨r, t, O', f', live', he, Lib.hid hA, Lib.hid hV, Lib.hid hF⟩
  · have hz := hA.none_live (fun _ _ => rfl)
    subst hz
    have hc5 : c = 5 := by omega
    subst hc5
    exact .inr ⟨O', f', he, Lib.hid hA, Lib.hid hF⟩
set_option maxHeartbeats 4000000 in
set_option maxRecDepth 100000 in
theorem room_walk (x0 : Int) (x1 : Int) (W : World) (p0 : (IntKind.i64.min ≤ x0 ∧ x0 ≤ IntKind.i64.max)) (p1 : (IntKind.i64.min ≤ x1 ∧ x1 ≤ IntKind.i64.max)) :
    Calls Try.prog 8 #[.int .i64 x0, .int .i64 x1] W fun e W' => e = .returned (.bool true) ∧ Below W.heap.size W W' := by
  clear p0 p1
  obtain ⟨d, hd, hd2, hd3⟩ := mod_nat x1 60 (by decide) (by decide)
  obtain ⟨k, hk, hk2, hk3⟩ := mod_nat x0 1025 (by decide) (by decide)
  have hd : (IntKind.u64.wrap x1).tmod 60 = d := hd
  have hk : (IntKind.u64.wrap x0).tmod 1025 = k := hk
  have hd4 : wrap64 (1 + (d : Int)) = 1 + d := by unfold wrap64; omega
  have hlen := fillL_len [] k
  have HLEN := Lib.hid hlen
  clear hlen
  go_enter Try.func8, Try.ntmps8
  go_wp2_with (first
    | (go_at_call 22; go_loud (refine (live_AO _ (HAer.out.below (below_alloc (Below.refl _ _) (.cells #[.int .i64 0, .int .i64 0, .int .i64 0] 61)))).mono ?_; rintro e w5 ⟨rfl, rfl⟩))
    | (go_at_call 41; go_loud (refine (equal_calls (fillL [] k) (fillL [] k) v5 u3 _ (RowIn.of_R HV5.out) (((HR3.out.fr kVal_K HF4.out (fun j hj hj2 => by have := HLT.out j hj2; omega)).fr kVal_K (Fr.of_new (S := fun _ => False) (below_alloc (Below.refl w4.heap.size w4) (.cells #[.int .i64 (k : Int), .int .i64 r, .int .i64 t] 61))) (fun _ _ h => h)).fr kVal_K (Fr.of_new (S := fun _ => False) HB5.out) (fun _ _ h => h)) (by rw [HLEN.out]; omega) (by rw [HLEN.out]; omega)).mono ?_; rintro e w6 ⟨rfl, hB6⟩; have HB6 := Lib.hid hB6; clear hB6))
    | (go_at_call 42; go_loud (refine (all_calls k r t (fillL [] k) _ (HAok.out.below (below_alloc (Below.refl _ _) (.cells #[.int .i64 (k : Int), .int .i64 r, .int .i64 t] 61))) HV4.out (fun _ => Nat.le_add_left _ _)).mono ?_; rintro e w5 ⟨v5, rfl, hV5, hB5⟩; have HV5 := Lib.hid hV5; have HB5 := Lib.hid hB5; clear hV5 hB5))
    | (go_at_call 40; go_loud (refine (from_room (Q := fun j => w2.heap.size ≤ j ∧ j < w3.heap.size) k (fillL [] k) u3 _ HA3.out HR3.out (fun j hj hj2 => by have := HLT.out j hj2; omega) HLEN.out (by omega)).mono ?_; rintro e w4 (⟨r, t, O4, f4, live4, rfl, HAok, HV4, HF4⟩ | ⟨O4, f4, rfl, HAer, HF4⟩)))
    | (go_at_call 39; go_loud (refine (fill_calls [] none 0 k _ C_nil (by omega) (by decide)).mono ?_; rintro e w3 ⟨u3, rfl, hR3, hB3⟩; have HLT := Lib.hid HA2.out.lt; have HA3 := Lib.hid (HA2.out.below hB3); have HR3 := Lib.hid (row_lt (RowIn.of_R hR3) (fun j hj hjl => (⟨hj, hjl⟩ : w2.heap.size ≤ j ∧ j < w3.heap.size))); have HB3 := Lib.hid hB3; clear hR3 hB3))
    | (go_at_call 20; go_loud (refine (new_AO (1 + (d : Int)) _ (by omega) (by omega)).mono ?_; rintro e w2 ⟨a, O, rfl, hA2, hO2, hB2⟩; rw [no0_vx] at hA2; have HA2 := Lib.hid hA2; have HO2 := Lib.hid (fun j hj => Nat.le_trans HB1.out.size (hO2 j hj)); have HB2 := Lib.hid (HB1.out.trans (hB2.mono HB1.out.size)); clear hA2 hO2 hB2))
    | (go_at_call 38; go_loud (refine (lives_calls _).mono ?_; rintro e w1 ⟨rfl, hb1⟩; have HB1 := Lib.hid hb1; clear hb1)))
  · go_ret
    have hF := (((((Fr.of_new (S := fun j => W.heap.size ≤ j) HB2.out).more HB3.out).then_ HF4.out (fun i hi => .inl (HO2.out i hi))).more (below_alloc (Below.refl _ _) (.cells #[.int .i64 (k : Int), .int .i64 r, .int .i64 t] 61))).more HB5.out).more HB6.out
    exact ⟨by simp, Fr.below hF (fun _ h => h) (Nat.le_refl _)⟩
  · go_ret
    have hF := (((Fr.of_new (S := fun j => W.heap.size ≤ j) HB2.out).more HB3.out).then_ HF4.out (fun i hi => .inl (HO2.out i hi))).more (below_alloc (Below.refl _ _) (.cells #[.int .i64 0, .int .i64 0, .int .i64 0] 61))
    exact ⟨by simp, Fr.below hF (fun _ h => h) (Nat.le_refl _)⟩
end Go.Proofs.Ytnipbfhfaefieaa.Sl
