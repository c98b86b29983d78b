/- ledger: Close and Sum, as contracts. -/
import Derived.Test.YtaoacibahdbdkaaLedL
import Derived.Maps.OwnSet
import Derived.Maps.RangeWalk
namespace Go.Proofs.Ytaoacibahdbdkaa.Led
open Go.RowKit Go Go.Proofs.YtaoacibahdbdkaaW.PrintWords Go.Proofs.YtaoacibahdbdkaaW.PrintMore Go.Proofs.YtaoacibahdbdkaaW.PrintLast Go.Proofs.Ytaoacibahdbdkaa.Bts Go.Proofs.Ytaoacibahdbdkaa.Fra Go.Maps
section
variable {B g b n : Nat} {most : Int × Int × Int} {keys : List Int} {D : DM} {blk : Int → Nat} {f : Int → Int × Int × Int}
theorem fr_of_grown {w w' : World} {b : Nat} (hg : w.grownBy w' (some b)) : Fr (· = b) w w' := ⟨hg.os, hg.tape, hg.output, hg.size, fun i hi hne => hg.block i hi (fun e => hne (Option.some.inj e))⟩
/-- What some of the keys come to. -/
def sumK (keys : List Int) (P : Int → Bool) (F : Int → Int) : Int := (keys.map fun k => if P k = true then F k else 0).sum
theorem sumK_same (keys : List Int) (P P' : Int → Bool) (F : Int → Int) (h : ∀ k ∈ keys, (if P k = true then F k else 0) = (if P' k = true then F k else 0)) : sumK keys P F = sumK keys P' F := by
  unfold sumK
  rw [List.map_congr_left h]
theorem sumK_none (keys : List Int) (P : Int → Bool) (F : Int → Int) (h : ∀ k, P k = false) : sumK keys P F = 0 := by
  unfold sumK
  induction keys with
  | nil => rfl
  | cons a l ih => rw [List.map_cons, List.sum_cons, ih, h a]; rfl
theorem sumK_step (keys : List Int) (P P' : Int → Bool) (F : Int → Int) (x : Int) (hn : keys.Nodup) (hx : x ∈ keys) (h0 : P x = false) (h1 : P' x = true) (ho : ∀ j, j ≠ x → P' j = P j) : sumK keys P' F = sumK keys P F + F x := by
  induction keys with
  | nil => cases hx
  | cons a l ih =>
    have e : ∀ Q : Int → Bool, sumK (a :: l) Q F = (if Q a = true then F a else 0) + sumK l Q F := fun Q => by unfold sumK; rw [List.map_cons, List.sum_cons]
    rw [List.nodup_cons] at hn
    rw [e, e]
    by_cases ha : a = x
    · subst ha
      have hl : sumK l P' F = sumK l P F := sumK_same l P' P F fun k hk => by rw [ho k (fun ek => hn.1 (ek ▸ hk))]
      rw [hl, h0, h1]
      simp only [Bool.false_eq_true, if_false, if_true]
      omega
    · rw [ho a ha, ih hn.2 ((List.mem_cons.1 hx).resolve_left (fun e2 => ha e2.symm))]
      omega
theorem wi_add (s x : Int) : wi (wi s + x) = wi (s + x) := by unfold wi wrap64; omega
theorem below_of_grown {w w' : World} (hg : w.grownBy w' none) : Below w.heap.size w w' := ⟨hg.os, hg.tape, hg.output, hg.size, fun i hi => hg.block i hi (by simp)⟩
theorem below_of_grown1 {w w' : World} {B r : Nat} (hg : w.grownBy w' (some r)) (hr : B ≤ r) (hB : B ≤ w.heap.size) : Below B w w' := Fr.below (S := fun j => j = r) (fr_of_grown hg) (fun k hk => by omega) hB
theorem ptrElem_ptr {v : Value} {y : DM × List MemPlace} (h : ptrElem v = some y) : ∃ c : Option Addr, v = .pointer c := by
  unfold ptrElem at h
  split at h
  · exact ⟨_, rfl⟩
  · exact ⟨_, rfl⟩
  · cases h
theorem sameKy_other {j x : Int} (h : j ≠ x) : (ky j).sameKey (ky x) = false := by
  cases hs : (ky j).sameKey (ky x)
  · rfl
  · exact absurd (WideAt.sameKey_eq hs) (ky_ne h)
def pick (D : DM) (left : Lit → Bool) (k : Int) : Bool := has D (ky k) && !left (ky k)
theorem fr_grown {w w' : World} {b : Nat} (h : Fr (· = b) w w') : w.grownBy w' (some b) := ⟨h.os, h.tape, h.output, h.size, fun i hi hne => h.block i hi (fun e => hne (congrArg some e))⟩
theorem not_out {w : World} {r cnt : Nat} {left : Lit → Bool} {j : Nat} {cs : Array Value} {T : TypeId} {s : Nat × Nat} (h : w.ranges Try.prog 38 ptrElem b r n D left cnt) (hj : w.heap[j]? = some (.cells cs T s)) : ¬ b = j := fun e => by
  obtain ⟨es, clock, since, seen, c0, hb, _⟩ := h
  rw [e, hj] at hb
  cases hb
theorem not_map {w : World} {j : Nat} {cs : Array Value} {T : TypeId} {s : Nat × Nat} (h : Led B w g b n most keys D blk f) (hj : w.heap[j]? = some (.cells cs T s)) : ¬ j = b := fun e => by
  obtain ⟨es, c, hm⟩ := h.isMapBlk
  rw [← e, hj] at hm
  cases hm
set_option maxHeartbeats 1000000 in
set_option maxRecDepth 100000 in
theorem close_calls (k : Int) (w : World) (h : LX B w g n most keys f) (h0 : 0 ≤ k) (h1 : k ≤ 4294967295) (hkk : k ∈ keys) (hB : B ≤ w.heap.size) (hn : n < maxLen) :
    Calls Try.prog 25 #[.pointer (some ⟨g, 0, none⟩), .int .u32 k] w fun e w' => e = .returned (bill (f k).1 (f k).2.1 (f k).2.2) ∧ LX B w' g (n + 1) most keys (fun j => if j = k then (0, 0, 0) else f j) ∧ Fl B w w' := by
  obtain ⟨x, y, z, hx⟩ : ∃ x y z, f k = (x, y, z) := ⟨_, _, _, rfl⟩
  rw [hx]
  have hkey := keyOf_int_mk (P := Try.prog) Try.underlying38 (ky_wf h0 h1)
  have HX := Lib.hid hx
  have H := Lib.hid h
  have HNN := Lib.hid hn
  have HKB := Lib.hid hB
  clear h hn hB hx
  go_enter Try.func25, Try.ntmps25
  go_wp2_with (first
    | (at_delete; go_loud (refine wpList_delete_own _ rfl _ _ 118 38 rfl 121 law Try.underlying118 ptrElem b2 (n + 1) D2 rfl HM.out _ (ky k) rfl hkey ?_; intro w3 hm3 ht3; have hg3 := ht3.grown; have HM3 := Lib.hid hm3; have HG3 := Lib.hid hg3; have hf3 := (fr_of_grown hg3); have HF3 := Lib.hid hf3; have hr3 := hf3.blk HRr.out hne1; have hs3 := hf3.blk HSs.out hne2; have HR3 := Lib.hid hr3; have s0 := blk_cell hs3 0; have s1 := blk_cell hs3 1; have s2 := blk_cell hs3 2; have r0 : w3.cell? ⟨w.heap.size, 0, none⟩ = some (.int .i64 0) := blk_cell hr3 0; have r1 : w3.cell? ⟨w.heap.size, 1, none⟩ = some (.int .i64 0) := blk_cell hr3 1; have r2 : w3.cell? ⟨w.heap.size, 2, none⟩ = some (.int .i64 0) := blk_cell hr3 2; have f0 := blk_frozen hr3 0; have f1 := blk_frozen hr3 1; have f2 := blk_frozen hr3 2; clear hm3 ht3 hg3 hf3 hr3 hs3))
    | (go_at_call 26; go_loud (refine (has_calls k _ (H.out.below (below_alloc (Below.refl _ _) _)) h0 h1 hkk (Nat.le_trans HKB.out (by simp)) HNN.out).mono ?_; rw [HX.out]; rintro e w2 ⟨rfl, ⟨a, b2, D2, blk2, hL2, hk2, ha2⟩, hF2⟩; have hl2 := hL2.below (below_alloc (Below.refl _ _) (.cells #[.int .i64 x, .int .i64 y, .int .i64 z] 23)); have c3 := blk_cell hl2.obj 3; have HM := Lib.hid hl2.map; have HL2 := Lib.hid hl2; have hrr := blk_alloc (hF2.blk (blk_new w _) (Lt.no (blk_new w _) (by decide))) (.cells #[.int .i64 x, .int .i64 y, .int .i64 z] 23); have HRr := Lib.hid hrr; have HSs := Lib.hid (blk_new w2 (.cells #[.int .i64 x, .int .i64 y, .int .i64 z] 23)); have hne1 := not_map hl2 hrr; have hne2 := not_map hl2 HSs.out; have HF2 := Lib.hid hF2; clear hL2 hl2 hrr hF2 hk2 ha2)))
  refine bodyPost_ret (results_cell_row rfl _ _ w.heap.size 23 #[.int .i64 x, .int .i64 y, .int .i64 z] (0, 0) _ rfl (ret3 HR3.out _ _ _) Try.underlying23 rfl (by kernel_rfl)) rfl ?_
  have r := HL2.out.del k HM3.out HG3.out
  have hFr : Fr (· = w.heap.size) w3 (((w3.setCell ⟨w.heap.size, 0, none⟩ (.int .i64 x)).setCell ⟨w.heap.size, 1, none⟩ (.int .i64 y)).setCell ⟨w.heap.size, 2, none⟩ (.int .i64 z)) := fr3 w3 w.heap.size _ _ _
  refine ⟨rfl, LX.kept ⟨b2, _, blk2, r.1⟩ hFr (fun j hj e => ?_), ?_⟩
  · subst e
    rcases hj with hj | hj
    · exact Lt.no HR3.out (by decide) hj
    · have hb' := r.1.obj
      rw [← hj, HR3.out] at hb'
      injection (Option.some.inj hb') with _ h2
      exact absurd h2 (by decide)
  · exact Fr.then_ (Fl.trans (Fr.of_new (below_alloc (Below.refl _ _) _)) (Fl.trans (Fr.more HF2.out (below_alloc (Below.refl _ _) _)) r.2)) hFr (fun j e => .inr (by omega))
abbrev Bk (w : World) (b : Nat) (x y z : Int) : Prop := w.heap[b]? = some (.cells #[.int .i64 x, .int .i64 y, .int .i64 z] 23 (0, 0))
set_option maxHeartbeats 2000000 in
set_option maxRecDepth 100000 in
theorem sum_calls (w : World) (h : LX B w g n most keys f) (hnd : keys.Nodup) (hB : B ≤ w.heap.size) :
    Calls Try.prog 27 #[.pointer (some ⟨g, 0, none⟩)] w fun e w' => e = .returned (bill (wi (sumK keys (fun _ => true) fun k => (f k).1)) (wi (sumK keys (fun _ => true) fun k => (f k).2.1)) (wi (sumK keys (fun _ => true) fun k => (f k).2.2))) ∧ Below w.heap.size w w' := by
  obtain ⟨b, D, blk, h⟩ := h
  have hl2 := h.below (below_alloc (below_alloc (Below.refl w.heap.size w) (.cells #[.int .i64 0, .int .i64 0, .int .i64 0] 23)) (.cells #[.int .i64 0, .int .i64 0, .int .i64 0] 23))
  have c3 := blk_cell hl2.obj 3
  have HM := Lib.hid hl2.map
  have H := Lib.hid h
  have HND := Lib.hid hnd
  clear h hl2 hnd hB
  go_enter Try.func27, Try.ntmps27
  go_wp2_with (first
    | (at_range; go_loud (refine wpList_range_own _ rfl _ 118 rfl 38 121 law Try.underlying118 ptrElem b n D rfl HM.out ?_; intro w0 hrg0 hg0 hs0; rw [World.size_alloc, World.size_alloc] at hrg0 hs0 ⊢; have hb0 := below_of_grown hg0; have HRG0 := Lib.hid hrg0; have HO0 := Lib.hid (blk_below (blk_new1 w _ _) hb0); have HZ0 := Lib.hid (blk_below (blk_alloc (blk_new w _) _) hb0); have HB0 := Lib.hid (below_step (below_alloc (below_alloc (Below.refl w.heap.size w) _) _) hb0); clear hrg0 hg0 hb0)))
  go_frame
  go_loopw [5] (fun _ wr => ∃ (left : Lit → Bool) (cnt : Nat), wr.ranges Try.prog 38 ptrElem b (w.heap.size + 1 + 1) n D left cnt ∧ Bk wr (w.heap.size + 1) (wi (sumK keys (pick D left) fun k => (f k).1)) (wi (sumK keys (pick D left) fun k => (f k).2.1)) (wi (sumK keys (pick D left) fun k => (f k).2.2)) ∧ Bk wr w.heap.size 0 0 0 ∧ Below w.heap.size w wr) (fun _ wr => wr.rangeLeft b (w.heap.size + 1 + 1))
  case atStart =>
    refine ⟨has D, _, HRG0.out, ?_, HZ0.out, HB0.out⟩
    rw [sumK_none, sumK_none, sumK_none, show wi 0 = 0 by unfold wi wrap64; omega]
    · exact HO0.out
    all_goals (intro k; unfold pick; cases has D (ky k) <;> rfl)
  case round =>
    obtain ⟨left, cnt, hrg, hO, hZ, hB⟩ := hrel
    have HRG := Lib.hid hrg
    have HO := Lib.hid hO
    have HZ := Lib.hid hZ
    have HB := Lib.hid hB
    clear hrg hO hZ hB
    go_wp2_with (first
      | (at_next; go_loud (refine wpList_next_ranges _ rfl _ rfl 38 law ptrElem (Value.int .u32) Value.pointer (fun key kl hkey => by obtain ⟨x, rfl, _⟩ := Maps.keyOf_int_inv Try.underlying38 hkey; exact ⟨x, rfl⟩) (fun v y hv => ptrElem_ptr hv) b (w.heap.size + 1 + 1) n D left cnt rfl HRG.out ?_ ?_))
      | go_in)
    · intro hc0 hl0
      have e : ∀ F : Int → Int, (∀ k, has D (ky k) = false → F k = 0) → sumK keys (pick D left) F = sumK keys (fun _ => true) F := fun F hF => sumK_same keys _ _ F fun k _ => by
        unfold pick
        rw [hl0 (ky k)]
        cases hh : has D (ky k)
        · rw [hF k hh]; rfl
        · rfl
      have hO := HO.out
      rw [e _ (fun k hk => by rw [H.out.no k hk]), e _ (fun k hk => by rw [H.out.no k hk]), e _ (fun k hk => by rw [H.out.no k hk])] at hO
      clear e hc0 hl0 HO
      obtain ⟨s1, e1⟩ : ∃ s, wi (sumK keys (fun _ => true) fun k => (f k).1) = s := ⟨_, rfl⟩
      obtain ⟨s2, e2⟩ : ∃ s, wi (sumK keys (fun _ => true) fun k => (f k).2.1) = s := ⟨_, rfl⟩
      obtain ⟨s3, e3⟩ : ∃ s, wi (sumK keys (fun _ => true) fun k => (f k).2.2) = s := ⟨_, rfl⟩
      rw [e1, e2, e3] at hO
      have E1 := Lib.hid e1
      have E2 := Lib.hid e2
      have E3 := Lib.hid e3
      clear e1 e2 e3
      have o0 := blk_cell hO 0
      have o1 := blk_cell hO 1
      have o2 := blk_cell hO 2
      have z0 := blk_cell HZ.out 0
      have z1 := blk_cell HZ.out 1
      have z2 := blk_cell HZ.out 2
      have f0 := blk_frozen HZ.out 0
      have f1 := blk_frozen HZ.out 1
      have f2 := blk_frozen HZ.out 2
      go_wp2
      refine bodyPost_ret (results_cell_row rfl _ _ w.heap.size 23 #[.int .i64 s1, .int .i64 s2, .int .i64 s3] (0, 0) _ rfl (ret3 HZ.out _ _ _) Try.underlying23 rfl (by kernel_rfl)) rfl ?_
      refine ⟨by rw [E1.out, E2.out, E3.out], Fr.below (S := fun k => w.heap.size ≤ k) (Fr.then_ (Fr.of_below HB.out (fun k hk => .inl hk)) (fr3 _ w.heap.size _ _ _) (fun k hk => .inl (by omega))) (fun k hk => hk) (Nat.le_refl _)⟩
    · intro x c kl y1 ps w1 cnt1 hkey hlk hv hat hrg1 hlt hg1 hs1 hen
      obtain ⟨x', hx', rfl, hwf⟩ := Maps.keyOf_int_inv Try.underlying38 hkey
      cases hx'
      have hhas : has D (ky x) = true := by
        cases hh : has D (ky x)
        · have e1 := hat .nil
          have e2 := hat (.held 0)
          rw [atKey_of_not_has hh] at e1 e2
          rw [← e1] at e2
          cases e2
        · rfl
      have hb1 : Below w.heap.size w w1 := HB.out.grown hg1 HB.out.size (fun j hj => by cases hj; omega)
      obtain ⟨ha1, hacc, _, hxk⟩ := (H.out.below hb1).acc x hhas
      obtain rfl : DataW.held (blk x) = y1 := by rw [← ha1]; exact hat .nil
      have hpc := ptrElem_inv hv
      injection hpc with hpc
      subst hpc
      obtain ⟨p, q, r, hx⟩ : ∃ p q r, f x = (p, q, r) := ⟨_, _, _, rfl⟩
      rw [hx] at hacc
      have hst : ∀ F : Int → Int, sumK keys (pick D fun z => left z && !z.sameKey (ky x)) F = sumK keys (pick D left) F + F x := fun F => sumK_step keys _ _ F x HND.out hxk (by unfold pick; rw [hlk, Bool.not_true, Bool.and_false]) (by unfold pick; dsimp only; rw [hhas, WideAt.sameKey_self (ky_key x), Bool.not_true, Bool.and_false]; rfl) (fun j hj => by unfold pick; dsimp only; rw [sameKy_other hj, Bool.not_false, Bool.and_true])
      have HST := Lib.hid hst
      have HX := Lib.hid hx
      have HRG1 := Lib.hid hrg1
      have HLT := Lib.hid hlt
      have HB1 := Lib.hid hb1
      have hO1 := (fr_of_grown hg1).blk HO.out (by omega)
      have hZ1 := (fr_of_grown hg1).blk HZ.out (by omega)
      have HZ1 := Lib.hid hZ1
      have HAC := Lib.hid (show Acc w1.drew (blk x) (p, q, r) from blk_below hacc (below_drew1 (Below.refl _ _)))
      clear hkey hlk hv hat hrg1 hlt hg1 hb1 ha1 hacc hxk hst hx hZ1 hhas
      obtain ⟨s1, e1⟩ : ∃ s, sumK keys (pick D left) (fun k => (f k).1) = s := ⟨_, rfl⟩
      obtain ⟨s2, e2⟩ : ∃ s, sumK keys (pick D left) (fun k => (f k).2.1) = s := ⟨_, rfl⟩
      obtain ⟨s3, e3⟩ : ∃ s, sumK keys (pick D left) (fun k => (f k).2.2) = s := ⟨_, rfl⟩
      rw [e1, e2, e3] at hO1
      have HO1 := Lib.hid (blk_below hO1 (below_drew1 (Below.refl _ _)))
      have E1 := Lib.hid e1
      have E2 := Lib.hid e2
      have E3 := Lib.hid e3
      clear e1 e2 e3 hO1
      go_wp2
      refine start_ (n := 6) (S := fun w' => w'.cell? ⟨w.heap.size + 1, 0, none⟩ = some (.int .i64 (wi s1)) ∧ w'.cell? ⟨w.heap.size + 1, 1, none⟩ = some (.int .i64 (wi s2)) ∧ w'.cell? ⟨w.heap.size + 1, 2, none⟩ = some (.int .i64 (wi s3))) (ds := [5]) #[false, false, false, false, false, false] (by kernel_rfl) rfl rfl ⟨(blk_cell HO1.out 0), (blk_cell HO1.out 1), (blk_cell HO1.out 2)⟩ (fun hHeld => ?_)
      refine pure_ (i := 1) (N := some 19) (v := ?_) (a' := ?_) #[false, true, false, false, false, false] rfl rfl (by kernel_rfl) (fun _ _ _ h => h) (Or.inl ⟨by rfl, ?_⟩) ?_ ?_
      rotate_left
      · intro w'
        go_simp
        with_reducible rfl
      rotate_left
      · simp only [Act.put, List.setIfInBounds_toArray, List.set_cons_zero, List.set_cons_succ, i64_w, i32_w]
        rfl
      refine take_ (i := 0) (N := some 18) (v := ?_) (a' := ?_) #[true, true, false, false, false, false] rfl rfl (by kernel_rfl) (fun _ _ _ h => h) (Or.inl ⟨by rfl, ?_⟩) hHeld ?_ ?_
      rotate_left
      · rintro w' ⟨s0, s1, s2⟩
        go_simp
        with_reducible rfl
      rotate_left
      · simp only [Act.put, List.setIfInBounds_toArray, List.set_cons_zero, List.set_cons_succ, i64_w, i32_w]
        rfl
      refine one_ (i := 2) (N := some 20) #[true, true, true, false, false, false] rfl rfl (by kernel_rfl) (by decide) (fun K hK => ?_)
      refine goes_ Try.func65 (by kernel_rfl) rfl #[.pointer (some ⟨blk x, 0, none⟩)] (by rfl) rfl rfl (by simp only [List.map_toArray, List.map_cons, List.map_nil]; rfl) ?_
      with_reducible refine (bill_calls (blk x) p q r _ HAC.out).mono ?_
      rintro e w5 ⟨rfl, hB5⟩
      refine ⟨_, rfl, ?_⟩
      have hO5 := blk_below HO1.out hB5
      refine hK.out _ _ ⟨(blk_cell hO5 0), (blk_cell hO5 1), (blk_cell hO5 2)⟩ (fun hHeld => ?_)
      clear hK K
      refine norm_ (a' := ?_) ?_ ?_
      rotate_left
      · show Act.put _ (some 20) _ = _
        simp only [Act.put, List.setIfInBounds_toArray, List.set_cons_zero, List.set_cons_succ, i64_w, i32_w]
        rfl
      refine one_ (i := 3) (N := some 21) #[true, true, true, true, false, false] rfl rfl (by kernel_rfl) (by decide) (fun K hK => ?_)
      refine value_ (w1 := ?_) (v := ?_) (by rfl) rfl ?_ ?_
      rotate_left 2
      · go_simp
        constructor
        · rfl
        · rfl
      refine hK.out _ _ ⟨(blk_cell (blk_alloc hO5 _) 0), (blk_cell (blk_alloc hO5 _) 1), (blk_cell (blk_alloc hO5 _) 2)⟩ (fun hHeld => ?_)
      clear hK K
      refine norm_ (a' := ?_) ?_ ?_
      rotate_left
      · show Act.put _ (some 21) _ = _
        simp only [Act.put, List.setIfInBounds_toArray, List.set_cons_zero, List.set_cons_succ, i64_w, i32_w]
        rfl
      refine one_ (i := 4) (N := some 22) #[true, true, true, true, true, false] rfl rfl (by kernel_rfl) (by decide) (fun K hK => ?_)
      refine goes_ Try.func18 (by kernel_rfl) rfl #[bill (wi s1) (wi s2) (wi s3), .slice (some ⟨w5.heap.size, 0, none⟩) 1 1] (by rfl) rfl rfl (by simp only [List.map_toArray, List.map_cons, List.map_nil]; rfl) ?_
      with_reducible refine (plus_one w5.heap.size p q r (wi s1) (wi s2) (wi s3) _ (blk_new w5 _)).mono ?_
      rintro e w8 ⟨rfl, hB8⟩
      refine ⟨_, rfl, ?_⟩
      have hO8 := blk_below (blk_alloc hO5 _) hB8
      have g0 := blk_frozen hO8 0
      have g1 := blk_frozen hO8 1
      have g2 := blk_frozen hO8 2
      have o0 := blk_cell hO8 0
      have o1 := blk_cell hO8 1
      have o2 := blk_cell hO8 2
      refine hK.out _ _ ⟨(blk_cell hO8 0), (blk_cell hO8 1), (blk_cell hO8 2)⟩ (fun hHeld => ?_)
      clear hK K
      refine norm_ (a' := ?_) ?_ ?_
      rotate_left
      · show Act.put _ (some 22) _ = _
        simp only [Act.put, List.setIfInBounds_toArray, List.set_cons_zero, List.set_cons_succ, i64_w, i32_w]
        rfl
      refine last_ (i := 5) (N := none) #[true, true, true, true, true, true] rfl rfl (by kernel_rfl) (by decide) (fun K hK => ?_)
      refine skip_ (w1 := ?_) (by rfl) rfl ?_ ?_
      rotate_left
      · go_simp
        rfl
      refine hK.out _ _ ?_
      clear hK K
      refine done_ (by kernel_rfl) ?_

      have hb8 := below_step (below_alloc (below_step (below_drew1 (Below.refl w1.heap.size w1)) hB5) _) hB8
      have hF8 := fr3 w8 (w.heap.size + 1) (.int .i64 (wi (wi s1 + p))) (.int .i64 (wi (wi s2 + q))) (.int .i64 (wi (wi s3 + r)))
      have hRG8 := (HRG1.out.kept (grown_of_below hb8) (by simp) (by simp))
      have HF8 := Lib.hid hF8
      have HRG8 := Lib.hid hRG8
      have HO8 := Lib.hid hO8
      have HZ8 := Lib.hid (blk_below HZ1.out hb8)
      have HB8 := Lib.hid (below_step HB1.out hb8)
      clear hb8 hF8 hRG8 hO8 hO5 g0 g1 g2 o0 o1 o2 hB5 hB8
      go_wp2
      have hRG9 := HRG8.out.kept (fr_grown HF8.out) (by intro e; have := Option.some.inj e; exact not_out HRG8.out HO8.out this) (by intro e; have := Option.some.inj e; omega)
      go_roundw
      case rel =>
        refine ⟨_, cnt1, hRG9, ?_, HF8.out.blk HZ8.out (by omega), Fr.below (S := fun k => w.heap.size ≤ k) (Fr.then_ (Fr.of_below HB8.out (fun k hk => .inl hk)) HF8.out (fun k hk => .inl (by omega))) (fun k hk => hk) (Nat.le_refl _)⟩
        rw [HST.out, HST.out, HST.out, HX.out, E1.out, E2.out, E3.out, ← wi_add s1, ← wi_add s2, ← wi_add s3]
        exact ret3 HO8.out _ _ _
      case measure => rw [hRG9.left_eq, HRG.out.left_eq]; exact HLT.out
end
end Go.Proofs.Ytaoacibahdbdkaa.Led
